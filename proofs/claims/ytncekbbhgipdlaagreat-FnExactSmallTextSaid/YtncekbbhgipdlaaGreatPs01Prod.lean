/-
  The walks over the functions that copy an argument of a law into new memory.
  Conditions: the argument reads as a list; its length is at most 1048576.
  What lies in memory while states are explored: the states met, their numbers in a map, the automaton that grows.
  Conditions: the things met lie in blocks of a type of their own.
  The walks over the functions of the laws that write numbers into what a call has handed back, and look for them again.
  Conditions: what is written is the call's own; the numbers stay below ten thousand million.
-/
import Derived.Test.YtncekbbhgipdlaaGreatPs00Fwp
set_option maxHeartbeats 1600000
set_option maxRecDepth 100000
namespace Go.Proofs.YtncekbbhgipdlaaGreat
open Go.RowKit
theorem Tryz.infoInt:(Tryz.prog.info? 3).map (fun i=>(i.zero,i.size,i.bytes))=some (some (.int .i64 0),1,8):=by kernel_rfl
theorem Tryz.infoBool:(Tryz.prog.info? 4).map (fun i=>(i.zero,i.size,i.bytes))=some (some (.bool false),1,1):=by kernel_rfl
theorem Tryz.infoInts:(Tryz.prog.info? 38).map (fun i=>(i.zero,i.size,i.bytes))=some (some (.slice none 0 0),1,24):=by kernel_rfl
theorem ZcY {xs:List Value} {n k:Nat} {cs:List Value} {u:Value} (hl:cs.length=n) (hx:xs.length=n) (hk:k<n) (h:cs.take k=xs.take k) (hu:xs[k]? = some u) :
  (cs.set k u).take (k+1)=xs.take (k+1):=by
 apply List.ext_getElem?;intro j;rw[List.getElem?_take,List.getElem?_take];by_cases hj:j<k+1
 ·rw[if_pos hj,if_pos hj,List.getElem?_set];by_cases he:k=j
  ·subst he;rw[if_pos rfl,if_pos (by omega),hu]
  rw[if_neg he];have:=congrArg (fun l=>l[j]?) h;simpa [List.getElem?_take,show j<k by omega] using this
 rw[if_neg hj,if_neg hj]
def small (d:DfaD):Prop:=d.next.length≤1048576∧(∀ i,i<d.next.length→(d.next.getD i []).length≤1048576)∧d.ends.length≤1048576
end Go.Proofs.YtncekbbhgipdlaaGreat
namespace Go.Proofs.YtncekbbhgipdlaaGreat
open Go.RowKit Go.Maps
section
variable {α:Type}
structure ExW (kt sz:Nat) (enc:α→Value) (cel:α→List Value) (B B1 B2 B4 hi:Nat) (w:World) (met:List α) (rows:List (List Int)) (ends:List Bool) (vm vn ve:Value):Prop where
 m:w.ownsRow B kt sz vm met.length (met.flatMap cel)
 n:MapL Tryz.prog kt enc w B2 (numbered met)
 r:Bx w B1 #[.slice none 0 0,.slice none 0 0] 44
 d:Bx w B4 #[vn,ve] 44
 nx:OIntSS 38 3 B hi w vn rows
 en:w.ownsRow B 4 1 ve ends.length (boolCells ends)
 ne:B1≠B4
variable {kt sz B B1 B2 B4 hi:Nat} {enc:α→Value} {cel:α→List Value} {w w':World} {met:List α} {rows:List (List Int)} {ends:List Bool} {vm vn ve:Value}
theorem ExW.below (h:ExW kt sz enc cel B B1 B2 B4 hi w met rows ends vm vn ve) (hb:Below w.heap.size w w'):ExW kt sz enc cel B B1 B2 B4 hi w' met rows ends vm vn ve :=
 ⟨(Own.below (Zab h.m) hb).1,h.n.below hb,h.r.below hb h.r.lt,h.d.below hb h.d.lt,h.nx.below hb,(Own.below (Zab h.en) hb).1,h.ne⟩
theorem ExW.up {hi':Nat} (h:ExW kt sz enc cel B B1 B2 B4 hi w met rows ends vm vn ve) (hh:hi≤hi'):ExW kt sz enc cel B B1 B2 B4 hi' w met rows ends vm vn ve :=
 ⟨h.m,h.n,h.r,h.d,h.nx.mono (Nat.le_refl _) hh,h.en,h.ne⟩
def Own4 (kt:Nat):Prop:=kt ≠ 3 ∧ kt ≠ 38 ∧ kt ≠ 4 ∧ kt ≠ 44
theorem ExW.newState (hk:Own4 kt) (h:ExW kt sz enc cel B B1 B2 B4 hi w met rows ends vm vn ve) {x:α} {w1 w2 w3:World} {vm':Value} (hn:MapL Tryz.prog kt enc w1 B2 (numbered (met++[x]))) (hg1:w.grownBy w1 (some B2))
  (hb:Below w1.heap.size w1 w2) (hown:w3.ownsRow B kt sz vm' (met.length+1) (met.flatMap cel++cel x)) (hg2:w2.grownBy w3 vm.ownBlock) :
  ExW kt sz enc cel B B1 B2 B4 hi w3 (met++[x]) rows ends vm' vn ve:=by
 obtain⟨k1,k2,k3,k4⟩:=hk;have a:∀ e,Zcc w (some B2) e:=fun e=>h.n.apart
 have m2:w2.ownsRow B kt sz vm met.length (met.flatMap cel):=(Own.below (Zab (Zag h.m hg1 (a _))) hb).1;have b:∀ e,kt≠e→Zcc w2 vm.ownBlock e:=fun e he=>Zam m2 he
 refine⟨?_,(hn.below hb).grown hg2 (Zci m2),?_,?_,?_,?_,h.ne⟩
 ·simpa using hown
 ·have r1:=h.r.grown hg1 (a _);exact(r1.below hb r1.lt).grown hg2 (b _ k4)
 ·have r1:=h.d.grown hg1 (a _);exact(r1.below hb r1.lt).grown hg2 (b _ k4)
 ·exact((h.nx.grown hg1 (a _) (a _)).below hb).grown hg2 (b _ k2) (b _ k1)
 exact Zag (Own.below (Zab (Zag h.en hg1 (a _))) hb).1 hg2 (b _ k3)
theorem ExW.setRow (hk:Own4 kt) (h:ExW kt sz enc cel B B1 B2 B4 hi w met rows ends vm vn ve) {R n:Nat} {cs:List Value} (hR:hi≤R) {base:Nat} (hrow:w.ownsRow base 3 1 (.slice (some ⟨R,0,none⟩) n n) n cs) (j:Nat) (v:Value) :
  ExW kt sz enc cel B B1 B2 B4 hi (w.setCell ⟨R,j,none⟩ v) met rows ends vm vn ve:=by
 obtain⟨k1,k2,k3,k4⟩:=hk;have hg:=ZaI w R j v;have a:∀ e,3 ≠ e→Zcc w (some R) e:=fun e he=>Zam (v:=.slice (some ⟨R,0,none⟩) n n) hrow he
 have c:ZfW w (some R):=Zci (v:=.slice (some ⟨R,0,none⟩) n n) hrow;exact⟨Zag h.m hg (a _ (Ne.symm k1)),h.n.grown hg c,h.r.grown hg (a _ (by decide)),h.d.grown hg (a _ (by decide)),h.nx.far hR j v,Zag h.en hg (a _ (by decide)),h.ne⟩
theorem Zkv {w1 w2 w3:World} {R n base e:Nat} {cs:List Value} {vm:Value} {b2 mb:Nat} {ms:List Value} (hrow:w.ownsRow base e 1 (.slice (some ⟨R,0,none⟩) n n) n cs) (hne:kt≠e)
  (hm2:w2.ownsRow mb kt sz vm b2 ms) (ha:Zcc w (some B2) e) (hg1:w.grownBy w1 (some B2)) (hb:Below w1.heap.size w1 w2) (hg2:w2.grownBy w3 vm.ownBlock):w3.ownsRow base e 1 (.slice (some ⟨R,0,none⟩) n n) n cs :=
 Zag (Own.below (Zab (Zag hrow hg1 ha)) hb).1 hg2 (Zam hm2 hne)
theorem ExW.addRow (hk:Own4 kt) (h:ExW kt sz enc cel B B1 B2 B4 hi w met rows ends vm vn ve) {vs:List Value} {rv vn':Value} {x:List Int} {w3:World} {lr:Nat}
  (h1:Own B hi w 38 1 vn rows.length vs) (h2:∀ i,i<rows.length→OInts 3 B hi w (vs.getD i undef) (rows.getD i []))
  (h3:∀ i j k,i<j→j<rows.length→(vs.getD i undef).ownBlock=some k→(vs.getD j undef).ownBlock≠some k)
  (hrow:OInts 3 lr w.heap.size w rv x) (hlr:hi≤lr) (hlo:B≤lr) (hg:w.grownBy w3 vn.ownBlock) (hown:w3.ownsRow B 38 1 vn' (rows.length+1) (vs++[rv])) :
  ExW kt sz enc cel B B1 B2 B4 w3.heap.size (w3.setCell ⟨B4,0,none⟩ vn') met (rows++[x]) ends vm vn' ve:=by
 obtain⟨k1,k2,k3,k4⟩:=hk;have a:∀ e,38 ≠ e→Zcc w vn.ownBlock e:=fun e he=>Zam h1.1 he
 have d3:Bx w3 B4 #[vn,ve] 44:=h.d.grown hg (a _ (by decide));have hg4:=ZaI w3 B4 0 vn';have b:∀ e,44 ≠ e→Zcc w3 (some B4) e:=fun e he=>d3.apart he
 have r3:Bx w3 B1 #[.slice none 0 0,.slice none 0 0] 44:=h.r.grown hg (a _ (by decide));have n4:MapL Tryz.prog kt enc (w3.setCell ⟨B4,0,none⟩ vn') B2 (numbered met):=(h.n.grown hg (Zci h1.1)).grown hg4 d3.cells;refine⟨Zag (Zag h.m hg (a _ (Ne.symm k2))) hg4 (b _ (Ne.symm k4)),n4,?_,d3.set 0 vn',?_,Zag (Zag h.en hg (a _ (by decide))) hg4 (b _ (by decide)),h.ne⟩
 ·exact r3.set_ne _ _ h.ne
 exact(OIntSS.snoc h1 h2 h3 hrow hlr hlo (by decide) hg hown).grown hg4 (b _ (by decide)) (b _ (by decide))
theorem ExW.addEnd (hk:Own4 kt) (h:ExW kt sz enc cel B B1 B2 B4 hi w met rows ends vm vn ve) {w3:World} {ve':Value} {e:Bool} (hg:w.grownBy w3 ve.ownBlock) (hown:w3.ownsRow B 4 1 ve' (ends.length+1) (boolCells ends++[.bool e])) :
  ExW kt sz enc cel B B1 B2 B4 hi (w3.setCell ⟨B4,1,none⟩ ve') met rows (ends++[e]) vm vn ve':=by
 obtain⟨k1,k2,k3,k4⟩:=hk;have a:∀ t,4 ≠ t→Zcc w ve.ownBlock t:=fun t ht=>Zam h.en ht
 have d3:Bx w3 B4 #[vn,ve] 44:=h.d.grown hg (a _ (by decide));have hg4:=ZaI w3 B4 1 ve';have b:∀ t,44 ≠ t→Zcc w3 (some B4) t:=fun t ht=>d3.apart ht
 have r3:Bx w3 B1 #[.slice none 0 0,.slice none 0 0] 44:=h.r.grown hg (a _ (by decide));have n4:MapL Tryz.prog kt enc (w3.setCell ⟨B4,1,none⟩ ve') B2 (numbered met):=(h.n.grown hg (Zci h.en)).grown hg4 d3.cells;refine⟨Zag (Zag h.m hg (a _ (Ne.symm k3))) hg4 (b _ (Ne.symm k4)),n4,r3.set_ne _ _ h.ne,d3.set 1 ve',(h.nx.grown hg (a _ (by decide)) (a _ (by decide))).grown hg4 (b _ (by decide)) (b _ (by decide)),?_,h.ne⟩;refine Zag ?_ hg4 (b _ (by decide));simpa using hown
end
end Go.Proofs.YtncekbbhgipdlaaGreat
namespace Go.Proofs.YtncekbbhgipdlaaGreat
open Go.RowKit
structure Touch (e lo hi:Nat) (w w':World):Prop where
 os:w'.os=w.os
 tape:w'.tape=w.tape
 output:w'.output=w.output
 size:w.heap.size≤w'.heap.size
 block:∀ k,k<w.heap.size→((k<lo∨hi≤k)∨∀ cur fr,w.heap[k]? ≠ some (.cells cur e fr))→w'.heap[k]? = w.heap[k]?
theorem Touch.refl (e lo hi:Nat) (w:World):Touch e lo hi w w:=⟨rfl,rfl,rfl,Nat.le_refl _,fun _ _ _=>rfl⟩
theorem Touch.trans {e lo hi:Nat} {a b c:World} (h:Touch e lo hi a b) (k:Touch e lo hi b c):Touch e lo hi a c:=by
 refine⟨k.os.trans h.os,k.tape.trans h.tape,k.output.trans h.output,Nat.le_trans h.size k.size,fun i hi hh => ?_⟩;have e1:=h.block i hi hh;refine(k.block i (Nat.lt_of_lt_of_le hi h.size) ?_).trans e1;rcases hh with hh|hh
 ·exact .inl hh
 exact .inr (by rw[e1];exact hh)
theorem Touch.only {e lo hi:Nat} {a b:World} (h:Touch e lo hi a b):Only lo hi a b:=⟨h.os,h.tape,h.output,h.size,fun k hk hh=>h.block k hk (.inl hh)⟩
theorem Own.lt' {lo hi e size n:Nat} {w:World} {v:Value} {cs:List Value} (h:Own lo hi w e size v n cs):w.ownsRow lo e size v n cs:=h.1
theorem OIntSS.row {es e lo hi:Nat} {w w':World} {v:Value} {xss:List (List Int)} {vs:List Value} {x:List Int} {j:Nat} (hne:es≠e)
  (h1:Own lo hi w es 1 v xss.length vs) (h2:∀ i,i<xss.length→OInts e lo hi w (vs.getD i undef) (xss.getD i []))
  (h3:∀ i j k,i<j→j<xss.length→(vs.getD i undef).ownBlock=some k→(vs.getD j undef).ownBlock≠some k)
  (hj:j<xss.length) (hx:OInts e lo hi w' (vs.getD j undef) x) (hg:w.grownBy w' (vs.getD j undef).ownBlock) :
  Own lo hi w' es 1 v (xss.set j x).length vs∧(∀ i,i<(xss.set j x).length→OInts e lo hi w' (vs.getD i undef) ((xss.set j x).getD i [])) ∧
   (∀ i j' k,i<j'→j'<(xss.set j x).length→(vs.getD i undef).ownBlock=some k→(vs.getD j' undef).ownBlock≠some k):=by
 have ha:Zcc w (vs.getD j undef).ownBlock es:=Zam (Own.lt' (h2 j hj)) (Ne.symm hne);rw[List.length_set];refine⟨h1.grown hg ha,fun i hi => ?_,h3⟩;by_cases hij:j=i
 ·subst hij;have:(xss.set j x).getD j []=x:=by simp[hj]
  rw[this];exact hx
 have:(xss.set j x).getD i []=xss.getD i []:=by simp[List.getElem?_set_ne hij]
 rw[this];refine Own.kept (h2 i hi) fun k hk=>hg.block k (Own.lt (h2 i hi) k hk).2.2 fun hr => ?_
 rcases Nat.lt_or_gt_of_ne hij with hlt|hgt
 ·exact h3 j i k hlt hi hr.symm hk
 exact h3 i j k hgt hj hk hr.symm
end Go.Proofs.YtncekbbhgipdlaaGreat
namespace Go.Proofs.YtncekbbhgipdlaaGreat
open Go.RowKit Go.Maps
def fitI (x:Int):Prop:=-9223372036854775808≤x∧x≤9223372036854775807
theorem ZkQ {x:Int} (h:fitI x):(Lit.int .i64 x).wf=true:=WalkArith.wf_i64 h
theorem Tryz.laidOut:laidOutB Tryz.prog=true:=by kernel_rfl
theorem Ze1:5+1≤10000:=by omega
def ZaQ (p:Int × Int):Value:=.agg #[.int .i64 p.1,.int .i64 p.2]
theorem ZbA:∀ x y:Int × Int,ZaQ x=ZaQ y→x=y:=by rintro⟨a,b⟩ ⟨c,d⟩ h;simp only[ZaQ,Value.agg.injEq] at h;have h1:=congrArg (fun (l:Array Value)=>l[0]?) h;have h2:=congrArg (fun (l:Array Value)=>l[1]?) h;simp at h1 h2;rw[h1,h2]
theorem Zgx {P:Program} {t:TypeId} {D:Nat} {x:Int} (ht:P.underlying t=some (.int .i64)) (hx:fitI x):P.keyLits (D+1) t [.int .i64 x]=some [.int .i64 x]:=by unfold Program.keyLits;rw[ht];simp[ZkQ hx]
end Go.Proofs.YtncekbbhgipdlaaGreat
namespace Go.Proofs.YtncekbbhgipdlaaGreat
open Go.RowKit Go.Maps
theorem Zgw {P:Program} {t:TypeId} {D:Nat} {q:IntKind} {x:Int} (ht:P.underlying t=some (.int q)) (hx:(Lit.int q x).wf=true):P.keyLits (D+1) t [.int q x]=some [.int q x]:=by unfold Program.keyLits;rw[ht];simp[hx]
theorem Zji {P:Program} {t e:TypeId} {q:IntKind} (hu:P.underlying t=some (.array 2 e)) (he:P.underlying e=some (.int q)) (hk:P.keyType t=true) (hc:P.cellsOf t=2) (hce:P.cellsOf e=1) (hrow:t<P.types.size)
  (x y:Int) (hx:(Lit.int q x).wf=true) (hy:(Lit.int q y).wf=true):∃ l,keyOf P t (.agg #[.int q x,.int q y])=some l:=by
 have hfm:(Value.agg #[.int q x,.int q y]).formed P t=true:=by simp[Value.formed,hu,hc]
 obtain⟨n,hn⟩:∃ n,P.types.size=n+1:=⟨P.types.size-1,(Nat.succ_pred_eq_of_pos (Nat.lt_of_le_of_lt (Nat.zero_le _) hrow)).symm⟩;have e1:=Zgw (D:=n) he hx;have e2:=Zgw (D:=n) he hy;have hlits:P.keyLits (P.types.size+1) t (Value.agg #[.int q x,.int q y]).cells.toList=some [.int q x,.int q y]:=by rw[hn];show P.keyLits (n+1+1) t [.int q x,.int q y]=_;unfold Program.keyLits;rw[hu];simp[hc,hce,List.range_succ,e1,e2]
 exact⟨_,by unfold keyOf;rw[hu];simp only[hk,hfm,Bool.and_self,if_true,hlits];rfl⟩
theorem ZpH {q:IntKind}:∀ x y:Int × Int,(Value.agg #[.int q x.1,.int q x.2]) = .agg #[.int q y.1,.int q y.2]→x=y:=by rintro⟨a,b⟩ ⟨c,d⟩ h;simp only[Value.agg.injEq] at h;have h1:=congrArg (fun (l:Array Value)=>l[0]?) h;have h2:=congrArg (fun (l:Array Value)=>l[1]?) h;simp at h1 h2;rw[h1,h2]
theorem Tryz.rowPr:(170:TypeId)<Tryz.prog.types.size:=of_decide_eq_true (by kernel_rfl)
theorem Tryz.widePr:(match Tryz.prog.underlying 170 with|some (.array _ _)|some (.struct _)=>true|_=>false)=true:=by kernel_rfl
theorem Tryz.keyPr:Tryz.prog.keyType 170 = true:=by kernel_rfl
theorem Tryz.keyAtPr:Tryz.prog.keyTypeAt 5 170 = true:=by kernel_rfl
theorem Tryz.cellsPr:Tryz.prog.cellsOf 170 = 2:=by kernel_rfl
theorem Tryz.cellsInt:Tryz.prog.cellsOf 3 = 1:=by kernel_rfl
theorem Tryz.kindPr:Tryz.prog.underlying 170 = some (.array 2 3):=by kernel_rfl
theorem Tryz.lawPr:Keyed Tryz.prog 170:=Keyed.of_law (deep_law_laid Tryz.laidOut Ze1 Tryz.rowPr Tryz.keyAtPr Tryz.widePr)
theorem Tryz.keyOfPr (p:Int × Int) (h1:fitI p.1) (h2:fitI p.2):∃ l,keyOf Tryz.prog 170 (ZaQ p)=some l :=
 Zji Tryz.kindPr Tryz.underlying3 Tryz.keyPr Tryz.cellsPr Tryz.cellsInt Tryz.rowPr _ _ (ZkQ h1) (ZkQ h2)
end Go.Proofs.YtncekbbhgipdlaaGreat
namespace Go.Proofs.YtncekbbhgipdlaaGreat
open Go.RowKit Go.Maps
def fitU (x:Int):Prop:=0≤x∧x≤18446744073709551615
theorem Zno {x:Int} (h:fitU x):(Lit.int .u64 x).wf=true:=WalkArith.wf_u64 h
def Zcu (p:Int × Int):Value:=.agg #[.int .u64 p.1,.int .u64 p.2]
theorem Zcn:∀ x y:Int × Int,Zcu x=Zcu y→x=y:=ZpH
def Zbh (p:Int × Int):List Value:=[.int .u64 p.1,.int .u64 p.2]
def Zqh (e lo hi:Nat) (w:World) (v:Value) (xs:List (Int × Int)):Prop:=Own lo hi w e 2 v xs.length (xs.flatMap Zbh)
theorem Tryz.rowSet:(149:TypeId)<Tryz.prog.types.size:=of_decide_eq_true (by kernel_rfl)
theorem Tryz.wideSet:(match Tryz.prog.underlying 149 with|some (.array _ _)|some (.struct _)=>true|_=>false)=true:=by kernel_rfl
theorem Tryz.keySet:Tryz.prog.keyType 149 = true:=by kernel_rfl
theorem Tryz.keyAtSet:Tryz.prog.keyTypeAt 5 149 = true:=by kernel_rfl
theorem Tryz.cellsSet:Tryz.prog.cellsOf 149 = 2:=by kernel_rfl
theorem Tryz.cellsU64:Tryz.prog.cellsOf 147 = 1:=by kernel_rfl
theorem Tryz.kindSet:Tryz.prog.underlying 149 = some (.array 2 147):=by kernel_rfl
theorem Tryz.lawSet:Keyed Tryz.prog 149:=Keyed.of_law (deep_law_laid Tryz.laidOut Ze1 Tryz.rowSet Tryz.keyAtSet Tryz.wideSet)
theorem Tryz.keyOfSet (p:Int × Int) (h1:fitU p.1) (h2:fitU p.2):∃ l,keyOf Tryz.prog 149 (Zcu p)=some l :=
 Zji Tryz.kindSet Tryz.underlying147 Tryz.keySet Tryz.cellsSet Tryz.cellsU64 Tryz.rowSet _ _ (Zno h1) (Zno h2)
end Go.Proofs.YtncekbbhgipdlaaGreat
namespace Go.Proofs.YtncekbbhgipdlaaGreat
open Go.RowKit
def inB (x lo hi:Int):Bool:=decide (lo≤x)&&decide (x≤hi)
theorem Zb4 (x lo hi:Int) (w:World) (r:Bool) (hr:inB x lo hi=r) :
  Calls Tryz.prog 87 #[.int .i64 x,.int .i64 lo,.int .i64 hi] w fun e w'=>e = .returned (.bool r)∧w=w':=by
 subst hr;unfold inB
 go_enter Tryz.func87,Tryz.ntmps87
 go_wp2
 all_goals (go_ret;exact⟨by simp[*]<;>omega,rfl⟩)
theorem Zbf (x lo hi:Int) (w:World) (r:Bool) (hr:inB x lo hi=r) :
  Calls Tryz.prog 110 #[.int .i64 x,.int .i64 lo,.int .i64 hi] w fun e w'=>e = .returned (.bool r)∧w=w':=by
 subst hr;unfold inB
 go_enter Tryz.func110,Tryz.ntmps110
 go_wp2
 all_goals (go_ret;exact⟨by simp[*]<;>omega,rfl⟩)
def Zdi (n:Int) (row:List Int):Bool:=decide (row.length=3)&&row.all fun t=>inB t 0 (n-1)
def Zah (next:List (List Int)) (ends:List Bool):Bool :=
 next.all (Zdi next.length)&&inB next.length 1 40&&decide (ends.length=next.length)
theorem ZeA {next:List (List Int)} {ends:List Bool} {k:Nat} (hk:k<next.length) (h:Zdi next.length (next.getD k [])=false):Zah next ends=false:=by
 unfold Zah;have:next.all (Zdi next.length)=false:=by rw[List.all_eq_false];refine⟨next[k],List.getElem_mem hk,?_⟩;simpa [hk] using h
 simp[this]
theorem ZiR {n:Int} {row:List Int} (h:row.length≠3):Zdi n row=false:=by simp[Zdi,h]
theorem Zms {n:Int} {row:List Int} {c:Nat} (hc:c<row.length) (h:inB (row.getD c 0) 0 (n-1)=false):Zdi n row=false:=by
 unfold Zdi;have:(row.all fun t=>inB t 0 (n-1))=false:=by rw[List.all_eq_false];refine⟨row[c],List.getElem_mem hc,?_⟩;simpa [hc] using h
 simp[this]
theorem ZiE {α:Type} {p:α→Bool} {l:List α} {k:Nat} {d:α} (hk:k<l.length) (h:(l.take k).all p=true) (hp:p (l.getD k d)=true):(l.take (k+1)).all p=true:=by rw[List.take_succ_eq_append_getElem hk,List.all_append,h];simpa [hk] using hp
theorem Zbu (next:List (List Int)) (ends:List Bool) (v1 v2:Value) (w:World) (h1:IntSS 0 w v1 next) (h2:Bools 0 w v2 ends) (r:Bool) (hr:Zah next ends=r) :
  Calls Tryz.prog 46 #[.agg #[v1,v2]] w fun e w'=>e = .returned (.bool r)∧Below w.heap.size w w':=by
 obtain⟨a1,c1,rfl,hc1,hm1,hr1⟩:=h1.form;obtain⟨a2,c2,rfl,hc2,hm2,hr2⟩:=h2.form;have Hr:=qh hr;clear h1 h2 hr
 go_enter Tryz.func46,Tryz.ntmps46
 go_wp2
 go_loopw [2,3,4] (fun r i j wr=>∃ k:Nat,k≤next.length∧i = .int .i64 k∧(next.take k).all (Zdi next.length)=true∧Below (w.heap.size+1) (w.alloc (.cells #[.slice a1 next.length c1,.slice a2 ends.length c2] 44)) wr)
  (fun _ i _ _=>next.length-(intOf i).toNat)
 case atStart=>exact⟨0,Nat.zero_le _,rfl,rfl,Below.refl _ _⟩
 case round =>
  obtain⟨k,hk,rfl,hall,hb⟩:=hrel;have hend:Below w.heap.size w wr:=((Below.refl _ _).alloc (Nat.le_refl _) _).trans (hb.mono (by omega));have Hend:=qh hend;clear hend;have hx0:=Ziz hb 0;have hx3:=Ziz hb 1;simp only[w_5,w_6,w_7] at hx0 hx3;by_cases hlt:k<next.length
  ·obtain⟨b,off,rfl,hB,hbl,hcs⟩:=hr1 (by omega);obtain⟨row,hrw⟩:=eI (next.getD k []);have hcsk:=hcs k hlt;rw[← hrw] at hcsk;have Hrw:=qh hrw;clear hrw hcs hr1 hr2;obtain⟨a',cap',hcell,hcc,hcm,hrow⟩:=hcsk;have hx1:=(Zkg hb b (off+k) hbl).trans hcell;have hbx:=Zp0 hb;replace hall:=qh hall;by_cases hlen:row.length=3
   ·have Hlen:=qh hlen;have hl3:((row.length:Int) != 3)=false:=by rw[hlen];rfl
    obtain⟨b',off',rfl,hB',hbl',hcs'⟩:=hrow (by omega);clear hlen hx3;go_wp2
    go_loopw [2,4] (fun r j wi=>∃ c:Nat,c≤3∧j = .int .i64 c∧(row.take c).all (fun t=>inB t 0 ((next.length:Int)-1))=true∧Below (w.heap.size+1) (w.alloc (.cells #[.slice (some ⟨b,off,none⟩) next.length c1,.slice a2 ends.length c2] 44)) wi)
     (fun _ j _=>3-(intOf j).toNat)
    case atStart=>exact⟨0,by omega,rfl,rfl,hb⟩
    case round =>
     obtain⟨c,hc,rfl,hall',hbi⟩:=hrel;have Hall':=qh hall';clear hall';have Hbi:=qh hbi;by_cases hc3:c<3
     ·have hx0:=Ziz hbi 0;have hx1:=(Zkg hbi b (off+k) hbl).trans hcell;have hx2:=(Zkg hbi b' (off'+c) hbl').trans (hcs' c (by have:=Hlen.out;omega));simp only[w_5,w_6] at hx0;obtain⟨t,ht⟩:=eI (row.getD c 0);rw[← ht] at hx2;have Ht:=qh ht;clear ht hbi;have hr3:(c:Int)<row.length:=by have:=Hlen.out;omega
      have hwn:IntKind.i64.wrap ((next.length:Int)-1)=(next.length:Int)-1:=IntWalk.i64_in _ (by omega);clear hcs';cases hin:inB t 0 ((next.length:Int)-1)
      all_goals
       have Hin:=qh hin;clear hin;go_wp2
       go_region_held3 (fun w'=>w'.cell? ⟨w.heap.size,0,none⟩=some (.slice (some ⟨b,off,none⟩) next.length c1)∧w'.cell? ⟨b,off+k,none⟩=some (.slice (some ⟨b',off',none⟩) row.length cap')∧w'.cell? ⟨b',off'+c,none⟩=some (.int .i64 t))
        (go_keep)
        (first|(go_at_call 87;refine(Zb4 _ _ _ _ _ Hin.out).mono ?_;rintro e w' ⟨rfl,rfl⟩))
       go_wp2
      ·go_ret;have hfin:Zah next ends=false:=ZeA hlt (by rw[← Hrw.out];exact Zms (c:=c) (by have:=Hlen.out;omega) (by rw[← Ht.out];exact Hin.out));exact⟨by rw[← Hr.out,hfin];rfl,(((Below.refl _ _).alloc (Nat.le_refl _) _).trans (Hbi.out.mono (by omega))).drew⟩
      go_roundw
      case rel=>exact⟨c+1,by omega,by go_num,ZiE (d:=0) (by have:=Hlen.out;omega) Hall'.out (by rw[← Ht.out];exact Hin.out),Hbi.out.drew⟩
      case measure=>simp[intOf];omega
     obtain rfl:c=3:=by omega
     clear hbi hcs';go_wp2;go_roundw
     case rel =>
      have hok:Zdi next.length (next.getD k [])=true:=by rw[← Hrw.out];unfold Zdi;have h3:=Hall'.out;rw[List.take_of_length_le (by have:=Hlen.out;omega)] at h3;simp[Hlen.out,h3]
      exact⟨k+1,by omega,by go_num,ZiE (d:=[]) hlt hall.out hok,Hbi.out⟩
     case measure=>simp[intOf];omega
   have hl3:((row.length:Int) != 3)=true:=by rw[bne_iff_ne];omega
   go_wp2;go_ret;have hfin:Zah next ends=false:=ZeA hlt (by rw[← Hrw.out];exact ZiR hlen);exact⟨by rw[← Hr.out,hfin];rfl,Hend.out⟩
  have hfin:Zah next ends=(inB next.length 1 40&&decide (ends.length=next.length)):=by have h3:=hall;rw[List.take_of_length_le (by omega)] at h3;simp[Zah,h3]
  have Hfin:=qh hfin;clear hfin hall hr1 hr2;cases hin:inB next.length 1 40
  ·have Hin:=qh hin;clear hin;go_wp2_with (go_at_call 87;refine(Zb4 _ _ _ _ _ Hin.out).mono ?_;rintro e w' ⟨rfl,rfl⟩);go_ret;exact⟨by rw[← Hr.out,Hfin.out,Hin.out];rfl,Hend.out⟩
  have Hin:=qh hin;clear hin;go_wp2_with (go_at_call 87;refine(Zb4 _ _ _ _ _ Hin.out).mono ?_;rintro e w' ⟨rfl,rfl⟩);go_ret;refine⟨?_,Hend.out⟩;rw[← Hr.out,Hfin.out,Hin.out];exact ZaT (by rw[ZnF];rfl)
end Go.Proofs.YtncekbbhgipdlaaGreat
namespace Go.Proofs.YtncekbbhgipdlaaGreat
open Go.RowKit
theorem Zky {P:Program} {f:FuncId} {args:Array Value} {w:World} {n:Nat} {v:Value}
  (h:Calls P f args (w.drewN n) fun e w'=>e = .returned v∧w.drewN n=w'):Calls P f args (w.drewN n) fun e w''=>e = .returned v∧∃ m,w''=w.drewN m :=
 h.mono fun _ _ ⟨he,hm⟩=>⟨he,n,hm.symm⟩
end Go.Proofs.YtncekbbhgipdlaaGreat
namespace Go.Proofs.YtncekbbhgipdlaaGreat
open Go.RowKit
theorem ZcE {α:Type} {l:List α} {k:Nat} {d:α} (hk:k<l.length):l.getD k d∈l:=by simp[hk]
theorem Znq {P:Program} {ti:TypeId} {fs:List Field} (d:Nat) (x1 x2 y1 y2:Int) (w:World) (hi:P.underlying ti=some (.int .i64))
  (hf : fs.map (fun f => (f.name == "_", f.type, f.offset)) = [(false, ti, 0), (false, ti, 1)]) :
  (Op.eqFields (d+1) #[.int .i64 x1,.int .i64 x2] #[.int .i64 y1,.int .i64 y2] fs).run P w = .ok (x1==y1&&x2==y2) w:=by
 obtain⟨f,g,rfl⟩:∃ f g,fs=[f,g]:=by
  have hl:fs.length=2:=by simpa using congrArg List.length hf
  match fs with
  | []=>simp at hl
  | [_]=>simp at hl
  | [f,g]=>exact⟨f,g,rfl⟩
  | _::_::_::_=>simp at hl
 simp only[List.map_cons,List.map_nil,List.cons.injEq,Prod.mk.injEq,and_true] at hf
 obtain⟨⟨f1,f2,f3⟩,g1,g2,g3⟩:=hf
 have f1' : f.name ≠ "_" := by simpa using f1
 have g1' : g.name ≠ "_" := by simpa using g1
 simp only[Op.eqFields,f1',g1',f2,f3,g2,g3,ne_eq,not_false_eq_true,if_true]
 cases h1:x1==y1<;>cases h2:x2==y2<;>simp[go_sem,hi,h1,h2,part,isAgg,run_underlying hi]
end Go.Proofs.YtncekbbhgipdlaaGreat
namespace Go.Proofs.YtncekbbhgipdlaaGreat
open Go.RowKit
def badT (n t:Int):Bool:=!inB t 0 (n-1)
def ZcF {α:Type} (p:α→Bool) (xs:List α):Int:=if xs.any p then(xs.findIdx p:Int) else -1
theorem Zfi {α:Type} {p:α→Bool} {xs:List α} {k:Nat} {d:α} (hk:k<xs.length) (h:(xs.take k).any p=false) (hp:p (xs.getD k d)=true):ZcF p xs=k:=by
 have hp':p xs[k]=true:=by simpa [hk] using hp
 have h1:xs.any p=true:=List.any_eq_true.2 ⟨xs[k],List.getElem_mem hk,hp'⟩;unfold ZcF;rw[if_pos h1];have:xs.findIdx p=k:=by rw[List.findIdx_eq hk];refine⟨hp',fun j hj => ?_⟩;rw[List.any_eq_false] at h;have:=h xs[j] (by rw[List.mem_take_iff_getElem];exact⟨j,by omega,rfl⟩);simpa using this
 rw[this]
theorem Zew {α:Type} {p:α→Bool} {xs:List α} {k:Nat} (hk:xs.length≤k) (h:(xs.take k).any p=false):ZcF p xs = -1:=by rw[List.take_of_length_le hk] at h;unfold ZcF;rw[h];rfl
theorem Zfj {α:Type} (p:α→Bool) (xs:List α):decide (0≤ZcF p xs)=xs.any p:=by unfold ZcF;cases h:xs.any p<;>simp
theorem Zlf {α:Type} {p:α→Bool} {l:List α} {k:Nat} {d:α} (hk:k<l.length) (h:(l.take k).any p=false) (hp:p (l.getD k d)=false):(l.take (k+1)).any p=false:=by rw[List.take_succ_eq_append_getElem hk,List.any_append,h];simpa [hk] using hp
theorem Zez (x n:Int) (b:Nat) (w:World) (hn:0≤n∧n≤9223372036854775807) (hc:w.cell? ⟨b,0,none⟩=some (.int .i64 n)) (r:Bool) (hr:badT n x=r) :
  Calls Tryz.prog 109 #[.int .i64 x,.pointer (some ⟨b,0,none⟩)] w fun e w'=>e = .returned (.bool r)∧w=w':=by
 subst hr;obtain⟨h1,h2⟩:=hn
 go_enter Tryz.func109, Tryz.ntmps109
 go_wp2_with (go_at_call 110;refine(Zbf _ _ _ _ _ rfl).mono ?_;rintro e w' ⟨rfl,rfl⟩);go_ret;exact⟨rfl,rfl⟩
theorem ZgB (xs:List Int) (v:Value) (n:Int) (b:Nat) (w:World) (hn:0≤n∧n≤9223372036854775807) (hc:w.cell? ⟨b,0,none⟩=some (.int .i64 n)) (h1:Ints 0 w v xs) :
  Calls Tryz.prog 141 #[v,.func (.func 109) #[] #[.pointer (some ⟨b,0,none⟩)]] w fun e w'=>e = .returned (.int .i64 (ZcF (badT n) xs))∧w=w':=by
 obtain⟨a1,c1,rfl,hc1,hm1,hr1⟩:=h1.form;clear h1
 go_enter Tryz.func141, Tryz.ntmps141
 go_wp2
 go_loop [4,8] (fun r i=>∃ k:Nat,k≤xs.length∧i = .int .i64 k∧(xs.take k).any (badT n)=false) (fun _ i=>xs.length-(intOf i).toNat)
 case atStart=>exact⟨0,Nat.zero_le _,rfl,rfl⟩
 case round =>
  obtain⟨k,hk,rfl,htk⟩:=hrel;replace htk:=qh htk;by_cases hlt:k<xs.length
  ·obtain⟨b1,o1,rfl,hB1,hbl1,hcs1⟩:=hr1 (by omega);have hx1:=hcs1 k hlt;obtain⟨x,hxx⟩:=eI (xs.getD k 0);rw[← hxx] at hx1;have Hhxx:=qh hxx;clear hxx;clear hcs1 hr1;cases hb:badT n x
   ·replace hb:=qh hb;go_wp2_with (go_at_call 109;refine(Zez x n b _ hn hc _ hb.out).mono ?_;rintro e w' ⟨rfl,rfl⟩)
    go_round
    case rel=>exact⟨k+1,by omega,by go_num,Zlf (d:=0) hlt htk.out (by rw[← Hhxx.out];exact hb.out)⟩
    case measure=>simp[intOf];omega
   replace hb:=qh hb;go_wp2_with (go_at_call 109;refine(Zez x n b _ hn hc _ hb.out).mono ?_;rintro e w' ⟨rfl,rfl⟩);go_ret;exact⟨ZeL (by rw[Zfi (d:=0) hlt htk.out (by rw[← Hhxx.out];exact hb.out)]),rfl⟩
  clear hr1;go_wp2;go_ret;exact⟨ZeL (by rw[Zew (by omega) htk.out]),rfl⟩
theorem ZcH (xs:List Int) (v:Value) (n:Int) (b:Nat) (w:World) (hn:0≤n∧n≤9223372036854775807) (hc:w.cell? ⟨b,0,none⟩=some (.int .i64 n)) (h1:Ints 0 w v xs) (r:Bool) (hr:xs.any (badT n)=r) :
  Calls Tryz.prog 108 #[v,.func (.func 109) #[] #[.pointer (some ⟨b,0,none⟩)]] w fun e w'=>e = .returned (.bool r)∧w=w':=by
 obtain⟨a1,c1,hv,-⟩:=h1.form;have H1:=qh h1;subst hv;clear h1;replace hr:=qh hr
 go_enter Tryz.func108, Tryz.ntmps108
 go_wp2_with (go_at_call 141;refine(ZgB xs _ n b _ hn hc H1.out).mono ?_;rintro e w' ⟨rfl,rfl⟩);go_ret;exact⟨ZaT (by rw[← hr.out,Zfj]),rfl⟩
theorem Zmt {n:Int} {row:List Int} (h:row.any (badT n)=true):Zdi n row=false:=by
 unfold Zdi;have:(row.all fun t=>inB t 0 (n-1))=false:=by rw[List.any_eq_true] at h;obtain⟨x,hx,hp⟩:=h;rw[List.all_eq_false];exact⟨x,hx,by simpa [badT] using hp⟩
 simp[this]
theorem Zmr {n:Int} {row:List Int} (hl:row.length=3) (h:row.any (badT n)=false):Zdi n row=true:=by unfold Zdi;rw[List.any_eq_false] at h;simp only[hl,decide_true,Bool.true_and,List.all_eq_true];intro x hx;have:=h x hx;simpa [badT] using this
theorem Zdg (d:DfaD) (v:Value) (w:World) (h:DfaR 0 w v d) (r:Bool) (hr:Zah d.next d.ends=r) :
  Calls Tryz.prog 64 #[v] w fun e w'=>e = .returned (.bool r)∧Below w.heap.size w w':=by
 obtain⟨next,ends⟩:=d;obtain⟨v1,v2,rfl,h1,h2⟩:=h;simp only at h1 h2 hr;obtain⟨a1,c1,rfl,hc1,hm1,hr1⟩:=h1.formI;obtain⟨a2,c2,rfl,hc2,hm2,hr2⟩:=h2.form;have Hr:=qh hr;clear h1 h2 hr hr2
 go_enter Tryz.func64, Tryz.ntmps64
 go_wp2
 go_loopw [2,12] (fun r i wr=>∃ k:Nat,k≤next.length∧i = .int .i64 k∧(next.take k).all (Zdi next.length)=true∧Below (w.heap.size+2) ((w.alloc (.cells #[.slice a1 next.length c1,.slice a2 ends.length c2] 44)).alloc (.cells #[.int .i64 next.length] 3)) wr)
  (fun _ i _=>next.length-(intOf i).toNat)
 case atStart=>exact⟨0,Nat.zero_le _,rfl,rfl,Below.refl _ _⟩
 case round =>
  obtain⟨k,hk,rfl,hall,hb⟩:=hrel;have hend:Below w.heap.size w wr:=(((Below.refl _ _).alloc (Nat.le_refl _) _).alloc (by simp) _).trans (hb.mono (by omega));have x0:=((Bx.new w _ _).alloc _).below hb (by omega);have x1:=(Bx.new (w.alloc _) _ _).below hb (by simp);have hx0:=x0.cell 0;have hx2:=x0.cell 1;have hx1:=x1.cell 0;simp only[w_5,w_6,w_7,World.size_alloc] at hx0 hx1 hx2;have Hend:=qh hend;clear hend x0 x1;by_cases hlt:k<next.length
  ·obtain⟨b,off,rfl,hB,hbl,hcs⟩:=hr1 (by omega);obtain⟨row,hrw⟩:=eI (next.getD k []);have hcsk:=hcs k hlt;rw[← hrw] at hcsk;replace hrw:=qh hrw;obtain⟨a',cap',hcell,hcc,hcm,hrow⟩:=hcsk;have hx3:=(bcell Hend.out b (off+k) hbl).trans hcell;have Hrow:=qh (hrow.below Hend.out);replace hall:=qh hall;have Hhb:=qh hb;clear hb;clear hcs hr1 hcell hrow;by_cases hlen:row.length=3
   ·have hl3:((row.length:Int) != 3)=false:=by rw[hlen];rfl
    have Hhlen:=qh hlen;clear hlen;cases hany:row.any (badT next.length)
    ·have Hhany:=qh hany;clear hany;go_wp2_with (go_at_call 108;refine(ZcH row _ next.length _ _ (by omega) hx1 Hrow.out _ Hhany.out).mono ?_;rintro e w' ⟨rfl,rfl⟩);go_roundw
     case rel=>exact⟨k+1,by omega,by go_num,ZiE (d:=[]) hlt hall.out (by rw[← hrw.out];exact Zmr Hhlen.out Hhany.out),Hhb.out⟩
     case measure=>simp[intOf];omega
    have Hhany:=qh hany;clear hany;go_wp2_with (go_at_call 108;refine(ZcH row _ next.length _ _ (by omega) hx1 Hrow.out _ Hhany.out).mono ?_;rintro e w' ⟨rfl,rfl⟩);go_ret;exact⟨by rw[← Hr.out,ZeA hlt (by rw[← hrw.out];exact Zmt Hhany.out)];rfl,Hend.out⟩
   have hl3:((row.length:Int) != 3)=true:=by rw[bne_iff_ne];omega
   have Hhlen:=qh hlen;clear hlen;go_wp2;go_ret;exact⟨by rw[← Hr.out,ZeA hlt (by rw[← hrw.out];exact ZiR Hhlen.out)];rfl,Hend.out⟩
  have hfin:Zah next ends=(inB next.length 1 40&&decide (ends.length=next.length)):=by have h3:=hall;rw[List.take_of_length_le (by omega)] at h3;simp[Zah,h3]
  have Hhfin:=qh hfin;clear hfin;have Hhb:=qh hb;clear hb;clear hall hr1;cases hin:inB next.length 1 40
  ·have Hhin:=qh hin;clear hin;go_wp2_with (go_at_call 110;refine(Zbf _ _ _ _ _ Hhin.out).mono ?_;rintro e w' ⟨rfl,rfl⟩);go_ret;exact⟨by rw[← Hr.out,Hhfin.out,Hhin.out];rfl,Hend.out⟩
  have Hhin:=qh hin;clear hin;go_wp2_with (go_at_call 110;refine(Zbf _ _ _ _ _ Hhin.out).mono ?_;rintro e w' ⟨rfl,rfl⟩);go_ret;exact⟨ZaT (by rw[← Hr.out,Hhfin.out,Hhin.out,ZnF];rfl),Hend.out⟩
def Zaz (a b:DfaD) (p:Int × Int) (c:Nat):Int × Int:=((a.next.getD p.1.toNat []).getD c 0,(b.next.getD p.2.toNat []).getD c 0)
def Zcg (a b:DfaD) (p:Int × Int):Bool:=inB p.1 0 ((a.next.length:Int)-1)&&inB p.2 0 ((b.next.length:Int)-1)
theorem Zet {x lo hi:Int} (h:inB x lo hi=true):lo≤x∧x≤hi:=by simpa [inB] using h
theorem ZaV {next:List (List Int)} {ends:List Bool} (h:Zah next ends=true) {i:Nat} (hi:i<next.length) :
  (next.getD i []).length=3∧∀ c,c<3→0≤(next.getD i []).getD c 0∧(next.getD i []).getD c 0<next.length:=by
 simp only[Zah,Bool.and_eq_true,List.all_eq_true] at h;have hr:=h.1.1 _ (ZcE (d:=[]) hi);simp only[Zdi,Bool.and_eq_true,decide_eq_true_eq,List.all_eq_true] at hr;refine⟨hr.1,fun c hc => ?_⟩;have:=Zet (hr.2 _ (ZcE (d:=0) (show c<(next.getD i []).length by omega)));omega
theorem Zaj {next:List (List Int)} {ends:List Bool} (h:Zah next ends=true):1≤next.length∧next.length≤40∧ends.length=next.length:=by simp only[Zah,Bool.and_eq_true,decide_eq_true_eq] at h;have:=Zet h.1.2;omega
theorem ZkY {w:World} {v1:Value} {next:List (List Int)} {ends:List Bool} (h:IntSS 0 w v1 next) (hd:Zah next ends=true) {i c:Nat} (hi:i<next.length) (hc:c<3) :
  ∃ q o cap z t s,v1 = .slice (some ⟨q,o,none⟩) next.length cap∧next.length≤cap∧cap≤9223372036854775807∧w.cell? ⟨q,o+i,none⟩=some (.slice (some ⟨z,t,none⟩) 3 s)∧3≤s∧s≤9223372036854775807 ∧
   w.cell? ⟨z,t+c,none⟩=some (.int .i64 ((next.getD i []).getD c 0))∧q<w.heap.size∧z<w.heap.size:=by
 obtain⟨a,cap,rfl,h1,h2,h3⟩:=h.form;obtain⟨q,o,rfl,_,hq,hr⟩:=h3 (by omega);obtain⟨a',s,e1,e2,e3,e4⟩:=hr i hi;obtain⟨hl,_⟩:=ZaV hd hi;rw[hl] at e1 e2 e4;obtain⟨z,t,rfl,_,hz,e5⟩:=e4 (by omega);exact⟨q,o,cap,z,t,s,rfl,h1,h2,e1,e2,e3,e5 c hc,hq,hz⟩
theorem ZeH {w:World} {v1:Value} {xs:List Bool} (h:Bools 0 w v1 xs) {i:Nat} (hi:i<xs.length) :
  ∃ q o cap,v1 = .slice (some ⟨q,o,none⟩) xs.length cap∧xs.length≤cap∧cap≤9223372036854775807∧w.cell? ⟨q,o+i,none⟩=some (.bool (xs.getD i false))∧q<w.heap.size:=by
 obtain⟨a,cap,rfl,h1,h2,h3⟩:=h.form;obtain⟨q,o,rfl,_,hq,hr⟩:=h3 (by omega);exact⟨q,o,cap,rfl,h1,h2,hr i hi,hq⟩
theorem Zcq {a b:DfaD} {p:Int × Int} (h:Zcg a b p=true):∃ i j:Nat,p=((i:Int),(j:Int))∧i<a.next.length∧j<b.next.length:=by unfold Zcg at h;rw[Bool.and_eq_true] at h;obtain⟨x,y⟩:=p;obtain⟨h1,h2⟩:=Zet h.1;obtain⟨h3,h4⟩:=Zet h.2;simp only at h1 h2 h3 h4;obtain⟨i,rfl⟩:=Int.eq_ofNat_of_zero_le h1;obtain⟨j,rfl⟩:=Int.eq_ofNat_of_zero_le h3;exact⟨i,j,rfl,by omega,by omega⟩
def DfaAt (w:World) (b:Nat) (d:DfaD):Prop:=∃ v1 v2,Bx w b #[v1,v2] 44 ∧ IntSS 0 w v1 d.next∧Bools 0 w v2 d.ends
theorem DfaAt.below {w w':World} {b:Nat} {d:DfaD} (h:DfaAt w b d) (hb:Below w.heap.size w w'):DfaAt w' b d:=by obtain⟨v1,v2,h1,h2,h3⟩:=h;exact⟨v1,v2,h1.below hb h1.lt,h2.below hb,h3.below hb⟩
theorem ZiW (a b:DfaD) (x:Int × Int) (c ba bb:Nat) (w:World) (hda:Zah a.next a.ends=true) (hdb:Zah b.next b.ends=true) (h1:DfaAt w ba a) (h2:DfaAt w bb b) (hx:Zcg a b x=true) (hc:c<3) :
  Calls Tryz.prog 153 #[.agg #[.int .i64 x.1,.int .i64 x.2],.int .i64 c,.pointer (some ⟨ba,0,none⟩),.pointer (some ⟨bb,0,none⟩)] w fun e w'=>e = .returned (.agg #[.int .i64 (Zaz a b x c).1,.int .i64 (Zaz a b x c).2])∧Below w.heap.size w w':=by
 obtain⟨i,j,rfl,hi,hj⟩:=Zcq hx;obtain⟨u1,u2,hB1,g1,-⟩:=h1;obtain⟨u3,u4,hB2,g2,-⟩:=h2;obtain⟨q1,o1,c1,z1,t1,s1,rfl,hc1,hm1,e1,l1,m1,e2,d1,d2⟩:=ZkY g1 hda hi hc;obtain⟨q2,o2,c2,z2,t2,s2,rfl,hc2,hm2,e3,l2,m2,e4,d3,d4⟩:=ZkY g2 hdb hj hc;obtain⟨ta,hta⟩:=eI ((Zaz a b ((i:Int),(j:Int)) c).1);obtain⟨tb,htb⟩:=eI ((Zaz a b ((i:Int),(j:Int)) c).2);have e2':w.cell? ⟨z1,t1+c,none⟩=some (.int .i64 ta):=by rw[hta];exact e2
 have e4':w.cell? ⟨z2,t2+c,none⟩=some (.int .i64 tb):=by rw[htb];exact e4
 rw[← hta,← htb];have hla:=Zaj hda;have hlb:=Zaj hdb;have ca:=hB1.cell 0;have cb:=hB2.cell 0;simp only[w_5,w_6] at ca cb;have d5:=hB1.lt;have d6:=hB2.lt;have hci:(c:Int)<3:=by omega
 have hii:(i:Int)<a.next.length:=by omega
 have hjj:(j:Int)<b.next.length:=by omega
 clear g1 g2 hB1 hB2 hta htb e2 e4 hx hda hdb;obtain⟨h41,h42,-⟩:=hla;obtain⟨h43,h44,-⟩:=hlb
 go_enter Tryz.func153, Tryz.ntmps153
 go_wp2
 go_region_held3 (fun w'=>w'.cell? ⟨w.heap.size,0,none⟩=some (.int .i64 i)∧w'.cell? ⟨w.heap.size,1,none⟩=some (.int .i64 j)∧w'.cell? ⟨ba,0,none⟩=some (.slice (some ⟨q1,o1,none⟩) a.next.length c1)∧w'.cell? ⟨bb,0,none⟩=some (.slice (some ⟨q2,o2,none⟩) b.next.length c2)∧w'.cell? ⟨q1,o1+i,none⟩=some (.slice (some ⟨z1,t1,none⟩) 3 s1)∧w'.cell? ⟨q2,o2+j,none⟩=some (.slice (some ⟨z2,t2,none⟩) 3 s2)∧w'.cell? ⟨z1,t1+c,none⟩=some (.int .i64 ta)∧w'.cell? ⟨z2,t2+c,none⟩=some (.int .i64 tb))
  (first|go_keep) (fail)
 go_wp2;refine bodyPost_ret (v:=.agg #[.int .i64 ta,.int .i64 tb]) (by simp[results,Tryz.results153,go_sem]) rfl ⟨rfl,?_⟩;exact(((Below.refl _ _).alloc (Nat.le_refl _) _).alloc (by simp) _).drew
def Zca (f:Bool→Bool→Bool) (a b:DfaD) (p:Int × Int):Bool:=f (a.ends.getD p.1.toNat false) (b.ends.getD p.2.toNat false)
end Go.Proofs.YtncekbbhgipdlaaGreat
