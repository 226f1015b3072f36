/-
  The walks over the reference's comparison of rows of truth values and its search for a row in a list of rows: l9Same, l9Find.
  Conditions: the arguments read as such data; all rows are equally long, at most 1000000.
-/
import Derived.Test.YtehmjmjedopkkaaGreatPd03Nk
set_option maxRecDepth 100000
namespace Go.Proofs.YtehmjmjedopkkaaGreat
open Go.RowKit
def BoolSS (B:Nat) (w:World) (v:Value) (xss:List (List Bool)):Prop :=
 ∃ vs:List Value,Sl B w v xss.length 1 vs∧∀ i,i<xss.length→Bools B w (vs.getD i undef) (xss.getD i [])
theorem BoolSS.below {B:Nat} {w w':World} {v:Value} {xss:List (List Bool)} (h:BoolSS B w v xss) (he:Below w.heap.size w w'):BoolSS B w' v xss:=by obtain⟨vs,h1,h2⟩:=h;exact⟨vs,h1.below he,fun i hi=>(h2 i hi).below he⟩
theorem BoolSS.form {B:Nat} {w:World} {v:Value} {xss:List (List Bool)} (h:BoolSS B w v xss):∃ a cap,v = .slice a xss.length cap∧xss.length≤cap∧cap≤9223372036854775807 ∧
  (0<xss.length→∃ b off,a=some ⟨b,off,none⟩∧b<w.heap.size∧∀ i,i<xss.length→∃ a' cap',w.cell? ⟨b,off+i,none⟩=some (.slice a' (xss.getD i []).length cap')∧Bools B w (.slice a' (xss.getD i []).length cap') (xss.getD i [])):=by
 obtain⟨vs,⟨hl,a,cap,hv,h1,h2,h3⟩,hr⟩:=h;refine⟨a,cap,hv,h1,h2,fun hn => ?_⟩;obtain⟨b,off,ha,hb,hlt,hc⟩:=h3 hn;refine⟨b,off,ha,hlt,fun i hi => ?_⟩;obtain⟨a',cap',hv',-⟩:=(hr i hi).form;refine⟨a',cap',?_,?_⟩
 ·rw[hc i (by omega),← hv'];simp at hl;simp[show i<vs.length by omega]
 rw[← hv'];exact hr i hi
theorem ZhU {w:World} {B e n:Nat} {v:Value} {xs:List Bool} (hr:w.ownsRow B e 1 v n (boolCells xs)):Bools B w v xs:=by
 have e1:n=xs.length:=by have:=hr.1;simp at this;omega
 subst e1;exact(Zac hr).sl (by omega)
def ZoF (S:List (List Bool)) (x:List Bool):Int:=if x∈S then(Zah S x:Int) else -1
end Go.Proofs.YtehmjmjedopkkaaGreat
namespace Go.Proofs.YtehmjmjedopkkaaGreat
open Go.RowKit Go.Maps
def fitI (x:Int):Prop:=-9223372036854775808≤x∧x≤9223372036854775807
theorem Zj7 {x:Int} (h:fitI x):(Lit.int .i64 x).wf=true:=WalkArith.wf_i64 h
theorem Tryz.laidOut:laidOutB Tryz.prog=true:=by kernel_rfl
theorem ZeJ:5+1≤10000:=by omega
def ZaJ (p:Int × Int):Value:=.agg #[.int .i64 p.1,.int .i64 p.2]
theorem Zbn:∀ x y:Int × Int,ZaJ x=ZaJ y→x=y:=by rintro⟨a,b⟩ ⟨c,d⟩ h;simp only[ZaJ,Value.agg.injEq] at h;have h1:=congrArg (fun (l:Array Value)=>l[0]?) h;have h2:=congrArg (fun (l:Array Value)=>l[1]?) h;simp at h1 h2;rw[h1,h2]
theorem Zf2 {P:Program} {t:TypeId} {D:Nat} {x:Int} (ht:P.underlying t=some (.int .i64)) (hx:fitI x):P.keyLits (D+1) t [.int .i64 x]=some [.int .i64 x]:=by unfold Program.keyLits;rw[ht];simp[Zj7 hx]
end Go.Proofs.YtehmjmjedopkkaaGreat
namespace Go.Proofs.YtehmjmjedopkkaaGreat
open Go.RowKit Go.Maps
theorem Zf1 {P:Program} {t:TypeId} {D:Nat} {q:IntKind} {x:Int} (ht:P.underlying t=some (.int q)) (hx:(Lit.int q x).wf=true):P.keyLits (D+1) t [.int q x]=some [.int q x]:=by unfold Program.keyLits;rw[ht];simp[hx]
theorem Ziq {P:Program} {t e:TypeId} {q:IntKind} (hu:P.underlying t=some (.array 2 e)) (he:P.underlying e=some (.int q)) (hk:P.keyType t=true) (hc:P.cellsOf t=2) (hce:P.cellsOf e=1) (hrow:t<P.types.size)
  (x y:Int) (hx:(Lit.int q x).wf=true) (hy:(Lit.int q y).wf=true):∃ l,keyOf P t (.agg #[.int q x,.int q y])=some l:=by
 have hfm:(Value.agg #[.int q x,.int q y]).formed P t=true:=by simp[Value.formed,hu,hc]
 obtain⟨n,hn⟩:∃ n,P.types.size=n+1:=⟨P.types.size-1,(Nat.succ_pred_eq_of_pos (Nat.lt_of_le_of_lt (Nat.zero_le _) hrow)).symm⟩;have e1:=Zf1 (D:=n) he hx;have e2:=Zf1 (D:=n) he hy;have hlits:P.keyLits (P.types.size+1) t (Value.agg #[.int q x,.int q y]).cells.toList=some [.int q x,.int q y]:=by rw[hn];show P.keyLits (n+1+1) t [.int q x,.int q y]=_;unfold Program.keyLits;rw[hu];simp[hc,hce,List.range_succ,e1,e2]
 exact⟨_,by unfold keyOf;rw[hu];simp only[hk,hfm,Bool.and_self,if_true,hlits];rfl⟩
theorem Zo2 {q:IntKind}:∀ x y:Int × Int,(Value.agg #[.int q x.1,.int q x.2]) = .agg #[.int q y.1,.int q y.2]→x=y:=by rintro⟨a,b⟩ ⟨c,d⟩ h;simp only[Value.agg.injEq] at h;have h1:=congrArg (fun (l:Array Value)=>l[0]?) h;have h2:=congrArg (fun (l:Array Value)=>l[1]?) h;simp at h1 h2;rw[h1,h2]
theorem Tryz.rowPr:(170:TypeId)<Tryz.prog.types.size:=of_decide_eq_true (by kernel_rfl)
theorem Tryz.widePr:(match Tryz.prog.underlying 170 with|some (.array _ _)|some (.struct _)=>true|_=>false)=true:=by kernel_rfl
theorem Tryz.keyPr:Tryz.prog.keyType 170 = true:=by kernel_rfl
theorem Tryz.keyAtPr:Tryz.prog.keyTypeAt 5 170 = true:=by kernel_rfl
theorem Tryz.cellsPr:Tryz.prog.cellsOf 170 = 2:=by kernel_rfl
theorem Tryz.cellsInt:Tryz.prog.cellsOf 3 = 1:=by kernel_rfl
theorem Tryz.kindPr:Tryz.prog.underlying 170 = some (.array 2 3):=by kernel_rfl
theorem Tryz.lawPr:Keyed Tryz.prog 170:=Keyed.of_law (deep_law_laid Tryz.laidOut ZeJ Tryz.rowPr Tryz.keyAtPr Tryz.widePr)
theorem Tryz.keyOfPr (p:Int × Int) (h1:fitI p.1) (h2:fitI p.2):∃ l,keyOf Tryz.prog 170 (ZaJ p)=some l :=
 Ziq Tryz.kindPr Tryz.underlying3 Tryz.keyPr Tryz.cellsPr Tryz.cellsInt Tryz.rowPr _ _ (Zj7 h1) (Zj7 h2)
end Go.Proofs.YtehmjmjedopkkaaGreat
namespace Go.Proofs.YtehmjmjedopkkaaGreat
open Go.RowKit Go.Maps
def fitU (x:Int):Prop:=0≤x∧x≤18446744073709551615
theorem Zmh {x:Int} (h:fitU x):(Lit.int .u64 x).wf=true:=WalkArith.wf_u64 h
def Zci (p:Int × Int):Value:=.agg #[.int .u64 p.1,.int .u64 p.2]
theorem Zcb:∀ x y:Int × Int,Zci x=Zci y→x=y:=Zo2
def Zbb (p:Int × Int):List Value:=[.int .u64 p.1,.int .u64 p.2]
def Zpw (e lo hi:Nat) (w:World) (v:Value) (xs:List (Int × Int)):Prop:=Own lo hi w e 2 v xs.length (xs.flatMap Zbb)
theorem Tryz.rowSet:(151:TypeId)<Tryz.prog.types.size:=of_decide_eq_true (by kernel_rfl)
theorem Tryz.wideSet:(match Tryz.prog.underlying 151 with|some (.array _ _)|some (.struct _)=>true|_=>false)=true:=by kernel_rfl
theorem Tryz.keySet:Tryz.prog.keyType 151 = true:=by kernel_rfl
theorem Tryz.keyAtSet:Tryz.prog.keyTypeAt 5 151 = true:=by kernel_rfl
theorem Tryz.cellsSet:Tryz.prog.cellsOf 151 = 2:=by kernel_rfl
theorem Tryz.cellsU64:Tryz.prog.cellsOf 149 = 1:=by kernel_rfl
theorem Tryz.kindSet:Tryz.prog.underlying 151 = some (.array 2 149):=by kernel_rfl
theorem Tryz.lawSet:Keyed Tryz.prog 151:=Keyed.of_law (deep_law_laid Tryz.laidOut ZeJ Tryz.rowSet Tryz.keyAtSet Tryz.wideSet)
theorem Tryz.keyOfSet (p:Int × Int) (h1:fitU p.1) (h2:fitU p.2):∃ l,keyOf Tryz.prog 151 (Zci p)=some l :=
 Ziq Tryz.kindSet Tryz.underlying149 Tryz.keySet Tryz.cellsSet Tryz.cellsU64 Tryz.rowSet _ _ (Zmh h1) (Zmh h2)
end Go.Proofs.YtehmjmjedopkkaaGreat
namespace Go.Proofs.YtehmjmjedopkkaaGreat
open Go.RowKit
theorem Tryz.infoInt:(Tryz.prog.info? 3).map (fun i=>(i.zero,i.size,i.bytes))=some (some (.int .i64 0),1,8):=by kernel_rfl
theorem Tryz.infoBool:(Tryz.prog.info? 4).map (fun i=>(i.zero,i.size,i.bytes))=some (some (.bool false),1,1):=by kernel_rfl
theorem Tryz.infoInts:(Tryz.prog.info? 59).map (fun i=>(i.zero,i.size,i.bytes))=some (some (.slice none 0 0),1,24):=by kernel_rfl
theorem ZbY {xs:List Value} {n k:Nat} {cs:List Value} {u:Value} (hl:cs.length=n) (hx:xs.length=n) (hk:k<n) (h:cs.take k=xs.take k) (hu:xs[k]? = some u) :
  (cs.set k u).take (k+1)=xs.take (k+1):=by
 apply List.ext_getElem?;intro j;rw[List.getElem?_take,List.getElem?_take];by_cases hj:j<k+1
 ·rw[if_pos hj,if_pos hj,List.getElem?_set];by_cases he:k=j
  ·subst he;rw[if_pos rfl,if_pos (by omega),hu]
  rw[if_neg he];have:=congrArg (fun l=>l[j]?) h;simpa [List.getElem?_take,show j<k by omega] using this
 rw[if_neg hj,if_neg hj]
def small (d:DfaD):Prop:=d.next.length≤1048576∧(∀ i,i<d.next.length→(d.next.getD i []).length≤1048576)∧d.ends.length≤1048576
end Go.Proofs.YtehmjmjedopkkaaGreat
namespace Go.Proofs.YtehmjmjedopkkaaGreat
open Go.RowKit Go.Maps
section
variable {α:Type}
structure ExW (kt sz:Nat) (enc:α→Value) (cel:α→List Value) (B B1 B2 B4 hi:Nat) (w:World) (met:List α) (rows:List (List Int)) (ends:List Bool) (vm vn ve:Value):Prop where
 m:w.ownsRow B kt sz vm met.length (met.flatMap cel)
 n:MapL Tryz.prog kt enc w B2 (numbered met)
 r:Bx w B1 #[.slice none 0 0,.slice none 0 0] 32
 d:Bx w B4 #[vn,ve] 32
 nx:OIntSS 59 3 B hi w vn rows
 en:w.ownsRow B 4 1 ve ends.length (boolCells ends)
 ne:B1≠B4
variable {kt sz B B1 B2 B4 hi:Nat} {enc:α→Value} {cel:α→List Value} {w w':World} {met:List α} {rows:List (List Int)} {ends:List Bool} {vm vn ve:Value}
theorem ExW.below (h:ExW kt sz enc cel B B1 B2 B4 hi w met rows ends vm vn ve) (hb:Below w.heap.size w w'):ExW kt sz enc cel B B1 B2 B4 hi w' met rows ends vm vn ve :=
 ⟨(Own.below (Zac h.m) hb).1,h.n.below hb,h.r.below hb h.r.lt,h.d.below hb h.d.lt,h.nx.below hb,(Own.below (Zac h.en) hb).1,h.ne⟩
theorem ExW.up {hi':Nat} (h:ExW kt sz enc cel B B1 B2 B4 hi w met rows ends vm vn ve) (hh:hi≤hi'):ExW kt sz enc cel B B1 B2 B4 hi' w met rows ends vm vn ve :=
 ⟨h.m,h.n,h.r,h.d,h.nx.mono (Nat.le_refl _) hh,h.en,h.ne⟩
def Own4 (kt:Nat):Prop:=kt ≠ 3 ∧ kt ≠ 59 ∧ kt ≠ 4 ∧ kt ≠ 32
theorem ExW.newState (hk:Own4 kt) (h:ExW kt sz enc cel B B1 B2 B4 hi w met rows ends vm vn ve) {x:α} {w1 w2 w3:World} {vm':Value} (hn:MapL Tryz.prog kt enc w1 B2 (numbered (met++[x]))) (hg1:w.grownBy w1 (some B2))
  (hb:Below w1.heap.size w1 w2) (hown:w3.ownsRow B kt sz vm' (met.length+1) (met.flatMap cel++cel x)) (hg2:w2.grownBy w3 vm.ownBlock) :
  ExW kt sz enc cel B B1 B2 B4 hi w3 (met++[x]) rows ends vm' vn ve:=by
 obtain⟨k1,k2,k3,k4⟩:=hk;have a:∀ e,Zb0 w (some B2) e:=fun e=>h.n.apart
 have m2:w2.ownsRow B kt sz vm met.length (met.flatMap cel):=(Own.below (Zac (Zae h.m hg1 (a _))) hb).1;have b:∀ e,kt≠e→Zb0 w2 vm.ownBlock e:=fun e he=>Zak m2 he
 refine⟨?_,(hn.below hb).grown hg2 (Zb6 m2),?_,?_,?_,?_,h.ne⟩
 ·simpa using hown
 ·have r1:=h.r.grown hg1 (a _);exact(r1.below hb r1.lt).grown hg2 (b _ k4)
 ·have r1:=h.d.grown hg1 (a _);exact(r1.below hb r1.lt).grown hg2 (b _ k4)
 ·exact((h.nx.grown hg1 (a _) (a _)).below hb).grown hg2 (b _ k2) (b _ k1)
 exact Zae (Own.below (Zac (Zae h.en hg1 (a _))) hb).1 hg2 (b _ k3)
theorem ExW.setRow (hk:Own4 kt) (h:ExW kt sz enc cel B B1 B2 B4 hi w met rows ends vm vn ve) {R n:Nat} {cs:List Value} (hR:hi≤R) {base:Nat} (hrow:w.ownsRow base 3 1 (.slice (some ⟨R,0,none⟩) n n) n cs) (j:Nat) (v:Value) :
  ExW kt sz enc cel B B1 B2 B4 hi (w.setCell ⟨R,j,none⟩ v) met rows ends vm vn ve:=by
 obtain⟨k1,k2,k3,k4⟩:=hk;have hg:=ZaC w R j v;have a:∀ e,3 ≠ e→Zb0 w (some R) e:=fun e he=>Zak (v:=.slice (some ⟨R,0,none⟩) n n) hrow he
 have c:Zfs w (some R):=Zb6 (v:=.slice (some ⟨R,0,none⟩) n n) hrow;exact⟨Zae h.m hg (a _ (Ne.symm k1)),h.n.grown hg c,h.r.grown hg (a _ (by decide)),h.d.grown hg (a _ (by decide)),h.nx.far hR j v,Zae h.en hg (a _ (by decide)),h.ne⟩
theorem ZjN {w1 w2 w3:World} {R n base e:Nat} {cs:List Value} {vm:Value} {b2 mb:Nat} {ms:List Value} (hrow:w.ownsRow base e 1 (.slice (some ⟨R,0,none⟩) n n) n cs) (hne:kt≠e)
  (hm2:w2.ownsRow mb kt sz vm b2 ms) (ha:Zb0 w (some B2) e) (hg1:w.grownBy w1 (some B2)) (hb:Below w1.heap.size w1 w2) (hg2:w2.grownBy w3 vm.ownBlock):w3.ownsRow base e 1 (.slice (some ⟨R,0,none⟩) n n) n cs :=
 Zae (Own.below (Zac (Zae hrow hg1 ha)) hb).1 hg2 (Zak hm2 hne)
theorem ExW.addRow (hk:Own4 kt) (h:ExW kt sz enc cel B B1 B2 B4 hi w met rows ends vm vn ve) {vs:List Value} {rv vn':Value} {x:List Int} {w3:World} {lr:Nat}
  (h1:Own B hi w 59 1 vn rows.length vs) (h2:∀ i,i<rows.length→OInts 3 B hi w (vs.getD i undef) (rows.getD i []))
  (h3:∀ i j k,i<j→j<rows.length→(vs.getD i undef).ownBlock=some k→(vs.getD j undef).ownBlock≠some k)
  (hrow:OInts 3 lr w.heap.size w rv x) (hlr:hi≤lr) (hlo:B≤lr) (hg:w.grownBy w3 vn.ownBlock) (hown:w3.ownsRow B 59 1 vn' (rows.length+1) (vs++[rv])) :
  ExW kt sz enc cel B B1 B2 B4 w3.heap.size (w3.setCell ⟨B4,0,none⟩ vn') met (rows++[x]) ends vm vn' ve:=by
 obtain⟨k1,k2,k3,k4⟩:=hk;have a:∀ e,59 ≠ e→Zb0 w vn.ownBlock e:=fun e he=>Zak h1.1 he
 have d3:Bx w3 B4 #[vn,ve] 32:=h.d.grown hg (a _ (by decide));have hg4:=ZaC w3 B4 0 vn';have b:∀ e,32 ≠ e→Zb0 w3 (some B4) e:=fun e he=>d3.apart he
 have r3:Bx w3 B1 #[.slice none 0 0,.slice none 0 0] 32:=h.r.grown hg (a _ (by decide));have n4:MapL Tryz.prog kt enc (w3.setCell ⟨B4,0,none⟩ vn') B2 (numbered met):=(h.n.grown hg (Zb6 h1.1)).grown hg4 d3.cells;refine⟨Zae (Zae h.m hg (a _ (Ne.symm k2))) hg4 (b _ (Ne.symm k4)),n4,?_,d3.set 0 vn',?_,Zae (Zae h.en hg (a _ (by decide))) hg4 (b _ (by decide)),h.ne⟩
 ·exact r3.set_ne _ _ h.ne
 exact(OIntSS.snoc h1 h2 h3 hrow hlr hlo (by decide) hg hown).grown hg4 (b _ (by decide)) (b _ (by decide))
theorem ExW.addEnd (hk:Own4 kt) (h:ExW kt sz enc cel B B1 B2 B4 hi w met rows ends vm vn ve) {w3:World} {ve':Value} {e:Bool} (hg:w.grownBy w3 ve.ownBlock) (hown:w3.ownsRow B 4 1 ve' (ends.length+1) (boolCells ends++[.bool e])) :
  ExW kt sz enc cel B B1 B2 B4 hi (w3.setCell ⟨B4,1,none⟩ ve') met rows (ends++[e]) vm vn ve':=by
 obtain⟨k1,k2,k3,k4⟩:=hk;have a:∀ t,4 ≠ t→Zb0 w ve.ownBlock t:=fun t ht=>Zak h.en ht
 have d3:Bx w3 B4 #[vn,ve] 32:=h.d.grown hg (a _ (by decide));have hg4:=ZaC w3 B4 1 ve';have b:∀ t,32 ≠ t→Zb0 w3 (some B4) t:=fun t ht=>d3.apart ht
 have r3:Bx w3 B1 #[.slice none 0 0,.slice none 0 0] 32:=h.r.grown hg (a _ (by decide));have n4:MapL Tryz.prog kt enc (w3.setCell ⟨B4,1,none⟩ ve') B2 (numbered met):=(h.n.grown hg (Zb6 h.en)).grown hg4 d3.cells;refine⟨Zae (Zae h.m hg (a _ (Ne.symm k3))) hg4 (b _ (Ne.symm k4)),n4,r3.set_ne _ _ h.ne,d3.set 1 ve',(h.nx.grown hg (a _ (by decide)) (a _ (by decide))).grown hg4 (b _ (by decide)) (b _ (by decide)),?_,h.ne⟩;refine Zae ?_ hg4 (b _ (by decide));simpa using hown
end
end Go.Proofs.YtehmjmjedopkkaaGreat
namespace Go.Proofs.YtehmjmjedopkkaaGreat
open Go.RowKit
structure Touch (e lo hi:Nat) (w w':World):Prop where
 os:w'.os=w.os
 tape:w'.tape=w.tape
 output:w'.output=w.output
 size:w.heap.size≤w'.heap.size
 block:∀ k,k<w.heap.size→((k<lo∨hi≤k)∨∀ cur fr,w.heap[k]? ≠ some (.cells cur e fr))→w'.heap[k]? = w.heap[k]?
theorem Touch.refl (e lo hi:Nat) (w:World):Touch e lo hi w w:=⟨rfl,rfl,rfl,Nat.le_refl _,fun _ _ _=>rfl⟩
theorem Touch.trans {e lo hi:Nat} {a b c:World} (h:Touch e lo hi a b) (k:Touch e lo hi b c):Touch e lo hi a c:=by
 refine⟨k.os.trans h.os,k.tape.trans h.tape,k.output.trans h.output,Nat.le_trans h.size k.size,fun i hi hh => ?_⟩;have e1:=h.block i hi hh;refine(k.block i (Nat.lt_of_lt_of_le hi h.size) ?_).trans e1;rcases hh with hh|hh
 ·exact .inl hh
 exact .inr (by rw[e1];exact hh)
theorem Touch.only {e lo hi:Nat} {a b:World} (h:Touch e lo hi a b):Only lo hi a b:=⟨h.os,h.tape,h.output,h.size,fun k hk hh=>h.block k hk (.inl hh)⟩
theorem Own.lt' {lo hi e size n:Nat} {w:World} {v:Value} {cs:List Value} (h:Own lo hi w e size v n cs):w.ownsRow lo e size v n cs:=h.1
theorem OIntSS.row {es e lo hi:Nat} {w w':World} {v:Value} {xss:List (List Int)} {vs:List Value} {x:List Int} {j:Nat} (hne:es≠e)
  (h1:Own lo hi w es 1 v xss.length vs) (h2:∀ i,i<xss.length→OInts e lo hi w (vs.getD i undef) (xss.getD i []))
  (h3:∀ i j k,i<j→j<xss.length→(vs.getD i undef).ownBlock=some k→(vs.getD j undef).ownBlock≠some k)
  (hj:j<xss.length) (hx:OInts e lo hi w' (vs.getD j undef) x) (hg:w.grownBy w' (vs.getD j undef).ownBlock) :
  Own lo hi w' es 1 v (xss.set j x).length vs∧(∀ i,i<(xss.set j x).length→OInts e lo hi w' (vs.getD i undef) ((xss.set j x).getD i [])) ∧
   (∀ i j' k,i<j'→j'<(xss.set j x).length→(vs.getD i undef).ownBlock=some k→(vs.getD j' undef).ownBlock≠some k):=by
 have ha:Zb0 w (vs.getD j undef).ownBlock es:=Zak (Own.lt' (h2 j hj)) (Ne.symm hne);rw[List.length_set];refine⟨h1.grown hg ha,fun i hi => ?_,h3⟩;by_cases hij:j=i
 ·subst hij;have:(xss.set j x).getD j []=x:=by simp[hj]
  rw[this];exact hx
 have:(xss.set j x).getD i []=xss.getD i []:=by simp[List.getElem?_set_ne hij]
 rw[this];refine Own.kept (h2 i hi) fun k hk=>hg.block k (Own.lt (h2 i hi) k hk).2.2 fun hr => ?_
 rcases Nat.lt_or_gt_of_ne hij with hlt|hgt
 ·exact h3 j i k hlt hi hr.symm hk
 exact h3 i j k hgt hj hk hr.symm
theorem Zlj {l:List Int} {k:Nat} (hk:k<l.length):setV (l.take (k+1))=adj (setV (l.take k)) (l.getD k 0).toNat:=by unfold setV;exact ZcQ _ _ hk 0
end Go.Proofs.YtehmjmjedopkkaaGreat
namespace Go.Proofs.YtehmjmjedopkkaaGreat
open Go.RowKit
abbrev nfaC (n:NfaD) (v1 v2 v3:Value):Array Value:=#[.int .i64 n.states,v1,v2,v3]
theorem ZgH {v:Nat} {c:Int} {u:Nat} {m:Int × Int × Int} (h:(decide (m.2.1=c)&&v.testBit m.1.toNat)=false):Zbx v c u m=u:=by unfold Zbx;simp[h]
end Go.Proofs.YtehmjmjedopkkaaGreat
namespace Go.Proofs.YtehmjmjedopkkaaGreat
open Go.RowKit
def fstV (n:NfaD):Nat:=clV 40 n.moves (setV n.firsts)
def endV (n:NfaD) (x:Nat):Bool:=n.ends.any fun s=>x.testBit s.toNat
def FlagsAt (w:World) (v:Value) (m x:Nat):Prop:=∃ B g cap,v = .slice (some ⟨g,0,none⟩) m cap∧w.ownsRow B 4 1 v m (boolCells (flags m x))
theorem FlagsAt.of {w:World} {B g cap m x:Nat} (h:w.ownsRow B 4 1 (.slice (some ⟨g,0,none⟩) m cap) m (boolCells (flags m x))):FlagsAt w (.slice (some ⟨g,0,none⟩) m cap) m x:=⟨_,_,_,rfl,h⟩
theorem FlagsAt.below {w w':World} {v:Value} {m x:Nat} (h:FlagsAt w v m x) (hb:Below w.heap.size w w'):FlagsAt w' v m x:=by obtain⟨B,g,cap,hv,h⟩:=h;exact⟨B,g,cap,hv,(Own.below (Zac h) hb).1⟩
theorem ZgM {m M:Nat} {ms:List (Int × Int × Int)} (h:mvIn m ms) (hm:m≤M):mvIn M ms:=fun x hx=>by have:=h x hx;omega
theorem ZlO {m:Nat} {ms:List (Int × Int × Int)} (h:mvIn m ms) (hm:m≤40):mvIn 40 ms:=fun x hx=>by have:=h x hx;omega
end Go.Proofs.YtehmjmjedopkkaaGreat
