/-
  The walks over the functions that copy an argument of a law into new memory.
  Conditions: the argument reads as a list; its length is at most 1048576.
  What lies in memory while states are explored: the states met, their numbers in a map, the automaton that grows.
  Conditions: the things met lie in blocks of a type of their own.
  The walks over the functions of the laws that write numbers into what a call has handed back, and look for them again.
  Conditions: what is written is the call's own; the numbers stay below ten thousand million.
-/
import Derived.Test.YtfikabecgaappaaGreatPr03KeysS
set_option maxHeartbeats 4000000
set_option maxRecDepth 100000
namespace Go.Proofs.YtfikabecgaappaaGreat
open Go.RowKit
theorem Tryz.infoInt:(Tryz.prog.info? 3).map (fun i=>(i.zero,i.size,i.bytes))=some (some (.int .i64 0),1,8):=by kernel_rfl
theorem Tryz.infoBool:(Tryz.prog.info? 4).map (fun i=>(i.zero,i.size,i.bytes))=some (some (.bool false),1,1):=by kernel_rfl
theorem Tryz.infoInts:(Tryz.prog.info? 26).map (fun i=>(i.zero,i.size,i.bytes))=some (some (.slice none 0 0),1,24):=by kernel_rfl
theorem ZcF {xs:List Value} {n k:Nat} {cs:List Value} {u:Value} (hl:cs.length=n) (hx:xs.length=n) (hk:k<n) (h:cs.take k=xs.take k) (hu:xs[k]? = some u) :
  (cs.set k u).take (k+1)=xs.take (k+1):=by
 apply List.ext_getElem?;intro j;rw[List.getElem?_take,List.getElem?_take];by_cases hj:j<k+1
 ·rw[if_pos hj,if_pos hj,List.getElem?_set];by_cases he:k=j
  ·subst he;rw[if_pos rfl,if_pos (by omega),hu]
  rw[if_neg he];have:=congrArg (fun l=>l[j]?) h;simpa [List.getElem?_take,show j<k by omega] using this
 rw[if_neg hj,if_neg hj]
def small (d:DfaD):Prop:=d.next.length≤1048576∧(∀ i,i<d.next.length→(d.next.getD i []).length≤1048576)∧d.ends.length≤1048576
end Go.Proofs.YtfikabecgaappaaGreat
namespace Go.Proofs.YtfikabecgaappaaGreat
open Go.RowKit Go.Maps
section
variable {α:Type}
structure ExW (kt sz:Nat) (enc:α→Value) (cel:α→List Value) (B B1 B2 B4 hi:Nat) (w:World) (met:List α) (rows:List (List Int)) (ends:List Bool) (vm vn ve:Value):Prop where
 m:w.ownsRow B kt sz vm met.length (met.flatMap cel)
 n:MapL Tryz.prog kt enc w B2 (numbered met)
 r:Bx w B1 #[.slice none 0 0,.slice none 0 0] 37
 d:Bx w B4 #[vn,ve] 37
 nx:OIntSS 26 3 B hi w vn rows
 en:w.ownsRow B 4 1 ve ends.length (boolCells ends)
 ne:B1≠B4
variable {kt sz B B1 B2 B4 hi:Nat} {enc:α→Value} {cel:α→List Value} {w w':World} {met:List α} {rows:List (List Int)} {ends:List Bool} {vm vn ve:Value}
theorem ExW.below (h:ExW kt sz enc cel B B1 B2 B4 hi w met rows ends vm vn ve) (hb:Below w.heap.size w w'):ExW kt sz enc cel B B1 B2 B4 hi w' met rows ends vm vn ve :=
 ⟨(Own.below (Zaa h.m) hb).1,h.n.below hb,h.r.below hb h.r.lt,h.d.below hb h.d.lt,h.nx.below hb,(Own.below (Zaa h.en) hb).1,h.ne⟩
theorem ExW.up {hi':Nat} (h:ExW kt sz enc cel B B1 B2 B4 hi w met rows ends vm vn ve) (hh:hi≤hi'):ExW kt sz enc cel B B1 B2 B4 hi' w met rows ends vm vn ve :=
 ⟨h.m,h.n,h.r,h.d,h.nx.mono (Nat.le_refl _) hh,h.en,h.ne⟩
def Own4 (kt:Nat):Prop:=kt ≠ 3 ∧ kt ≠ 26 ∧ kt ≠ 4 ∧ kt ≠ 37
theorem ExW.newState (hk:Own4 kt) (h:ExW kt sz enc cel B B1 B2 B4 hi w met rows ends vm vn ve) {x:α} {w1 w2 w3:World} {vm':Value} (hn:MapL Tryz.prog kt enc w1 B2 (numbered (met++[x]))) (hg1:w.grownBy w1 (some B2))
  (hb:Below w1.heap.size w1 w2) (hown:w3.ownsRow B kt sz vm' (met.length+1) (met.flatMap cel++cel x)) (hg2:w2.grownBy w3 vm.ownBlock) :
  ExW kt sz enc cel B B1 B2 B4 hi w3 (met++[x]) rows ends vm' vn ve:=by
 obtain⟨k1,k2,k3,k4⟩:=hk;have a:∀ e,ZbQ w (some B2) e:=fun e=>h.n.apart
 have m2:w2.ownsRow B kt sz vm met.length (met.flatMap cel):=(Own.below (Zaa (Zaf h.m hg1 (a _))) hb).1;have b:∀ e,kt≠e→ZbQ w2 vm.ownBlock e:=fun e he=>Zak m2 he
 refine⟨?_,(hn.below hb).grown hg2 (ZbW m2),?_,?_,?_,?_,h.ne⟩
 ·simpa using hown
 ·have r1:=h.r.grown hg1 (a _);exact(r1.below hb r1.lt).grown hg2 (b _ k4)
 ·have r1:=h.d.grown hg1 (a _);exact(r1.below hb r1.lt).grown hg2 (b _ k4)
 ·exact((h.nx.grown hg1 (a _) (a _)).below hb).grown hg2 (b _ k2) (b _ k1)
 exact Zaf (Own.below (Zaa (Zaf h.en hg1 (a _))) hb).1 hg2 (b _ k3)
theorem ExW.setRow (hk:Own4 kt) (h:ExW kt sz enc cel B B1 B2 B4 hi w met rows ends vm vn ve) {R n:Nat} {cs:List Value} (hR:hi≤R) {base:Nat} (hrow:w.ownsRow base 3 1 (.slice (some ⟨R,0,none⟩) n n) n cs) (j:Nat) (v:Value) :
  ExW kt sz enc cel B B1 B2 B4 hi (w.setCell ⟨R,j,none⟩ v) met rows ends vm vn ve:=by
 obtain⟨k1,k2,k3,k4⟩:=hk;have hg:=ZaC w R j v;have a:∀ e,3 ≠ e→ZbQ w (some R) e:=fun e he=>Zak (v:=.slice (some ⟨R,0,none⟩) n n) hrow he
 have c:Zfa w (some R):=ZbW (v:=.slice (some ⟨R,0,none⟩) n n) hrow;exact⟨Zaf h.m hg (a _ (Ne.symm k1)),h.n.grown hg c,h.r.grown hg (a _ (by decide)),h.d.grown hg (a _ (by decide)),h.nx.far hR j v,Zaf h.en hg (a _ (by decide)),h.ne⟩
theorem Zjg {w1 w2 w3:World} {R n base e:Nat} {cs:List Value} {vm:Value} {b2 mb:Nat} {ms:List Value} (hrow:w.ownsRow base e 1 (.slice (some ⟨R,0,none⟩) n n) n cs) (hne:kt≠e)
  (hm2:w2.ownsRow mb kt sz vm b2 ms) (ha:ZbQ w (some B2) e) (hg1:w.grownBy w1 (some B2)) (hb:Below w1.heap.size w1 w2) (hg2:w2.grownBy w3 vm.ownBlock):w3.ownsRow base e 1 (.slice (some ⟨R,0,none⟩) n n) n cs :=
 Zaf (Own.below (Zaa (Zaf hrow hg1 ha)) hb).1 hg2 (Zak hm2 hne)
theorem ExW.addRow (hk:Own4 kt) (h:ExW kt sz enc cel B B1 B2 B4 hi w met rows ends vm vn ve) {vs:List Value} {rv vn':Value} {x:List Int} {w3:World} {lr:Nat}
  (h1:Own B hi w 26 1 vn rows.length vs) (h2:∀ i,i<rows.length→OInts 3 B hi w (vs.getD i undef) (rows.getD i []))
  (h3:∀ i j k,i<j→j<rows.length→(vs.getD i undef).ownBlock=some k→(vs.getD j undef).ownBlock≠some k)
  (hrow:OInts 3 lr w.heap.size w rv x) (hlr:hi≤lr) (hlo:B≤lr) (hg:w.grownBy w3 vn.ownBlock) (hown:w3.ownsRow B 26 1 vn' (rows.length+1) (vs++[rv])) :
  ExW kt sz enc cel B B1 B2 B4 w3.heap.size (w3.setCell ⟨B4,0,none⟩ vn') met (rows++[x]) ends vm vn' ve:=by
 obtain⟨k1,k2,k3,k4⟩:=hk;have a:∀ e,26 ≠ e→ZbQ w vn.ownBlock e:=fun e he=>Zak h1.1 he
 have d3:Bx w3 B4 #[vn,ve] 37:=h.d.grown hg (a _ (by decide));have hg4:=ZaC w3 B4 0 vn';have b:∀ e,37 ≠ e→ZbQ w3 (some B4) e:=fun e he=>d3.apart he
 have r3:Bx w3 B1 #[.slice none 0 0,.slice none 0 0] 37:=h.r.grown hg (a _ (by decide));have n4:MapL Tryz.prog kt enc (w3.setCell ⟨B4,0,none⟩ vn') B2 (numbered met):=(h.n.grown hg (ZbW h1.1)).grown hg4 d3.cells;refine⟨Zaf (Zaf h.m hg (a _ (Ne.symm k2))) hg4 (b _ (Ne.symm k4)),n4,?_,d3.set 0 vn',?_,Zaf (Zaf h.en hg (a _ (by decide))) hg4 (b _ (by decide)),h.ne⟩
 ·exact r3.set_ne _ _ h.ne
 exact(OIntSS.snoc h1 h2 h3 hrow hlr hlo (by decide) hg hown).grown hg4 (b _ (by decide)) (b _ (by decide))
theorem ExW.addEnd (hk:Own4 kt) (h:ExW kt sz enc cel B B1 B2 B4 hi w met rows ends vm vn ve) {w3:World} {ve':Value} {e:Bool} (hg:w.grownBy w3 ve.ownBlock) (hown:w3.ownsRow B 4 1 ve' (ends.length+1) (boolCells ends++[.bool e])) :
  ExW kt sz enc cel B B1 B2 B4 hi (w3.setCell ⟨B4,1,none⟩ ve') met rows (ends++[e]) vm vn ve':=by
 obtain⟨k1,k2,k3,k4⟩:=hk;have a:∀ t,4 ≠ t→ZbQ w ve.ownBlock t:=fun t ht=>Zak h.en ht
 have d3:Bx w3 B4 #[vn,ve] 37:=h.d.grown hg (a _ (by decide));have hg4:=ZaC w3 B4 1 ve';have b:∀ t,37 ≠ t→ZbQ w3 (some B4) t:=fun t ht=>d3.apart ht
 have r3:Bx w3 B1 #[.slice none 0 0,.slice none 0 0] 37:=h.r.grown hg (a _ (by decide));have n4:MapL Tryz.prog kt enc (w3.setCell ⟨B4,1,none⟩ ve') B2 (numbered met):=(h.n.grown hg (ZbW h.en)).grown hg4 d3.cells;refine⟨Zaf (Zaf h.m hg (a _ (Ne.symm k3))) hg4 (b _ (Ne.symm k4)),n4,r3.set_ne _ _ h.ne,d3.set 1 ve',(h.nx.grown hg (a _ (by decide)) (a _ (by decide))).grown hg4 (b _ (by decide)) (b _ (by decide)),?_,h.ne⟩;refine Zaf ?_ hg4 (b _ (by decide));simpa using hown
end
end Go.Proofs.YtfikabecgaappaaGreat
namespace Go.Proofs.YtfikabecgaappaaGreat
open Go.RowKit
structure Touch (e lo hi:Nat) (w w':World):Prop where
 os:w'.os=w.os
 tape:w'.tape=w.tape
 output:w'.output=w.output
 size:w.heap.size≤w'.heap.size
 block:∀ k,k<w.heap.size→((k<lo∨hi≤k)∨∀ cur fr,w.heap[k]? ≠ some (.cells cur e fr))→w'.heap[k]? = w.heap[k]?
theorem Touch.refl (e lo hi:Nat) (w:World):Touch e lo hi w w:=⟨rfl,rfl,rfl,Nat.le_refl _,fun _ _ _=>rfl⟩
theorem Touch.trans {e lo hi:Nat} {a b c:World} (h:Touch e lo hi a b) (k:Touch e lo hi b c):Touch e lo hi a c:=by
 refine⟨k.os.trans h.os,k.tape.trans h.tape,k.output.trans h.output,Nat.le_trans h.size k.size,fun i hi hh => ?_⟩;have e1:=h.block i hi hh;refine(k.block i (Nat.lt_of_lt_of_le hi h.size) ?_).trans e1;rcases hh with hh|hh
 ·exact .inl hh
 exact .inr (by rw[e1];exact hh)
theorem Touch.only {e lo hi:Nat} {a b:World} (h:Touch e lo hi a b):Only lo hi a b:=⟨h.os,h.tape,h.output,h.size,fun k hk hh=>h.block k hk (.inl hh)⟩
theorem Own.lt' {lo hi e size n:Nat} {w:World} {v:Value} {cs:List Value} (h:Own lo hi w e size v n cs):w.ownsRow lo e size v n cs:=h.1
theorem OIntSS.row {es e lo hi:Nat} {w w':World} {v:Value} {xss:List (List Int)} {vs:List Value} {x:List Int} {j:Nat} (hne:es≠e)
  (h1:Own lo hi w es 1 v xss.length vs) (h2:∀ i,i<xss.length→OInts e lo hi w (vs.getD i undef) (xss.getD i []))
  (h3:∀ i j k,i<j→j<xss.length→(vs.getD i undef).ownBlock=some k→(vs.getD j undef).ownBlock≠some k)
  (hj:j<xss.length) (hx:OInts e lo hi w' (vs.getD j undef) x) (hg:w.grownBy w' (vs.getD j undef).ownBlock) :
  Own lo hi w' es 1 v (xss.set j x).length vs∧(∀ i,i<(xss.set j x).length→OInts e lo hi w' (vs.getD i undef) ((xss.set j x).getD i [])) ∧
   (∀ i j' k,i<j'→j'<(xss.set j x).length→(vs.getD i undef).ownBlock=some k→(vs.getD j' undef).ownBlock≠some k):=by
 have ha:ZbQ w (vs.getD j undef).ownBlock es:=Zak (Own.lt' (h2 j hj)) (Ne.symm hne);rw[List.length_set];refine⟨h1.grown hg ha,fun i hi => ?_,h3⟩;by_cases hij:j=i
 ·subst hij;have:(xss.set j x).getD j []=x:=by simp[hj]
  rw[this];exact hx
 have:(xss.set j x).getD i []=xss.getD i []:=by simp[List.getElem?_set_ne hij]
 rw[this];refine Own.kept (h2 i hi) fun k hk=>hg.block k (Own.lt (h2 i hi) k hk).2.2 fun hr => ?_
 rcases Nat.lt_or_gt_of_ne hij with hlt|hgt
 ·exact h3 j i k hlt hi hr.symm hk
 exact h3 i j k hgt hj hk hr.symm
theorem ZhG {l:List Int} {k:Nat} (hk:k<l.length):setV (l.take (k+1))=adj (setV (l.take k)) (l.getD k 0).toNat:=by unfold setV;exact ZbD _ _ hk 0
end Go.Proofs.YtfikabecgaappaaGreat
namespace Go.Proofs.YtfikabecgaappaaGreat
open Go.RowKit
abbrev nfaC (n:NfaD) (v1 v2 v3:Value):Array Value:=#[.int .i64 n.states,v1,v2,v3]
theorem Zdj {v:Nat} {c:Int} {u:Nat} {m:Int × Int × Int} (h:(decide (m.2.1=c)&&v.testBit m.1.toNat)=false):ZaI v c u m=u:=by unfold ZaI;simp[h]
end Go.Proofs.YtfikabecgaappaaGreat
namespace Go.Proofs.YtfikabecgaappaaGreat
open Go.RowKit
def fstV (n:NfaD):Nat:=clV 40 n.moves (setV n.firsts)
def endV (n:NfaD) (x:Nat):Bool:=n.ends.any fun s=>x.testBit s.toNat
def FlagsAt (w:World) (v:Value) (m x:Nat):Prop:=∃ B g cap,v = .slice (some ⟨g,0,none⟩) m cap∧w.ownsRow B 4 1 v m (boolCells (flags m x))
theorem FlagsAt.of {w:World} {B g cap m x:Nat} (h:w.ownsRow B 4 1 (.slice (some ⟨g,0,none⟩) m cap) m (boolCells (flags m x))):FlagsAt w (.slice (some ⟨g,0,none⟩) m cap) m x:=⟨_,_,_,rfl,h⟩
theorem FlagsAt.below {w w':World} {v:Value} {m x:Nat} (h:FlagsAt w v m x) (hb:Below w.heap.size w w'):FlagsAt w' v m x:=by obtain⟨B,g,cap,hv,h⟩:=h;exact⟨B,g,cap,hv,(Own.below (Zaa h) hb).1⟩
theorem Zc9 {m x s:Nat} (h:s<m):(boolCells (flags m x))[s]? = some (.bool (x.testBit s)):=by simp[flags,h]
theorem ZfN {m x s:Nat}:(boolCells (flags m x)).set s (.bool true)=boolCells (flags m (adj x s)):=by simp[boolCells,ZlP,List.map_set]
def Zmq (B m x:Nat) (e:Ending) (w':World):Prop:=∃ g cap,e = .returned (.slice (some ⟨g,0,none⟩) m cap)∧w'.ownsRow B 4 1 (.slice (some ⟨g,0,none⟩) m cap) m (boolCells (flags m x))
theorem Zgt {w:World} {B m:Nat} {v:Value} (h:w.ownsRow B 4 1 v m (madeCells (Value.bool false).cells (m*1)).toList):w.ownsRow B 4 1 v m (boolCells (flags m 0)):=by
 have e:(madeCells (Value.bool false).cells (m*1)).toList=boolCells (flags m 0):=by rw[Zkj];simp[madeCells,Value.cells,boolCells,Nat.mod_one,List.map_const']
 rwa [e] at h
theorem ZhY (l:List Int) (m:Nat) (v:Value) (w:World) (hm:m≤1000) (hl:inN m l) (hn:l.length≤1000000) (h:Ints 0 w v l) :
  Calls Tryz.prog 193 #[v,.int .i64 m] w fun e w'=>Zmq w.heap.size m (setV l) e w'∧Below w.heap.size w w':=by
 obtain⟨a1,c1,rfl,hc1,hm1,hr1⟩:=h.form;obtain⟨i0,hi,hz0,hz1,hz2⟩:=info_parts Tryz.infoBool;replace hr1:=qh hr1;replace hl:=qh hl;clear h
 go_enter Tryz.func193, Tryz.ntmps193
 go_wp2_with (at_make;refine wpList_make_full _ rfl _ _ 35 rfl w.heap.size 4 i0 (.bool false) 1 Tryz.underlying35 hi hz0 hz1 .i64 .i64 _ _ m rfl rfl rfl rfl (by rw[hz2];omega) (by unfold maxLen;omega) (Nat.le_refl _) ?_;intro w1 hown hgrow);have hS:=(St.start w).made ((Below.refl _ _).grown hgrow (Nat.le_refl _) (fun _ h=>by cases h)) (Zgt hown);replace hS:=qh hS;clear hown hgrow hi hz0 hz1 hz2
 go_loopw [6] (fun i wr=>∃ k:Nat,k≤l.length∧i = .int .i64 k∧St w wr [Ent.row 4 1 (.slice (some ⟨w.heap.size,0,none⟩) m m) m (boolCells (flags m (setV (l.take k))))])
  (fun i _=>l.length-(intOf i).toNat)
 case atStart=>exact⟨0,Nat.zero_le _,rfl,hS.out⟩
 case round =>
  obtain⟨k,hk,rfl,hS⟩:=hrel;by_cases hlt:k<l.length
  ·obtain⟨b1,o1,rfl,-,hbl,hcs⟩:=hr1.out (by omega);have hc:=(bcell hS.bel b1 _ hbl).trans (hcs k hlt);obtain⟨s0,s1⟩:=hl.out _ (memD (d:=0) hlt);obtain⟨s,hs⟩:=Int.eq_ofNat_of_zero_le s0;rw[hs] at hc s1;have d0:=hS.rcell 0 s rfl (by omega) (Zc9 (show s<m by omega));have f0:=hS.rfr 0 s rfl;have Hhs:=qh hs;clear hs;replace hS:=qh hS;clear hcs s0;go_wp2;go_roundw
   case rel =>refine⟨k+1,by omega,by go_num,?_⟩;have h:=hS.out.store 0 rfl s (.bool true);rw[ZfN] at h;rw[ZhG hlt,Hhs.out];exact h
   case measure=>simp[intOf];omega
  obtain rfl:k=l.length:=by omega
  rw[List.take_length] at hS;replace hS:=qh hS;go_wp2;go_ret;exact⟨⟨_,_,rfl,hS.out.row 0 rfl⟩,hS.out.bel⟩
theorem Zhx {xs:List Bool}:∀ u∈boolCells xs,u.oneCell'=true:=by intro u hu;obtain⟨q,-,rfl⟩:=List.mem_map.1 hu;rfl
theorem ZmH {w:World} {B e size g m c:Nat} {cs:List Value} (h:w.ownsRow B e size (.slice (some ⟨g,0,none⟩) m c) m cs):∀ j u,cs[j]? = some u→w.cell? ((⟨g,0,none⟩:Addr).add j)=some u:=fun j u hu=>by
 have hadd:(⟨g,0,none⟩:Addr).add j=⟨g,j,none⟩:=by unfold Addr.add;split<;>simp_all
 have hj:j<m*size:=by rw[← h.1];exact(List.getElem?_eq_some_iff.1 hu).1
 rw[hadd];exact(h.cellAt j hj).trans hu
theorem Zfu {m M:Nat} {ms:List (Int × Int × Int)} (h:mvIn m ms) (hm:m≤M):mvIn M ms:=fun x hx=>by have:=h x hx;omega
theorem Zlk {m:Nat} {ms:List (Int × Int × Int)} (h:mvIn m ms) (hm:m≤40):mvIn 40 ms:=fun x hx=>by have:=h x hx;omega
theorem ZeE (M:Nat) (hM:M≤1000) (n:NfaD) (m x:Nat) (v1 v2 v3 bv:Value) (w:World) (hm:m≤M) (hmv:mvIn m n.moves) (hml:n.moves.length≤1000000) (hx:x<2 ^ m) (h1:Moves 0 w v1 n.moves) (hbv:FlagsAt w bv m x) :
  Calls Tryz.prog 192 #[.agg (nfaC n v1 v2 v3),bv] w fun e w'=>Zmq w.heap.size m (clV M n.moves x) e w'∧Below w.heap.size w w':=by
 obtain⟨a1,c1,rfl,hc1,hm1,hr1⟩:=h1.form;obtain⟨Bv,gv,cv,rfl,hbr⟩:=hbv;obtain⟨i0,hi,hz0,hz1,hz2⟩:=info_parts Tryz.infoBool;obtain⟨ms,hms⟩:=eI (n.moves);rw[← hms] at hmv hml hc1 hr1;rw[← hms];have hmv40:=Zfu hmv hm;have hlx:∀ j,clIt ms x j<2 ^ m:=ZcT hmv hx;have hS0:=((St.start w).alloc _ rfl (nfaC n (.slice a1 ms.length c1) v2 v3) 28).alloc (w.heap.size+1) (by simp) #[] 4;have hbr1:=(Own.below (Zaa hbr) (((Below.refl w.heap.size w).alloc (Nat.le_refl _) (.cells (nfaC n (.slice a1 ms.length c1) v2 v3) 28)).alloc (by simp) (.cells #[] 4))).1;have hS1:=hS0.boxrow 1 0 1 [] rfl rfl (by omega);have hE:((w.alloc (.cells (nfaC n (.slice a1 ms.length c1) v2 v3) 28)).alloc (.cells #[] 4)).ownsRow (w.heap.size+1) 4 1 (.slice (some ⟨w.heap.size+1,0,none⟩) 0 0) 0 []:=Zg2 (cs:=[]) (hS0.box 1 rfl) rfl (Nat.le_refl _) (by omega);replace hE:=qh hE;have Hhr1:=qh hr1;clear hr1;have Hhmv:=qh hmv;clear hmv;have Hhmv40:=qh hmv40;clear hmv40;have Hhx:=qh hx;clear hx;have Hhlx:=qh hlx;clear hlx;have Hhms:=qh hms;clear hms;have Hhi:=qh hi;clear hi;have Hhz0:=qh hz0;clear hz0;have Hhz1:=qh hz1;clear hz1;have Hhz2:=qh hz2;clear hz2;have Hhbr1:=qh hbr1;clear hbr1;have HhS1:=qh hS1;clear hS1;clear h1 hbr hS0
 go_enter Tryz.func192, Tryz.ntmps192
 go_wp2_with (at_builtin;refine wpList_append_own_wide _ rfl _ _ _ rfl (w.heap.size+1) 4 i0 (.bool false) 1 1 Tryz.underlying35 Hhi.out Hhz0.out Hhz1.out Hhz2.out rfl (by omega) _ 0 _ rfl hE.out ⟨gv,0,none⟩ m cv (boolCells (flags m x)) rfl (by simp[flags]) (ZmH Hhbr1.out) Zhx (by unfold maxLen;omega) (by omega) (by simp) ?_;intro v6 w6 hown6 hgrow6 hnil6;have Hown6:=qh hown6;have Hgrow6:=qh hgrow6;have Hnil6:=qh hnil6;clear hown6 hgrow6 hnil6);rw[Nat.zero_add,List.nil_append] at Hown6
 have hS6:=HhS1.out.grow 1 rfl Hgrow6.out Hown6.out (fun k hk=>by
  have h1:=(Own.lt (Zaa Hown6.out) k hk).1;by_cases h2:k=w.heap.size+1
  ·exact Or.inl (by rw[h2];rfl)
  right;simp only[World.size_alloc];omega)
 obtain⟨g,cap,hv6⟩:∃ g cap,v6 = .slice (some ⟨g,0,none⟩) m cap:=by
  rcases Hown6.out.2 with⟨h1,-⟩|⟨g',cap',cur,h1,-⟩
  ·exact absurd (Hnil6.out.1 h1).1 (fun e=>by cases e)
  exact⟨g',cap',h1⟩
 subst hv6;have HhS6:=qh hS6;clear hS6;clear Hown6 Hgrow6 Hnil6;obtain⟨B0,hB0⟩:=eI (w.heap.size)
 go_loopg [6] (M+2) (fun g' ag wr=>∃ j:Nat,g'=M+2-j∧(∃ ab:Bool,ag = .bool ab∧ab=(decide (j=0) || !decide (clIt ms x j=clIt ms x (j-1)))) ∧
   St w wr [Ent.box w.heap.size (nfaC n (.slice a1 ms.length c1) v2 v3) 28,Ent.row 4 1 (.slice (some ⟨g,0,none⟩) m cap) m (boolCells (flags m (clIt ms x j)))])
 case atStart=>exact⟨0,rfl,⟨true,rfl,by simp⟩,HhS6.out⟩
 case round =>
  obtain⟨j,rfl,⟨ab,rfl,hab⟩,hS⟩:=hrel;obtain⟨wo,hwo⟩:∃ wo:World,wo=wr:=⟨_,rfl⟩;subst hwo;have e1:=hS.cell 0 1 rfl rfl;have Hhab:=qh hab;clear hab;have HhS:=qh hS;clear hS;cases ab
  ·have hj:clIt ms x (j-1+1)=clIt ms x (j-1)∧j-1+1=j:=by
    have h:=Hhab.out;simp at h;have:j-1+1=j:=by omega
    rw[this];exact⟨h.2,rfl⟩
   have hv:clIt ms x j=clV M ms x:=by rw[ZnG Hhmv40.out hj.1,← hj.1,hj.2]
   have Hhj:=qh hj;clear hj;have Hhv:=qh hv;clear hv;go_wp2;go_ret;refine⟨⟨_,_,rfl,?_⟩,HhS.out.bel⟩;rw[← Hhv.out];exact HhS.out.row 1 rfl
  obtain⟨X,hX⟩:=eI (clIt ms x j);have HhX:=qh hX;clear hX;go_wp2
  go_loopw [6,7] (fun ag i wi=>∃ k:Nat,k≤ms.length∧i = .int .i64 k∧(∃ ab:Bool,ag = .bool ab∧ab = !decide ((ms.take k).foldl Zan X=X)) ∧
    St w wi [Ent.box w.heap.size (nfaC n (.slice a1 ms.length c1) v2 v3) 28,Ent.row 4 1 (.slice (some ⟨g,0,none⟩) m cap) m (boolCells (flags m ((ms.take k).foldl Zan X)))])
   (fun _ i _=>ms.length-(intOf i).toNat)
  case atStart=>exact⟨0,Nat.zero_le _,rfl,⟨false,rfl,by simp⟩,by rw[HhX.out];exact HhS.out⟩
  case round =>
   obtain⟨k,hk,rfl,⟨ag,rfl,hag⟩,hSi⟩:=hrel;obtain⟨C,hC⟩:=eI ((ms.take k).foldl Zan X);have hCm:C<2 ^ m:=by rw[hC];exact Zcp _ (fun v=>v<2 ^ m) (fun v m hmm hv=>ZfW Hhmv.out hmm hv) (by rw[HhX.out];exact Hhlx.out j) k
   rw[← hC] at hSi hag;clear e1;have e1:=hSi.cell 0 1 rfl rfl;by_cases hlt:k<ms.length
   ·obtain⟨b1,o1,rfl,-,hbl,hcs⟩:=Hhr1.out (by omega);obtain⟨p1,p2,p3⟩:=hcs k hlt;replace p1:=(bcell hSi.bel b1 _ hbl).trans p1;replace p2:=(bcell hSi.bel b1 _ hbl).trans p2;replace p3:=(bcell hSi.bel b1 _ hbl).trans p3;have hmm:=Hhmv.out _ (memD (d:=(0,0,0)) hlt);have hsucc:=ZbD Zan X hlt (0,0,0);rw[← hC] at hsucc;have hne1:=Zif (v:=X) Hhmv40.out hlt;have hne2:=Zdw (v:=X) Hhmv40.out hlt;rw[← hC] at hne1 hne2;obtain⟨mm,hmd⟩:=eI (ms.getD k (0,0,0));rw[← hmd] at p1 p2 p3 hmm hsucc hne1;obtain⟨f,l,t⟩:=mm;simp only at p1 p2 p3 hmm;obtain⟨⟨f0,f1⟩,t0,t1⟩:=hmm;obtain⟨f,rfl⟩:=Int.eq_ofNat_of_zero_le f0;obtain⟨t,rfl⟩:=Int.eq_ofNat_of_zero_le t0;have hfm:f<m:=by omega
    have htm:t<m:=by omega
    have hSa:=hSi.alloc _ rfl #[.int .i64 (f:Int),.int .i64 l,.int .i64 (t:Int)] 72;have cf:=hSa.rcell 1 f rfl (by omega) (Zc9 hfm);have ct:=hSa.rcell 1 t rfl (by omega) (Zc9 htm);have ff:=hSa.rfr 1 t rfl;have hkk:(k:Int)<ms.length:=by omega
    have Hstay:=qh (fun (h:Zan C ((f:Int),l,(t:Int))=C)=>(show(ms.take (k+1)).foldl Zan X=C from hsucc.trans h));replace hC:=qh hC;have HhCm:=qh hCm;clear hCm;have Hhag:=qh hag;clear hag;have Hhsucc:=qh hsucc;clear hsucc;have Hhne1:=qh hne1;clear hne1;have Hhne2:=qh hne2;clear hne2;have Hhmd:=qh hmd;clear hmd;have HhSi:=qh hSi;clear hSi;have HhSa:=qh hSa;clear hSa;clear hcs f0 t0
    have Hsame:=qh (fun (h:Zan C ((f:Int),l,(t:Int))=C)=>(show ∃ k':Nat,k'≤ms.length∧Value.int .i64 ((k:Int)+1) = .int .i64 (k':Int)∧(∃ ab:Bool,Value.bool ag = .bool ab∧ab = !decide ((ms.take k').foldl Zan X=X)) ∧
      St w (wr.alloc (.cells #[.int .i64 (f:Int),.int .i64 l,.int .i64 (t:Int)] 72)) [Ent.box w.heap.size (nfaC n (.slice (some ⟨b1,o1,none⟩) ms.length c1) v2 v3) 28,Ent.row 4 1 (.slice (some ⟨g,0,none⟩) m cap) m (boolCells (flags m ((ms.take k').foldl Zan X)))] from
      ⟨k+1,by omega,by go_num,⟨ag,rfl,by rw[Hstay.out h];exact Hhag.out⟩,by rw[Hstay.out h];exact HhSa.out.pick [0,1] (by decide)⟩))
    by_cases hl:l = -1
    ·subst hl;cases hf:C.testBit f
     ·rw[hf] at cf;have Hhf:=qh hf;clear hf;have hst:=Hsame.out (by unfold Zan;simp[Hhf.out]);have Hhst:=qh hst;clear hst;go_wp2;go_roundw
      case rel=>exact Hhst.out
      case measure=>simp[intOf];omega
     cases ht:C.testBit t
     ·rw[hf] at cf;rw[ht] at ct;have Hhf:=qh hf;clear hf;have Hht:=qh ht;clear ht;go_wp2;go_roundw
      case rel =>
       have hcm:Zan C ((f:Int),-1,(t:Int))=adj C t:=by unfold Zan;simp[Hhf.out,Hht.out]
       have hne:Zan C ((f:Int),-1,(t:Int))≠C:=by rw[hcm];intro e;have:=ZbT C t t;rw[e,Hht.out] at this;simp at this
       have hs2:(ms.take (k+1)).foldl Zan X=adj C t:=Hhsucc.out.trans hcm;refine⟨k+1,by omega,by go_num,⟨true,rfl,?_⟩,?_⟩
       ·rw[decide_eq_false (Hhne1.out hne)];rfl
       rw[hs2,← ZfN];exact(HhSa.out.store 1 rfl t (.bool true)).pick [0,1] (by decide)
      case measure=>simp[intOf];omega
     rw[hf] at cf;rw[ht] at ct;have Hhf:=qh hf;clear hf;have Hht:=qh ht;clear ht;have hst:=Hsame.out (by unfold Zan;simp[Hhf.out,Hht.out]);have Hhst:=qh hst;clear hst;go_wp2;go_roundw
     case rel=>exact Hhst.out
     case measure=>simp[intOf];omega
    have hst:=Hsame.out (by unfold Zan;simp[hl]);have hl1:(l == -1)=false:=by simpa using hl
    have Hhst:=qh hst;clear hst;have Hhl:=qh hl;clear hl;go_wp2;go_roundw
    case rel=>exact Hhst.out
    case measure=>simp[intOf];omega
   obtain rfl:k=ms.length:=by omega
   rw[List.take_length] at hC;have hn:C=clIt ms x (j+1):=by rw[hC,HhX.out];rfl
   have hj0:j<M+2:=by
    by_cases h0:j=0
    ·omega
    have h:=Hhab.out;simp[h0] at h;have:=Zeu (k:=j-1) Hhmv40.out (by rw[show j-1+1=j by omega];exact h);omega
   replace hC:=qh hC;have Hhn:=qh hn;clear hn;have Hhag:=qh hag;clear hag;have HhSi:=qh hSi;clear hSi;go_wp2
   go_roundg (M+2-(j+1))
   case measure=>omega
   case rel =>refine⟨j+1,rfl,⟨ag,rfl,?_⟩,by rw[← Hhn.out];exact HhSi.out⟩;rw[Hhag.out,← Hhn.out,show j+1-1=j by omega,← HhX.out];simp
theorem ZiN (M:Nat) (hM:M≤1000) (n:NfaD) (m x:Nat) (c:Int) (v1 v2 v3 bv:Value) (w:World) (hns:n.states=(m:Int)) (hm:m≤M) (hmv:mvIn m n.moves) (hml:n.moves.length≤1000000) (h1:Moves 0 w v1 n.moves) (hbv:Bools 0 w bv (flags m x)) :
  Calls Tryz.prog 194 #[.agg (nfaC n v1 v2 v3),bv,.int .i64 c] w fun e w'=>Zmq w.heap.size m (stV M n.moves x c) e w'∧Below w.heap.size w w':=by
 have H1:=qh h1;obtain⟨a1,c1,rfl,hc1,hm1,hr1⟩:=h1.form;obtain⟨av,cv,rfl,hcv,hmv',hbr⟩:=hbv.form;rw[ZfO] at hcv hbr;rw[ZfO];clear hbv;obtain⟨i0,hi,hz0,hz1,hz2⟩:=info_parts Tryz.infoBool;obtain⟨ms,hms⟩:=eI (n.moves);have hmv2:=hmv;have hml2:=hml;rw[← hms] at hmv hml hc1 hr1;have hst:stV M n.moves x c=clV M ms (ms.foldl (ZaI x c) 0):=by rw[hms];rfl
 have hfm40:ms.foldl (ZaI x c) 0<2 ^ m:=Zbu _ (fun v=>v<2 ^ m) (fun _ _ hmm hv=>Zca hmv hmm hv) (Nat.two_pow_pos m);obtain⟨ln,hln⟩:=eI (ms.length);have hlnn:ln=n.moves.length:=by rw[hln,hms]
 rw[← hlnn] at H1;rw[← hlnn];rw[← hln] at hc1 hr1 hml;have hS0:=(St.start w).alloc _ rfl (nfaC n (.slice a1 ln c1) v2 v3) 28;have e0:=hS0.cell (v:=.int .i64 (m:Int)) 0 0 rfl (by simp[nfaC,hns]);replace hns:=qh hns;have Hhr1:=qh hr1;clear hr1;replace hmv:=qh hmv;have Hhmv2:=qh hmv2;clear hmv2;replace hml2:=qh hml2;have Hhms:=qh hms;clear hms;have Hhst:=qh hst;clear hst;replace hfm40:=qh hfm40;have Hhln:=qh hln;clear hln;have Hhlnn:=qh hlnn;clear hlnn;have Hhi:=qh hi;clear hi;have Hhz0:=qh hz0;clear hz0;have Hhz1:=qh hz1;clear hz1;have Hhz2:=qh hz2;clear hz2;replace hbr:=qh hbr;replace hS0:=qh hS0;clear h1
 go_enter Tryz.func194, Tryz.ntmps194
 go_wp2_with (at_make;refine wpList_make_full _ rfl _ _ 35 rfl _ 4 i0 (.bool false) 1 Tryz.underlying35 Hhi.out Hhz0.out Hhz1.out .i64 .i64 _ _ m rfl rfl rfl rfl (by rw[Hhz2.out];omega) (by unfold maxLen;omega) (Nat.le_refl _) ?_;intro w1 hown hgrow);have hS1:=hS0.out.made ((Below.refl _ _).grown hgrow (Nat.le_refl _) (fun _ h=>by cases h)) (Zgt hown);rw[World.size_alloc] at hS1;have hb1:=hS1.bel;have HhS1:=qh hS1;clear hS1;clear hown hgrow e0
 go_loopw [8] (fun i wi=>∃ k:Nat,k≤ln∧i = .int .i64 k∧St w wi [Ent.box w.heap.size (nfaC n (.slice a1 ln c1) v2 v3) 28,Ent.row 4 1 (.slice (some ⟨w.heap.size+1,0,none⟩) m m) m (boolCells (flags m ((ms.take k).foldl (ZaI x c) 0)))])
  (fun i _=>ln-(intOf i).toNat)
 case atStart=>exact⟨0,Nat.zero_le _,rfl,HhS1.out⟩
 case round =>
  obtain⟨k,hk,rfl,hSi⟩:=hrel;obtain⟨C,hC⟩:=eI ((ms.take k).foldl (ZaI x c) 0);rw[← hC] at hSi;have e1:=hSi.cell (v:=.slice a1 ln c1) 0 1 rfl rfl;clear hb1;by_cases hlt:k<ln
  ·have hlt':k<ms.length:=by rw[← Hhln.out];exact hlt
   obtain⟨b1,o1,rfl,-,hbl,hcs⟩:=Hhr1.out (by omega);obtain⟨p1,p2,p3⟩:=hcs k hlt;replace p1:=(bcell hSi.bel b1 _ hbl).trans p1;replace p2:=(bcell hSi.bel b1 _ hbl).trans p2;replace p3:=(bcell hSi.bel b1 _ hbl).trans p3;have hmm:=hmv.out _ (memD (d:=(0,0,0)) hlt');have hsucc:=ZbD (ZaI x c) 0 hlt' (0,0,0);rw[← hC] at hsucc;obtain⟨mm,hmd⟩:=eI (ms.getD k (0,0,0));rw[← hmd] at p1 p2 p3 hmm hsucc;obtain⟨f,l,t⟩:=mm;simp only at p1 p2 p3 hmm;obtain⟨⟨f0,f1⟩,t0,t1⟩:=hmm;obtain⟨f,rfl⟩:=Int.eq_ofNat_of_zero_le f0;obtain⟨t,rfl⟩:=Int.eq_ofNat_of_zero_le t0;have hfm:f<m:=by omega
   have htm:t<m:=by omega
   have hSa:=hSi.alloc _ rfl #[.int .i64 (f:Int),.int .i64 l,.int .i64 (t:Int)] 72;have hal:=(Below.refl w.heap.size w).trans hSa.bel;obtain⟨gv,ov,rfl,-,hgl,hbc⟩:=hbr.out (by omega);have cf:=(bcell hal gv (ov+f) hgl).trans (hbc f hfm);rw[Zeq hfm] at cf;clear hbc;have ct:=hSa.rcell 1 t rfl (by omega) (Zc9 htm);have ff:=hSa.rfr 1 t rfl;have hkk:(k:Int)<ln:=by omega
   replace hC:=qh hC;have Hhsucc:=qh hsucc;clear hsucc;have Hhmd:=qh hmd;clear hmd;have HhSi:=qh hSi;clear hSi;have HhSa:=qh hSa;clear hSa;clear hcs f0 t0 hal
   have Hsame:=qh (fun (h:ZaI x c C ((f:Int),l,(t:Int))=C)=>(show ∃ k':Nat,k'≤ln∧Value.int .i64 ((k:Int)+1) = .int .i64 (k':Int) ∧
     St w (wr.alloc (.cells #[.int .i64 (f:Int),.int .i64 l,.int .i64 (t:Int)] 72)) [Ent.box w.heap.size (nfaC n (.slice (some ⟨b1,o1,none⟩) ln c1) v2 v3) 28,Ent.row 4 1 (.slice (some ⟨w.heap.size+1,0,none⟩) m m) m (boolCells (flags m ((ms.take k').foldl (ZaI x c) 0)))] from
     ⟨k+1,by omega,by go_num,by rw[Hhsucc.out,h];exact HhSa.out.pick [0,1] (by decide)⟩))
   by_cases hl:l=c
   ·subst hl;cases hf:x.testBit f
    ·rw[hf] at cf;have Hhf:=qh hf;clear hf;have hst:=Hsame.out (Zdj (by simp[Hhf.out]));have Hhst:=qh hst;clear hst;go_wp2;go_roundw
     case rel=>exact Hhst.out
     case measure=>simp[intOf];omega
    rw[hf] at cf;have Hhf:=qh hf;clear hf;go_wp2;go_roundw
    case rel =>
     have hcm:ZaI x l C ((f:Int),l,(t:Int))=adj C t:=by unfold ZaI;simp[Hhf.out]
     refine⟨k+1,by omega,by go_num,?_⟩;rw[Hhsucc.out.trans hcm,← ZfN];exact(HhSa.out.store 1 rfl t (.bool true)).pick [0,1] (by decide)
    case measure=>simp[intOf];omega
   have hst:=Hsame.out (Zdj (by simp[hl]));have hl1:(l==c)=false:=by simpa using hl
   have Hhst:=qh hst;clear hst;have Hhl:=qh hl;clear hl;go_wp2;go_roundw
   case rel=>exact Hhst.out
   case measure=>simp[intOf];omega
  have hkn:(ms.take k).foldl (ZaI x c) 0=ms.foldl (ZaI x c) 0:=by rw[List.take_of_length_le (by rw[← Hhln.out];omega)]
  have hCm:C<2 ^ m:=by rw[hC,hkn];exact hfm40.out
  have HM':=qh (H1.out.below hSi.bel);have HF:Hid (FlagsAt wr (.slice (some ⟨w.heap.size+1,0,none⟩) m m) m C):=qh ⟨_,_,_,rfl,hSi.row 1 rfl⟩;have d0:=hSi.cell (v:=.int .i64 n.states) 0 0 rfl rfl;have d2:=hSi.cell (v:=v2) 0 2 rfl rfl;have d3:=hSi.cell (v:=v3) 0 3 rfl rfl;replace hC:=qh hC;have Hhkn:=qh hkn;clear hkn;have HhSi:=qh hSi;clear hSi;have HhCm:=qh hCm;clear hCm;go_wp2_with fail;refine(ZeE M hM n m C (.slice a1 ln c1) v2 v3 _ _ hm Hhmv2.out hml2.out HhCm.out HM'.out HF.out).mono ?_;rintro e w2 ⟨⟨g2,c2,rfl,hr2⟩,hb2⟩;have hS2:=HhSi.out.made hb2 hr2;have hVs:clV M n.moves C=stV M n.moves x c:=by rw[Hhst.out,hC.out,Hhkn.out,Hhms.out]
  have HhS2:=qh hS2;clear hS2;have HhVs:=qh hVs;clear hVs;clear hr2 hb2;go_wp2;go_ret;refine⟨⟨_,_,rfl,?_⟩,HhS2.out.bel⟩;rw[← HhVs.out];exact HhS2.out.row 2 rfl
def BoolSS (B:Nat) (w:World) (v:Value) (xss:List (List Bool)):Prop :=
 ∃ vs:List Value,Sl B w v xss.length 1 vs∧∀ i,i<xss.length→Bools B w (vs.getD i undef) (xss.getD i [])
theorem BoolSS.below {B:Nat} {w w':World} {v:Value} {xss:List (List Bool)} (h:BoolSS B w v xss) (he:Below w.heap.size w w'):BoolSS B w' v xss:=by obtain⟨vs,h1,h2⟩:=h;exact⟨vs,h1.below he,fun i hi=>(h2 i hi).below he⟩
theorem BoolSS.form {B:Nat} {w:World} {v:Value} {xss:List (List Bool)} (h:BoolSS B w v xss):∃ a cap,v = .slice a xss.length cap∧xss.length≤cap∧cap≤9223372036854775807 ∧
  (0<xss.length→∃ b off,a=some ⟨b,off,none⟩∧b<w.heap.size∧∀ i,i<xss.length→∃ a' cap',w.cell? ⟨b,off+i,none⟩=some (.slice a' (xss.getD i []).length cap')∧Bools B w (.slice a' (xss.getD i []).length cap') (xss.getD i [])):=by
 obtain⟨vs,⟨hl,a,cap,hv,h1,h2,h3⟩,hr⟩:=h;refine⟨a,cap,hv,h1,h2,fun hn => ?_⟩;obtain⟨b,off,ha,hb,hlt,hc⟩:=h3 hn;refine⟨b,off,ha,hlt,fun i hi => ?_⟩;obtain⟨a',cap',hv',-⟩:=(hr i hi).form;refine⟨a',cap',?_,?_⟩
 ·rw[hc i (by omega),← hv'];simp at hl;simp[show i<vs.length by omega]
 rw[← hv'];exact hr i hi
theorem St.boolSS {w0 w:World} {L:List Ent} (h:St w0 w L) (i:Nat) {es e:Nat} {v:Value} {vs:List Value} {xss:List (List Bool)} (hx:L[i]? = some (Ent.rows es e v vs (xss.map boolCells))):BoolSS 0 w v xss:=by
 obtain⟨p1,p2,-⟩:=h.rows i hx;rw[List.length_map] at p1 p2;refine⟨vs,((Zaa p1).sl (by omega)).mono (Nat.zero_le _),fun i hi => ?_⟩;have:=p2 i hi;have e1:(xss.map boolCells).getD i []=boolCells (xss.getD i []):=by simp[hi]
 rw[e1] at this;have:=((Zaa this).sl (by omega)).mono (Nat.zero_le _);simpa [Bools] using this
theorem St.bools {w0 w:World} {L:List Ent} (h:St w0 w L) (i:Nat) {e:Nat} {v:Value} {xs:List Bool} {n:Nat} (hx:L[i]? = some (Ent.row e 1 v n (boolCells xs))):Bools 0 w v xs:=by
 have hr:=h.row i hx;have e1:n=xs.length:=by have:=hr.1;simp at this;omega
 subst e1;exact((Zaa hr).sl (by omega)).mono (Nat.zero_le _)
theorem St.intsR {w0 w:World} {L:List Ent} (h:St w0 w L) (i:Nat) {e:Nat} {v:Value} {xs:List Int} {n:Nat} (hx:L[i]? = some (Ent.row e 1 v n (intCells xs))):Ints 0 w v xs:=by
 have hr:=h.row i hx;have e1:n=xs.length:=by have:=hr.1;simp at this;omega
 subst e1;exact((Zaa hr).sl (by omega)).mono (Nat.zero_le _)
theorem Zil {w:World} {B e n:Nat} {v:Value} {xs:List Bool} (hr:w.ownsRow B e 1 v n (boolCells xs)):Bools 0 w v xs:=by
 have e1:n=xs.length:=by have:=hr.1;simp at this;omega
 subst e1;exact((Zaa hr).sl (by omega)).mono (Nat.zero_le _)
theorem ZaO {w:World} {B e n:Nat} {v:Value} {xs:List Bool} (hr:w.ownsRow B e 1 v n (boolCells xs)):Bools B w v xs:=by
 have e1:n=xs.length:=by have:=hr.1;simp at this;omega
 subst e1;exact(Zaa hr).sl (by omega)
theorem St.rowAt {w0 w:World} {L:List Ent} (h:St w0 w L) (i:Nat) {es e g n cap:Nat} {vs:List Value} {css:List (List Value)} (hx:L[i]? = some (Ent.rows es e (.slice (some ⟨g,0,none⟩) n cap) vs css)) (hn:css.length=n) {k:Nat} (hk:k<n) :
  ∃ a c,w.cell? ⟨g,k,none⟩=some (.slice a (css.getD k []).length c)∧w.ownsRow w0.heap.size e 1 (.slice a (css.getD k []).length c) (css.getD k []).length (css.getD k [])∧(css.getD k []).length≤c∧c≤9223372036854775807∧n≤cap∧cap≤9223372036854775807∧g<w.heap.size:=by
 obtain⟨p1,p2,-⟩:=h.rows i hx;subst hn;have hv:vs.length=css.length:=by have:=p1.1;omega
 have h2:=p2 k hk;have hc:=p1.cellAt k (by omega);have hgl:=(p1.lt g rfl).2
 obtain⟨a,c,hva,h3,h4⟩:∃ a c,vs.getD k undef = .slice a (css.getD k []).length c∧(css.getD k []).length≤c∧c≤9223372036854775807:=by
  rcases h2.2 with⟨h5,h6⟩|⟨g',cap',cur,h5,-,-,h6,h7,-⟩
  ·exact⟨none,0,by rw[h5,h6],by omega,by omega⟩
  exact⟨_,_,h5,h6,h7⟩
 rw[hva] at h2;refine⟨a,c,?_,h2,h3,h4,?_⟩
 ·rw[hc,← hva];simp[show k<vs.length by omega]
 rcases p1.2 with⟨h5,-⟩|⟨g',cap',cur,h5,-,-,h6,h7,-⟩
 ·cases h5
 simp only[Value.slice.injEq,true_and] at h5;obtain⟨-,rfl⟩:=h5;exact⟨h6,h7,hgl⟩
theorem Zj9 (xs ys:List Bool) (n:Nat) (v1 v2:Value) (w:World) (hx:xs.length=n) (hy:ys.length=n) (h1:Bools 0 w v1 xs) (h2:Bools 0 w v2 ys) (r:Bool) (hr:decide (xs=ys)=r) :
  Calls Tryz.prog 197 #[v1,v2] w fun e w'=>e = .returned (.bool r)∧Below w.heap.size w w':=by
 obtain⟨a1,c1,rfl,hc1,hm1,hr1⟩:=h1.form;obtain⟨a2,c2,rfl,hc2,hm2,hr2⟩:=h2.form;rw[hx] at hc1 hr1;rw[hy] at hc2 hr2;rw[hx,hy];replace hx:=qh hx;have Hhy:=qh hy;clear hy;replace hr:=qh hr;clear h1 h2
 go_enter Tryz.func197, Tryz.ntmps197
 go_wp2
 go_loopw [4,5] (fun r i wr=>∃ k:Nat,k≤n∧i = .int .i64 k∧xs.take k=ys.take k∧Below w.heap.size w wr) (fun _ i _=>n-(intOf i).toNat)
 case atStart=>exact⟨0,Nat.zero_le _,rfl,rfl,Below.refl _ _⟩
 case round =>
  obtain⟨k,hk,rfl,htk,hb⟩:=hrel;have Hhtk:=qh htk;clear htk;by_cases hlt:k<n
  ·obtain⟨b1,o1,rfl,-,hbl1,hcs1⟩:=hr1 (by omega);obtain⟨b2,o2,rfl,-,hbl2,hcs2⟩:=hr2 (by omega);have k1:=(bcell hb b1 (o1+k) hbl1).trans (hcs1 k hlt);have k2:=(bcell hb b2 (o2+k) hbl2).trans (hcs2 k hlt);obtain⟨p,hp⟩:=eI (xs.getD k false);obtain⟨q,hq⟩:=eI (ys.getD k false);rw[← hp] at k1;rw[← hq] at k2;replace hp:=qh hp;have Hhq:=qh hq;clear hq;replace hb:=qh hb;clear hcs1 hcs2 hr1 hr2;by_cases hpq:p=q
   ·have g1:(p != q)=false:=by simpa using hpq
    have g2:(!(p==q))=false:=by simpa using hpq
    have Hhpq:=qh hpq;clear hpq;go_wp2
    go_quiet (fail)
    go_wp2;go_roundw
    case rel=>exact⟨k+1,by omega,by go_num,Zez (d:=false) (by rw[hx.out];exact hlt) (by rw[Hhy.out];exact hlt) Hhtk.out (by rw[← hp.out,← Hhq.out];exact Hhpq.out),below_drewN hb.out _⟩
    case measure=>simp[intOf];omega
   have g1:(p != q)=true:=by simpa using hpq
   have g2:(!(p==q))=true:=by simpa using hpq
   have Hhpq:=qh hpq;clear hpq;go_wp2
   go_quiet (fail)
   go_wp2;go_ret;exact⟨by rw[← hr.out,decide_eq_false (Zgs (k:=k) (d:=false) (by rw[← hp.out,← Hhq.out];exact Hhpq.out))];rfl,below_drewN hb.out _⟩
  obtain rfl:k=n:=by omega
  replace hb:=qh hb;clear hr1 hr2;go_wp2;go_ret;refine⟨?_,hb.out⟩;have h:=Hhtk.out;rw[List.take_of_length_le (by rw[hx.out];exact Nat.le_refl _),List.take_of_length_le (by rw[Hhy.out];exact Nat.le_refl _)] at h;rw[← hr.out,decide_eq_true h];rfl
def Zhm (S:List (List Bool)) (x:List Bool):Int:=if x∈S then(Zai S x:Int) else -1
theorem Zjw {S:List (List Bool)} {x:List Bool} {k:Nat} (hk:k<S.length) (hn:x ∉ S.take k) (h:S.getD k []=x):Zhm S x=(k:Int):=by
 have hm:x∈S:=by rw[← h];exact memD hk
 have hp:S.take k++[x] <+: S:=by rw[← h,show S.getD k []=S[k] from by simp[hk],← List.take_succ_eq_append_getElem hk];exact List.take_prefix _ _
 have hi:=Ze6 hp hn;unfold Zhm;rw[if_pos hm,hi];simp;omega
theorem ZgB {S:List (List Bool)} {x:List Bool} (h:x ∉ S):Zhm S x = -1:=by unfold Zhm;rw[if_neg h]
theorem ZgN {α:Type} {S:List α} {k:Nat} (hk:k<S.length) (x:α) {d:α} (h:x∈S.take (k+1)):x∈S.take k∨x=S.getD k d:=by
 rw[List.take_succ_eq_append_getElem hk,List.mem_append,List.mem_singleton] at h;rcases h with h|h
 ·exact Or.inl h
 right;rw[h];simp[hk]
theorem Zka (S:List (List Bool)) (x:List Bool) (n:Nat) (v1 v2:Value) (w:World) (hS:∀ y∈S,y.length=n) (hx:x.length=n) (hl:S.length≤1000000) (h1:BoolSS 0 w v1 S) (h2:Bools 0 w v2 x) :
  Calls Tryz.prog 195 #[v1,v2] w fun e w'=>e = .returned (.int .i64 (Zhm S x))∧Below w.heap.size w w':=by
 obtain⟨a1,c1,rfl,hc1,hm1,hr1⟩:=h1.form;have H2:=qh h2;obtain⟨a2,c2,rfl,hc2,hm2,-⟩:=h2.form;replace hS:=qh hS;have Hhx:=qh hx;clear hx;clear h1 h2
 go_enter Tryz.func195, Tryz.ntmps195
 go_wp2
 go_loopw [4,5] (fun r i wr=>∃ k:Nat,k≤S.length∧i = .int .i64 k∧x ∉ S.take k∧Below w.heap.size w wr) (fun _ i _=>S.length-(intOf i).toNat)
 case atStart=>exact⟨0,Nat.zero_le _,rfl,by simp,Below.refl _ _⟩
 case round =>
  obtain⟨k,hk,rfl,htk,hb⟩:=hrel;have Hhtk:=qh htk;clear htk;by_cases hlt:k<S.length
  ·obtain⟨b1,o1,rfl,hbl1,hcs1⟩:=hr1 (by omega);obtain⟨a3,c3,k1,hrow⟩:=hcs1 k hlt;replace k1:=(bcell hb b1 (o1+k) hbl1).trans k1;have hrow':=hrow.below hb;have hyl:=hS.out _ (memD (d:=[]) hlt);have hin:=fun h=>ZgN (d:=[]) hlt x h
   obtain⟨y,hy⟩:=eI (S.getD k []);rw[← hy] at k1 hrow' hyl hin;have Hhrow':=qh hrow';clear hrow';have Hhyl:=qh hyl;clear hyl;have Hhin:=qh hin;clear hin;have Hhy:=qh hy;clear hy;have Hhb:=qh hb;clear hb;clear hcs1 hr1 hrow;cases hd:decide (y=x)
   all_goals
    have Hhd:=qh hd;clear hd;go_wp2_with fail;refine(Zj9 y x n _ _ _ Hhyl.out Hhx.out Hhrow'.out (H2.out.below Hhb.out) _ Hhd.out).mono ?_;rintro e w2 ⟨rfl,hb2⟩;have hb3:=Hhb.out.trans (hb2.mono Hhb.out.size);have Hhb3:=qh hb3;clear hb3;clear hb2;go_wp2
   ·go_roundw
    case rel=>exact⟨k+1,by omega,by go_num,fun h=>by rcases Hhin.out h with h|h;exact Hhtk.out h;exact of_decide_eq_false Hhd.out h.symm,Hhb3.out⟩
    case measure=>simp[intOf];omega
   go_ret;exact⟨Zdz (by rw[Zjw hlt Hhtk.out (by rw[← Hhy.out];exact of_decide_eq_true Hhd.out)]),Hhb3.out⟩
  obtain rfl:k=S.length:=by omega
  have Hhb:=qh hb;clear hb;clear hr1;go_wp2;go_ret;refine⟨Zdz (by rw[ZgB];have h:=Hhtk.out;rwa [List.take_length] at h),Hhb.out⟩
end Go.Proofs.YtfikabecgaappaaGreat
namespace Go.Proofs.YtfikabecgaappaaGreat
open Go.RowKit
def subV (v u:Nat):Prop:=∀ s,v.testBit s=true→u.testBit s=true
theorem ZdH (v:Nat):subV v v:=fun _ h=>h
theorem Zgh {a b c:Nat} (h:subV a b) (h':subV b c):subV a c:=fun s hs=>h' s (h s hs)
theorem ZkD {a b:Nat} (h:subV a b) (h':subV b a):a=b:=by apply Nat.eq_of_testBit_eq;intro i;have h1:=h i;have h2:=h' i;cases ha:a.testBit i<;>cases hb:b.testBit i<;>simp_all
theorem Zmz (v s:Nat):subV v (adj v s):=fun t ht=>by rw[ZbT,ht];rfl
theorem ZgD (v:Nat) (m:Int × Int × Int):subV v (Zan v m):=by
 unfold Zan
 split
 ·exact Zmz _ _
 exact ZdH _
theorem Zev:∀ (ms:List (Int × Int × Int)) (v:Nat),subV v (ms.foldl Zan v)
 | [],v=>ZdH v
 | m::ms,v=>Zgh (ZgD v m) (Zev ms _)
theorem ZjG (ms:List (Int × Int × Int)) (v:Nat):∀ k,subV v (clIt ms v k)
 | 0=>ZdH v
 | k+1=>Zgh (ZjG ms v k) (Zev ms _)
def ZbE (ms:List (Int × Int × Int)) (u:Nat):Prop:=∀ m∈ms,m.2.1 = -1→u.testBit m.1.toNat=true→u.testBit m.2.2.toNat=true
theorem Zmb {ms:List (Int × Int × Int)} {u v:Nat} (hu:ZbE ms u) (h:subV v u) {m:Int × Int × Int} (hm:m∈ms):subV (Zan v m) u:=by
 unfold Zan
 split
 ·rename_i hc;simp only[Bool.and_eq_true,decide_eq_true_eq] at hc;intro s hs;rw[ZbT,Bool.or_eq_true] at hs;rcases hs with hs|hs
  ·exact h s hs
  rw[← of_decide_eq_true hs];exact hu m hm hc.1.1 (h _ hc.1.2)
 exact h
theorem Zig {ms:List (Int × Int × Int)} {u:Nat} (hu:ZbE ms u):∀ (l:List (Int × Int × Int)) (v:Nat),(∀ m∈l,m∈ms)→subV v u→subV (l.foldl Zan v) u
 | [],_,_,h=>h
 | m::l,v,hl,h=>Zig hu l _ (fun x hx=>hl x (by simp[hx])) (Zmb hu h (hl m (by simp)))
theorem Zmc {ms:List (Int × Int × Int)} {u v:Nat} (hu:ZbE ms u) (h:subV v u):∀ k,subV (clIt ms v k) u
 | 0=>h
 | k+1=>Zig hu ms _ (fun _ hx=>hx) (Zmc hu h k)
theorem Zob {n:Nat} {ms:List (Int × Int × Int)} (h:mvIn n ms) (v:Nat):Zie ms (clV n ms v)=clV n ms v:=by
 rcases Zd5 h v n with h1|h1
 ·exact h1
 have:=Zl5 n v;omega
theorem Zjt:∀ {l:List (Int × Int × Int)} {v:Nat},l.foldl Zan v=v→∀ m∈l,Zan v m=v
 | [],_,_,_,hm=>by cases hm
 | m::l,v,h,x,hx=>by
  have h1:Zan v m=v:=ZkD (by have:=Zev l (Zan v m);rw[List.foldl_cons] at h;rw[h] at this;exact this) (ZgD v m);rw[List.foldl_cons,h1] at h;rcases List.mem_cons.1 hx with rfl|hx
  ·exact h1
  exact Zjt h x hx
theorem Zb8 {n:Nat} {ms:List (Int × Int × Int)} (h:mvIn n ms) (v:Nat):ZbE ms (clV n ms v):=by
 intro m hm hl hf;have h1:=Zjt (Zob h v) m hm;cases ht:(clV n ms v).testBit m.2.2.toNat with
 | true=>rfl
 | false =>exfalso;unfold Zan at h1;rw[if_pos (by simp[hl,hf,ht])] at h1;have:=ZbT (clV n ms v) m.2.2.toNat m.2.2.toNat;rw[h1,ht] at this;simp at this
theorem ZfV (n:Nat) (ms:List (Int × Int × Int)) (v:Nat):subV v (clV n ms v):=ZjG ms v n
theorem Zl8 {n:Nat} {ms:List (Int × Int × Int)} {u v:Nat} (hu:ZbE ms u) (h:subV v u):subV (clV n ms v) u:=Zmc hu h n
theorem Ze8 {n:Nat} {ms:List (Int × Int × Int)} {u:Nat} (hu:ZbE ms u):clV n ms u=u:=ZkD (Zl8 hu (ZdH u)) (ZfV n ms u)
theorem Zjc:∀ (l:List Int) (v t:Nat),(l.foldl (fun v s=>adj v s.toNat) v).testBit t=(v.testBit t||l.any fun s=>decide (s.toNat=t))
 | [],v,t=>by simp
 | s::l,v,t=>by rw[List.foldl_cons,Zjc l,ZbT,List.any_cons,Bool.or_assoc]
theorem ZgR (l:List Int) (t:Nat):(setV l).testBit t=l.any fun s=>decide (s.toNat=t):=by unfold setV;rw[Zjc];simp
theorem Zjb {l:List Int} {x:Int} (hx:x∈l):(setV l).testBit x.toNat=true:=by rw[ZgR,List.any_eq_true];exact⟨x,hx,by simp⟩
end Go.Proofs.YtfikabecgaappaaGreat
