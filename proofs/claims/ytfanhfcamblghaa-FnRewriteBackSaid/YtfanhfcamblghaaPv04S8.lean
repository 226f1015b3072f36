/-
  The walks over the functions that copy an argument of a law into new memory.
  Conditions: the argument reads as a list; its length is at most 1048576.
  What lies in memory while states are explored: the states met, their numbers in a map, the automaton that grows.
  Conditions: the things met lie in blocks of a type of their own.
  The walks over the functions of the laws that write numbers into what a call has handed back, and look for them again.
  Conditions: what is written is the call's own; the numbers stay below ten thousand million.
-/
import Derived.Test.YtfanhfcamblghaaPv02Nk
set_option maxHeartbeats 4000000
set_option maxRecDepth 100000
namespace Go.Proofs.Ytfanhfcamblghaa
open Go.RowKit
theorem Try.infoInt:(Try.prog.info? 3).map (fun i=>(i.zero,i.size,i.bytes))=some (some (.int .i64 0),1,8):=by kernel_rfl
theorem Try.infoBool:(Try.prog.info? 4).map (fun i=>(i.zero,i.size,i.bytes))=some (some (.bool false),1,1):=by kernel_rfl
theorem Try.infoInts:(Try.prog.info? 26).map (fun i=>(i.zero,i.size,i.bytes))=some (some (.slice none 0 0),1,24):=by kernel_rfl
theorem Zdh {xs:List Value} {n k:Nat} {cs:List Value} {u:Value} (hl:cs.length=n) (hx:xs.length=n) (hk:k<n) (h:cs.take k=xs.take k) (hu:xs[k]? = some u) :
  (cs.set k u).take (k+1)=xs.take (k+1):=by
 apply List.ext_getElem?;intro j;rw[List.getElem?_take,List.getElem?_take];by_cases hj:j<k+1
 ·rw[if_pos hj,if_pos hj,List.getElem?_set];by_cases he:k=j
  ·subst he;rw[if_pos rfl,if_pos (by omega),hu]
  rw[if_neg he];have:=congrArg (fun l=>l[j]?) h;simpa [List.getElem?_take,show j<k by omega] using this
 rw[if_neg hj,if_neg hj]
end Go.Proofs.Ytfanhfcamblghaa
namespace Go.Proofs.Ytfanhfcamblghaa
open Go.RowKit Go.Maps
section
variable {α:Type}
structure ExW (kt sz:Nat) (enc:α→Value) (cel:α→List Value) (B B1 B2 B4 hi:Nat) (w:World) (met:List α) (rows:List (List Int)) (ends:List Bool) (vm vn ve:Value):Prop where
 m:w.ownsRow B kt sz vm met.length (met.flatMap cel)
 n:MapL Try.prog kt enc w B2 (numbered met)
 r:Bx w B1 #[.slice none 0 0,.slice none 0 0] 45
 d:Bx w B4 #[vn,ve] 45
 nx:OIntSS 26 3 B hi w vn rows
 en:w.ownsRow B 4 1 ve ends.length (boolCells ends)
 ne:B1≠B4
variable {kt sz B B1 B2 B4 hi:Nat} {enc:α→Value} {cel:α→List Value} {w w':World} {met:List α} {rows:List (List Int)} {ends:List Bool} {vm vn ve:Value}
theorem ExW.below (h:ExW kt sz enc cel B B1 B2 B4 hi w met rows ends vm vn ve) (hb:Below w.heap.size w w'):ExW kt sz enc cel B B1 B2 B4 hi w' met rows ends vm vn ve :=
 ⟨(Own.below (Zaa h.m) hb).1,h.n.below hb,h.r.below hb h.r.lt,h.d.below hb h.d.lt,h.nx.below hb,(Own.below (Zaa h.en) hb).1,h.ne⟩
theorem ExW.up {hi':Nat} (h:ExW kt sz enc cel B B1 B2 B4 hi w met rows ends vm vn ve) (hh:hi≤hi'):ExW kt sz enc cel B B1 B2 B4 hi' w met rows ends vm vn ve :=
 ⟨h.m,h.n,h.r,h.d,h.nx.mono (Nat.le_refl _) hh,h.en,h.ne⟩
def Own4 (kt:Nat):Prop:=kt ≠ 3 ∧ kt ≠ 26 ∧ kt ≠ 4 ∧ kt ≠ 45
theorem ExW.newState (hk:Own4 kt) (h:ExW kt sz enc cel B B1 B2 B4 hi w met rows ends vm vn ve) {x:α} {w1 w2 w3:World} {vm':Value} (hn:MapL Try.prog kt enc w1 B2 (numbered (met++[x]))) (hg1:w.grownBy w1 (some B2))
  (hb:Below w1.heap.size w1 w2) (hown:w3.ownsRow B kt sz vm' (met.length+1) (met.flatMap cel++cel x)) (hg2:w2.grownBy w3 vm.ownBlock) :
  ExW kt sz enc cel B B1 B2 B4 hi w3 (met++[x]) rows ends vm' vn ve:=by
 obtain⟨k1,k2,k3,k4⟩:=hk;have a:∀ e,ZbI w (some B2) e:=fun e=>h.n.apart
 have m2:w2.ownsRow B kt sz vm met.length (met.flatMap cel):=(Own.below (Zaa (Zae h.m hg1 (a _))) hb).1;have b:∀ e,kt≠e→ZbI w2 vm.ownBlock e:=fun e he=>Zaj m2 he
 refine⟨?_,(hn.below hb).grown hg2 (Zby m2),?_,?_,?_,?_,h.ne⟩
 ·simpa using hown
 ·have r1:=h.r.grown hg1 (a _);exact(r1.below hb r1.lt).grown hg2 (b _ k4)
 ·have r1:=h.d.grown hg1 (a _);exact(r1.below hb r1.lt).grown hg2 (b _ k4)
 ·exact((h.nx.grown hg1 (a _) (a _)).below hb).grown hg2 (b _ k2) (b _ k1)
 exact Zae (Own.below (Zaa (Zae h.en hg1 (a _))) hb).1 hg2 (b _ k3)
theorem ExW.setRow (hk:Own4 kt) (h:ExW kt sz enc cel B B1 B2 B4 hi w met rows ends vm vn ve) {R n:Nat} {cs:List Value} (hR:hi≤R) {base:Nat} (hrow:w.ownsRow base 3 1 (.slice (some ⟨R,0,none⟩) n n) n cs) (j:Nat) (v:Value) :
  ExW kt sz enc cel B B1 B2 B4 hi (w.setCell ⟨R,j,none⟩ v) met rows ends vm vn ve:=by
 obtain⟨k1,k2,k3,k4⟩:=hk;have hg:=ZaS w R j v;have a:∀ e,3 ≠ e→ZbI w (some R) e:=fun e he=>Zaj (v:=.slice (some ⟨R,0,none⟩) n n) hrow he
 have c:ZdX w (some R):=Zby (v:=.slice (some ⟨R,0,none⟩) n n) hrow;exact⟨Zae h.m hg (a _ (Ne.symm k1)),h.n.grown hg c,h.r.grown hg (a _ (by decide)),h.d.grown hg (a _ (by decide)),h.nx.far hR j v,Zae h.en hg (a _ (by decide)),h.ne⟩
theorem Zj4 {w1 w2 w3:World} {R n base e:Nat} {cs:List Value} {vm:Value} {b2 mb:Nat} {ms:List Value} (hrow:w.ownsRow base e 1 (.slice (some ⟨R,0,none⟩) n n) n cs) (hne:kt≠e)
  (hm2:w2.ownsRow mb kt sz vm b2 ms) (ha:ZbI w (some B2) e) (hg1:w.grownBy w1 (some B2)) (hb:Below w1.heap.size w1 w2) (hg2:w2.grownBy w3 vm.ownBlock):w3.ownsRow base e 1 (.slice (some ⟨R,0,none⟩) n n) n cs :=
 Zae (Own.below (Zaa (Zae hrow hg1 ha)) hb).1 hg2 (Zaj hm2 hne)
theorem ExW.addRow (hk:Own4 kt) (h:ExW kt sz enc cel B B1 B2 B4 hi w met rows ends vm vn ve) {vs:List Value} {rv vn':Value} {x:List Int} {w3:World} {lr:Nat}
  (h1:Own B hi w 26 1 vn rows.length vs) (h2:∀ i,i<rows.length→OInts 3 B hi w (vs.getD i undef) (rows.getD i []))
  (h3:∀ i j k,i<j→j<rows.length→(vs.getD i undef).ownBlock=some k→(vs.getD j undef).ownBlock≠some k)
  (hrow:OInts 3 lr w.heap.size w rv x) (hlr:hi≤lr) (hlo:B≤lr) (hg:w.grownBy w3 vn.ownBlock) (hown:w3.ownsRow B 26 1 vn' (rows.length+1) (vs++[rv])) :
  ExW kt sz enc cel B B1 B2 B4 w3.heap.size (w3.setCell ⟨B4,0,none⟩ vn') met (rows++[x]) ends vm vn' ve:=by
 obtain⟨k1,k2,k3,k4⟩:=hk;have a:∀ e,26 ≠ e→ZbI w vn.ownBlock e:=fun e he=>Zaj h1.1 he
 have d3:Bx w3 B4 #[vn,ve] 45:=h.d.grown hg (a _ (by decide));have hg4:=ZaS w3 B4 0 vn';have b:∀ e,45 ≠ e→ZbI w3 (some B4) e:=fun e he=>d3.apart he
 have r3:Bx w3 B1 #[.slice none 0 0,.slice none 0 0] 45:=h.r.grown hg (a _ (by decide));have n4:MapL Try.prog kt enc (w3.setCell ⟨B4,0,none⟩ vn') B2 (numbered met):=(h.n.grown hg (Zby h1.1)).grown hg4 d3.cells;refine⟨Zae (Zae h.m hg (a _ (Ne.symm k2))) hg4 (b _ (Ne.symm k4)),n4,?_,d3.set 0 vn',?_,Zae (Zae h.en hg (a _ (by decide))) hg4 (b _ (by decide)),h.ne⟩
 ·exact r3.set_ne _ _ h.ne
 exact(OIntSS.snoc h1 h2 h3 hrow hlr hlo (by decide) hg hown).grown hg4 (b _ (by decide)) (b _ (by decide))
theorem ExW.addEnd (hk:Own4 kt) (h:ExW kt sz enc cel B B1 B2 B4 hi w met rows ends vm vn ve) {w3:World} {ve':Value} {e:Bool} (hg:w.grownBy w3 ve.ownBlock) (hown:w3.ownsRow B 4 1 ve' (ends.length+1) (boolCells ends++[.bool e])) :
  ExW kt sz enc cel B B1 B2 B4 hi (w3.setCell ⟨B4,1,none⟩ ve') met rows (ends++[e]) vm vn ve':=by
 obtain⟨k1,k2,k3,k4⟩:=hk;have a:∀ t,4 ≠ t→ZbI w ve.ownBlock t:=fun t ht=>Zaj h.en ht
 have d3:Bx w3 B4 #[vn,ve] 45:=h.d.grown hg (a _ (by decide));have hg4:=ZaS w3 B4 1 ve';have b:∀ t,45 ≠ t→ZbI w3 (some B4) t:=fun t ht=>d3.apart ht
 have r3:Bx w3 B1 #[.slice none 0 0,.slice none 0 0] 45:=h.r.grown hg (a _ (by decide));have n4:MapL Try.prog kt enc (w3.setCell ⟨B4,1,none⟩ ve') B2 (numbered met):=(h.n.grown hg (Zby h.en)).grown hg4 d3.cells;refine⟨Zae (Zae h.m hg (a _ (Ne.symm k3))) hg4 (b _ (Ne.symm k4)),n4,r3.set_ne _ _ h.ne,d3.set 1 ve',(h.nx.grown hg (a _ (by decide)) (a _ (by decide))).grown hg4 (b _ (by decide)) (b _ (by decide)),?_,h.ne⟩;refine Zae ?_ hg4 (b _ (by decide));simpa using hown
end
end Go.Proofs.Ytfanhfcamblghaa
namespace Go.Proofs.Ytfanhfcamblghaa
open Go.RowKit
structure Touch (e lo hi:Nat) (w w':World):Prop where
 os:w'.os=w.os
 tape:w'.tape=w.tape
 output:w'.output=w.output
 size:w.heap.size≤w'.heap.size
 block:∀ k,k<w.heap.size→((k<lo∨hi≤k)∨∀ cur fr,w.heap[k]? ≠ some (.cells cur e fr))→w'.heap[k]? = w.heap[k]?
theorem Touch.refl (e lo hi:Nat) (w:World):Touch e lo hi w w:=⟨rfl,rfl,rfl,Nat.le_refl _,fun _ _ _=>rfl⟩
theorem Touch.trans {e lo hi:Nat} {a b c:World} (h:Touch e lo hi a b) (k:Touch e lo hi b c):Touch e lo hi a c:=by
 refine⟨k.os.trans h.os,k.tape.trans h.tape,k.output.trans h.output,Nat.le_trans h.size k.size,fun i hi hh => ?_⟩;have e1:=h.block i hi hh;refine(k.block i (Nat.lt_of_lt_of_le hi h.size) ?_).trans e1;rcases hh with hh|hh
 ·exact .inl hh
 exact .inr (by rw[e1];exact hh)
theorem Touch.only {e lo hi:Nat} {a b:World} (h:Touch e lo hi a b):Only lo hi a b:=⟨h.os,h.tape,h.output,h.size,fun k hk hh=>h.block k hk (.inl hh)⟩
theorem Own.lt' {lo hi e size n:Nat} {w:World} {v:Value} {cs:List Value} (h:Own lo hi w e size v n cs):w.ownsRow lo e size v n cs:=h.1
theorem OIntSS.row {es e lo hi:Nat} {w w':World} {v:Value} {xss:List (List Int)} {vs:List Value} {x:List Int} {j:Nat} (hne:es≠e)
  (h1:Own lo hi w es 1 v xss.length vs) (h2:∀ i,i<xss.length→OInts e lo hi w (vs.getD i undef) (xss.getD i []))
  (h3:∀ i j k,i<j→j<xss.length→(vs.getD i undef).ownBlock=some k→(vs.getD j undef).ownBlock≠some k)
  (hj:j<xss.length) (hx:OInts e lo hi w' (vs.getD j undef) x) (hg:w.grownBy w' (vs.getD j undef).ownBlock) :
  Own lo hi w' es 1 v (xss.set j x).length vs∧(∀ i,i<(xss.set j x).length→OInts e lo hi w' (vs.getD i undef) ((xss.set j x).getD i [])) ∧
   (∀ i j' k,i<j'→j'<(xss.set j x).length→(vs.getD i undef).ownBlock=some k→(vs.getD j' undef).ownBlock≠some k):=by
 have ha:ZbI w (vs.getD j undef).ownBlock es:=Zaj (Own.lt' (h2 j hj)) (Ne.symm hne);rw[List.length_set];refine⟨h1.grown hg ha,fun i hi => ?_,h3⟩;by_cases hij:j=i
 ·subst hij;have:(xss.set j x).getD j []=x:=by simp[hj]
  rw[this];exact hx
 have:(xss.set j x).getD i []=xss.getD i []:=by simp[List.getElem?_set_ne hij]
 rw[this];refine Own.kept (h2 i hi) fun k hk=>hg.block k (Own.lt (h2 i hi) k hk).2.2 fun hr => ?_
 rcases Nat.lt_or_gt_of_ne hij with hlt|hgt
 ·exact h3 j i k hlt hi hr.symm hk
 exact h3 i j k hgt hj hk hr.symm
theorem ZiH {l:List Int} {k:Nat} (hk:k<l.length):setV (l.take (k+1))=adj (setV (l.take k)) (l.getD k 0).toNat:=by unfold setV;exact Zb0 _ _ hk 0
end Go.Proofs.Ytfanhfcamblghaa
namespace Go.Proofs.Ytfanhfcamblghaa
open Go.RowKit
abbrev nfaC (n:NfaD) (v1 v2 v3:Value):Array Value:=#[.int .i64 n.states,v1,v2,v3]
theorem ZeN {v:Nat} {c:Int} {u:Nat} {m:Int × Int × Int} (h:(decide (m.2.1=c)&&v.testBit m.1.toNat)=false):Zbv v c u m=u:=by unfold Zbv;simp[h]
end Go.Proofs.Ytfanhfcamblghaa
namespace Go.Proofs.Ytfanhfcamblghaa
open Go.RowKit
def endV (n:NfaD) (x:Nat):Bool:=n.ends.any fun s=>x.testBit s.toNat
def FlagsAt (w:World) (v:Value) (m x:Nat):Prop:=∃ B g cap,v = .slice (some ⟨g,0,none⟩) m cap∧w.ownsRow B 4 1 v m (boolCells (flags m x))
theorem FlagsAt.of {w:World} {B g cap m x:Nat} (h:w.ownsRow B 4 1 (.slice (some ⟨g,0,none⟩) m cap) m (boolCells (flags m x))):FlagsAt w (.slice (some ⟨g,0,none⟩) m cap) m x:=⟨_,_,_,rfl,h⟩
theorem FlagsAt.below {w w':World} {v:Value} {m x:Nat} (h:FlagsAt w v m x) (hb:Below w.heap.size w w'):FlagsAt w' v m x:=by obtain⟨B,g,cap,hv,h⟩:=h;exact⟨B,g,cap,hv,(Own.below (Zaa h) hb).1⟩
theorem Zct {m x s:Nat} (h:s<m):(boolCells (flags m x))[s]? = some (.bool (x.testBit s)):=by simp[flags,h]
theorem Zer {m x s:Nat}:(boolCells (flags m x)).set s (.bool true)=boolCells (flags m (adj x s)):=by simp[boolCells,Zjx,List.map_set]
def ZjT (B m x:Nat) (e:Ending) (w':World):Prop:=∃ g cap,e = .returned (.slice (some ⟨g,0,none⟩) m cap)∧w'.ownsRow B 4 1 (.slice (some ⟨g,0,none⟩) m cap) m (boolCells (flags m x))
theorem ZeX {w:World} {B m:Nat} {v:Value} (h:w.ownsRow B 4 1 v m (madeCells (Value.bool false).cells (m*1)).toList):w.ownsRow B 4 1 v m (boolCells (flags m 0)):=by
 have e:(madeCells (Value.bool false).cells (m*1)).toList=boolCells (flags m 0):=by rw[Ziu];simp[madeCells,Value.cells,boolCells,Nat.mod_one,List.map_const']
 rwa [e] at h
theorem Zgm (l:List Int) (m:Nat) (v:Value) (w:World) (hm:m≤1000) (hl:inN m l) (hn:l.length≤1000000) (h:Ints 0 w v l) :
  Calls Try.prog 164 #[v,.int .i64 m] w fun e w'=>ZjT w.heap.size m (setV l) e w'∧Below w.heap.size w w':=by
 obtain⟨a1,c1,rfl,hc1,hm1,hr1⟩:=h.form;obtain⟨i0,hi,hz0,hz1,hz2⟩:=info_parts Try.infoBool;replace hr1:=qh hr1;replace hl:=qh hl;clear h
 go_enter Try.func164, Try.ntmps164
 go_wp2_with (at_make;refine wpList_make_full _ rfl _ _ 43 rfl w.heap.size 4 i0 (.bool false) 1 Try.underlying43 hi hz0 hz1 .i64 .i64 _ _ m rfl rfl rfl rfl (by rw[hz2];omega) (by unfold maxLen;omega) (Nat.le_refl _) ?_;intro w1 hown hgrow);have hS:=(St.start w).made ((Below.refl _ _).grown hgrow (Nat.le_refl _) (fun _ h=>by cases h)) (ZeX hown);replace hS:=qh hS;clear hown hgrow hi hz0 hz1 hz2
 go_loopw [6] (fun i wr=>∃ k:Nat,k≤l.length∧i = .int .i64 k∧St w wr [Ent.row 4 1 (.slice (some ⟨w.heap.size,0,none⟩) m m) m (boolCells (flags m (setV (l.take k))))])
  (fun i _=>l.length-(intOf i).toNat)
 case atStart=>exact⟨0,Nat.zero_le _,rfl,hS.out⟩
 case round =>
  obtain⟨k,hk,rfl,hS⟩:=hrel;by_cases hlt:k<l.length
  ·obtain⟨b1,o1,rfl,-,hbl,hcs⟩:=hr1.out (by omega);have hc:=(bcell hS.bel b1 _ hbl).trans (hcs k hlt);obtain⟨s0,s1⟩:=hl.out _ (memD (d:=0) hlt);obtain⟨s,hs⟩:=Int.eq_ofNat_of_zero_le s0;rw[hs] at hc s1;have d0:=hS.rcell 0 s rfl (by omega) (Zct (show s<m by omega));have f0:=hS.rfr 0 s rfl;have Hhs:=qh hs;clear hs;replace hS:=qh hS;clear hcs s0;go_wp2;go_roundw
   case rel =>refine⟨k+1,by omega,by go_num,?_⟩;have h:=hS.out.store 0 rfl s (.bool true);rw[Zer] at h;rw[ZiH hlt,Hhs.out];exact h
   case measure=>simp[intOf];omega
  obtain rfl:k=l.length:=by omega
  rw[List.take_length] at hS;replace hS:=qh hS;go_wp2;go_ret;exact⟨⟨_,_,rfl,hS.out.row 0 rfl⟩,hS.out.bel⟩
theorem ZfQ {xs:List Bool}:∀ u∈boolCells xs,u.oneCell'=true:=by intro u hu;obtain⟨q,-,rfl⟩:=List.mem_map.1 hu;rfl
theorem Zj3 {w:World} {B e size g m c:Nat} {cs:List Value} (h:w.ownsRow B e size (.slice (some ⟨g,0,none⟩) m c) m cs):∀ j u,cs[j]? = some u→w.cell? ((⟨g,0,none⟩:Addr).add j)=some u:=fun j u hu=>by
 have hadd:(⟨g,0,none⟩:Addr).add j=⟨g,j,none⟩:=by unfold Addr.add;split<;>simp_all
 have hj:j<m*size:=by rw[← h.1];exact(List.getElem?_eq_some_iff.1 hu).1
 rw[hadd];exact(h.cellAt j hj).trans hu
theorem Zi8 {m M:Nat} {ms:List (Int × Int × Int)} (h:mvIn m ms) (hm:m≤M):mvIn M ms:=fun x hx=>by have:=h x hx;omega
theorem ZdH (M:Nat) (hM:M≤1000) (n:NfaD) (m x:Nat) (v1 v2 v3 bv:Value) (w:World) (hm:m≤M) (hmv:mvIn m n.moves) (hml:n.moves.length≤1000000) (hx:x<2 ^ m) (h1:Moves 0 w v1 n.moves) (hbv:FlagsAt w bv m x) :
  Calls Try.prog 163 #[.agg (nfaC n v1 v2 v3),bv] w fun e w'=>ZjT w.heap.size m (clV M n.moves x) e w'∧Below w.heap.size w w':=by
 obtain⟨a1,c1,rfl,hc1,hm1,hr1⟩:=h1.form;obtain⟨Bv,gv,cv,rfl,hbr⟩:=hbv;obtain⟨i0,hi,hz0,hz1,hz2⟩:=info_parts Try.infoBool;obtain⟨ms,hms⟩:=eI (n.moves);rw[← hms] at hmv hml hc1 hr1;rw[← hms];have hmv40:=Zi8 hmv hm;have hlx:∀ j,clIt ms x j<2 ^ m:=ZfL hmv hx;have hS0:=((St.start w).alloc _ rfl (nfaC n (.slice a1 ms.length c1) v2 v3) 28).alloc (w.heap.size+1) (by simp) #[] 4;have hbr1:=(Own.below (Zaa hbr) (((Below.refl w.heap.size w).alloc (Nat.le_refl _) (.cells (nfaC n (.slice a1 ms.length c1) v2 v3) 28)).alloc (by simp) (.cells #[] 4))).1;have hS1:=hS0.boxrow 1 0 1 [] rfl rfl (by omega);have hE:((w.alloc (.cells (nfaC n (.slice a1 ms.length c1) v2 v3) 28)).alloc (.cells #[] 4)).ownsRow (w.heap.size+1) 4 1 (.slice (some ⟨w.heap.size+1,0,none⟩) 0 0) 0 []:=ZgX (cs:=[]) (hS0.box 1 rfl) rfl (Nat.le_refl _) (by omega);replace hE:=qh hE;have Hhr1:=qh hr1;clear hr1;have Hhmv:=qh hmv;clear hmv;have Hhmv40:=qh hmv40;clear hmv40;have Hhx:=qh hx;clear hx;have Hhlx:=qh hlx;clear hlx;have Hhms:=qh hms;clear hms;have Hhi:=qh hi;clear hi;have Hhz0:=qh hz0;clear hz0;have Hhz1:=qh hz1;clear hz1;have Hhz2:=qh hz2;clear hz2;have Hhbr1:=qh hbr1;clear hbr1;have HhS1:=qh hS1;clear hS1;clear h1 hbr hS0
 go_enter Try.func163, Try.ntmps163
 go_wp2_with (at_builtin;refine wpList_append_own_wide _ rfl _ _ _ rfl (w.heap.size+1) 4 i0 (.bool false) 1 1 Try.underlying43 Hhi.out Hhz0.out Hhz1.out Hhz2.out rfl (by omega) _ 0 _ rfl hE.out ⟨gv,0,none⟩ m cv (boolCells (flags m x)) rfl (by simp[flags]) (Zj3 Hhbr1.out) ZfQ (by unfold maxLen;omega) (by omega) (by simp) ?_;intro v6 w6 hown6 hgrow6 hnil6;have Hown6:=qh hown6;have Hgrow6:=qh hgrow6;have Hnil6:=qh hnil6;clear hown6 hgrow6 hnil6);rw[Nat.zero_add,List.nil_append] at Hown6
 have hS6:=HhS1.out.grow 1 rfl Hgrow6.out Hown6.out (fun k hk=>by
  have h1:=(Own.lt (Zaa Hown6.out) k hk).1;by_cases h2:k=w.heap.size+1
  ·exact Or.inl (by rw[h2];rfl)
  right;simp only[World.size_alloc];omega)
 obtain⟨g,cap,hv6⟩:∃ g cap,v6 = .slice (some ⟨g,0,none⟩) m cap:=by
  rcases Hown6.out.2 with⟨h1,-⟩|⟨g',cap',cur,h1,-⟩
  ·exact absurd (Hnil6.out.1 h1).1 (fun e=>by cases e)
  exact⟨g',cap',h1⟩
 subst hv6;have HhS6:=qh hS6;clear hS6;clear Hown6 Hgrow6 Hnil6;obtain⟨B0,hB0⟩:=eI (w.heap.size)
 go_loopg [6] (M+2) (fun g' ag wr=>∃ j:Nat,g'=M+2-j∧(∃ ab:Bool,ag = .bool ab∧ab=(decide (j=0) || !decide (clIt ms x j=clIt ms x (j-1)))) ∧
   St w wr [Ent.box w.heap.size (nfaC n (.slice a1 ms.length c1) v2 v3) 28,Ent.row 4 1 (.slice (some ⟨g,0,none⟩) m cap) m (boolCells (flags m (clIt ms x j)))])
 case atStart=>exact⟨0,rfl,⟨true,rfl,by simp⟩,HhS6.out⟩
 case round =>
  obtain⟨j,rfl,⟨ab,rfl,hab⟩,hS⟩:=hrel;obtain⟨wo,hwo⟩:∃ wo:World,wo=wr:=⟨_,rfl⟩;subst hwo;have e1:=hS.cell 0 1 rfl rfl;have Hhab:=qh hab;clear hab;have HhS:=qh hS;clear hS;cases ab
  ·have hj:clIt ms x (j-1+1)=clIt ms x (j-1)∧j-1+1=j:=by
    have h:=Hhab.out;simp at h;have:j-1+1=j:=by omega
    rw[this];exact⟨h.2,rfl⟩
   have hv:clIt ms x j=clV M ms x:=by rw[Zlw Hhmv40.out hj.1,← hj.1,hj.2]
   have Hhj:=qh hj;clear hj;have Hhv:=qh hv;clear hv;go_wp2;go_ret;refine⟨⟨_,_,rfl,?_⟩,HhS.out.bel⟩;rw[← Hhv.out];exact HhS.out.row 1 rfl
  obtain⟨X,hX⟩:=eI (clIt ms x j);have HhX:=qh hX;clear hX;go_wp2
  go_loopw [6,7] (fun ag i wi=>∃ k:Nat,k≤ms.length∧i = .int .i64 k∧(∃ ab:Bool,ag = .bool ab∧ab = !decide ((ms.take k).foldl Zaw X=X)) ∧
    St w wi [Ent.box w.heap.size (nfaC n (.slice a1 ms.length c1) v2 v3) 28,Ent.row 4 1 (.slice (some ⟨g,0,none⟩) m cap) m (boolCells (flags m ((ms.take k).foldl Zaw X)))])
   (fun _ i _=>ms.length-(intOf i).toNat)
  case atStart=>exact⟨0,Nat.zero_le _,rfl,⟨false,rfl,by simp⟩,by rw[HhX.out];exact HhS.out⟩
  case round =>
   obtain⟨k,hk,rfl,⟨ag,rfl,hag⟩,hSi⟩:=hrel;obtain⟨C,hC⟩:=eI ((ms.take k).foldl Zaw X);have hCm:C<2 ^ m:=by rw[hC];exact ZeF _ (fun v=>v<2 ^ m) (fun v m hmm hv=>ZgB Hhmv.out hmm hv) (by rw[HhX.out];exact Hhlx.out j) k
   rw[← hC] at hSi hag;clear e1;have e1:=hSi.cell 0 1 rfl rfl;by_cases hlt:k<ms.length
   ·obtain⟨b1,o1,rfl,-,hbl,hcs⟩:=Hhr1.out (by omega);obtain⟨p1,p2,p3⟩:=hcs k hlt;replace p1:=(bcell hSi.bel b1 _ hbl).trans p1;replace p2:=(bcell hSi.bel b1 _ hbl).trans p2;replace p3:=(bcell hSi.bel b1 _ hbl).trans p3;have hmm:=Hhmv.out _ (memD (d:=(0,0,0)) hlt);have hsucc:=Zb0 Zaw X hlt (0,0,0);rw[← hC] at hsucc;have hne1:=ZjG (v:=X) Hhmv40.out hlt;have hne2:=ZeI (v:=X) Hhmv40.out hlt;rw[← hC] at hne1 hne2;obtain⟨mm,hmd⟩:=eI (ms.getD k (0,0,0));rw[← hmd] at p1 p2 p3 hmm hsucc hne1;obtain⟨f,l,t⟩:=mm;simp only at p1 p2 p3 hmm;obtain⟨⟨f0,f1⟩,t0,t1⟩:=hmm;obtain⟨f,rfl⟩:=Int.eq_ofNat_of_zero_le f0;obtain⟨t,rfl⟩:=Int.eq_ofNat_of_zero_le t0;have hfm:f<m:=by omega
    have htm:t<m:=by omega
    have hSa:=hSi.alloc _ rfl #[.int .i64 (f:Int),.int .i64 l,.int .i64 (t:Int)] 34;have cf:=hSa.rcell 1 f rfl (by omega) (Zct hfm);have ct:=hSa.rcell 1 t rfl (by omega) (Zct htm);have ff:=hSa.rfr 1 t rfl;have hkk:(k:Int)<ms.length:=by omega
    have Hstay:=qh (fun (h:Zaw C ((f:Int),l,(t:Int))=C)=>(show(ms.take (k+1)).foldl Zaw X=C from hsucc.trans h));replace hC:=qh hC;have HhCm:=qh hCm;clear hCm;have Hhag:=qh hag;clear hag;have Hhsucc:=qh hsucc;clear hsucc;have Hhne1:=qh hne1;clear hne1;have Hhne2:=qh hne2;clear hne2;have Hhmd:=qh hmd;clear hmd;have HhSi:=qh hSi;clear hSi;have HhSa:=qh hSa;clear hSa;clear hcs f0 t0
    have Hsame:=qh (fun (h:Zaw C ((f:Int),l,(t:Int))=C)=>(show ∃ k':Nat,k'≤ms.length∧Value.int .i64 ((k:Int)+1) = .int .i64 (k':Int)∧(∃ ab:Bool,Value.bool ag = .bool ab∧ab = !decide ((ms.take k').foldl Zaw X=X)) ∧
      St w (wr.alloc (.cells #[.int .i64 (f:Int),.int .i64 l,.int .i64 (t:Int)] 34)) [Ent.box w.heap.size (nfaC n (.slice (some ⟨b1,o1,none⟩) ms.length c1) v2 v3) 28,Ent.row 4 1 (.slice (some ⟨g,0,none⟩) m cap) m (boolCells (flags m ((ms.take k').foldl Zaw X)))] from
      ⟨k+1,by omega,by go_num,⟨ag,rfl,by rw[Hstay.out h];exact Hhag.out⟩,by rw[Hstay.out h];exact HhSa.out.pick [0,1] (by decide)⟩))
    by_cases hl:l = -1
    ·subst hl;cases hf:C.testBit f
     ·rw[hf] at cf;have Hhf:=qh hf;clear hf;have hst:=Hsame.out (by unfold Zaw;simp[Hhf.out]);have Hhst:=qh hst;clear hst;go_wp2;go_roundw
      case rel=>exact Hhst.out
      case measure=>simp[intOf];omega
     cases ht:C.testBit t
     ·rw[hf] at cf;rw[ht] at ct;have Hhf:=qh hf;clear hf;have Hht:=qh ht;clear ht;go_wp2;go_roundw
      case rel =>
       have hcm:Zaw C ((f:Int),-1,(t:Int))=adj C t:=by unfold Zaw;simp[Hhf.out,Hht.out]
       have hne:Zaw C ((f:Int),-1,(t:Int))≠C:=by rw[hcm];intro e;have:=Zfz C t t;rw[e,Hht.out] at this;simp at this
       have hs2:(ms.take (k+1)).foldl Zaw X=adj C t:=Hhsucc.out.trans hcm;refine⟨k+1,by omega,by go_num,⟨true,rfl,?_⟩,?_⟩
       ·rw[decide_eq_false (Hhne1.out hne)];rfl
       rw[hs2,← Zer];exact(HhSa.out.store 1 rfl t (.bool true)).pick [0,1] (by decide)
      case measure=>simp[intOf];omega
     rw[hf] at cf;rw[ht] at ct;have Hhf:=qh hf;clear hf;have Hht:=qh ht;clear ht;have hst:=Hsame.out (by unfold Zaw;simp[Hhf.out,Hht.out]);have Hhst:=qh hst;clear hst;go_wp2;go_roundw
     case rel=>exact Hhst.out
     case measure=>simp[intOf];omega
    have hst:=Hsame.out (by unfold Zaw;simp[hl]);have hl1:(l == -1)=false:=by simpa using hl
    have Hhst:=qh hst;clear hst;have Hhl:=qh hl;clear hl;go_wp2;go_roundw
    case rel=>exact Hhst.out
    case measure=>simp[intOf];omega
   obtain rfl:k=ms.length:=by omega
   rw[List.take_length] at hC;have hn:C=clIt ms x (j+1):=by rw[hC,HhX.out];rfl
   have hj0:j<M+2:=by
    by_cases h0:j=0
    ·omega
    have h:=Hhab.out;simp[h0] at h;have:=Zix (k:=j-1) Hhmv40.out (by rw[show j-1+1=j by omega];exact h);omega
   replace hC:=qh hC;have Hhn:=qh hn;clear hn;have Hhag:=qh hag;clear hag;have HhSi:=qh hSi;clear hSi;go_wp2
   go_roundg (M+2-(j+1))
   case measure=>omega
   case rel =>refine⟨j+1,rfl,⟨ag,rfl,?_⟩,by rw[← Hhn.out];exact HhSi.out⟩;rw[Hhag.out,← Hhn.out,show j+1-1=j by omega,← HhX.out];simp
theorem Zg2 (M:Nat) (hM:M≤1000) (n:NfaD) (m x:Nat) (c:Int) (v1 v2 v3 bv:Value) (w:World) (hns:n.states=(m:Int)) (hm:m≤M) (hmv:mvIn m n.moves) (hml:n.moves.length≤1000000) (h1:Moves 0 w v1 n.moves) (hbv:Bools 0 w bv (flags m x)) :
  Calls Try.prog 165 #[.agg (nfaC n v1 v2 v3),bv,.int .i64 c] w fun e w'=>ZjT w.heap.size m (stV M n.moves x c) e w'∧Below w.heap.size w w':=by
 have H1:=qh h1;obtain⟨a1,c1,rfl,hc1,hm1,hr1⟩:=h1.form;obtain⟨av,cv,rfl,hcv,hmv',hbr⟩:=hbv.form;rw[Zes] at hcv hbr;rw[Zes];clear hbv;obtain⟨i0,hi,hz0,hz1,hz2⟩:=info_parts Try.infoBool;obtain⟨ms,hms⟩:=eI (n.moves);have hmv2:=hmv;have hml2:=hml;rw[← hms] at hmv hml hc1 hr1;have hst:stV M n.moves x c=clV M ms (ms.foldl (Zbv x c) 0):=by rw[hms];rfl
 have hfm40:ms.foldl (Zbv x c) 0<2 ^ m:=Zcs _ (fun v=>v<2 ^ m) (fun _ _ hmm hv=>Zf1 hmv hmm hv) (Nat.two_pow_pos m);obtain⟨ln,hln⟩:=eI (ms.length);have hlnn:ln=n.moves.length:=by rw[hln,hms]
 rw[← hlnn] at H1;rw[← hlnn];rw[← hln] at hc1 hr1 hml;have hS0:=(St.start w).alloc _ rfl (nfaC n (.slice a1 ln c1) v2 v3) 28;have e0:=hS0.cell (v:=.int .i64 (m:Int)) 0 0 rfl (by simp[nfaC,hns]);replace hns:=qh hns;have Hhr1:=qh hr1;clear hr1;replace hmv:=qh hmv;have Hhmv2:=qh hmv2;clear hmv2;replace hml2:=qh hml2;have Hhms:=qh hms;clear hms;have Hhst:=qh hst;clear hst;replace hfm40:=qh hfm40;have Hhln:=qh hln;clear hln;have Hhlnn:=qh hlnn;clear hlnn;have Hhi:=qh hi;clear hi;have Hhz0:=qh hz0;clear hz0;have Hhz1:=qh hz1;clear hz1;have Hhz2:=qh hz2;clear hz2;replace hbr:=qh hbr;replace hS0:=qh hS0;clear h1
 go_enter Try.func165, Try.ntmps165
 go_wp2_with (at_make;refine wpList_make_full _ rfl _ _ 43 rfl _ 4 i0 (.bool false) 1 Try.underlying43 Hhi.out Hhz0.out Hhz1.out .i64 .i64 _ _ m rfl rfl rfl rfl (by rw[Hhz2.out];omega) (by unfold maxLen;omega) (Nat.le_refl _) ?_;intro w1 hown hgrow);have hS1:=hS0.out.made ((Below.refl _ _).grown hgrow (Nat.le_refl _) (fun _ h=>by cases h)) (ZeX hown);rw[World.size_alloc] at hS1;have hb1:=hS1.bel;have HhS1:=qh hS1;clear hS1;clear hown hgrow e0
 go_loopw [8] (fun i wi=>∃ k:Nat,k≤ln∧i = .int .i64 k∧St w wi [Ent.box w.heap.size (nfaC n (.slice a1 ln c1) v2 v3) 28,Ent.row 4 1 (.slice (some ⟨w.heap.size+1,0,none⟩) m m) m (boolCells (flags m ((ms.take k).foldl (Zbv x c) 0)))])
  (fun i _=>ln-(intOf i).toNat)
 case atStart=>exact⟨0,Nat.zero_le _,rfl,HhS1.out⟩
 case round =>
  obtain⟨k,hk,rfl,hSi⟩:=hrel;obtain⟨C,hC⟩:=eI ((ms.take k).foldl (Zbv x c) 0);rw[← hC] at hSi;have e1:=hSi.cell (v:=.slice a1 ln c1) 0 1 rfl rfl;clear hb1;by_cases hlt:k<ln
  ·have hlt':k<ms.length:=by rw[← Hhln.out];exact hlt
   obtain⟨b1,o1,rfl,-,hbl,hcs⟩:=Hhr1.out (by omega);obtain⟨p1,p2,p3⟩:=hcs k hlt;replace p1:=(bcell hSi.bel b1 _ hbl).trans p1;replace p2:=(bcell hSi.bel b1 _ hbl).trans p2;replace p3:=(bcell hSi.bel b1 _ hbl).trans p3;have hmm:=hmv.out _ (memD (d:=(0,0,0)) hlt');have hsucc:=Zb0 (Zbv x c) 0 hlt' (0,0,0);rw[← hC] at hsucc;obtain⟨mm,hmd⟩:=eI (ms.getD k (0,0,0));rw[← hmd] at p1 p2 p3 hmm hsucc;obtain⟨f,l,t⟩:=mm;simp only at p1 p2 p3 hmm;obtain⟨⟨f0,f1⟩,t0,t1⟩:=hmm;obtain⟨f,rfl⟩:=Int.eq_ofNat_of_zero_le f0;obtain⟨t,rfl⟩:=Int.eq_ofNat_of_zero_le t0;have hfm:f<m:=by omega
   have htm:t<m:=by omega
   have hSa:=hSi.alloc _ rfl #[.int .i64 (f:Int),.int .i64 l,.int .i64 (t:Int)] 34;have hal:=(Below.refl w.heap.size w).trans hSa.bel;obtain⟨gv,ov,rfl,-,hgl,hbc⟩:=hbr.out (by omega);have cf:=(bcell hal gv (ov+f) hgl).trans (hbc f hfm);rw[Zdr hfm] at cf;clear hbc;have ct:=hSa.rcell 1 t rfl (by omega) (Zct htm);have ff:=hSa.rfr 1 t rfl;have hkk:(k:Int)<ln:=by omega
   replace hC:=qh hC;have Hhsucc:=qh hsucc;clear hsucc;have Hhmd:=qh hmd;clear hmd;have HhSi:=qh hSi;clear hSi;have HhSa:=qh hSa;clear hSa;clear hcs f0 t0 hal
   have Hsame:=qh (fun (h:Zbv x c C ((f:Int),l,(t:Int))=C)=>(show ∃ k':Nat,k'≤ln∧Value.int .i64 ((k:Int)+1) = .int .i64 (k':Int) ∧
     St w (wr.alloc (.cells #[.int .i64 (f:Int),.int .i64 l,.int .i64 (t:Int)] 34)) [Ent.box w.heap.size (nfaC n (.slice (some ⟨b1,o1,none⟩) ln c1) v2 v3) 28,Ent.row 4 1 (.slice (some ⟨w.heap.size+1,0,none⟩) m m) m (boolCells (flags m ((ms.take k').foldl (Zbv x c) 0)))] from
     ⟨k+1,by omega,by go_num,by rw[Hhsucc.out,h];exact HhSa.out.pick [0,1] (by decide)⟩))
   by_cases hl:l=c
   ·subst hl;cases hf:x.testBit f
    ·rw[hf] at cf;have Hhf:=qh hf;clear hf;have hst:=Hsame.out (ZeN (by simp[Hhf.out]));have Hhst:=qh hst;clear hst;go_wp2;go_roundw
     case rel=>exact Hhst.out
     case measure=>simp[intOf];omega
    rw[hf] at cf;have Hhf:=qh hf;clear hf;go_wp2;go_roundw
    case rel =>
     have hcm:Zbv x l C ((f:Int),l,(t:Int))=adj C t:=by unfold Zbv;simp[Hhf.out]
     refine⟨k+1,by omega,by go_num,?_⟩;rw[Hhsucc.out.trans hcm,← Zer];exact(HhSa.out.store 1 rfl t (.bool true)).pick [0,1] (by decide)
    case measure=>simp[intOf];omega
   have hst:=Hsame.out (ZeN (by simp[hl]));have hl1:(l==c)=false:=by simpa using hl
   have Hhst:=qh hst;clear hst;have Hhl:=qh hl;clear hl;go_wp2;go_roundw
   case rel=>exact Hhst.out
   case measure=>simp[intOf];omega
  have hkn:(ms.take k).foldl (Zbv x c) 0=ms.foldl (Zbv x c) 0:=by rw[List.take_of_length_le (by rw[← Hhln.out];omega)]
  have hCm:C<2 ^ m:=by rw[hC,hkn];exact hfm40.out
  have HM':=qh (H1.out.below hSi.bel);have HF:Hid (FlagsAt wr (.slice (some ⟨w.heap.size+1,0,none⟩) m m) m C):=qh ⟨_,_,_,rfl,hSi.row 1 rfl⟩;have d0:=hSi.cell (v:=.int .i64 n.states) 0 0 rfl rfl;have d2:=hSi.cell (v:=v2) 0 2 rfl rfl;have d3:=hSi.cell (v:=v3) 0 3 rfl rfl;replace hC:=qh hC;have Hhkn:=qh hkn;clear hkn;have HhSi:=qh hSi;clear hSi;have HhCm:=qh hCm;clear hCm;go_wp2_with fail;refine(ZdH M hM n m C (.slice a1 ln c1) v2 v3 _ _ hm Hhmv2.out hml2.out HhCm.out HM'.out HF.out).mono ?_;rintro e w2 ⟨⟨g2,c2,rfl,hr2⟩,hb2⟩;have hS2:=HhSi.out.made hb2 hr2;have hVs:clV M n.moves C=stV M n.moves x c:=by rw[Hhst.out,hC.out,Hhkn.out,Hhms.out]
  have HhS2:=qh hS2;clear hS2;have HhVs:=qh hVs;clear hVs;clear hr2 hb2;go_wp2;go_ret;refine⟨⟨_,_,rfl,?_⟩,HhS2.out.bel⟩;rw[← HhVs.out];exact HhS2.out.row 2 rfl
end Go.Proofs.Ytfanhfcamblghaa
