/-
  The walks over the program's explored[set] and Nfa.determinize, for automata of up to N <= 128 states.
  Conditions: the automaton reads as such; its moves, first and last states lie below N.
-/
import Derived.Test.YtncekbbhgipdlaaGreatPc05Wfe
set_option maxHeartbeats 3200000
set_option maxRecDepth 100000
namespace Go.Proofs.YtncekbbhgipdlaaGreat
open Go.RowKit Go.Maps
def pW (v:Nat):Int × Int:=(((loW v:Nat):Int),((hiW v:Nat):Int))
def nW (x:Int × Int):Nat:=x.1.toNat+2 ^ 64*x.2.toNat
theorem Zqy (v:Nat):nW (pW v)=v:=by show loW v+2 ^ 64*hiW v=v;unfold loW hiW;exact Nat.mod_add_div v (2 ^ 64)
def nxW (N:Nat) (n:NfaD) (x:Int × Int) (c:Nat):Int × Int:=pW (stV N n.moves (nW x) (c:Int))
def enW (n:NfaD) (x:Int × Int):Bool:=endV n (nW x)
theorem Zop (N:Nat) (n:NfaD) (v c:Nat):nxW N n (pW v) c=pW (stV N n.moves v (c:Int)):=by unfold nxW;rw[Zqy]
theorem Zrx (n:NfaD) (v:Nat):enW n (pW v)=endV n v:=by unfold enW;rw[Zqy]
def isSW (N:Nat) (x:Int × Int):Prop:=∃ v:Nat,v<2 ^ N∧x=pW v
theorem ZqZ {N:Nat} (B:N≤128) {x:Int × Int} (h:isSW N x):fitU x.1∧fitU x.2:=by obtain⟨v,C,rfl⟩:=h;have h1:=Zhu v;have h2:=Zo8 (ltW B C);unfold fitU pW;simp only;omega
theorem Zo0 {N:Nat} {n:NfaD} (hm:mvIn N n.moves) (x:Int × Int) (c:Nat):isSW N (nxW N n x c):=⟨_,ZnU hm _ _,rfl⟩
abbrev metW (N:Nat) (n:NfaD) (K:Nat):List (Int × Int):=(bat (nxW N n) (pW (fstW N n)) K).met
theorem Zr2 {N:Nat} {n:NfaD} (hm:mvIn N n.moves) (hs:inN N n.firsts):fstW N n<2 ^ N:=ZdS hm (ZdC hs) N
def Zrn (N:Nat) (n:NfaD) (K B:Nat) (e:Ending) (w':World):Prop :=
 if (metW N n K).length≤K then
  ∃ an cn ae ce,e = .returned (.tuple #[.agg #[.slice an (metW N n K).length cn,.slice ae (metW N n K).length ce],.int .i64 ((metW N n K).length:Nat)]) ∧
   DfaO 38 3 4 B w'.heap.size w' (.agg #[.slice an (metW N n K).length cn,.slice ae (metW N n K).length ce]) (Zar (nxW N n) (enW n) (metW N n K))
 else e = .returned (.tuple #[.agg #[.slice none 0 0,.slice none 0 0],.int .i64 41])
theorem Znj (N:Nat) (B:N≤128) (n:NfaD) (K:Nat) (v1 v2 v3:Value) (w:World) (hk0:0<K) (hk1:K≤100000) (hm:mvIn N n.moves) (D:n.moves.length≤1000000) (hs:inN N n.firsts) (he:inN N n.ends) (h1:Moves 0 w v1 n.moves) (h3:Ints 0 w v3 n.ends) :
  Calls Tryz.prog 131 #[setW (fstW N n),.int .i64 (K:Nat),.func (.func 133) #[.agg (nfaC n v1 v2 v3)] #[],.func (.func 134) #[.agg (nfaC n v1 v2 v3)] #[]] w
   fun e w'=>ZhW (pW (fstW N n)) (nxW N n) (enW n) K w.heap.size e w'∧Below w.heap.size w w':=by
 refine ZhK ((loW (fstW N n):Nat):Int) ((hiW (fstW N n):Nat):Int) (.agg (nfaC n v1 v2 v3)) (nxW N n) (enW n) (isSW N) K w ⟨_,Zr2 hm hs,rfl⟩ (fun x c _ _=>Zo0 hm x c) (fun x hx=>ZqZ B hx) hk0 hk1 ?_ ?_
 ·rintro x c w' ⟨v,C,rfl⟩ hc hb;rw[Zop];refine(Zkf N B n v (c:Int) v1 v2 v3 w' hm D C (h1.below hb)).mono ?_;rintro e w2 ⟨rfl,h⟩;exact⟨rfl,h⟩
 rintro x w' ⟨v,C,rfl⟩ hb;rw[Zrx];exact Zkg N B n v v1 v2 v3 w' C he (h3.below hb) _ rfl
theorem ZcL (N:Nat) (C:N≤128) (n:NfaD) (K:Nat) (D:K=40) (v1 v2 v3:Value) (w:World) (hm:mvIn N n.moves) (B:n.moves.length≤1000000) (hs:inN N n.firsts) (he:inN N n.ends) (h1:Moves 0 w v1 n.moves) (h3:Ints 0 w v3 n.ends) :
  Calls Tryz.prog 131 #[setW (fstW N n),.int .i64 40,.func (.func 133) #[.agg #[.int .i64 n.states,v1,v2,v3]] #[],.func (.func 134) #[.agg #[.int .i64 n.states,v1,v2,v3]] #[]] w
   fun e w'=>ZhW (pW (fstW N n)) (nxW N n) (enW n) K w.heap.size e w'∧Below w.heap.size w w':=by
 have h:=Znj N C n K v1 v2 v3 w (by omega) (by omega) hm B hs he h1 h3;have e:((K:Nat):Int)=40:=by omega
 rw[e] at h;exact h
set_option linter.all false in
theorem Zgz (N:Nat) (j:N≤128) (n:NfaD) (K:Nat) (hK:K=40) (v1 v2 v3:Value) (w:World) (hm:mvIn N n.moves) (P:n.moves.length≤1000000) (hs:inN N n.firsts) (p:n.firsts.length≤1000000) (he:inN N n.ends) (h1:Moves 0 w v1 n.moves) (h2:Ints 0 w v2 n.firsts) (h3:Ints 0 w v3 n.ends) :
  Calls Tryz.prog 99 #[.agg (nfaC n v1 v2 v3)] w fun e w'=>Zrn N n K w.heap.size e w'∧Below w.heap.size w w':=by
 obtain⟨W,hW⟩:=eI (((w.alloc (.cells (nfaC n v1 v2 v3) 81)).alloc (.cells #[.slice none 0 0,.slice none 0 0] 44)));have J:Below w.heap.size w W:=by rw[hW];exact((Below.refl _ _).alloc (Nat.le_refl _) _).alloc (by simp) _
 have r:Bx W w.heap.size (nfaC n v1 v2 v3) 81:=by rw[hW];exact(Bx.new w _ _).alloc _
 have x1:Bx W (w.heap.size+1) #[.slice none 0 0,.slice none 0 0] 44:=by rw[hW];simpa using (Bx.new (w.alloc (.cells (nfaC n v1 v2 v3) 81)) #[.slice none 0 0,.slice none 0 0] 44)
 have l:=r.lt;have c0:=r.cell 0;have c1:=r.cell 1;have c2:=r.cell 2;have c3:=r.cell 3;simp only[nfaC,w_5,w_6,w_7] at c0 c1 c2 c3;have a:=qh (fun (w':World) (h:Below W.drew.heap.size W.drew w')=>(show w'.cell? ⟨w.heap.size,0,none⟩=some (.int .i64 n.states)∧w'.cell? ⟨w.heap.size,1,none⟩=some v1∧w'.cell? ⟨w.heap.size,2,none⟩=some v2∧w'.cell? ⟨w.heap.size,3,none⟩=some v3 from⟨(bcell h _ _ l).trans c0,(bcell h _ _ l).trans c1,(bcell h _ _ l).trans c2,(bcell h _ _ l).trans c3⟩));have g:=qh (h1.below J.drew);have H2:=qh (h2.below J.drew);have y:=qh (h3.below J.drew);have m:=qh hW;clear hW;have k:w.heap.size+1<W.heap.size:=x1.lt;have O:=qh hm;clear hm;replace hs:=qh hs;replace he:=qh he;replace J:=qh J;have aI:=qh r;clear r;have i:=qh x1;clear x1;clear h1 h2 h3;have T:Below W.drew.heap.size W.drew (W.alloc (.cells #[.slice none 0 0,.slice none 0 0] 44)).drew:=by have h:=((Below.refl W.heap.size W).alloc (Nat.le_refl _) (.cells #[.slice none 0 0,.slice none 0 0] 44)).drew;exact⟨h.os,h.tape,h.output,h.size,h.block⟩
 have z:=qh (ZdL N j n v1 v2 v3 (W.alloc (.cells #[.slice none 0 0,.slice none 0 0] 44)).drew O.o P hs.o p (g.o.below T) (H2.o.below T));have aB:=qh (fun (u:World) (h:Below (W.alloc (.cells #[.slice none 0 0,.slice none 0 0] 44)).drew.heap.size (W.alloc (.cells #[.slice none 0 0,.slice none 0 0] 44)).drew u)=>(show Below W.drew.heap.size W.drew u∧Bx u W.heap.size #[.slice none 0 0,.slice none 0 0] 44 from⟨T.trans (h.mono T.size),(Bx.new W #[.slice none 0 0,.slice none 0 0] 44).drew.below h (by simp[World.drew])⟩));replace T:=qh T
 go_enter Tryz.func99, Tryz.ntmps99
 obtain⟨L,hL⟩:=eI ((metW N n K).length);obtain⟨D,hD⟩:=eI (Zar (nxW N n) (enW n) (metW N n K));have x:w.heap.size≤W.drew.heap.size:=J.o.size;have aC:=hK;have M:=qh aC;clear aC;clear hK;have R:=qh hL;clear hL;have V:=qh hD;clear hD;by_cases hle:L≤K
 ·go_wp2_with fail;rw[← m.o]
  go_region_held3 (fun w'=>w'.cell? ⟨w.heap.size,0,none⟩=some (.int .i64 n.states)∧w'.cell? ⟨w.heap.size,1,none⟩=some v1∧w'.cell? ⟨w.heap.size,2,none⟩=some v2∧w'.cell? ⟨w.heap.size,3,none⟩=some v3)
   (first|go_keep|exact a.o _ B|exact a.o _ E|exact a.o _ (E.alloc E.size _)|exact a.o _ (B.alloc B.size _)|exact a.o _ T.o|exact a.o _ ((E.setCell B.size _).setCell B.size _)|exact a.o _ ((E.setCell (Nat.le_refl _) _).setCell (Nat.le_refl _) _))
   (first
    | (go_at_call 132;(with_reducible refine(ZdL N j n _ _ _ _ O.o P hs.o p g.o H2.o).mono ?_);rintro e I ⟨rfl,B⟩)
    | (go_at_call 131;(with_reducible refine(ZcL N j n K M.o v1 v2 v3 _ O.o P hs.o he.o (g.o.below B) (y.o.below B)).mono ?_);rintro e H ⟨hr,hb1⟩;have E:=B.trans (hb1.mono B.size);have X:=yA.below hb1 yA.lt;obtain⟨g0,g1,i0,i1⟩:=box2 X;unfold ZhW at hr;rw[← R.o,← V.o,if_pos hle] at hr;obtain⟨an,cn,ae,ce,am,cm,rfl,hd,-⟩:=hr;have Y:=DMem.of hd (Nat.le_trans x B.size))
    | (go_at_call 131;(with_reducible refine(ZcL N j n K M.o v1 v2 v3 _ O.o P hs.o he.o (g.o.below B) (y.o.below B)).mono ?_);rintro e H ⟨hr,hb1⟩;have E:=B.trans (hb1.mono B.size);unfold ZhW at hr;rw[← R.o,← V.o,if_pos hle] at hr;obtain⟨an,cn,ae,ce,am,cm,rfl,hd,-⟩:=hr;have Y:=DMem.of hd (Nat.le_trans x B.size))
    | (go_at_call 131;(with_reducible refine(ZcL N j n K M.o v1 v2 v3 _ O.o P hs.o he.o (g.o.below (B.alloc B.size _)) (y.o.below (B.alloc B.size _))).mono ?_);rintro e H ⟨hr,hb1⟩;have b:=B.alloc B.size (.cells #[.slice none 0 0,.slice none 0 0] 44);have E:=b.trans (hb1.mono b.size);have X:=(Bx.new I #[.slice none 0 0,.slice none 0 0] 44).below hb1 (by simp);obtain⟨g0,g1,i0,i1⟩:=box2 X;unfold ZhW at hr;rw[← R.o,← V.o,if_pos hle] at hr;obtain⟨an,cn,ae,ce,am,cm,rfl,hd,-⟩:=hr;have Y:=DMem.of hd (Nat.le_trans x b.size))
    | (go_at_call 132;(with_reducible refine z.o.mono ?_);rintro e I ⟨rfl,s⟩;obtain⟨B,yA⟩:=aB.o I s))
  all_goals
   have Q:Below w.heap.size w H:=J.o.drew.trans (E.mono J.o.drew.size);have c:=i.o.drew.below E i.o.lt;have aF:w.heap.size+1<I.heap.size:=Nat.lt_of_lt_of_le k B.size;have aE:w.heap.size+1<H.heap.size:=Nat.lt_of_lt_of_le k E.size
   first
    | (have Z:=(Y.set X 0 (.slice an L cn)).set (X.set 0 _) 1 (.slice ae L ce);have F:Bx ((H.setCell ⟨I.heap.size,0,none⟩ (.slice an L cn)).setCell ⟨I.heap.size,1,none⟩ (.slice ae L ce)) I.heap.size #[.slice an L cn,.slice ae L ce] 44:=(by simpa using (X.set 0 (.slice an L cn)).set 1 (.slice ae L ce));have C:Bx ((H.setCell ⟨I.heap.size,0,none⟩ (.slice an L cn)).setCell ⟨I.heap.size,1,none⟩ (.slice ae L ce)) (w.heap.size+1) #[.slice none 0 0,.slice none 0 0] 44:=(c.set_ne _ _ (by simp;omega)).set_ne _ _ (by simp;omega);have G:Below w.heap.size w ((H.setCell ⟨I.heap.size,0,none⟩ (.slice an L cn)).setCell ⟨I.heap.size,1,none⟩ (.slice ae L ce)):=(Q.setCell (by simp;omega) _).setCell (by simp;omega) _;generalize hU:(H.setCell ⟨I.heap.size,0,none⟩ (.slice an L cn)).setCell ⟨I.heap.size,1,none⟩ (.slice ae L ce)=U at Z F C G ⊢)
    | (have Z:=(Y.set X 0 (.slice an L cn)).set (X.set 0 _) 1 (.slice ae L ce);have F:Bx ((H.setCell ⟨W.heap.size,0,none⟩ (.slice an L cn)).setCell ⟨W.heap.size,1,none⟩ (.slice ae L ce)) W.heap.size #[.slice an L cn,.slice ae L ce] 44:=(by simpa using (X.set 0 (.slice an L cn)).set 1 (.slice ae L ce));have C:Bx ((H.setCell ⟨W.heap.size,0,none⟩ (.slice an L cn)).setCell ⟨W.heap.size,1,none⟩ (.slice ae L ce)) (w.heap.size+1) #[.slice none 0 0,.slice none 0 0] 44:=(c.set_ne _ _ (by simp;omega)).set_ne _ _ (by simp;omega);have G:Below w.heap.size w ((H.setCell ⟨W.heap.size,0,none⟩ (.slice an L cn)).setCell ⟨W.heap.size,1,none⟩ (.slice ae L ce)):=(Q.setCell (by simp;omega) _).setCell (by simp;omega) _;generalize hU:(H.setCell ⟨W.heap.size,0,none⟩ (.slice an L cn)).setCell ⟨W.heap.size,1,none⟩ (.slice ae L ce)=U at Z F C G ⊢)
    | (have Z:=Y.alloc (.cells #[.slice an L cn,.slice ae L ce] 44);have F:=Bx.new H #[.slice an L cn,.slice ae L ce] 44;have C:=c.alloc (.cells #[.slice an L cn,.slice ae L ce] 44);have G:=Q.alloc Q.size (.cells #[.slice an L cn,.slice ae L ce] 44);generalize hU:H.alloc (.cells #[.slice an L cn,.slice ae L ce] 44)=U at Z F C G ⊢)
   have r0:=F.cell 0;have r1:=F.cell 1;have z0:=C.cell 0;have z1:=C.cell 1;have f0:=C.fr 0;have f1:=C.fr 1;simp only[w_5,w_6,w_7] at r0 r1 z0 z1;have aD:=qh Z;clear Z;have aA:=qh F;clear F;have S:=qh C;clear C;have d:=qh G;clear G;have aH:=qh Y;clear Y;have aG:=qh c;clear c;clear hd;go_wp2;have q:=(S.o.set 0 (.slice an L cn)).set 1 (.slice ae L ce);have q0:=q.cell 0;have q1:=q.cell 1;simp only[w_5,w_6,w_7,w_1,w_2,w_3] at q0 q1;refine bodyPost_ret (v:=.tuple #[.agg #[.slice an L cn,.slice ae L ce],.int .i64 L]) (by simp[results,Tryz.results99,go_sem,q0,q1]) rfl ⟨?_,?_⟩
   ·unfold Zrn;rw[← R.o,← V.o,if_pos hle];have hm:=(aD.o.set S.o 0 (.slice an L cn)).set (S.o.set 0 _) 1 (.slice ae L ce);exact⟨_,_,_,_,rfl,_,_,rfl,hm.1,hm.2⟩
   exact(d.o.setCell (by simp) _).setCell (by simp) _
 go_wp2_with fail;rw[← m.o]
 go_region_held3 (fun w'=>w'.cell? ⟨w.heap.size,0,none⟩=some (.int .i64 n.states)∧w'.cell? ⟨w.heap.size,1,none⟩=some v1∧w'.cell? ⟨w.heap.size,2,none⟩=some v2∧w'.cell? ⟨w.heap.size,3,none⟩=some v3)
  (first|go_keep|exact a.o _ B|exact a.o _ E|exact a.o _ (E.alloc E.size _)|exact a.o _ (B.alloc B.size _)|exact a.o _ T.o|exact a.o _ ((E.setCell B.size _).setCell B.size _)|exact a.o _ ((E.setCell (Nat.le_refl _) _).setCell (Nat.le_refl _) _))
  (first
   | (go_at_call 132;(with_reducible refine(ZdL N j n _ _ _ _ O.o P hs.o p g.o H2.o).mono ?_);rintro e I ⟨rfl,B⟩)
   | (go_at_call 131;(with_reducible refine(ZcL N j n K M.o v1 v2 v3 _ O.o P hs.o he.o (g.o.below B) (y.o.below B)).mono ?_);rintro e H ⟨hr,hb1⟩;have E:=B.trans (hb1.mono B.size);have X:=yA.below hb1 yA.lt;obtain⟨g0,g1,i0,i1⟩:=box2 X;unfold ZhW at hr;rw[← R.o,← V.o,if_neg hle] at hr;subst hr)
   | (go_at_call 131;(with_reducible refine(ZcL N j n K M.o v1 v2 v3 _ O.o P hs.o he.o (g.o.below B) (y.o.below B)).mono ?_);rintro e H ⟨hr,hb1⟩;have E:=B.trans (hb1.mono B.size);unfold ZhW at hr;rw[← R.o,← V.o,if_neg hle] at hr;subst hr)
   | (go_at_call 131;(with_reducible refine(ZcL N j n K M.o v1 v2 v3 _ O.o P hs.o he.o (g.o.below (B.alloc B.size _)) (y.o.below (B.alloc B.size _))).mono ?_);rintro e H ⟨hr,hb1⟩;have b:=B.alloc B.size (.cells #[.slice none 0 0,.slice none 0 0] 44);have E:=b.trans (hb1.mono b.size);have X:=(Bx.new I #[.slice none 0 0,.slice none 0 0] 44).below hb1 (by simp);obtain⟨g0,g1,i0,i1⟩:=box2 X;unfold ZhW at hr;rw[← R.o,← V.o,if_neg hle] at hr;subst hr)
   | (go_at_call 132;(with_reducible refine z.o.mono ?_);rintro e I ⟨rfl,s⟩;obtain⟨B,yA⟩:=aB.o I s))
 all_goals
  have Q:Below w.heap.size w H:=J.o.drew.trans (E.mono J.o.drew.size);have c:=i.o.drew.below E i.o.lt;have aF:w.heap.size+1<I.heap.size:=Nat.lt_of_lt_of_le k B.size;have aE:w.heap.size+1<H.heap.size:=Nat.lt_of_lt_of_le k E.size
  first
   | (have F:Bx ((H.setCell ⟨I.heap.size,0,none⟩ (.slice none 0 0)).setCell ⟨I.heap.size,1,none⟩ (.slice none 0 0)) I.heap.size #[.slice none 0 0,.slice none 0 0] 44:=(by simpa using (X.set 0 (.slice none 0 0)).set 1 (.slice none 0 0));have C:Bx ((H.setCell ⟨I.heap.size,0,none⟩ (.slice none 0 0)).setCell ⟨I.heap.size,1,none⟩ (.slice none 0 0)) (w.heap.size+1) #[.slice none 0 0,.slice none 0 0] 44:=(c.set_ne _ _ (by simp;omega)).set_ne _ _ (by simp;omega);have G:Below w.heap.size w ((H.setCell ⟨I.heap.size,0,none⟩ (.slice none 0 0)).setCell ⟨I.heap.size,1,none⟩ (.slice none 0 0)):=(Q.setCell (by simp;omega) _).setCell (by simp;omega) _;generalize hU:(H.setCell ⟨I.heap.size,0,none⟩ (.slice none 0 0)).setCell ⟨I.heap.size,1,none⟩ (.slice none 0 0)=U at F C G ⊢)
   | (have F:Bx ((H.setCell ⟨W.heap.size,0,none⟩ (.slice none 0 0)).setCell ⟨W.heap.size,1,none⟩ (.slice none 0 0)) W.heap.size #[.slice none 0 0,.slice none 0 0] 44:=(by simpa using (X.set 0 (.slice none 0 0)).set 1 (.slice none 0 0));have C:Bx ((H.setCell ⟨W.heap.size,0,none⟩ (.slice none 0 0)).setCell ⟨W.heap.size,1,none⟩ (.slice none 0 0)) (w.heap.size+1) #[.slice none 0 0,.slice none 0 0] 44:=(c.set_ne _ _ (by simp;omega)).set_ne _ _ (by simp;omega);have G:Below w.heap.size w ((H.setCell ⟨W.heap.size,0,none⟩ (.slice none 0 0)).setCell ⟨W.heap.size,1,none⟩ (.slice none 0 0)):=(Q.setCell (by simp;omega) _).setCell (by simp;omega) _;generalize hU:(H.setCell ⟨W.heap.size,0,none⟩ (.slice none 0 0)).setCell ⟨W.heap.size,1,none⟩ (.slice none 0 0)=U at F C G ⊢)
   | (have F:=Bx.new H #[.slice none 0 0,.slice none 0 0] 44;have C:=c.alloc (.cells #[.slice none 0 0,.slice none 0 0] 44);have G:=Q.alloc Q.size (.cells #[.slice none 0 0,.slice none 0 0] 44);generalize hU:H.alloc (.cells #[.slice none 0 0,.slice none 0 0] 44)=U at F C G ⊢)
  have r0:=F.cell 0;have r1:=F.cell 1;have z0:=C.cell 0;have z1:=C.cell 1;have f0:=C.fr 0;have f1:=C.fr 1;simp only[w_5,w_6,w_7] at r0 r1 z0 z1;have aA:=qh F;clear F;have S:=qh C;clear C;have d:=qh G;clear G;have aG:=qh c;clear c;go_wp2;have q:=(S.o.set 0 (.slice none 0 0)).set 1 (.slice none 0 0);have q0:=q.cell 0;have q1:=q.cell 1;simp only[w_5,w_6,w_7,w_1,w_2,w_3] at q0 q1;refine bodyPost_ret (v:=.tuple #[.agg #[.slice none 0 0,.slice none 0 0],.int .i64 41]) (by simp[results,Tryz.results99,go_sem,q0,q1]) rfl ⟨?_,?_⟩
  ·unfold Zrn;rw[← R.o,if_neg hle]
  exact(d.o.setCell (by simp) _).setCell (by simp) _
end Go.Proofs.YtncekbbhgipdlaaGreat
