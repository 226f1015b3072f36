/-
  The walks over the program's explored[set] and Nfa.determinize, for automata of up to N <= 128 states.
  Conditions: the automaton reads as such; its moves, first and last states lie below N.
-/
import Derived.Test.YtncekbbhgipdlaaGreatPs11Wfe
set_option maxHeartbeats 3200000
set_option maxRecDepth 100000
namespace Go.Proofs.YtncekbbhgipdlaaGreat
open Go.RowKit Go.Maps
def pW (v:Nat):Int × Int:=(((loW v:Nat):Int),((hiW v:Nat):Int))
def nW (x:Int × Int):Nat:=x.1.toNat+2 ^ 64*x.2.toNat
theorem Zod (v:Nat):nW (pW v)=v:=by show loW v+2 ^ 64*hiW v=v;unfold loW hiW;exact Nat.mod_add_div v (2 ^ 64)
def nxW (N:Nat) (n:NfaD) (x:Int × Int) (c:Nat):Int × Int:=pW (stV N n.moves (nW x) (c:Int))
def enW (n:NfaD) (x:Int × Int):Bool:=endV n (nW x)
theorem ZmH (N:Nat) (n:NfaD) (v c:Nat):nxW N n (pW v) c=pW (stV N n.moves v (c:Int)):=by unfold nxW;rw[Zod]
theorem Zo3 (n:NfaD) (v:Nat):enW n (pW v)=endV n v:=by unfold enW;rw[Zod]
def isSW (N:Nat) (x:Int × Int):Prop:=∃ v:Nat,v<2 ^ N∧x=pW v
theorem ZoB {N:Nat} (hN:N≤128) {x:Int × Int} (h:isSW N x):fitU x.1∧fitU x.2:=by obtain⟨v,hv,rfl⟩:=h;have h1:=Zgq v;have h2:=Znd (ltW hN hv);unfold fitU pW;simp only;omega
theorem Zm7 {N:Nat} {n:NfaD} (hm:mvIn N n.moves) (x:Int × Int) (c:Nat):isSW N (nxW N n x c):=⟨_,ZpO hm _ _,rfl⟩
abbrev metW (N:Nat) (n:NfaD) (K:Nat):List (Int × Int):=(bat (nxW N n) (pW (fstW N n)) K).met
theorem Zpz {N:Nat} {n:NfaD} (hm:mvIn N n.moves) (hs:inN N n.firsts):fstW N n<2 ^ N:=Zd9 hm (Zf6 hs) N
def ZoU (N:Nat) (n:NfaD) (K B:Nat) (e:Ending) (w':World):Prop :=
 if (metW N n K).length≤K then
  ∃ an cn ae ce,e = .returned (.tuple #[.agg #[.slice an (metW N n K).length cn,.slice ae (metW N n K).length ce],.int .i64 ((metW N n K).length:Nat)]) ∧
   DfaO 38 3 4 B w'.heap.size w' (.agg #[.slice an (metW N n K).length cn,.slice ae (metW N n K).length ce]) (Zat (nxW N n) (enW n) (metW N n K))
 else e = .returned (.tuple #[.agg #[.slice none 0 0,.slice none 0 0],.int .i64 41])
theorem ZlM (N:Nat) (hN:N≤128) (n:NfaD) (K:Nat) (v1 v2 v3:Value) (w:World) (hk0:0<K) (hk1:K≤100000) (hm:mvIn N n.moves) (hml:n.moves.length≤1000000) (hs:inN N n.firsts) (he:inN N n.ends) (h1:Moves 0 w v1 n.moves) (h3:Ints 0 w v3 n.ends) :
  Calls Tryz.prog 131 #[setW (fstW N n),.int .i64 (K:Nat),.func (.func 133) #[.agg (nfaC n v1 v2 v3)] #[],.func (.func 134) #[.agg (nfaC n v1 v2 v3)] #[]] w
   fun e w'=>ZgZ (pW (fstW N n)) (nxW N n) (enW n) K w.heap.size e w'∧Below w.heap.size w w':=by
 refine ZgM ((loW (fstW N n):Nat):Int) ((hiW (fstW N n):Nat):Int) (.agg (nfaC n v1 v2 v3)) (nxW N n) (enW n) (isSW N) K w ⟨_,Zpz hm hs,rfl⟩ (fun x c _ _=>Zm7 hm x c) (fun x hx=>ZoB hN hx) hk0 hk1 ?_ ?_
 ·rintro x c w' ⟨v,hv,rfl⟩ hc hb;rw[ZmH];refine(ZiZ N hN n v (c:Int) v1 v2 v3 w' hm hml hv (h1.below hb)).mono ?_;rintro e w2 ⟨rfl,h⟩;exact⟨rfl,h⟩
 rintro x w' ⟨v,hv,rfl⟩ hb;rw[Zo3];exact Zi0 N hN n v v1 v2 v3 w' hv he (h3.below hb) _ rfl
theorem Zcs (N:Nat) (hN:N≤128) (n:NfaD) (K:Nat) (hK:K=40) (v1 v2 v3:Value) (w:World) (hm:mvIn N n.moves) (hml:n.moves.length≤1000000) (hs:inN N n.firsts) (he:inN N n.ends) (h1:Moves 0 w v1 n.moves) (h3:Ints 0 w v3 n.ends) :
  Calls Tryz.prog 131 #[setW (fstW N n),.int .i64 40,.func (.func 133) #[.agg #[.int .i64 n.states,v1,v2,v3]] #[],.func (.func 134) #[.agg #[.int .i64 n.states,v1,v2,v3]] #[]] w
   fun e w'=>ZgZ (pW (fstW N n)) (nxW N n) (enW n) K w.heap.size e w'∧Below w.heap.size w w':=by
 have h:=ZlM N hN n K v1 v2 v3 w (by omega) (by omega) hm hml hs he h1 h3;have e:((K:Nat):Int)=40:=by omega
 rw[e] at h;exact h
set_option linter.all false in
theorem Zfx (N:Nat) (hN:N≤128) (n:NfaD) (K:Nat) (hK:K=40) (v1 v2 v3:Value) (w:World) (hm:mvIn N n.moves) (hml:n.moves.length≤1000000) (hs:inN N n.firsts) (hsl:n.firsts.length≤1000000) (he:inN N n.ends) (h1:Moves 0 w v1 n.moves) (h2:Ints 0 w v2 n.firsts) (h3:Ints 0 w v3 n.ends) :
  Calls Tryz.prog 99 #[.agg (nfaC n v1 v2 v3)] w fun e w'=>ZoU N n K w.heap.size e w'∧Below w.heap.size w w':=by
 obtain⟨W,hW⟩:=eI (((w.alloc (.cells (nfaC n v1 v2 v3) 81)).alloc (.cells #[.slice none 0 0,.slice none 0 0] 44)));have hWB:Below w.heap.size w W:=by rw[hW];exact((Below.refl _ _).alloc (Nat.le_refl _) _).alloc (by simp) _
 have x0:Bx W w.heap.size (nfaC n v1 v2 v3) 81:=by rw[hW];exact(Bx.new w _ _).alloc _
 have x1:Bx W (w.heap.size+1) #[.slice none 0 0,.slice none 0 0] 44:=by rw[hW];simpa using (Bx.new (w.alloc (.cells (nfaC n v1 v2 v3) 81)) #[.slice none 0 0,.slice none 0 0] 44)
 have hl0:=x0.lt;have c0:=x0.cell 0;have c1:=x0.cell 1;have c2:=x0.cell 2;have c3:=x0.cell 3;simp only[nfaC,w_5,w_6,w_7] at c0 c1 c2 c3;have Hk:=qh (fun (w':World) (h:Below W.drew.heap.size W.drew w')=>(show w'.cell? ⟨w.heap.size,0,none⟩=some (.int .i64 n.states)∧w'.cell? ⟨w.heap.size,1,none⟩=some v1∧w'.cell? ⟨w.heap.size,2,none⟩=some v2∧w'.cell? ⟨w.heap.size,3,none⟩=some v3 from⟨(bcell h _ _ hl0).trans c0,(bcell h _ _ hl0).trans c1,(bcell h _ _ hl0).trans c2,(bcell h _ _ hl0).trans c3⟩));have H1:=qh (h1.below hWB.drew);have H2:=qh (h2.below hWB.drew);have H3:=qh (h3.below hWB.drew);have Hx0W:=qh hW;clear hW;have hz0:w.heap.size+1<W.heap.size:=x1.lt;have Hhm:=qh hm;clear hm;replace hs:=qh hs;replace he:=qh he;replace hWB:=qh hWB;have Hx0:=qh x0;clear x0;have Hx1:=qh x1;clear x1;clear h1 h2 h3;have hA0:Below W.drew.heap.size W.drew (W.alloc (.cells #[.slice none 0 0,.slice none 0 0] 44)).drew:=by have h:=((Below.refl W.heap.size W).alloc (Nat.le_refl _) (.cells #[.slice none 0 0,.slice none 0 0] 44)).drew;exact⟨h.os,h.tape,h.output,h.size,h.block⟩
 have HF1:=qh (Zc9 N hN n v1 v2 v3 (W.alloc (.cells #[.slice none 0 0,.slice none 0 0] 44)).drew Hhm.out hml hs.out hsl (H1.out.below hA0) (H2.out.below hA0));have HF2:=qh (fun (u:World) (h:Below (W.alloc (.cells #[.slice none 0 0,.slice none 0 0] 44)).drew.heap.size (W.alloc (.cells #[.slice none 0 0,.slice none 0 0] 44)).drew u)=>(show Below W.drew.heap.size W.drew u∧Bx u W.heap.size #[.slice none 0 0,.slice none 0 0] 44 from⟨hA0.trans (h.mono hA0.size),(Bx.new W #[.slice none 0 0,.slice none 0 0] 44).drew.below h (by simp[World.drew])⟩));replace hA0:=qh hA0
 go_enter Tryz.func99, Tryz.ntmps99
 obtain⟨L,hL⟩:=eI ((metW N n K).length);obtain⟨D,hD⟩:=eI (Zat (nxW N n) (enW n) (metW N n K));have hw0:w.heap.size≤W.drew.heap.size:=hWB.out.size;have hKK:=hK;have HhKK:=qh hKK;clear hKK;clear hK;have HhL:=qh hL;clear hL;have HhD:=qh hD;clear hD;by_cases hle:L≤K
 ·go_wp2_with fail;rw[← Hx0W.out]
  go_region_held3 (fun w'=>w'.cell? ⟨w.heap.size,0,none⟩=some (.int .i64 n.states)∧w'.cell? ⟨w.heap.size,1,none⟩=some v1∧w'.cell? ⟨w.heap.size,2,none⟩=some v2∧w'.cell? ⟨w.heap.size,3,none⟩=some v3)
   (first|go_keep|exact Hk.out _ hq0|exact Hk.out _ hq1|exact Hk.out _ (hq1.alloc hq1.size _)|exact Hk.out _ (hq0.alloc hq0.size _)|exact Hk.out _ hA0.out|exact Hk.out _ ((hq1.setCell hq0.size _).setCell hq0.size _)|exact Hk.out _ ((hq1.setCell (Nat.le_refl _) _).setCell (Nat.le_refl _) _))
   (first
    | (go_at_call 132;(with_reducible refine(Zc9 N hN n _ _ _ _ Hhm.out hml hs.out hsl H1.out H2.out).mono ?_);rintro e u0 ⟨rfl,hq0⟩)
    | (go_at_call 131;(with_reducible refine(Zcs N hN n K HhKK.out v1 v2 v3 _ Hhm.out hml hs.out he.out (H1.out.below hq0) (H3.out.below hq0)).mono ?_);rintro e u1 ⟨hr,hb1⟩;have hq1:=hq0.trans (hb1.mono hq0.size);have yB:=yA.below hb1 yA.lt;obtain⟨g0,g1,i0,i1⟩:=box2 yB;unfold ZgZ at hr;rw[← HhL.out,← HhD.out,if_pos hle] at hr;obtain⟨an,cn,ae,ce,am,cm,rfl,hd,-⟩:=hr;have hdm:=DMem.of hd (Nat.le_trans hw0 hq0.size))
    | (go_at_call 131;(with_reducible refine(Zcs N hN n K HhKK.out v1 v2 v3 _ Hhm.out hml hs.out he.out (H1.out.below hq0) (H3.out.below hq0)).mono ?_);rintro e u1 ⟨hr,hb1⟩;have hq1:=hq0.trans (hb1.mono hq0.size);unfold ZgZ at hr;rw[← HhL.out,← HhD.out,if_pos hle] at hr;obtain⟨an,cn,ae,ce,am,cm,rfl,hd,-⟩:=hr;have hdm:=DMem.of hd (Nat.le_trans hw0 hq0.size))
    | (go_at_call 131;(with_reducible refine(Zcs N hN n K HhKK.out v1 v2 v3 _ Hhm.out hml hs.out he.out (H1.out.below (hq0.alloc hq0.size _)) (H3.out.below (hq0.alloc hq0.size _))).mono ?_);rintro e u1 ⟨hr,hb1⟩;have hqA:=hq0.alloc hq0.size (.cells #[.slice none 0 0,.slice none 0 0] 44);have hq1:=hqA.trans (hb1.mono hqA.size);have yB:=(Bx.new u0 #[.slice none 0 0,.slice none 0 0] 44).below hb1 (by simp);obtain⟨g0,g1,i0,i1⟩:=box2 yB;unfold ZgZ at hr;rw[← HhL.out,← HhD.out,if_pos hle] at hr;obtain⟨an,cn,ae,ce,am,cm,rfl,hd,-⟩:=hr;have hdm:=DMem.of hd (Nat.le_trans hw0 hqA.size))
    | (go_at_call 132;(with_reducible refine HF1.out.mono ?_);rintro e u0 ⟨rfl,hb0⟩;obtain⟨hq0,yA⟩:=HF2.out u0 hb0))
  all_goals
   have hbw:Below w.heap.size w u1:=hWB.out.drew.trans (hq1.mono hWB.out.drew.size);have xr:=Hx1.out.drew.below hq1 Hx1.out.lt;have hs0:w.heap.size+1<u0.heap.size:=Nat.lt_of_lt_of_le hz0 hq0.size;have hs1:w.heap.size+1<u1.heap.size:=Nat.lt_of_lt_of_le hz0 hq1.size
   first
    | (have hUm:=(hdm.set yB 0 (.slice an L cn)).set (yB.set 0 _) 1 (.slice ae L ce);have hUx:Bx ((u1.setCell ⟨u0.heap.size,0,none⟩ (.slice an L cn)).setCell ⟨u0.heap.size,1,none⟩ (.slice ae L ce)) u0.heap.size #[.slice an L cn,.slice ae L ce] 44:=(by simpa using (yB.set 0 (.slice an L cn)).set 1 (.slice ae L ce));have hUr:Bx ((u1.setCell ⟨u0.heap.size,0,none⟩ (.slice an L cn)).setCell ⟨u0.heap.size,1,none⟩ (.slice ae L ce)) (w.heap.size+1) #[.slice none 0 0,.slice none 0 0] 44:=(xr.set_ne _ _ (by simp;omega)).set_ne _ _ (by simp;omega);have hUb:Below w.heap.size w ((u1.setCell ⟨u0.heap.size,0,none⟩ (.slice an L cn)).setCell ⟨u0.heap.size,1,none⟩ (.slice ae L ce)):=(hbw.setCell (by simp;omega) _).setCell (by simp;omega) _;generalize hU:(u1.setCell ⟨u0.heap.size,0,none⟩ (.slice an L cn)).setCell ⟨u0.heap.size,1,none⟩ (.slice ae L ce)=U at hUm hUx hUr hUb ⊢)
    | (have hUm:=(hdm.set yB 0 (.slice an L cn)).set (yB.set 0 _) 1 (.slice ae L ce);have hUx:Bx ((u1.setCell ⟨W.heap.size,0,none⟩ (.slice an L cn)).setCell ⟨W.heap.size,1,none⟩ (.slice ae L ce)) W.heap.size #[.slice an L cn,.slice ae L ce] 44:=(by simpa using (yB.set 0 (.slice an L cn)).set 1 (.slice ae L ce));have hUr:Bx ((u1.setCell ⟨W.heap.size,0,none⟩ (.slice an L cn)).setCell ⟨W.heap.size,1,none⟩ (.slice ae L ce)) (w.heap.size+1) #[.slice none 0 0,.slice none 0 0] 44:=(xr.set_ne _ _ (by simp;omega)).set_ne _ _ (by simp;omega);have hUb:Below w.heap.size w ((u1.setCell ⟨W.heap.size,0,none⟩ (.slice an L cn)).setCell ⟨W.heap.size,1,none⟩ (.slice ae L ce)):=(hbw.setCell (by simp;omega) _).setCell (by simp;omega) _;generalize hU:(u1.setCell ⟨W.heap.size,0,none⟩ (.slice an L cn)).setCell ⟨W.heap.size,1,none⟩ (.slice ae L ce)=U at hUm hUx hUr hUb ⊢)
    | (have hUm:=hdm.alloc (.cells #[.slice an L cn,.slice ae L ce] 44);have hUx:=Bx.new u1 #[.slice an L cn,.slice ae L ce] 44;have hUr:=xr.alloc (.cells #[.slice an L cn,.slice ae L ce] 44);have hUb:=hbw.alloc hbw.size (.cells #[.slice an L cn,.slice ae L ce] 44);generalize hU:u1.alloc (.cells #[.slice an L cn,.slice ae L ce] 44)=U at hUm hUx hUr hUb ⊢)
   have r0:=hUx.cell 0;have r1:=hUx.cell 1;have z0:=hUr.cell 0;have z1:=hUr.cell 1;have f0:=hUr.fr 0;have f1:=hUr.fr 1;simp only[w_5,w_6,w_7] at r0 r1 z0 z1;have HhUm:=qh hUm;clear hUm;have HhUx:=qh hUx;clear hUx;have HhUr:=qh hUr;clear hUr;have HhUb:=qh hUb;clear hUb;have Hhdm:=qh hdm;clear hdm;have Hxr:=qh xr;clear xr;clear hd;go_wp2;have q:=(HhUr.out.set 0 (.slice an L cn)).set 1 (.slice ae L ce);have q0:=q.cell 0;have q1:=q.cell 1;simp only[w_5,w_6,w_7,w_1,w_2,w_3] at q0 q1;refine bodyPost_ret (v:=.tuple #[.agg #[.slice an L cn,.slice ae L ce],.int .i64 L]) (by simp[results,Tryz.results99,go_sem,q0,q1]) rfl ⟨?_,?_⟩
   ·unfold ZoU;rw[← HhL.out,← HhD.out,if_pos hle];have hm:=(HhUm.out.set HhUr.out 0 (.slice an L cn)).set (HhUr.out.set 0 _) 1 (.slice ae L ce);exact⟨_,_,_,_,rfl,_,_,rfl,hm.1,hm.2⟩
   exact(HhUb.out.setCell (by simp) _).setCell (by simp) _
 go_wp2_with fail;rw[← Hx0W.out]
 go_region_held3 (fun w'=>w'.cell? ⟨w.heap.size,0,none⟩=some (.int .i64 n.states)∧w'.cell? ⟨w.heap.size,1,none⟩=some v1∧w'.cell? ⟨w.heap.size,2,none⟩=some v2∧w'.cell? ⟨w.heap.size,3,none⟩=some v3)
  (first|go_keep|exact Hk.out _ hq0|exact Hk.out _ hq1|exact Hk.out _ (hq1.alloc hq1.size _)|exact Hk.out _ (hq0.alloc hq0.size _)|exact Hk.out _ hA0.out|exact Hk.out _ ((hq1.setCell hq0.size _).setCell hq0.size _)|exact Hk.out _ ((hq1.setCell (Nat.le_refl _) _).setCell (Nat.le_refl _) _))
  (first
   | (go_at_call 132;(with_reducible refine(Zc9 N hN n _ _ _ _ Hhm.out hml hs.out hsl H1.out H2.out).mono ?_);rintro e u0 ⟨rfl,hq0⟩)
   | (go_at_call 131;(with_reducible refine(Zcs N hN n K HhKK.out v1 v2 v3 _ Hhm.out hml hs.out he.out (H1.out.below hq0) (H3.out.below hq0)).mono ?_);rintro e u1 ⟨hr,hb1⟩;have hq1:=hq0.trans (hb1.mono hq0.size);have yB:=yA.below hb1 yA.lt;obtain⟨g0,g1,i0,i1⟩:=box2 yB;unfold ZgZ at hr;rw[← HhL.out,← HhD.out,if_neg hle] at hr;subst hr)
   | (go_at_call 131;(with_reducible refine(Zcs N hN n K HhKK.out v1 v2 v3 _ Hhm.out hml hs.out he.out (H1.out.below hq0) (H3.out.below hq0)).mono ?_);rintro e u1 ⟨hr,hb1⟩;have hq1:=hq0.trans (hb1.mono hq0.size);unfold ZgZ at hr;rw[← HhL.out,← HhD.out,if_neg hle] at hr;subst hr)
   | (go_at_call 131;(with_reducible refine(Zcs N hN n K HhKK.out v1 v2 v3 _ Hhm.out hml hs.out he.out (H1.out.below (hq0.alloc hq0.size _)) (H3.out.below (hq0.alloc hq0.size _))).mono ?_);rintro e u1 ⟨hr,hb1⟩;have hqA:=hq0.alloc hq0.size (.cells #[.slice none 0 0,.slice none 0 0] 44);have hq1:=hqA.trans (hb1.mono hqA.size);have yB:=(Bx.new u0 #[.slice none 0 0,.slice none 0 0] 44).below hb1 (by simp);obtain⟨g0,g1,i0,i1⟩:=box2 yB;unfold ZgZ at hr;rw[← HhL.out,← HhD.out,if_neg hle] at hr;subst hr)
   | (go_at_call 132;(with_reducible refine HF1.out.mono ?_);rintro e u0 ⟨rfl,hb0⟩;obtain⟨hq0,yA⟩:=HF2.out u0 hb0))
 all_goals
  have hbw:Below w.heap.size w u1:=hWB.out.drew.trans (hq1.mono hWB.out.drew.size);have xr:=Hx1.out.drew.below hq1 Hx1.out.lt;have hs0:w.heap.size+1<u0.heap.size:=Nat.lt_of_lt_of_le hz0 hq0.size;have hs1:w.heap.size+1<u1.heap.size:=Nat.lt_of_lt_of_le hz0 hq1.size
  first
   | (have hUx:Bx ((u1.setCell ⟨u0.heap.size,0,none⟩ (.slice none 0 0)).setCell ⟨u0.heap.size,1,none⟩ (.slice none 0 0)) u0.heap.size #[.slice none 0 0,.slice none 0 0] 44:=(by simpa using (yB.set 0 (.slice none 0 0)).set 1 (.slice none 0 0));have hUr:Bx ((u1.setCell ⟨u0.heap.size,0,none⟩ (.slice none 0 0)).setCell ⟨u0.heap.size,1,none⟩ (.slice none 0 0)) (w.heap.size+1) #[.slice none 0 0,.slice none 0 0] 44:=(xr.set_ne _ _ (by simp;omega)).set_ne _ _ (by simp;omega);have hUb:Below w.heap.size w ((u1.setCell ⟨u0.heap.size,0,none⟩ (.slice none 0 0)).setCell ⟨u0.heap.size,1,none⟩ (.slice none 0 0)):=(hbw.setCell (by simp;omega) _).setCell (by simp;omega) _;generalize hU:(u1.setCell ⟨u0.heap.size,0,none⟩ (.slice none 0 0)).setCell ⟨u0.heap.size,1,none⟩ (.slice none 0 0)=U at hUx hUr hUb ⊢)
   | (have hUx:Bx ((u1.setCell ⟨W.heap.size,0,none⟩ (.slice none 0 0)).setCell ⟨W.heap.size,1,none⟩ (.slice none 0 0)) W.heap.size #[.slice none 0 0,.slice none 0 0] 44:=(by simpa using (yB.set 0 (.slice none 0 0)).set 1 (.slice none 0 0));have hUr:Bx ((u1.setCell ⟨W.heap.size,0,none⟩ (.slice none 0 0)).setCell ⟨W.heap.size,1,none⟩ (.slice none 0 0)) (w.heap.size+1) #[.slice none 0 0,.slice none 0 0] 44:=(xr.set_ne _ _ (by simp;omega)).set_ne _ _ (by simp;omega);have hUb:Below w.heap.size w ((u1.setCell ⟨W.heap.size,0,none⟩ (.slice none 0 0)).setCell ⟨W.heap.size,1,none⟩ (.slice none 0 0)):=(hbw.setCell (by simp;omega) _).setCell (by simp;omega) _;generalize hU:(u1.setCell ⟨W.heap.size,0,none⟩ (.slice none 0 0)).setCell ⟨W.heap.size,1,none⟩ (.slice none 0 0)=U at hUx hUr hUb ⊢)
   | (have hUx:=Bx.new u1 #[.slice none 0 0,.slice none 0 0] 44;have hUr:=xr.alloc (.cells #[.slice none 0 0,.slice none 0 0] 44);have hUb:=hbw.alloc hbw.size (.cells #[.slice none 0 0,.slice none 0 0] 44);generalize hU:u1.alloc (.cells #[.slice none 0 0,.slice none 0 0] 44)=U at hUx hUr hUb ⊢)
  have r0:=hUx.cell 0;have r1:=hUx.cell 1;have z0:=hUr.cell 0;have z1:=hUr.cell 1;have f0:=hUr.fr 0;have f1:=hUr.fr 1;simp only[w_5,w_6,w_7] at r0 r1 z0 z1;have HhUx:=qh hUx;clear hUx;have HhUr:=qh hUr;clear hUr;have HhUb:=qh hUb;clear hUb;have Hxr:=qh xr;clear xr;go_wp2;have q:=(HhUr.out.set 0 (.slice none 0 0)).set 1 (.slice none 0 0);have q0:=q.cell 0;have q1:=q.cell 1;simp only[w_5,w_6,w_7,w_1,w_2,w_3] at q0 q1;refine bodyPost_ret (v:=.tuple #[.agg #[.slice none 0 0,.slice none 0 0],.int .i64 41]) (by simp[results,Tryz.results99,go_sem,q0,q1]) rfl ⟨?_,?_⟩
  ·unfold ZoU;rw[← HhL.out,if_neg hle]
  exact(HhUb.out.setCell (by simp) _).setCell (by simp) _
end Go.Proofs.YtncekbbhgipdlaaGreat
