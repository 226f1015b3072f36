/-
  The walk over the program's NfaEither; NfaEither of both over readable automata.
  Conditions: the automata are readable.
-/
import Derived.Test.YtfanhfcamblghaaPq38If
set_option maxHeartbeats 16000000
set_option maxRecDepth 100000
namespace Go.Proofs.Ytfanhfcamblghaa
open Go.RowKit
theorem Zdq (p q:NfaD):ZcN p q=(zeN,false)∨(Zaq p=true∧Zaq q=true∧Zaq (ZdP p q)=true∧ZcN p q=(ZdP p q,true)):=by
 unfold ZcN limN;cases h1:Zaq p
 ·exact .inl (if_neg (by simp))
 cases h2:Zaq q
 ·exact .inl (if_neg (by simp))
 rw[if_pos ⟨rfl,rfl⟩];cases h3:Zaq (ZdP p q)
 ·exact .inl (if_neg (by simp))
 exact .inr ⟨rfl,rfl,rfl,if_pos rfl⟩
theorem Zht {p q:NfaD} (h:Zaq p=false∨Zaq q=false):ZcN p q=(zeN,false):=by
 rcases Zdq p q with h2|⟨h1,h2,-⟩
 ·exact h2
 rcases h with h|h
 ·rw[h] at h1;cases h1
 rw[h] at h2;cases h2
theorem Zjx {p q:NfaD} (h1:Zaq p=true) (h2:Zaq q=true):ZcN p q=limN (ZdP p q):=if_pos ⟨h1,h2⟩
theorem Zjw {p q X:NfaD} (h:ZcN p q=(X,true)):Zaq p=true∧Zaq q=true∧Zaq X=true∧X=ZdP p q:=by
 rcases Zdq p q with h2|⟨a1,a2,a3,h2⟩<;>rw[h2] at h<;>injection h with h3 h4
 ·cases h4
 subst h3;exact⟨a1,a2,a3,rfl⟩
theorem Zib {p q X:NfaD} (h:ZcN p q=(X,false)):X=zeN:=by
 rcases Zdq p q with h2|⟨-,-,-,h2⟩<;>rw[h2] at h<;>injection h with h3 h4
 ·exact h3.symm
 cases h4
theorem Zfw (p q X:NfaD) (ok:Bool) (v u:Value) (w:World) (hX:ZcN p q=(X,ok)) (hp:NfaR 0 w v p) (hq:NfaR 0 w u q) :
  Calls Try.prog 58 #[v,u] w fun e w'=>RNt X ok w e w':=by
 have P:=qh hp;have Q:=qh hq;obtain⟨v1,v2,v3,rfl,h1,h2,h3,-,-⟩:=hp;obtain⟨u1,u2,u3,rfl,g1,g2,g3,-,-⟩:=hq;have hS0:=(((St.start w).alloc _ rfl #[.int .i64 p.states,v1,v2,v3] 28).alloc (w.heap.size+1) (by simp) #[.int .i64 q.states,u1,u2,u3] 28).alloc (w.heap.size+1+1) (by simp) #[.int .i64 0,.slice none 0 0,.slice none 0 0,.slice none 0 0] 28;have e0:=hS0.cell (v:=.int .i64 p.states) 0 0 rfl rfl;have e1:=hS0.cell (v:=v1) 0 1 rfl rfl;have e2:=hS0.cell (v:=v2) 0 2 rfl rfl;have e3:=hS0.cell (v:=v3) 0 3 rfl rfl;cases hp:Zaq p
 ·rw[Zht (.inl hp)] at hX
  injection hX with hX hk
  subst hX hk;have Hhp:=qh hp;clear hp;replace hS0:=qh hS0;clear h1 h2 h3 g1 g2 g3
  go_enter Try.func58, Try.ntmps58
  go_wp2_with fail;refine(Zac p _ _ (P.out.below hS0.out.bel) false Hhp.out).mono ?_;rintro e w1 ⟨rfl,hb1⟩;have HS1:=qh (hS0.out.call hb1);clear hb1 e0 e1 e2 e3;have f0:=HS1.out.fr 2 0 rfl;have k0:=HS1.out.cell (v:=.int .i64 0) 2 0 rfl rfl;have f1:=HS1.out.fr 2 1 rfl;have k1:=HS1.out.cell (v:=.slice none 0 0) 2 1 rfl rfl;have f2:=HS1.out.fr 2 2 rfl;have k2:=HS1.out.cell (v:=.slice none 0 0) 2 2 rfl rfl;have f3:=HS1.out.fr 2 3 rfl;have k3:=HS1.out.cell (v:=.slice none 0 0) 2 3 rfl rfl;have hq:=(((HS1.out.set 2 rfl 0 (.int .i64 0)).set 2 rfl 1 (.slice none 0 0)).set 2 rfl 2 (.slice none 0 0)).set 2 rfl 3 (.slice none 0 0);have Hq:=qh hq;have q0:=hq.cell (v:=.int .i64 0) 2 0 rfl rfl;have q1:=hq.cell (v:=.slice none 0 0) 2 1 rfl rfl;have q2:=hq.cell (v:=.slice none 0 0) 2 2 rfl rfl;have q3:=hq.cell (v:=.slice none 0 0) 2 3 rfl rfl;clear hq;go_wp2;refine bodyPost_ret (v:=.tuple #[.agg #[.int .i64 0,.slice none 0 0,.slice none 0 0,.slice none 0 0],.bool false]) (by simp[results,Try.results58,go_sem,q0,q1,q2,q3]) rfl ?_;exact ZaJ Hq.out.bel
 cases hq:Zaq q
 ·rw[Zht (.inr hq)] at hX
  injection hX with hX hk
  subst hX hk;have Hhp:=qh hp;clear hp;have Hhq:=qh hq;clear hq;replace hS0:=qh hS0;clear h1 h2 h3 g1 g2 g3
  go_enter Try.func58, Try.ntmps58
  go_wp2_with fail;refine(Zac p _ _ (P.out.below hS0.out.bel) true Hhp.out).mono ?_;rintro e w1 ⟨rfl,hb1⟩;have HS1:=qh (hS0.out.call hb1);clear hb1 e0 e1 e2 e3;have e0:=HS1.out.cell (v:=.int .i64 q.states) 1 0 rfl rfl;have e1:=HS1.out.cell (v:=u1) 1 1 rfl rfl;have e2:=HS1.out.cell (v:=u2) 1 2 rfl rfl;have e3:=HS1.out.cell (v:=u3) 1 3 rfl rfl;go_wp2_with fail;refine(Zac q _ _ (Q.out.below HS1.out.bel) false Hhq.out).mono ?_;rintro e w2 ⟨rfl,hb2⟩;have HS2:=qh (HS1.out.call hb2);clear hb2 e0 e1 e2 e3;have f0:=HS2.out.fr 2 0 rfl;have k0:=HS2.out.cell (v:=.int .i64 0) 2 0 rfl rfl;have f1:=HS2.out.fr 2 1 rfl;have k1:=HS2.out.cell (v:=.slice none 0 0) 2 1 rfl rfl;have f2:=HS2.out.fr 2 2 rfl;have k2:=HS2.out.cell (v:=.slice none 0 0) 2 2 rfl rfl;have f3:=HS2.out.fr 2 3 rfl;have k3:=HS2.out.cell (v:=.slice none 0 0) 2 3 rfl rfl;have hq:=(((HS2.out.set 2 rfl 0 (.int .i64 0)).set 2 rfl 1 (.slice none 0 0)).set 2 rfl 2 (.slice none 0 0)).set 2 rfl 3 (.slice none 0 0);have Hq:=qh hq;have q0:=hq.cell (v:=.int .i64 0) 2 0 rfl rfl;have q1:=hq.cell (v:=.slice none 0 0) 2 1 rfl rfl;have q2:=hq.cell (v:=.slice none 0 0) 2 2 rfl rfl;have q3:=hq.cell (v:=.slice none 0 0) 2 3 rfl rfl;clear hq;go_wp2;refine bodyPost_ret (v:=.tuple #[.agg #[.int .i64 0,.slice none 0 0,.slice none 0 0,.slice none 0 0],.bool false]) (by simp[results,Try.results58,go_sem,q0,q1,q2,q3]) rfl ?_;exact ZaJ Hq.out.bel
 rw[Zjx hp hq] at hX;have Hst:=qh (fun (z:World) (hz:Below w.heap.size w z)=>ZgR p q v1 v2 v3 u1 u2 u3 z hp hq (h1.below hz) (h2.below hz) (h3.below hz) (g1.below hz) (g2.below hz) (g3.below hz));obtain⟨N,hN⟩:=eI (ZdP p q);have hNs:-9223372036854775808≤N.states∧N.states≤9223372036854775807:=by obtain⟨a,ha,ha40,-⟩:=Zao hp;obtain⟨b,hb,hb40,-⟩:=Zao hq;rw[hN];simp only[ZdP,shN];omega
 obtain⟨hNs0,hNs1⟩:=hNs;rw[← hN] at Hst hX;cases hNk:Zaq N
 ·have hlm:limN N=(zeN,false):=if_neg (by rw[hNk];simp);rw[hlm] at hX
  injection hX with hX hk
  subst hX hk;have Hhp:=qh hp;clear hp;have Hhq:=qh hq;clear hq;replace hN:=qh hN;have HhNk:=qh hNk;clear hNk;replace hS0:=qh hS0;clear h1 h2 h3 g1 g2 g3 hlm
  go_enter Try.func58, Try.ntmps58
  go_wp2_with fail;refine(Zac p _ _ (P.out.below hS0.out.bel) true Hhp.out).mono ?_;rintro e w1 ⟨rfl,hb1⟩;have HS1:=qh (hS0.out.call hb1);clear hb1 e0 e1 e2 e3;have e0:=HS1.out.cell (v:=.int .i64 q.states) 1 0 rfl rfl;have e1:=HS1.out.cell (v:=u1) 1 1 rfl rfl;have e2:=HS1.out.cell (v:=u2) 1 2 rfl rfl;have e3:=HS1.out.cell (v:=u3) 1 3 rfl rfl;go_wp2_with fail;refine(Zac q _ _ (Q.out.below HS1.out.bel) true Hhq.out).mono ?_;rintro e w2 ⟨rfl,hb2⟩;have HS2:=qh (HS1.out.call hb2);clear hb2 e0 e1 e2 e3;have e0:=HS2.out.cell (v:=.int .i64 p.states) 0 0 rfl rfl;have e1:=HS2.out.cell (v:=v1) 0 1 rfl rfl;have e2:=HS2.out.cell (v:=v2) 0 2 rfl rfl;have e3:=HS2.out.cell (v:=v3) 0 3 rfl rfl;have g0:=HS2.out.cell (v:=.int .i64 q.states) 1 0 rfl rfl;have g1:=HS2.out.cell (v:=u1) 1 1 rfl rfl;have g2:=HS2.out.cell (v:=u2) 1 2 rfl rfl;have g3:=HS2.out.cell (v:=u3) 1 3 rfl rfl;go_wp2_with fail;refine(Hst.out _ HS2.out.bel).mono ?_;rintro e w3 ⟨a1,c1,a2,c2,a3,c3,rfl,hS'⟩;have HS3:=qh (HS2.out.cat hS');clear hS' e0 e1 e2 e3 g0 g1 g2 g3;have HN:=qh (Za1 (Zau (HS3.out.row 3 rfl)) (Zah (HS3.out.row 4 rfl)) (Zah (HS3.out.row 5 rfl)) hNs0 hNs1);go_wp2_with fail;refine(Zbj N _ _ _ _ false HhNk.out HN.out).mono ?_;rintro e w4 ⟨rfl,hb4⟩;have HS4:=qh (HS3.out.call hb4);clear hb4;have f0:=HS4.out.fr 2 0 rfl;have k0:=HS4.out.cell (v:=.int .i64 0) 2 0 rfl rfl;have f1:=HS4.out.fr 2 1 rfl;have k1:=HS4.out.cell (v:=.slice none 0 0) 2 1 rfl rfl;have f2:=HS4.out.fr 2 2 rfl
  have k2:=HS4.out.cell (v:=.slice none 0 0) 2 2 rfl rfl;have f3:=HS4.out.fr 2 3 rfl;have k3:=HS4.out.cell (v:=.slice none 0 0) 2 3 rfl rfl;have hq:=(((HS4.out.set 2 rfl 0 (.int .i64 0)).set 2 rfl 1 (.slice none 0 0)).set 2 rfl 2 (.slice none 0 0)).set 2 rfl 3 (.slice none 0 0);have Hq:=qh hq;have q0:=hq.cell (v:=.int .i64 0) 2 0 rfl rfl;have q1:=hq.cell (v:=.slice none 0 0) 2 1 rfl rfl;have q2:=hq.cell (v:=.slice none 0 0) 2 2 rfl rfl;have q3:=hq.cell (v:=.slice none 0 0) 2 3 rfl rfl;clear hq;simp only[↓reduceIte,Bool.false_eq_true];go_wp2;refine bodyPost_ret (v:=.tuple #[.agg #[.int .i64 0,.slice none 0 0,.slice none 0 0,.slice none 0 0],.bool false]) (by simp[results,Try.results58,go_sem,q0,q1,q2,q3]) rfl ?_;exact ZaJ Hq.out.bel
 have hlm:limN N=(N,true):=if_pos hNk;rw[hlm] at hX
 injection hX with hX hk
 subst hX hk;have Hhp:=qh hp;clear hp;have Hhq:=qh hq;clear hq;replace hN:=qh hN;have HhNk:=qh hNk;clear hNk;replace hS0:=qh hS0;clear h1 h2 h3 g1 g2 g3 hlm
 go_enter Try.func58, Try.ntmps58
 go_wp2_with fail;refine(Zac p _ _ (P.out.below hS0.out.bel) true Hhp.out).mono ?_;rintro e w1 ⟨rfl,hb1⟩;have HS1:=qh (hS0.out.call hb1);clear hb1 e0 e1 e2 e3;have e0:=HS1.out.cell (v:=.int .i64 q.states) 1 0 rfl rfl;have e1:=HS1.out.cell (v:=u1) 1 1 rfl rfl;have e2:=HS1.out.cell (v:=u2) 1 2 rfl rfl;have e3:=HS1.out.cell (v:=u3) 1 3 rfl rfl;go_wp2_with fail;refine(Zac q _ _ (Q.out.below HS1.out.bel) true Hhq.out).mono ?_;rintro e w2 ⟨rfl,hb2⟩;have HS2:=qh (HS1.out.call hb2);clear hb2 e0 e1 e2 e3;have e0:=HS2.out.cell (v:=.int .i64 p.states) 0 0 rfl rfl;have e1:=HS2.out.cell (v:=v1) 0 1 rfl rfl;have e2:=HS2.out.cell (v:=v2) 0 2 rfl rfl;have e3:=HS2.out.cell (v:=v3) 0 3 rfl rfl;have g0:=HS2.out.cell (v:=.int .i64 q.states) 1 0 rfl rfl;have g1:=HS2.out.cell (v:=u1) 1 1 rfl rfl;have g2:=HS2.out.cell (v:=u2) 1 2 rfl rfl;have g3:=HS2.out.cell (v:=u3) 1 3 rfl rfl;go_wp2_with fail;refine(Hst.out _ HS2.out.bel).mono ?_;rintro e w3 ⟨a1,c1,a2,c2,a3,c3,rfl,hS'⟩;have HS3:=qh (HS2.out.cat hS');clear hS' e0 e1 e2 e3 g0 g1 g2 g3;have HN:=qh (Za1 (Zau (HS3.out.row 3 rfl)) (Zah (HS3.out.row 4 rfl)) (Zah (HS3.out.row 5 rfl)) hNs0 hNs1);go_wp2_with fail;refine(Zbj N _ _ _ _ true HhNk.out HN.out).mono ?_;rintro e w4 ⟨rfl,hb4⟩;have HS4:=qh (HS3.out.call hb4);clear hb4;have f0:=HS4.out.fr 2 0 rfl;have k0:=HS4.out.cell (v:=.int .i64 0) 2 0 rfl rfl;have f1:=HS4.out.fr 2 1 rfl;have k1:=HS4.out.cell (v:=.slice none 0 0) 2 1 rfl rfl;have f2:=HS4.out.fr 2 2 rfl
 have k2:=HS4.out.cell (v:=.slice none 0 0) 2 2 rfl rfl;have f3:=HS4.out.fr 2 3 rfl;have k3:=HS4.out.cell (v:=.slice none 0 0) 2 3 rfl rfl;have hq:=(((HS4.out.set 2 rfl 0 (.int .i64 N.states)).set 2 rfl 1 (.slice a1 N.moves.length c1)).set 2 rfl 2 (.slice a2 N.firsts.length c2)).set 2 rfl 3 (.slice a3 N.ends.length c3);have Hq:=qh hq;have q0:=hq.cell (v:=.int .i64 N.states) 2 0 rfl rfl;have q1:=hq.cell (v:=.slice a1 N.moves.length c1) 2 1 rfl rfl;have q2:=hq.cell (v:=.slice a2 N.firsts.length c2) 2 2 rfl rfl;have q3:=hq.cell (v:=.slice a3 N.ends.length c3) 2 3 rfl rfl;clear hq;simp only[↓reduceIte];go_wp2;refine bodyPost_ret (v:=.tuple #[.agg #[.int .i64 N.states,.slice a1 N.moves.length c1,.slice a2 N.firsts.length c2,.slice a3 N.ends.length c3],.bool true]) (by simp[results,Try.results58,go_sem,q0,q1,q2,q3]) rfl ?_;exact⟨a1,c1,a2,c2,a3,c3,rfl,Hq.out.pick [3,4,5] (by decide)⟩
def jm (p q:NfaD) (S k:Nat):List (Int × Int × Int):=(p.moves++q.moves.map (shM (S:Int)))++(p.ends.take k).flatMap fun s=>q.firsts.map fun t=>(s,(-1:Int),t+(S:Int))
theorem ZkL {p q:NfaD} {S:Nat}:jm p q S 0=p.moves++q.moves.map (shM (S:Int)):=by simp[jm]
theorem Zm3 {p q:NfaD} {S k:Nat} (hk:k<p.ends.length):jm p q S (k+1)=jm p q S k++q.firsts.map fun t=>(p.ends.getD k 0,(-1:Int),t+(S:Int)):=by unfold jm;rw[List.take_succ_eq_append_getElem hk,List.flatMap_append,← List.append_assoc];simp[hk]
theorem ZlU {p q:NfaD} {S Q:Nat} (hS:p.states=(S:Int)) (hQ:q.states=(Q:Int)):Zb5 p q=⟨(S:Int)+(Q:Int),jm p q S p.ends.length,p.firsts,q.ends.map (·+(S:Int))⟩:=by unfold Zb5 jm shN;rw[hS,hQ,List.take_length];simp only[List.map_map,NfaD.mk.injEq,and_true];refine⟨by omega,rfl⟩
theorem Zh5 (p q:NfaD) (v1 v2 v3 u1 u2 u3:Value) (w:World) (hp:Zaq p=true) (hq:Zaq q=true) (h1:Moves 0 w v1 p.moves) (h2:Ints 0 w v2 p.firsts) (h3:Ints 0 w v3 p.ends) (g1:Moves 0 w u1 q.moves) (g2:Ints 0 w u2 q.firsts) (g3:Ints 0 w u3 q.ends) :
  Calls Try.prog 105 #[.agg #[.int .i64 p.states,v1,v2,v3],.agg #[.int .i64 q.states,u1,u2,u3]] w fun e w'=>RNfaS (Zb5 p q) w e w':=by
 obtain⟨S,hSp,hS40,hpm,hpl,hpf,hpfl,hpe,hpel⟩:=Zao hp;obtain⟨Q,hQq,hQ40,hqm,hql,hqf,hqfl,hqe,hqel⟩:=Zao hq;have hsm:=fun (u:World) (hu:Below w.heap.size w u)=>ZcF p q S v1 v2 v3 u1 u2 u3 u hSp hS40 (by omega) (by omega) (Zd8 hqm hQ40) (h1.below hu) (g1.below hu)
 have hcf:=fun (u:World) (hu:Below w.heap.size w u)=>Zk5 p.firsts v2 u (by omega) (h2.below hu)
 have hse:=fun (u:World) (hu:Below w.heap.size w u)=>Zdi q.ends u3 (S:Int) u (by omega) (fun x hx=>by have:=hqe x hx;omega) (by omega) (g3.below hu)
 obtain⟨pa1,pc1,rfl,-,-,-⟩:=h1.form;obtain⟨pa2,pc2,rfl,-,-,-⟩:=h2.form;obtain⟨pa3,pc3,rfl,-,-,hr3⟩:=h3.form;obtain⟨qa1,qc1,rfl,-,-,-⟩:=g1.form;obtain⟨qa2,qc2,rfl,-,-,hr2⟩:=g2.form;obtain⟨qa3,qc3,rfl,-,-,-⟩:=g3.form;obtain⟨i0,hi,hz0,hz1,hz2⟩:=info_parts Try.infoMv;obtain⟨L1,hL1⟩:∃ L,L=p.moves.length:=⟨_,rfl⟩;obtain⟨F1,hF1⟩:∃ L,L=p.firsts.length:=⟨_,rfl⟩;obtain⟨E1,hE1⟩:∃ L,L=p.ends.length:=⟨_,rfl⟩;obtain⟨L2,hL2⟩:∃ L,L=q.moves.length:=⟨_,rfl⟩;obtain⟨F2,hF2⟩:∃ L,L=q.firsts.length:=⟨_,rfl⟩;obtain⟨E2,hE2⟩:∃ L,L=q.ends.length:=⟨_,rfl⟩;have hS0:=(((St.start w).alloc _ rfl #[.int .i64 p.states,.slice pa1 p.moves.length pc1,.slice pa2 p.firsts.length pc2,.slice pa3 p.ends.length pc3] 28).alloc (w.heap.size+1) (by simp) #[.int .i64 q.states,.slice qa1 q.moves.length qc1,.slice qa2 q.firsts.length qc2,.slice qa3 q.ends.length qc3] 28).alloc (w.heap.size+1+1) (by simp) #[.int .i64 0,.slice none 0 0,.slice none 0 0,.slice none 0 0] 28;rw[hSp,hQq,← hL1,← hF1,← hE1,← hL2,← hF2,← hE2] at hS0;rw[hSp,hQq,← hL1,← hF1,← hE1,← hL2,← hF2,← hE2];rw[hSp,hQq,← hL1,← hF1,← hE1,← hL2,← hF2,← hE2] at hsm;rw[← hL1] at hpl;rw[← hF1] at hpfl hcf;rw[← hE1] at hpel hr3;rw[← hL2] at hql;rw[← hF2] at hqfl hr2;rw[← hE2] at hqel hse;have hS1:=hS0.call (Below.refl _ _)
 have HS0:Hid (St w _ [Ent.box w.heap.size #[.int .i64 (S:Int),.slice pa1 L1 pc1,.slice pa2 F1 pc2,.slice pa3 E1 pc3] 28,Ent.box (w.heap.size+1) #[.int .i64 (Q:Int),.slice qa1 L2 qc1,.slice qa2 F2 qc2,.slice qa3 E2 qc3] 28,Ent.box (w.heap.size+1+1) #[.int .i64 0,.slice none 0 0,.slice none 0 0,.slice none 0 0] 28,Ent.nil,Ent.nil,Ent.nil,Ent.nil]):=qh (hS1.pick [0,1,2,3,4,5,6] (by decide));have Hsm:=qh hsm;have Hcf:=qh hcf;have Hse:=qh hse;have Hr3:=qh hr3;have Hr2:=qh hr2;replace hL1:=qh hL1;replace hF1:=qh hF1;replace hE1:=qh hE1;have HhL2:=qh hL2;clear hL2;have HhF2:=qh hF2;clear hF2;have HhE2:=qh hE2;clear hE2;have HhSp:=qh hSp;clear hSp;have HhQq:=qh hQq;clear hQq;have Hhqf:=qh hqf;clear hqf;have Hhi:=qh hi;clear hi;have Hhz0:=qh hz0;clear hz0;have Hhz1:=qh hz1;clear hz1;have Hhz2:=qh hz2;clear hz2;clear h1 h2 h3 g1 g2 g3 hr3 hr2 hsm hcf hse hS0 hS1 hpm hpf hpe hqm hqe hp hq
 go_enter Try.func105, Try.ntmps105
 go_wp2_with fail;refine wp_region_any (by kernel_rfl) ?_
 refine Zaf (fun A listed a w'=>∃ (l0 l1 l2 l3 l4 l5 l6 l7 l8 l9 l10 l11 l12 l13 l14 l15 l16 l17 l18:Bool) (am:Option Addr) (cm:Nat) (af:Option Addr) (cf:Nat) (ae:Option Addr) (ce:Nat) (bo:Nat),listed=#[l0,l1,l2,l3,l4,l5,l6,l7,l8,l9,l10,l11,l12,l13,l14,l15,l16,l17,l18]∧(l16=true→l4=true∧l7=true∧l10=true∧l15=true)∧(l18=true→l17=true∧l16=true) ∧
   a=⟨((((((((((((((((((A.tmps.setIfInBounds 10 (if l0=true then .pointer (some ⟨w.heap.size,0,none⟩) else A.tmps.getD 10 undef)).setIfInBounds 11 (if l1=true then .int .i64 (S:Int) else A.tmps.getD 11 undef)).setIfInBounds 12 (if l2=true then .pointer (some ⟨w.heap.size+1,0,none⟩) else A.tmps.getD 12 undef)).setIfInBounds 13 (if l3=true then .int .i64 (Q:Int) else A.tmps.getD 13 undef)).setIfInBounds 14 (if l4=true then .int .i64 ((S:Int)+(Q:Int)) else A.tmps.getD 14 undef)).setIfInBounds 15 (if l5=true then .agg #[.int .i64 (S:Int),.slice pa1 L1 pc1,.slice pa2 F1 pc2,.slice pa3 E1 pc3] else A.tmps.getD 15 undef)).setIfInBounds 16 (if l6=true then .agg #[.int .i64 (Q:Int),.slice qa1 L2 qc1,.slice qa2 F2 qc2,.slice qa3 E2 qc3] else A.tmps.getD 16 undef)).setIfInBounds 17 (if l7=true then .slice am (L1+L2) cm else A.tmps.getD 17 undef)).setIfInBounds 18 (if l8=true then .pointer (some ⟨w.heap.size,2,none⟩) else A.tmps.getD 18 undef)).setIfInBounds 19 (if l9=true then .slice pa2 F1 pc2 else A.tmps.getD 19 undef)).setIfInBounds 20 (if l10=true then .slice af F1 cf else A.tmps.getD 20 undef)).setIfInBounds 21 (if l11=true then .pointer (some ⟨w.heap.size+1,3,none⟩) else A.tmps.getD 21 undef)).setIfInBounds 22 (if l12=true then .slice qa3 E2 qc3 else A.tmps.getD 22 undef)).setIfInBounds 23 (if l13=true then .pointer (some ⟨w.heap.size,0,none⟩) else A.tmps.getD 23 undef)).setIfInBounds 24 (if l14=true then .int .i64 (S:Int) else A.tmps.getD 24 undef)).setIfInBounds 25 (if l15=true then .slice ae E2 ce else A.tmps.getD 25 undef)).setIfInBounds 26 (if l16=true then .agg #[.int .i64 ((S:Int)+(Q:Int)),.slice am (L1+L2) cm,.slice af F1 cf,.slice ae E2 ce] else A.tmps.getD 26 undef)).setIfInBounds 5 (if l17=true then .pointer (some ⟨bo,0,none⟩) else A.tmps.getD 5 undef)),A.defers⟩ ∧
   St w w' [Ent.box w.heap.size #[.int .i64 (S:Int),.slice pa1 L1 pc1,.slice pa2 F1 pc2,.slice pa3 E1 pc3] 28,Ent.box (w.heap.size+1) #[.int .i64 (Q:Int),.slice qa1 L2 qc1,.slice qa2 F2 qc2,.slice qa3 E2 qc3] 28,Ent.box (w.heap.size+1+1) #[.int .i64 0,.slice none 0 0,.slice none 0 0,.slice none 0 0] 28,(if l17=true then Ent.box bo #[(if l18=true then .int .i64 ((S:Int)+(Q:Int)) else .int .i64 0),(if l18=true then .slice am (L1+L2) cm else .slice none 0 0),(if l18=true then .slice af F1 cf else .slice none 0 0),(if l18=true then .slice ae E2 ce else .slice none 0 0)] 28 else Ent.nil),(if l7=true then Ent.row 34 3 (.slice am (L1+L2) cm) (L1+L2) ((p.moves++q.moves.map (shM (S:Int))).flatMap Zab) else Ent.nil),(if l10=true then Ent.row 3 1 (.slice af F1 cf) F1 (intCells p.firsts) else Ent.nil),(if l15=true then Ent.row 3 1 (.slice ae E2 ce) E2 (intCells (q.ends.map (·+(S:Int)))) else Ent.nil)]) ?_ ?_ ?_
 ·rintro listed a w' ⟨l0,l1,l2,l3,l4,l5,l6,l7,l8,l9,l10,l11,l12,l13,l14,l15,l16,l17,l18,am,cm,af,cf,ae,ce,bo,rfl,hd16,hd18,rfl,hS⟩ i hi;obtain⟨hun,o,ho,hall⟩:=mem_ready.1 hi;have hlt:=(Array.getElem?_eq_some_iff.1 ho).1;refine wpOp_step ho (fun K hK => ?_);clear hi;have HS:=qh hS;clear hS;simp only[List.setIfInBounds_toArray,List.set_cons_zero,List.set_cons_succ,Array.getD_eq_getD_getElem?,List.getElem?_toArray,List.getElem?_cons_zero,List.getElem?_cons_succ,Option.getD_some];obtain h|h|h|h|h|h|h|h|h|h|h|h|h|h|h|h|h|h|h:i=0∨i=1∨i=2∨i=3∨i=4∨i=5∨i=6∨i=7∨i=8∨i=9∨i=10∨i=11∨i=12∨i=13∨i=14∨i=15∨i=16∨i=17∨i=18:=by simp at hlt;omega
  all_goals subst h
  all_goals simp only[List.getElem?_toArray,List.getElem?_cons_zero,List.getElem?_cons_succ,Option.some.injEq] at ho
  all_goals subst ho
  all_goals simp[Region.binds] at hun hall
  ·subst hun;go_simp;exact hK _ _ ⟨true,l1,l2,l3,l4,l5,l6,l7,l8,l9,l10,l11,l12,l13,l14,l15,l16,l17,l18,am,cm,af,cf,ae,ce,bo,rfl,hd16,hd18,(by simp),HS.out⟩
  ·obtain rfl:=hall;subst hun;have e0:=HS.out.cell (v:=.int .i64 (S:Int)) 0 0 rfl rfl;go_simp;exact hK _ _ ⟨true,true,l2,l3,l4,l5,l6,l7,l8,l9,l10,l11,l12,l13,l14,l15,l16,l17,l18,am,cm,af,cf,ae,ce,bo,rfl,hd16,hd18,(by simp),HS.out⟩
  ·subst hun;go_simp;exact hK _ _ ⟨l0,l1,true,l3,l4,l5,l6,l7,l8,l9,l10,l11,l12,l13,l14,l15,l16,l17,l18,am,cm,af,cf,ae,ce,bo,rfl,hd16,hd18,(by simp),HS.out⟩
  ·obtain rfl:=hall;subst hun;have e0:=HS.out.cell (v:=.int .i64 (Q:Int)) 1 0 rfl rfl;go_simp;exact hK _ _ ⟨l0,l1,true,true,l4,l5,l6,l7,l8,l9,l10,l11,l12,l13,l14,l15,l16,l17,l18,am,cm,af,cf,ae,ce,bo,rfl,hd16,hd18,(by simp),HS.out⟩
  ·obtain⟨rfl,rfl⟩:=hall;subst hun;obtain rfl:l16=false:=by cases l16 with|false=>rfl|true=>simpa using hd16 rfl
   obtain rfl:l18=false:=offR hd18 rfl;have hw:IntKind.i64.wrap ((S:Int)+(Q:Int))=(S:Int)+(Q:Int):=IntWalk.i64_in _ (by omega);go_simp;exact hK _ _ ⟨l0,true,l2,true,true,l5,l6,l7,l8,l9,l10,l11,l12,l13,l14,l15,false,l17,false,am,cm,af,cf,ae,ce,bo,rfl,by simp,by simp,(by simp),HS.out⟩
  ·subst hun;have e0:=HS.out.cell (v:=.int .i64 (S:Int)) 0 0 rfl rfl;have e1:=HS.out.cell (v:=.slice pa1 L1 pc1) 0 1 rfl rfl;have e2:=HS.out.cell (v:=.slice pa2 F1 pc2) 0 2 rfl rfl;have e3:=HS.out.cell (v:=.slice pa3 E1 pc3) 0 3 rfl rfl;go_simp;exact hK _ _ ⟨l0,l1,l2,l3,l4,true,l6,l7,l8,l9,l10,l11,l12,l13,l14,l15,l16,l17,l18,am,cm,af,cf,ae,ce,bo,rfl,hd16,hd18,(by simp),HS.out⟩
  ·subst hun;have e0:=HS.out.cell (v:=.int .i64 (Q:Int)) 1 0 rfl rfl;have e1:=HS.out.cell (v:=.slice qa1 L2 qc1) 1 1 rfl rfl;have e2:=HS.out.cell (v:=.slice qa2 F2 qc2) 1 2 rfl rfl;have e3:=HS.out.cell (v:=.slice qa3 E2 qc3) 1 3 rfl rfl;go_simp;exact hK _ _ ⟨l0,l1,l2,l3,l4,l5,true,l7,l8,l9,l10,l11,l12,l13,l14,l15,l16,l17,l18,am,cm,af,cf,ae,ce,bo,rfl,hd16,hd18,(by simp),HS.out⟩
  ·obtain⟨rfl,rfl⟩:=hall;subst hun;obtain rfl:l16=false:=by cases l16 with|false=>rfl|true=>simpa using hd16 rfl
   obtain rfl:l18=false:=offR hd18 rfl;go_simp
   go_at_call 141
   refine(Hsm.out _ HS.out.bel).mono ?_;rintro e u1 ⟨x1,d1,rfl,hb⟩;have hS2:=(HS.out.cat hb).pick [0,1,2,3,7,5,6] (by decide);have HhS2:=qh hS2;clear hS2;go_simp;exact hK _ _ ⟨l0,l1,l2,l3,l4,true,true,true,l8,l9,l10,l11,l12,l13,l14,l15,false,l17,false,x1,d1,af,cf,ae,ce,bo,rfl,by simp,by simp,(by simp),HhS2.out⟩
  ·subst hun;go_simp;exact hK _ _ ⟨l0,l1,l2,l3,l4,l5,l6,l7,true,l9,l10,l11,l12,l13,l14,l15,l16,l17,l18,am,cm,af,cf,ae,ce,bo,rfl,hd16,hd18,(by simp),HS.out⟩
  ·obtain rfl:=hall;subst hun;have e0:=HS.out.cell (v:=.slice pa2 F1 pc2) 0 2 rfl rfl;go_simp;exact hK _ _ ⟨l0,l1,l2,l3,l4,l5,l6,l7,true,true,l10,l11,l12,l13,l14,l15,l16,l17,l18,am,cm,af,cf,ae,ce,bo,rfl,hd16,hd18,(by simp),HS.out⟩
  ·obtain⟨rfl,rfl⟩:=hall;subst hun;obtain rfl:l16=false:=by cases l16 with|false=>rfl|true=>simpa using hd16 rfl
   obtain rfl:l18=false:=offR hd18 rfl;go_simp
   go_at_call 143
   refine(Hcf.out _ HS.out.bel).mono ?_;rintro e u1 ⟨x1,d1,rfl,hb⟩;have hS2:=(HS.out.cat hb).pick [0,1,2,3,4,7,6] (by decide);have HhS2:=qh hS2;clear hS2;go_simp;exact hK _ _ ⟨l0,l1,l2,l3,l4,l5,l6,true,l8,true,true,l11,l12,l13,l14,l15,false,l17,false,am,cm,x1,d1,ae,ce,bo,rfl,by simp,by simp,(by simp),HhS2.out⟩
  ·subst hun;go_simp;exact hK _ _ ⟨l0,l1,l2,l3,l4,l5,l6,l7,l8,l9,l10,true,l12,l13,l14,l15,l16,l17,l18,am,cm,af,cf,ae,ce,bo,rfl,hd16,hd18,(by simp),HS.out⟩
  ·obtain rfl:=hall;subst hun;have e0:=HS.out.cell (v:=.slice qa3 E2 qc3) 1 3 rfl rfl;go_simp;exact hK _ _ ⟨l0,l1,l2,l3,l4,l5,l6,l7,l8,l9,l10,true,true,l13,l14,l15,l16,l17,l18,am,cm,af,cf,ae,ce,bo,rfl,hd16,hd18,(by simp),HS.out⟩
  ·subst hun;go_simp;exact hK _ _ ⟨l0,l1,l2,l3,l4,l5,l6,l7,l8,l9,l10,l11,l12,true,l14,l15,l16,l17,l18,am,cm,af,cf,ae,ce,bo,rfl,hd16,hd18,(by simp),HS.out⟩
  ·obtain rfl:=hall;subst hun;have e0:=HS.out.cell (v:=.int .i64 (S:Int)) 0 0 rfl rfl;go_simp;exact hK _ _ ⟨l0,l1,l2,l3,l4,l5,l6,l7,l8,l9,l10,l11,l12,true,true,l15,l16,l17,l18,am,cm,af,cf,ae,ce,bo,rfl,hd16,hd18,(by simp),HS.out⟩
  ·obtain⟨rfl,rfl,rfl⟩:=hall;subst hun;obtain rfl:l16=false:=by cases l16 with|false=>rfl|true=>simpa using hd16 rfl
   obtain rfl:l18=false:=offR hd18 rfl;go_simp
   go_at_call 142
   refine(Hse.out _ HS.out.bel).mono ?_;rintro e u1 ⟨x1,d1,rfl,hb⟩;have hS2:=(HS.out.cat hb).pick [0,1,2,3,4,5,7] (by decide);have HhS2:=qh hS2;clear hS2;go_simp;exact hK _ _ ⟨l0,l1,l2,l3,l4,l5,l6,l7,l8,l9,true,l11,true,l13,true,true,false,l17,false,am,cm,af,cf,x1,d1,bo,rfl,by simp,by simp,(by simp),HhS2.out⟩
  ·obtain⟨rfl,rfl,rfl,rfl⟩:=hall;subst hun;obtain rfl:l18=false:=offR hd18 rfl;go_simp;exact hK _ _ ⟨l0,l1,l2,l3,true,l5,l6,true,l8,l9,true,l11,l12,l13,l14,true,true,l17,false,am,cm,af,cf,ae,ce,bo,rfl,by simp,by simp,(by simp),HS.out⟩
  ·subst hun;obtain rfl:l18=false:=offL hd18 rfl;have hS2:=(HS.out.alloc _ rfl #[.int .i64 0,.slice none 0 0,.slice none 0 0,.slice none 0 0] 28).pick [0,1,2,7,4,5,6] (by decide);have HhS2:=qh hS2;clear hS2;go_simp;exact hK _ _ ⟨l0,l1,l2,l3,l4,l5,l6,l7,l8,l9,l10,l11,l12,l13,l14,l15,l16,true,false,am,cm,af,cf,ae,ce,w'.heap.size,rfl,hd16,by simp,(by simp),HhS2.out⟩
  obtain⟨rfl,rfl,rfl,rfl,rfl,rfl,rfl,rfl,rfl,rfl,rfl,rfl,rfl,rfl,rfl,rfl,rfl,rfl,-,-,-⟩:=hall;subst hun;have f0:=HS.out.fr 3 0 rfl;have k0:=HS.out.cell (v:=.int .i64 0) 3 0 rfl rfl;have f1:=HS.out.fr 3 1 rfl;have k1:=HS.out.cell (v:=.slice none 0 0) 3 1 rfl rfl;have f2:=HS.out.fr 3 2 rfl;have k2:=HS.out.cell (v:=.slice none 0 0) 3 2 rfl rfl;have f3:=HS.out.fr 3 3 rfl;have k3:=HS.out.cell (v:=.slice none 0 0) 3 3 rfl rfl;go_simp;exact hK _ _ ⟨true,true,true,true,true,true,true,true,true,true,true,true,true,true,true,true,true,true,true,am,cm,af,cf,ae,ce,bo,rfl,by simp,by simp,(by simp only[↓reduceIte,List.setIfInBounds_toArray,List.set_cons_zero,List.set_cons_succ]),((((HS.out.set 3 rfl 0 (.int .i64 ((S:Int)+(Q:Int)))).set 3 rfl 1 (.slice am (L1+L2) cm)).set 3 rfl 2 (.slice af F1 cf)).set 3 rfl 3 (.slice ae E2 ce))⟩
 ·rintro listed a w' ⟨l0,l1,l2,l3,l4,l5,l6,l7,l8,l9,l10,l11,l12,l13,l14,l15,l16,l17,l18,am,cm,af,cf,ae,ce,bo,rfl,hd16,hd18,rfl,hS⟩ hr;have hall:=Zag (by kernel_rfl) rfl hr;obtain rfl:l0=true:=by simpa using hall 0 (by simp)
  obtain rfl:l1=true:=by simpa using hall 1 (by simp)
  obtain rfl:l2=true:=by simpa using hall 2 (by simp)
  obtain rfl:l3=true:=by simpa using hall 3 (by simp)
  obtain rfl:l4=true:=by simpa using hall 4 (by simp)
  obtain rfl:l5=true:=by simpa using hall 5 (by simp)
  obtain rfl:l6=true:=by simpa using hall 6 (by simp)
  obtain rfl:l7=true:=by simpa using hall 7 (by simp)
  obtain rfl:l8=true:=by simpa using hall 8 (by simp)
  obtain rfl:l9=true:=by simpa using hall 9 (by simp)
  obtain rfl:l10=true:=by simpa using hall 10 (by simp)
  obtain rfl:l11=true:=by simpa using hall 11 (by simp)
  obtain rfl:l12=true:=by simpa using hall 12 (by simp)
  obtain rfl:l13=true:=by simpa using hall 13 (by simp)
  obtain rfl:l14=true:=by simpa using hall 14 (by simp)
  obtain rfl:l15=true:=by simpa using hall 15 (by simp)
  obtain rfl:l16=true:=by simpa using hall 16 (by simp)
  obtain rfl:l17=true:=by simpa using hall 17 (by simp)
  obtain rfl:l18=true:=by simpa using hall 18 (by simp)
  clear hall hr hd16 hd18;simp only[↓reduceIte] at hS ⊢;simp only[List.setIfInBounds_toArray,List.set_cons_zero,List.set_cons_succ];have HS1:=qh (hS.pick [0,1,2,3,4,5,6] (by decide));clear hS;have e9:=HS1.out.cell (v:=.slice pa3 E1 pc3) 0 3 rfl rfl;go_wp2
  go_loopw [30] (fun i wr=>∃ (k N c1:Nat) (a1:Option Addr),i = .int .i64 k∧k≤E1∧N=(jm p q S k).length∧N≤2000+40*k∧St w wr [Ent.box w.heap.size #[.int .i64 (S:Int),.slice pa1 L1 pc1,.slice pa2 F1 pc2,.slice pa3 E1 pc3] 28,Ent.box (w.heap.size+1) #[.int .i64 (Q:Int),.slice qa1 L2 qc1,.slice qa2 F2 qc2,.slice qa3 E2 qc3] 28,Ent.box (w.heap.size+1+1) #[.int .i64 0,.slice none 0 0,.slice none 0 0,.slice none 0 0] 28,Ent.box bo #[.int .i64 ((S:Int)+(Q:Int)),.slice a1 N c1,.slice af F1 cf,.slice ae E2 ce] 28,Ent.row 34 3 (.slice a1 N c1) N ((jm p q S k).flatMap Zab),Ent.row 3 1 (.slice af F1 cf) F1 (intCells p.firsts),Ent.row 3 1 (.slice ae E2 ce) E2 (intCells (q.ends.map (·+(S:Int))))]) (fun i _=>E1-(intOf i).toNat)
  case atStart =>
   refine⟨0,L1+L2,cm,am,rfl,Nat.zero_le _,?_,by omega,?_⟩
   ·rw[ZkL,List.length_append,List.length_map,← hL1.out,← HhL2.out]
   rw[ZkL];exact HS1.out
  case round =>
   obtain⟨k,N,c1,a1,rfl,hk,hN,hNb,hS⟩:=hrel;by_cases hlt:k<E1
   ·have hlt2:(k:Int)<E1:=by omega
    have hkn:k<p.ends.length:=by have:=hE1.out;omega
    obtain⟨b1,o1,rfl,-,hb1,hcs⟩:=Hr3.out (by omega);have m0:=hcs k hlt;have hsn:=Zm3 (q:=q) (S:=S) hkn;obtain⟨s,hs⟩:=eI (p.ends.getD k 0);rw[← hs] at m0 hsn;have m1:=(bcell hS.bel b1 _ hb1).trans m0;have e1:=hS.cell (v:=.slice qa2 F2 qc2) 1 2 rfl rfl;have HSo:=qh hS;obtain⟨wo,hwo⟩:∃ wo:World,wo=wr:=⟨_,rfl⟩;subst hwo;have HhN:=qh hN;clear hN;have Hhs:=qh hs;clear hs;have Hhsn:=qh hsn;clear hsn;clear hS hcs m0 e9;go_wp2
    go_loopw [37] (fun i wi=>∃ (j c2:Nat) (a2:Option Addr),i = .int .i64 j∧j≤F2∧St w wi [Ent.box w.heap.size #[.int .i64 (S:Int),.slice pa1 L1 pc1,.slice pa2 F1 pc2,.slice (some ⟨b1,o1,none⟩) E1 pc3] 28,Ent.box (w.heap.size+1) #[.int .i64 (Q:Int),.slice qa1 L2 qc1,.slice qa2 F2 qc2,.slice qa3 E2 qc3] 28,Ent.box (w.heap.size+1+1) #[.int .i64 0,.slice none 0 0,.slice none 0 0,.slice none 0 0] 28,Ent.box bo #[.int .i64 ((S:Int)+(Q:Int)),.slice a2 (N+j) c2,.slice af F1 cf,.slice ae E2 ce] 28,Ent.row 34 3 (.slice a2 (N+j) c2) (N+j) ((jm p q S k++(q.firsts.take j).map fun t=>(s,(-1:Int),t+(S:Int))).flatMap Zab),Ent.row 3 1 (.slice af F1 cf) F1 (intCells p.firsts),Ent.row 3 1 (.slice ae E2 ce) E2 (intCells (q.ends.map (·+(S:Int))))]) (fun i _=>F2-(intOf i).toNat)
    case atStart =>refine⟨0,c1,a1,rfl,Nat.zero_le _,?_⟩;rw[List.take_zero,List.map_nil,List.append_nil];exact HSo.out
    case round =>
     obtain⟨j,c2,a2,rfl,hj,hS⟩:=hrel;clear e1;by_cases hjl:j<F2
     ·have hjl2:(j:Int)<F2:=by omega
      have hjn:j<q.firsts.length:=by have:=HhF2.out;omega
      obtain⟨b2,o2,rfl,-,hb2,hcs2⟩:=Hr2.out (by omega);have n0:=hcs2 j hjl;have hsj:=Za8 (fun t=>(s,(-1:Int),t+(S:Int))) (d:=0) hjn rfl;have hxx:=Hhqf.out _ (memD (d:=0) hjn);obtain⟨p0,hp⟩:=eI (q.firsts.getD j 0);rw[← hp] at n0 hsj hxx;obtain⟨hx0,hx1⟩:=hxx;have n1:=(bcell hS.bel b2 _ hb2).trans n0;have e0:=hS.cell (v:=.int .i64 (S:Int)) 0 0 rfl rfl;have y0:=hS.cell (v:=.slice a2 (N+j) c2) 3 1 rfl rfl;have hw:IntKind.i64.wrap (p0+(S:Int))=p0+(S:Int):=IntWalk.i64_in _ (by omega);have hSa:=hS.alloc_ (.cells #[.int .i64 s,.int .i64 (-1),.int .i64 (p0+(S:Int))] 34);have HSa:=qh hSa;have HRa:=qh (hSa.row 4 rfl);have Hhp:=qh hp;clear hp;have Hhsj:=qh hsj;clear hsj;clear hS hSa hcs2 n0;go_wp2_with (at_builtin;refine wpList_append_lies _ rfl _ _ _ rfl _ 34 i0 (.agg #[.int .i64 0,.int .i64 0,.int .i64 0]) 3 24 Try.underlying25 Hhi.out Hhz0.out Hhz1.out Hhz2.out rfl (by omega) _ (N+j) _ rfl HRa.out ⟨wr.heap.size,0,none⟩ 1 1 [.int .i64 s,.int .i64 (-1),.int .i64 (p0+(S:Int))] rfl rfl (World.news_of_block (heap_alloc_new wr _)) Zf4 (by omega) (by unfold maxLen;omega) (by omega) HSa.out.size _ rfl ?_;intro g6 c6 w6 hown6 hgrow6 hat6 hlt6;have HS6:=qh (HSa.out.app 4 rfl hown6 hgrow6 hat6);have y1:=HS6.out.cell (v:=.slice a2 (N+j) c2) 3 1 rfl rfl;have y2:=HS6.out.fr 3 1 rfl;clear hown6 hgrow6 hat6 hlt6);go_roundw
      case rel =>refine⟨j+1,c6,some ⟨g6,0,none⟩,by go_num,by omega,?_⟩;rw[Hhsj.out,← List.append_assoc,List.flatMap_append (xs:=_++_)];exact HS6.out.set 3 rfl 1 (.slice (some ⟨g6,0,none⟩) (N+j+1) c6)
      case measure=>simp[intOf];omega
     obtain rfl:F2=j:=by omega
     rw[show q.firsts.take F2=q.firsts from List.take_of_length_le (by have:=HhF2.out;omega),← Hhsn.out] at hS;have HSi:=qh hS;clear hS;go_wp2;go_roundw
     case rel=>exact⟨k+1,N+F2,c2,a2,by go_num,by omega,by rw[Hhsn.out,List.length_append,List.length_map,← HhN.out,← HhF2.out],by omega,HSi.out⟩
     case measure=>simp[intOf];omega
   obtain rfl:E1=k:=by omega
   have HSe:=qh hS;have HhN:=qh hN;clear hN;clear hS;have e0:=HSe.out.cell (v:=.int .i64 ((S:Int)+(Q:Int))) 3 0 rfl rfl;have e1:=HSe.out.cell (v:=.slice a1 N c1) 3 1 rfl rfl;have e2:=HSe.out.cell (v:=.slice af F1 cf) 3 2 rfl rfl;have e3:=HSe.out.cell (v:=.slice ae E2 ce) 3 3 rfl rfl;have f0:=HSe.out.fr 2 0 rfl;have k0:=HSe.out.cell (v:=.int .i64 0) 2 0 rfl rfl;have f1:=HSe.out.fr 2 1 rfl;have k1:=HSe.out.cell (v:=.slice none 0 0) 2 1 rfl rfl;have f2:=HSe.out.fr 2 2 rfl;have k2:=HSe.out.cell (v:=.slice none 0 0) 2 2 rfl rfl;have f3:=HSe.out.fr 2 3 rfl;have k3:=HSe.out.cell (v:=.slice none 0 0) 2 3 rfl rfl;have HSr:=qh ((((HSe.out.set 2 rfl 0 (.int .i64 ((S:Int)+(Q:Int)))).set 2 rfl 1 (.slice a1 N c1)).set 2 rfl 2 (.slice af F1 cf)).set 2 rfl 3 (.slice ae E2 ce));have q0:=HSr.out.cell (v:=.int .i64 ((S:Int)+(Q:Int))) 2 0 rfl rfl;have q1:=HSr.out.cell (v:=.slice a1 N c1) 2 1 rfl rfl;have q2:=HSr.out.cell (v:=.slice af F1 cf) 2 2 rfl rfl;have q3:=HSr.out.cell (v:=.slice ae E2 ce) 2 3 rfl rfl;go_wp2;refine bodyPost_ret (v:=.agg #[.int .i64 ((S:Int)+(Q:Int)),.slice a1 N c1,.slice af F1 cf,.slice ae E2 ce]) (by simp[results,Try.results105,go_sem,q0,q1,q2,q3]) rfl ?_;have hj:Zb5 p q=⟨(S:Int)+(Q:Int),jm p q S E1,p.firsts,q.ends.map (·+(S:Int))⟩:=by rw[hE1.out];exact ZlU HhSp.out HhQq.out
   have hl1:(jm p q S E1).length=N:=HhN.out.symm;rw[hj];refine⟨a1,c1,af,cf,ae,ce,?_,?_⟩
   ·simp only[List.length_map,hl1,← hF1.out,← HhE2.out]
   simp only[List.length_map,hl1,← hF1.out,← HhE2.out];exact HSr.out.pick [4,5,6] (by decide)
 refine⟨false,false,false,false,false,false,false,false,false,false,false,false,false,false,false,false,false,false,false,none,0,none,0,none,0,0,rfl,by simp,by simp,(by simp),?_⟩;exact HS0.out.drew.pick [0,1,2,3,4,5,6] (by decide)
theorem Zdm (p q:NfaD):ZcM p q=(zeN,false)∨(Zaq p=true∧Zaq q=true∧Zaq (Zb5 p q)=true∧ZcM p q=(Zb5 p q,true)):=by
 unfold ZcM limN;cases h1:Zaq p
 ·exact .inl (if_neg (by simp))
 cases h2:Zaq q
 ·exact .inl (if_neg (by simp))
 rw[if_pos ⟨rfl,rfl⟩];cases h3:Zaq (Zb5 p q)
 ·exact .inl (if_neg (by simp))
 exact .inr ⟨rfl,rfl,rfl,if_pos rfl⟩
theorem Zhj {p q:NfaD} (h:Zaq p=false∨Zaq q=false):ZcM p q=(zeN,false):=by
 rcases Zdm p q with h2|⟨h1,h2,-⟩
 ·exact h2
 rcases h with h|h
 ·rw[h] at h1;cases h1
 rw[h] at h2;cases h2
theorem Zjk {p q:NfaD} (h1:Zaq p=true) (h2:Zaq q=true):ZcM p q=limN (Zb5 p q):=if_pos ⟨h1,h2⟩
theorem Zjj {p q X:NfaD} (h:ZcM p q=(X,true)):Zaq p=true∧Zaq q=true∧Zaq X=true∧X=Zb5 p q:=by
 rcases Zdm p q with h2|⟨a1,a2,a3,h2⟩<;>rw[h2] at h<;>injection h with h3 h4
 ·cases h4
 subst h3;exact⟨a1,a2,a3,rfl⟩
theorem Zh6 {p q X:NfaD} (h:ZcM p q=(X,false)):X=zeN:=by
 rcases Zdm p q with h2|⟨-,-,-,h2⟩<;>rw[h2] at h<;>injection h with h3 h4
 ·exact h3.symm
 cases h4
theorem ZgL (p q X:NfaD) (ok:Bool) (v u:Value) (w:World) (hX:ZcM p q=(X,ok)) (hp:NfaR 0 w v p) (hq:NfaR 0 w u q) :
  Calls Try.prog 59 #[v,u] w fun e w'=>RNt X ok w e w':=by
 have P:=qh hp;have Q:=qh hq;obtain⟨v1,v2,v3,rfl,h1,h2,h3,-,-⟩:=hp;obtain⟨u1,u2,u3,rfl,g1,g2,g3,-,-⟩:=hq;have hS0:=(((St.start w).alloc _ rfl #[.int .i64 p.states,v1,v2,v3] 28).alloc (w.heap.size+1) (by simp) #[.int .i64 q.states,u1,u2,u3] 28).alloc (w.heap.size+1+1) (by simp) #[.int .i64 0,.slice none 0 0,.slice none 0 0,.slice none 0 0] 28;have e0:=hS0.cell (v:=.int .i64 p.states) 0 0 rfl rfl;have e1:=hS0.cell (v:=v1) 0 1 rfl rfl;have e2:=hS0.cell (v:=v2) 0 2 rfl rfl;have e3:=hS0.cell (v:=v3) 0 3 rfl rfl;cases hp:Zaq p
 ·rw[Zhj (.inl hp)] at hX
  injection hX with hX hk
  subst hX hk;have Hhp:=qh hp;clear hp;replace hS0:=qh hS0;clear h1 h2 h3 g1 g2 g3
  go_enter Try.func59, Try.ntmps59
  go_wp2_with fail;refine(Zac p _ _ (P.out.below hS0.out.bel) false Hhp.out).mono ?_;rintro e w1 ⟨rfl,hb1⟩;have HS1:=qh (hS0.out.call hb1);clear hb1 e0 e1 e2 e3;have f0:=HS1.out.fr 2 0 rfl;have k0:=HS1.out.cell (v:=.int .i64 0) 2 0 rfl rfl;have f1:=HS1.out.fr 2 1 rfl;have k1:=HS1.out.cell (v:=.slice none 0 0) 2 1 rfl rfl;have f2:=HS1.out.fr 2 2 rfl;have k2:=HS1.out.cell (v:=.slice none 0 0) 2 2 rfl rfl;have f3:=HS1.out.fr 2 3 rfl;have k3:=HS1.out.cell (v:=.slice none 0 0) 2 3 rfl rfl;have hq:=(((HS1.out.set 2 rfl 0 (.int .i64 0)).set 2 rfl 1 (.slice none 0 0)).set 2 rfl 2 (.slice none 0 0)).set 2 rfl 3 (.slice none 0 0);have Hq:=qh hq;have q0:=hq.cell (v:=.int .i64 0) 2 0 rfl rfl;have q1:=hq.cell (v:=.slice none 0 0) 2 1 rfl rfl;have q2:=hq.cell (v:=.slice none 0 0) 2 2 rfl rfl;have q3:=hq.cell (v:=.slice none 0 0) 2 3 rfl rfl;clear hq;go_wp2;refine bodyPost_ret (v:=.tuple #[.agg #[.int .i64 0,.slice none 0 0,.slice none 0 0,.slice none 0 0],.bool false]) (by simp[results,Try.results59,go_sem,q0,q1,q2,q3]) rfl ?_;exact ZaJ Hq.out.bel
 cases hq:Zaq q
 ·rw[Zhj (.inr hq)] at hX
  injection hX with hX hk
  subst hX hk;have Hhp:=qh hp;clear hp;have Hhq:=qh hq;clear hq;replace hS0:=qh hS0;clear h1 h2 h3 g1 g2 g3
  go_enter Try.func59, Try.ntmps59
  go_wp2_with fail;refine(Zac p _ _ (P.out.below hS0.out.bel) true Hhp.out).mono ?_;rintro e w1 ⟨rfl,hb1⟩;have HS1:=qh (hS0.out.call hb1);clear hb1 e0 e1 e2 e3;have e0:=HS1.out.cell (v:=.int .i64 q.states) 1 0 rfl rfl;have e1:=HS1.out.cell (v:=u1) 1 1 rfl rfl;have e2:=HS1.out.cell (v:=u2) 1 2 rfl rfl;have e3:=HS1.out.cell (v:=u3) 1 3 rfl rfl;go_wp2_with fail;refine(Zac q _ _ (Q.out.below HS1.out.bel) false Hhq.out).mono ?_;rintro e w2 ⟨rfl,hb2⟩;have HS2:=qh (HS1.out.call hb2);clear hb2 e0 e1 e2 e3;have f0:=HS2.out.fr 2 0 rfl;have k0:=HS2.out.cell (v:=.int .i64 0) 2 0 rfl rfl;have f1:=HS2.out.fr 2 1 rfl;have k1:=HS2.out.cell (v:=.slice none 0 0) 2 1 rfl rfl;have f2:=HS2.out.fr 2 2 rfl;have k2:=HS2.out.cell (v:=.slice none 0 0) 2 2 rfl rfl;have f3:=HS2.out.fr 2 3 rfl;have k3:=HS2.out.cell (v:=.slice none 0 0) 2 3 rfl rfl;have hq:=(((HS2.out.set 2 rfl 0 (.int .i64 0)).set 2 rfl 1 (.slice none 0 0)).set 2 rfl 2 (.slice none 0 0)).set 2 rfl 3 (.slice none 0 0);have Hq:=qh hq;have q0:=hq.cell (v:=.int .i64 0) 2 0 rfl rfl;have q1:=hq.cell (v:=.slice none 0 0) 2 1 rfl rfl;have q2:=hq.cell (v:=.slice none 0 0) 2 2 rfl rfl;have q3:=hq.cell (v:=.slice none 0 0) 2 3 rfl rfl;clear hq;go_wp2;refine bodyPost_ret (v:=.tuple #[.agg #[.int .i64 0,.slice none 0 0,.slice none 0 0,.slice none 0 0],.bool false]) (by simp[results,Try.results59,go_sem,q0,q1,q2,q3]) rfl ?_;exact ZaJ Hq.out.bel
 rw[Zjk hp hq] at hX;have Hst:=qh (fun (z:World) (hz:Below w.heap.size w z)=>Zh5 p q v1 v2 v3 u1 u2 u3 z hp hq (h1.below hz) (h2.below hz) (h3.below hz) (g1.below hz) (g2.below hz) (g3.below hz));obtain⟨N,hN⟩:=eI (Zb5 p q);have hNs:-9223372036854775808≤N.states∧N.states≤9223372036854775807:=by obtain⟨a,ha,ha40,-⟩:=Zao hp;obtain⟨b,hb,hb40,-⟩:=Zao hq;rw[hN];simp only[Zb5,shN];omega
 obtain⟨hNs0,hNs1⟩:=hNs;rw[← hN] at Hst hX;cases hNk:Zaq N
 ·have hlm:limN N=(zeN,false):=if_neg (by rw[hNk];simp);rw[hlm] at hX
  injection hX with hX hk
  subst hX hk;have Hhp:=qh hp;clear hp;have Hhq:=qh hq;clear hq;replace hN:=qh hN;have HhNk:=qh hNk;clear hNk;replace hS0:=qh hS0;clear h1 h2 h3 g1 g2 g3 hlm
  go_enter Try.func59, Try.ntmps59
  go_wp2_with fail;refine(Zac p _ _ (P.out.below hS0.out.bel) true Hhp.out).mono ?_;rintro e w1 ⟨rfl,hb1⟩;have HS1:=qh (hS0.out.call hb1);clear hb1 e0 e1 e2 e3;have e0:=HS1.out.cell (v:=.int .i64 q.states) 1 0 rfl rfl;have e1:=HS1.out.cell (v:=u1) 1 1 rfl rfl;have e2:=HS1.out.cell (v:=u2) 1 2 rfl rfl;have e3:=HS1.out.cell (v:=u3) 1 3 rfl rfl;go_wp2_with fail;refine(Zac q _ _ (Q.out.below HS1.out.bel) true Hhq.out).mono ?_;rintro e w2 ⟨rfl,hb2⟩;have HS2:=qh (HS1.out.call hb2);clear hb2 e0 e1 e2 e3;have e0:=HS2.out.cell (v:=.int .i64 p.states) 0 0 rfl rfl;have e1:=HS2.out.cell (v:=v1) 0 1 rfl rfl;have e2:=HS2.out.cell (v:=v2) 0 2 rfl rfl;have e3:=HS2.out.cell (v:=v3) 0 3 rfl rfl;have g0:=HS2.out.cell (v:=.int .i64 q.states) 1 0 rfl rfl;have g1:=HS2.out.cell (v:=u1) 1 1 rfl rfl;have g2:=HS2.out.cell (v:=u2) 1 2 rfl rfl;have g3:=HS2.out.cell (v:=u3) 1 3 rfl rfl;go_wp2_with fail;refine(Hst.out _ HS2.out.bel).mono ?_;rintro e w3 ⟨a1,c1,a2,c2,a3,c3,rfl,hS'⟩;have HS3:=qh (HS2.out.cat hS');clear hS' e0 e1 e2 e3 g0 g1 g2 g3;have HN:=qh (Za1 (Zau (HS3.out.row 3 rfl)) (Zah (HS3.out.row 4 rfl)) (Zah (HS3.out.row 5 rfl)) hNs0 hNs1);go_wp2_with fail;refine(Zbj N _ _ _ _ false HhNk.out HN.out).mono ?_;rintro e w4 ⟨rfl,hb4⟩;have HS4:=qh (HS3.out.call hb4);clear hb4;have f0:=HS4.out.fr 2 0 rfl;have k0:=HS4.out.cell (v:=.int .i64 0) 2 0 rfl rfl;have f1:=HS4.out.fr 2 1 rfl;have k1:=HS4.out.cell (v:=.slice none 0 0) 2 1 rfl rfl;have f2:=HS4.out.fr 2 2 rfl
  have k2:=HS4.out.cell (v:=.slice none 0 0) 2 2 rfl rfl;have f3:=HS4.out.fr 2 3 rfl;have k3:=HS4.out.cell (v:=.slice none 0 0) 2 3 rfl rfl;have hq:=(((HS4.out.set 2 rfl 0 (.int .i64 0)).set 2 rfl 1 (.slice none 0 0)).set 2 rfl 2 (.slice none 0 0)).set 2 rfl 3 (.slice none 0 0);have Hq:=qh hq;have q0:=hq.cell (v:=.int .i64 0) 2 0 rfl rfl;have q1:=hq.cell (v:=.slice none 0 0) 2 1 rfl rfl;have q2:=hq.cell (v:=.slice none 0 0) 2 2 rfl rfl;have q3:=hq.cell (v:=.slice none 0 0) 2 3 rfl rfl;clear hq;simp only[↓reduceIte,Bool.false_eq_true];go_wp2;refine bodyPost_ret (v:=.tuple #[.agg #[.int .i64 0,.slice none 0 0,.slice none 0 0,.slice none 0 0],.bool false]) (by simp[results,Try.results59,go_sem,q0,q1,q2,q3]) rfl ?_;exact ZaJ Hq.out.bel
 have hlm:limN N=(N,true):=if_pos hNk;rw[hlm] at hX
 injection hX with hX hk
 subst hX hk;have Hhp:=qh hp;clear hp;have Hhq:=qh hq;clear hq;replace hN:=qh hN;have HhNk:=qh hNk;clear hNk;replace hS0:=qh hS0;clear h1 h2 h3 g1 g2 g3 hlm
 go_enter Try.func59, Try.ntmps59
 go_wp2_with fail;refine(Zac p _ _ (P.out.below hS0.out.bel) true Hhp.out).mono ?_;rintro e w1 ⟨rfl,hb1⟩;have HS1:=qh (hS0.out.call hb1);clear hb1 e0 e1 e2 e3;have e0:=HS1.out.cell (v:=.int .i64 q.states) 1 0 rfl rfl;have e1:=HS1.out.cell (v:=u1) 1 1 rfl rfl;have e2:=HS1.out.cell (v:=u2) 1 2 rfl rfl;have e3:=HS1.out.cell (v:=u3) 1 3 rfl rfl;go_wp2_with fail;refine(Zac q _ _ (Q.out.below HS1.out.bel) true Hhq.out).mono ?_;rintro e w2 ⟨rfl,hb2⟩;have HS2:=qh (HS1.out.call hb2);clear hb2 e0 e1 e2 e3;have e0:=HS2.out.cell (v:=.int .i64 p.states) 0 0 rfl rfl;have e1:=HS2.out.cell (v:=v1) 0 1 rfl rfl;have e2:=HS2.out.cell (v:=v2) 0 2 rfl rfl;have e3:=HS2.out.cell (v:=v3) 0 3 rfl rfl;have g0:=HS2.out.cell (v:=.int .i64 q.states) 1 0 rfl rfl;have g1:=HS2.out.cell (v:=u1) 1 1 rfl rfl;have g2:=HS2.out.cell (v:=u2) 1 2 rfl rfl;have g3:=HS2.out.cell (v:=u3) 1 3 rfl rfl;go_wp2_with fail;refine(Hst.out _ HS2.out.bel).mono ?_;rintro e w3 ⟨a1,c1,a2,c2,a3,c3,rfl,hS'⟩;have HS3:=qh (HS2.out.cat hS');clear hS' e0 e1 e2 e3 g0 g1 g2 g3;have HN:=qh (Za1 (Zau (HS3.out.row 3 rfl)) (Zah (HS3.out.row 4 rfl)) (Zah (HS3.out.row 5 rfl)) hNs0 hNs1);go_wp2_with fail;refine(Zbj N _ _ _ _ true HhNk.out HN.out).mono ?_;rintro e w4 ⟨rfl,hb4⟩;have HS4:=qh (HS3.out.call hb4);clear hb4;have f0:=HS4.out.fr 2 0 rfl;have k0:=HS4.out.cell (v:=.int .i64 0) 2 0 rfl rfl;have f1:=HS4.out.fr 2 1 rfl;have k1:=HS4.out.cell (v:=.slice none 0 0) 2 1 rfl rfl;have f2:=HS4.out.fr 2 2 rfl
 have k2:=HS4.out.cell (v:=.slice none 0 0) 2 2 rfl rfl;have f3:=HS4.out.fr 2 3 rfl;have k3:=HS4.out.cell (v:=.slice none 0 0) 2 3 rfl rfl;have hq:=(((HS4.out.set 2 rfl 0 (.int .i64 N.states)).set 2 rfl 1 (.slice a1 N.moves.length c1)).set 2 rfl 2 (.slice a2 N.firsts.length c2)).set 2 rfl 3 (.slice a3 N.ends.length c3);have Hq:=qh hq;have q0:=hq.cell (v:=.int .i64 N.states) 2 0 rfl rfl;have q1:=hq.cell (v:=.slice a1 N.moves.length c1) 2 1 rfl rfl;have q2:=hq.cell (v:=.slice a2 N.firsts.length c2) 2 2 rfl rfl;have q3:=hq.cell (v:=.slice a3 N.ends.length c3) 2 3 rfl rfl;clear hq;simp only[↓reduceIte];go_wp2;refine bodyPost_ret (v:=.tuple #[.agg #[.int .i64 N.states,.slice a1 N.moves.length c1,.slice a2 N.firsts.length c2,.slice a3 N.ends.length c3],.bool true]) (by simp[results,Try.results59,go_sem,q0,q1,q2,q3]) rfl ?_;exact⟨a1,c1,a2,c2,a3,c3,rfl,Hq.out.pick [3,4,5] (by decide)⟩
end Go.Proofs.Ytfanhfcamblghaa
