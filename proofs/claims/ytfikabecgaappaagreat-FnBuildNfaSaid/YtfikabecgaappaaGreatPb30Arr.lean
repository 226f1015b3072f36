/-
  The walk over the program's NfaJoin; NfaJoin of both over readable automata.
  Conditions: the automata are readable.
-/
import Derived.Test.YtfikabecgaappaaGreatPb23Tb
import Derived.Test.YtfikabecgaappaaGreatPb29Ik
set_option maxHeartbeats 8000000
set_option maxRecDepth 100000
namespace Go.Proofs.YtfikabecgaappaaGreat
open Go.RowKit
theorem ZdL (p q:NfaD):Zb4 p q=(zeN,false)∨(Zal p=true∧Zal q=true∧Zal (ZbL p q)=true∧Zb4 p q=(ZbL p q,true)):=by
 unfold Zb4 limN;cases h1:Zal p
 ·exact .inl (if_neg (by simp))
 cases h2:Zal q
 ·exact .inl (if_neg (by simp))
 rw[if_pos ⟨rfl,rfl⟩];cases h3:Zal (ZbL p q)
 ·exact .inl (if_neg (by simp))
 exact .inr ⟨rfl,rfl,rfl,if_pos rfl⟩
theorem ZiC {p q:NfaD} (h:Zal p=false∨Zal q=false):Zb4 p q=(zeN,false):=by
 rcases ZdL p q with h2|⟨h1,h2,-⟩
 ·exact h2
 rcases h with h|h
 ·rw[h] at h1;cases h1
 rw[h] at h2;cases h2
theorem ZkL {p q:NfaD} (h1:Zal p=true) (h2:Zal q=true):Zb4 p q=limN (ZbL p q):=if_pos ⟨h1,h2⟩
theorem ZkK {p q X:NfaD} (h:Zb4 p q=(X,true)):Zal p=true∧Zal q=true∧Zal X=true∧X=ZbL p q:=by
 rcases ZdL p q with h2|⟨a1,a2,a3,h2⟩<;>rw[h2] at h<;>injection h with h3 h4
 ·cases h4
 subst h3;exact⟨a1,a2,a3,rfl⟩
theorem Zjw {p q X:NfaD} (h:Zb4 p q=(X,false)):X=zeN:=by
 rcases ZdL p q with h2|⟨-,-,-,h2⟩<;>rw[h2] at h<;>injection h with h3 h4
 ·exact h3.symm
 cases h4
theorem ZhP (p q X:NfaD) (ok:Bool) (v u:Value) (w:World) (hX:Zb4 p q=(X,ok)) (hp:NfaR 0 w v p) (hq:NfaR 0 w u q) :
  Calls Tryz.prog 33 #[v,u] w fun e w'=>RNt X ok w e w':=by
 have P:=qh hp;have Q:=qh hq;obtain⟨v1,v2,v3,rfl,h1,h2,h3,-,-⟩:=hp;obtain⟨u1,u2,u3,rfl,g1,g2,g3,-,-⟩:=hq;have hS0:=(((St.start w).alloc _ rfl #[.int .i64 p.states,v1,v2,v3] 28).alloc (w.heap.size+1) (by simp) #[.int .i64 q.states,u1,u2,u3] 28).alloc (w.heap.size+1+1) (by simp) #[.int .i64 0,.slice none 0 0,.slice none 0 0,.slice none 0 0] 28;have e0:=hS0.cell (v:=.int .i64 p.states) 0 0 rfl rfl;have e1:=hS0.cell (v:=v1) 0 1 rfl rfl;have e2:=hS0.cell (v:=v2) 0 2 rfl rfl;have e3:=hS0.cell (v:=v3) 0 3 rfl rfl;cases hp:Zal p
 ·rw[ZiC (.inl hp)] at hX
  injection hX with hX hk
  subst hX hk;have Hhp:=qh hp;clear hp;replace hS0:=qh hS0;clear h1 h2 h3 g1 g2 g3
  go_enter Tryz.func33, Tryz.ntmps33
  go_wp2_with fail;refine(Zab p _ _ (P.out.below hS0.out.bel) false Hhp.out).mono ?_;rintro e w1 ⟨rfl,hb1⟩;have HS1:=qh (hS0.out.call hb1);clear hb1 e0 e1 e2 e3;have f0:=HS1.out.fr 2 0 rfl;have k0:=HS1.out.cell (v:=.int .i64 0) 2 0 rfl rfl;have f1:=HS1.out.fr 2 1 rfl;have k1:=HS1.out.cell (v:=.slice none 0 0) 2 1 rfl rfl;have f2:=HS1.out.fr 2 2 rfl;have k2:=HS1.out.cell (v:=.slice none 0 0) 2 2 rfl rfl;have f3:=HS1.out.fr 2 3 rfl;have k3:=HS1.out.cell (v:=.slice none 0 0) 2 3 rfl rfl;have hq:=(((HS1.out.set 2 rfl 0 (.int .i64 0)).set 2 rfl 1 (.slice none 0 0)).set 2 rfl 2 (.slice none 0 0)).set 2 rfl 3 (.slice none 0 0);have Hq:=qh hq;have q0:=hq.cell (v:=.int .i64 0) 2 0 rfl rfl;have q1:=hq.cell (v:=.slice none 0 0) 2 1 rfl rfl;have q2:=hq.cell (v:=.slice none 0 0) 2 2 rfl rfl;have q3:=hq.cell (v:=.slice none 0 0) 2 3 rfl rfl;clear hq;go_wp2;refine bodyPost_ret (v:=.tuple #[.agg #[.int .i64 0,.slice none 0 0,.slice none 0 0,.slice none 0 0],.bool false]) (by simp[results,Tryz.results33,go_sem,q0,q1,q2,q3]) rfl ?_;exact ZaA Hq.out.bel
 cases hq:Zal q
 ·rw[ZiC (.inr hq)] at hX
  injection hX with hX hk
  subst hX hk;have Hhp:=qh hp;clear hp;have Hhq:=qh hq;clear hq;replace hS0:=qh hS0;clear h1 h2 h3 g1 g2 g3
  go_enter Tryz.func33, Tryz.ntmps33
  go_wp2_with fail;refine(Zab p _ _ (P.out.below hS0.out.bel) true Hhp.out).mono ?_;rintro e w1 ⟨rfl,hb1⟩;have HS1:=qh (hS0.out.call hb1);clear hb1 e0 e1 e2 e3;have e0:=HS1.out.cell (v:=.int .i64 q.states) 1 0 rfl rfl;have e1:=HS1.out.cell (v:=u1) 1 1 rfl rfl;have e2:=HS1.out.cell (v:=u2) 1 2 rfl rfl;have e3:=HS1.out.cell (v:=u3) 1 3 rfl rfl;go_wp2_with fail;refine(Zab q _ _ (Q.out.below HS1.out.bel) false Hhq.out).mono ?_;rintro e w2 ⟨rfl,hb2⟩;have HS2:=qh (HS1.out.call hb2);clear hb2 e0 e1 e2 e3;have f0:=HS2.out.fr 2 0 rfl;have k0:=HS2.out.cell (v:=.int .i64 0) 2 0 rfl rfl;have f1:=HS2.out.fr 2 1 rfl;have k1:=HS2.out.cell (v:=.slice none 0 0) 2 1 rfl rfl;have f2:=HS2.out.fr 2 2 rfl;have k2:=HS2.out.cell (v:=.slice none 0 0) 2 2 rfl rfl;have f3:=HS2.out.fr 2 3 rfl;have k3:=HS2.out.cell (v:=.slice none 0 0) 2 3 rfl rfl;have hq:=(((HS2.out.set 2 rfl 0 (.int .i64 0)).set 2 rfl 1 (.slice none 0 0)).set 2 rfl 2 (.slice none 0 0)).set 2 rfl 3 (.slice none 0 0);have Hq:=qh hq;have q0:=hq.cell (v:=.int .i64 0) 2 0 rfl rfl;have q1:=hq.cell (v:=.slice none 0 0) 2 1 rfl rfl;have q2:=hq.cell (v:=.slice none 0 0) 2 2 rfl rfl;have q3:=hq.cell (v:=.slice none 0 0) 2 3 rfl rfl;clear hq;go_wp2;refine bodyPost_ret (v:=.tuple #[.agg #[.int .i64 0,.slice none 0 0,.slice none 0 0,.slice none 0 0],.bool false]) (by simp[results,Tryz.results33,go_sem,q0,q1,q2,q3]) rfl ?_;exact ZaA Hq.out.bel
 rw[ZkL hp hq] at hX;have Hst:=qh (fun (z:World) (hz:Below w.heap.size w z)=>Zgb p q v1 v2 v3 u1 u2 u3 z hp hq (h1.below hz) (h2.below hz) (h3.below hz) (g1.below hz) (g2.below hz) (g3.below hz));obtain⟨N,hN⟩:=eI (ZbL p q);have hNs:-9223372036854775808≤N.states∧N.states≤9223372036854775807:=by obtain⟨a,ha,ha40,-⟩:=Zai hp;obtain⟨b,hb,hb40,-⟩:=Zai hq;rw[hN];simp only[ZbL,shN];omega
 obtain⟨hNs0,hNs1⟩:=hNs;rw[← hN] at Hst hX;cases hNk:Zal N
 ·have hlm:limN N=(zeN,false):=if_neg (by rw[hNk];simp);rw[hlm] at hX
  injection hX with hX hk
  subst hX hk;have Hhp:=qh hp;clear hp;have Hhq:=qh hq;clear hq;replace hN:=qh hN;have HhNk:=qh hNk;clear hNk;replace hS0:=qh hS0;clear h1 h2 h3 g1 g2 g3 hlm
  go_enter Tryz.func33, Tryz.ntmps33
  go_wp2_with fail;refine(Zab p _ _ (P.out.below hS0.out.bel) true Hhp.out).mono ?_;rintro e w1 ⟨rfl,hb1⟩;have HS1:=qh (hS0.out.call hb1);clear hb1 e0 e1 e2 e3;have e0:=HS1.out.cell (v:=.int .i64 q.states) 1 0 rfl rfl;have e1:=HS1.out.cell (v:=u1) 1 1 rfl rfl;have e2:=HS1.out.cell (v:=u2) 1 2 rfl rfl;have e3:=HS1.out.cell (v:=u3) 1 3 rfl rfl;go_wp2_with fail;refine(Zab q _ _ (Q.out.below HS1.out.bel) true Hhq.out).mono ?_;rintro e w2 ⟨rfl,hb2⟩;have HS2:=qh (HS1.out.call hb2);clear hb2 e0 e1 e2 e3;have e0:=HS2.out.cell (v:=.int .i64 p.states) 0 0 rfl rfl;have e1:=HS2.out.cell (v:=v1) 0 1 rfl rfl;have e2:=HS2.out.cell (v:=v2) 0 2 rfl rfl;have e3:=HS2.out.cell (v:=v3) 0 3 rfl rfl;have g0:=HS2.out.cell (v:=.int .i64 q.states) 1 0 rfl rfl;have g1:=HS2.out.cell (v:=u1) 1 1 rfl rfl;have g2:=HS2.out.cell (v:=u2) 1 2 rfl rfl;have g3:=HS2.out.cell (v:=u3) 1 3 rfl rfl;go_wp2_with fail;refine(Hst.out _ HS2.out.bel).mono ?_;rintro e w3 ⟨a1,c1,a2,c2,a3,c3,rfl,hS'⟩;have HS3:=qh (HS2.out.cat hS');clear hS' e0 e1 e2 e3 g0 g1 g2 g3;have HN:=qh (ZaO (Zax (HS3.out.row 3 rfl)) (Zah (HS3.out.row 4 rfl)) (Zah (HS3.out.row 5 rfl)) hNs0 hNs1);go_wp2_with fail;refine(ZbQ N _ _ _ _ false HhNk.out HN.out).mono ?_;rintro e w4 ⟨rfl,hb4⟩;have HS4:=qh (HS3.out.call hb4);clear hb4;have f0:=HS4.out.fr 2 0 rfl;have k0:=HS4.out.cell (v:=.int .i64 0) 2 0 rfl rfl;have f1:=HS4.out.fr 2 1 rfl;have k1:=HS4.out.cell (v:=.slice none 0 0) 2 1 rfl rfl;have f2:=HS4.out.fr 2 2 rfl
  have k2:=HS4.out.cell (v:=.slice none 0 0) 2 2 rfl rfl;have f3:=HS4.out.fr 2 3 rfl;have k3:=HS4.out.cell (v:=.slice none 0 0) 2 3 rfl rfl;have hq:=(((HS4.out.set 2 rfl 0 (.int .i64 0)).set 2 rfl 1 (.slice none 0 0)).set 2 rfl 2 (.slice none 0 0)).set 2 rfl 3 (.slice none 0 0);have Hq:=qh hq;have q0:=hq.cell (v:=.int .i64 0) 2 0 rfl rfl;have q1:=hq.cell (v:=.slice none 0 0) 2 1 rfl rfl;have q2:=hq.cell (v:=.slice none 0 0) 2 2 rfl rfl;have q3:=hq.cell (v:=.slice none 0 0) 2 3 rfl rfl;clear hq;simp only[↓reduceIte,Bool.false_eq_true];go_wp2;refine bodyPost_ret (v:=.tuple #[.agg #[.int .i64 0,.slice none 0 0,.slice none 0 0,.slice none 0 0],.bool false]) (by simp[results,Tryz.results33,go_sem,q0,q1,q2,q3]) rfl ?_;exact ZaA Hq.out.bel
 have hlm:limN N=(N,true):=if_pos hNk;rw[hlm] at hX
 injection hX with hX hk
 subst hX hk;have Hhp:=qh hp;clear hp;have Hhq:=qh hq;clear hq;replace hN:=qh hN;have HhNk:=qh hNk;clear hNk;replace hS0:=qh hS0;clear h1 h2 h3 g1 g2 g3 hlm
 go_enter Tryz.func33, Tryz.ntmps33
 go_wp2_with fail;refine(Zab p _ _ (P.out.below hS0.out.bel) true Hhp.out).mono ?_;rintro e w1 ⟨rfl,hb1⟩;have HS1:=qh (hS0.out.call hb1);clear hb1 e0 e1 e2 e3;have e0:=HS1.out.cell (v:=.int .i64 q.states) 1 0 rfl rfl;have e1:=HS1.out.cell (v:=u1) 1 1 rfl rfl;have e2:=HS1.out.cell (v:=u2) 1 2 rfl rfl;have e3:=HS1.out.cell (v:=u3) 1 3 rfl rfl;go_wp2_with fail;refine(Zab q _ _ (Q.out.below HS1.out.bel) true Hhq.out).mono ?_;rintro e w2 ⟨rfl,hb2⟩;have HS2:=qh (HS1.out.call hb2);clear hb2 e0 e1 e2 e3;have e0:=HS2.out.cell (v:=.int .i64 p.states) 0 0 rfl rfl;have e1:=HS2.out.cell (v:=v1) 0 1 rfl rfl;have e2:=HS2.out.cell (v:=v2) 0 2 rfl rfl;have e3:=HS2.out.cell (v:=v3) 0 3 rfl rfl;have g0:=HS2.out.cell (v:=.int .i64 q.states) 1 0 rfl rfl;have g1:=HS2.out.cell (v:=u1) 1 1 rfl rfl;have g2:=HS2.out.cell (v:=u2) 1 2 rfl rfl;have g3:=HS2.out.cell (v:=u3) 1 3 rfl rfl;go_wp2_with fail;refine(Hst.out _ HS2.out.bel).mono ?_;rintro e w3 ⟨a1,c1,a2,c2,a3,c3,rfl,hS'⟩;have HS3:=qh (HS2.out.cat hS');clear hS' e0 e1 e2 e3 g0 g1 g2 g3;have HN:=qh (ZaO (Zax (HS3.out.row 3 rfl)) (Zah (HS3.out.row 4 rfl)) (Zah (HS3.out.row 5 rfl)) hNs0 hNs1);go_wp2_with fail;refine(ZbQ N _ _ _ _ true HhNk.out HN.out).mono ?_;rintro e w4 ⟨rfl,hb4⟩;have HS4:=qh (HS3.out.call hb4);clear hb4;have f0:=HS4.out.fr 2 0 rfl;have k0:=HS4.out.cell (v:=.int .i64 0) 2 0 rfl rfl;have f1:=HS4.out.fr 2 1 rfl;have k1:=HS4.out.cell (v:=.slice none 0 0) 2 1 rfl rfl;have f2:=HS4.out.fr 2 2 rfl
 have k2:=HS4.out.cell (v:=.slice none 0 0) 2 2 rfl rfl;have f3:=HS4.out.fr 2 3 rfl;have k3:=HS4.out.cell (v:=.slice none 0 0) 2 3 rfl rfl;have hq:=(((HS4.out.set 2 rfl 0 (.int .i64 N.states)).set 2 rfl 1 (.slice a1 N.moves.length c1)).set 2 rfl 2 (.slice a2 N.firsts.length c2)).set 2 rfl 3 (.slice a3 N.ends.length c3);have Hq:=qh hq;have q0:=hq.cell (v:=.int .i64 N.states) 2 0 rfl rfl;have q1:=hq.cell (v:=.slice a1 N.moves.length c1) 2 1 rfl rfl;have q2:=hq.cell (v:=.slice a2 N.firsts.length c2) 2 2 rfl rfl;have q3:=hq.cell (v:=.slice a3 N.ends.length c3) 2 3 rfl rfl;clear hq;simp only[↓reduceIte];go_wp2;refine bodyPost_ret (v:=.tuple #[.agg #[.int .i64 N.states,.slice a1 N.moves.length c1,.slice a2 N.firsts.length c2,.slice a3 N.ends.length c3],.bool true]) (by simp[results,Tryz.results33,go_sem,q0,q1,q2,q3]) rfl ?_;exact⟨a1,c1,a2,c2,a3,c3,rfl,Hq.out.pick [3,4,5] (by decide)⟩
theorem ZdD (x:Int) (w:World) (r:Bool) (hr:inB x 0 2=r):Calls Tryz.prog 111 #[.int .i64 x] w fun e w'=>e = .returned (.bool r)∧w=w':=by
 have Hr:=qh hr;clear hr
 go_enter Tryz.func111, Tryz.ntmps111
 go_wp2_with fail;refine(Zav _ _ _ _ _ Hr.out).mono ?_;rintro e w1 ⟨rfl,rfl⟩;go_wp2;go_ret;exact⟨rfl,rfl⟩
theorem ZcQ (k l:Int) (w:World) (r:Bool) (hr:pOk (k,l)=r) :
  Calls Tryz.prog 135 #[.agg #[.int .i64 k,.int .i64 l]] w fun e w'=>e = .returned (.bool r)∧Below w.heap.size w w':=by
 unfold pOk at hr;simp only at hr;by_cases h3:k=3
 ·subst h3;have h1:inB 3 1 8=true:=by decide
  rw[h1,Bool.true_and] at hr;cases h2:inB l 0 2
  ·rw[h2] at hr;have hr:false=r:=hr;subst hr;have H2:=qh h2;clear h2 h1
   go_enter Tryz.func135, Tryz.ntmps135
   go_wp2_with fail;refine(ZdD _ _ _ H2.out).mono ?_;rintro e w1 ⟨rfl,rfl⟩;go_wp2;go_ret;exact⟨rfl,(Below.refl _ _).alloc (Nat.le_refl _) _⟩
  rw[h2] at hr;have hr:true=r:=hr;subst hr;have H2:=qh h2;clear h2 h1
  go_enter Tryz.func135, Tryz.ntmps135
  go_wp2_with fail;refine(ZdD _ _ _ H2.out).mono ?_;rintro e w1 ⟨rfl,rfl⟩;go_wp2;go_ret;exact⟨rfl,(Below.refl _ _).alloc (Nat.le_refl _) _⟩
 obtain⟨q1,q2,q3,q4⟩:=Zaz h3;rw[decide_eq_false h3] at hr;cases h1:inB k 1 8
 ·rw[h1,Bool.false_and] at hr;subst hr;have H1:=qh h1;clear h1
  go_enter Tryz.func135, Tryz.ntmps135
  go_wp2_with fail;refine(Zav _ _ _ _ _ H1.out).mono ?_;rintro e w1 ⟨rfl,rfl⟩;go_wp2;go_ret;exact⟨rfl,(Below.refl _ _).alloc (Nat.le_refl _) _⟩
 rw[h1,Bool.true_and] at hr;have H1:=qh h1;clear h1;have hr:decide (l=0)=r:=hr;subst hr
 go_enter Tryz.func135, Tryz.ntmps135
 go_wp2_with fail;refine(Zav _ _ _ _ _ H1.out).mono ?_;rintro e w1 ⟨rfl,rfl⟩;by_cases h0:l=0
 ·subst h0;go_wp2;go_ret;exact⟨rfl,(Below.refl _ _).alloc (Nat.le_refl _) _⟩
 obtain⟨p1,p2,p3,p4⟩:=Zaz h0;go_wp2;go_ret;exact⟨by rw[decide_eq_false h0];rfl,(Below.refl _ _).alloc (Nat.le_refl _) _⟩
theorem ZaL (k l:Int) (w:World) (r:Int) (hr:Zad (k,l)=r) (h0:0≤r) :
  Calls Tryz.prog 31 #[.agg #[.int .i64 k,.int .i64 l]] w fun e w'=>e = .returned (.int .i64 r)∧Below w.heap.size w w':=by
 have hok:=ZcK (p:=(k,l)) (by rw[hr];exact h0);have hk:(k=1∨k=2∨k=3∨k=4∨k=5∨k=6∨k=7∨k=8):=by simp only[pOk,inB,Bool.and_eq_true,Bool.or_eq_true,decide_eq_true_eq] at hok;omega
 unfold Zad at hr;rw[if_pos hok] at hr;clear hok h0;rcases hk with rfl|rfl|rfl|rfl|rfl|rfl|rfl|rfl <;>
 ·simp at hr;subst hr
  go_enter Tryz.func31, Tryz.ntmps31
  go_wp2;go_ret;exact⟨rfl,(Below.refl _ _).alloc (Nat.le_refl _) _⟩
variable {P:Program}
theorem Za5 {w:World} {b:Nat} {cs cs':Array Value} {T:TypeId} (h:Bx w b cs T) (hn:cs'.size=cs.size) (h1:∀ v∈cs'.toList,v.oneCell'=true):(storeCells ⟨b,0,none⟩ cs'.toList 0).run P w = .ok () (w.setRow b cs'):=by have:=run_storeCells_from (P:=P) b T cs'.toList 0 cs w h (by simpa using hn) h1;simpa using this
theorem St.setAll {w0 w:World} {L:List Ent} (h:St w0 w L) (i:Nat) {b:Nat} {cs:Array Value} {T:TypeId} (hx:L[i]? = some (Ent.box b cs T)) (cs':Array Value):St w0 (w.setRow b cs') (L.set i (Ent.box b cs' T)):=by have hb:Bx w b cs T:=(h.has i _ hx).1;have hb':Bx (w.setRow b cs') b cs' T:=setRow_heap w b cs cs' T (0,0) hb;exact h.turn i hx _ rfl rfl rfl (by simp[World.setRow]) (fun k _ hk=>setRow_other w b k cs' hk) hb' fun k hk=>by have hk:k=b:=hk;subst hk;exact⟨hb'.lt,Or.inl rfl⟩
theorem ZgB {ops:Array Oper} {rest:List Oper} {op:Oper} {a:Act} {w:World} {Q:Exit→Act→World→Prop} (hgd:op.guard=none) (ty:TypeId) (x:Operand) (ho:op.op = .load ty x) (b:Nat) (hx:a.eval x = .pointer (some ⟨b,0,none⟩)) (T:TypeId) (cs:Array Value) (d:TypeDesc) (hb:Bx w b cs T)
  (hu:P.underlying ty=some d) (hd:d.isRow=true) (hi:(P.info? ty).map (·.size)=some cs.size) (h:wpList P ops Q rest (a.put op.dst (.agg cs)) w):wpList P ops Q (op::rest) a w:=by
 have hc:w.rangeAt b 0 cs.toList:=fun j v hv=>by rw[Nat.zero_add,hb.cell j];simpa using hv
 exact wpList_load_mid hgd ty x ho b 0 hx cs.toList d hc hu hd (by simpa using hi) (by simpa using h)
theorem Zfu {ops:Array Oper} {rest:List Oper} {op:Oper} {a:Act} {w:World} {Q:Exit→Act→World→Prop} (hgd:op.guard=none) (ty:TypeId) (x y:Operand) (ho:op.op = .store ty x y) (b:Nat) (T:TypeId) (cs cs':Array Value) (hx:a.eval x = .pointer (some ⟨b,0,none⟩)) (hy:a.eval y = .agg cs')
  (hb:Bx w b cs T) (hi:(P.info? ty).map (·.size)=some cs'.size) (hl:cs.size=cs'.size) (h1:∀ v∈cs'.toList,v.oneCell'=true) (h:wpList P ops Q rest (a.put op.dst undef) (w.setRow b cs')):wpList P ops Q (op::rest) a w :=
 wpList_plain hgd fun K hK=>by have hr:=run_storeVar_row (P:=P) w b T ty cs cs' hb hi hl (Array.all_eq_true_iff_forall_mem.2 fun v hv=>h1 v (by simpa using hv));unfold Oper.wp execOp;simp only[ho,hx,hy,Instr.storeAt,Instr.sureAddr,Sem.run_bind,Sem.run_pure,Result.andThen_ok,hr];exact hK _ _ h
theorem Zhw {fn:Func} {p:Tmp} {ty:TypeId} (h:fn.results=#[.cell p ty]) (tmps:Array Value) (P:Program) (w:World) :
  (results fn tmps).run P w=((asAddr (tmps.getD p undef)).run P w).andThen fun a w₁=>(loadVar ty a).run P w₁:=by
 simp only[results,h];simp[Sem.run_bind,Result.andThen]
theorem ZbB {fn:Func} {p:Tmp} {ty:TypeId} (h:fn.results=#[.cell p ty]) (tmps:Array Value) (P:Program) (w:World) (b:Nat) (T:TypeId) (cs:Array Value) (d:TypeDesc) (hp:tmps.getD p undef = .pointer (some ⟨b,0,none⟩)) (hb:Bx w b cs T) (hu:P.underlying ty=some d) (hd:d.isRow=true) (hi:(P.info? ty).map (·.size)=some cs.size) :
  (results fn tmps).run P w = .ok (.agg cs) w:=by
 rw[Zhw h,hp];have hl:(loadVar ty ⟨b,0,none⟩).run P w = .ok (.agg cs) w:=run_loadVar_row w b T ty cs (0,0) d hb hu (by cases d<;>simp_all [TypeDesc.isRow]) hi;simp[asAddr,Result.andThen,hl]
theorem Zjk {w:World} {B e size n cap m:Nat} {a:Option Addr} {cs:List Value} (h:w.ownsRow B e size (.slice a n cap) n cs) (hm:m≤n):w.ownsRow B e size (.slice a m cap) m (cs.take (m*size)):=by
 obtain⟨h1,h2⟩:=h;have hle:m*size≤n*size:=Nat.mul_le_mul_right size hm;refine⟨by rw[List.length_take,h1];omega,?_⟩;rcases h2 with⟨h3,h4⟩|⟨g,c,cur,h3,h4,h5,h6,h7,h8,h9⟩
 ·simp only[Value.slice.injEq] at h3;obtain⟨rfl,rfl,rfl⟩:=h3;obtain rfl:m=0:=by omega
  exact .inl ⟨rfl,rfl⟩
 simp only[Value.slice.injEq] at h3;obtain⟨rfl,-,rfl⟩:=h3;refine .inr ⟨g,cap,cur,rfl,h4,h5,by omega,h7,h8,?_⟩;rw[← h9,List.take_take,Nat.min_eq_left hle]
theorem St.cut {w0 w:World} {L:List Ent} (h:St w0 w L) (i:Nat) {e size n cap:Nat} {a:Option Addr} {cs:List Value} (hx:L[i]? = some (Ent.row e size (.slice a n cap) n cs)) (m:Nat) (hm:m≤n):St w0 w (L.set i (Ent.row e size (.slice a m cap) m (cs.take (m*size)))) :=
 h.same i hx _ (fun hb=>Zjk hb hm) fun k hk=>by
  cases a with
  | none=>cases hk
  | some a=>exact hk
theorem St.rangeR {w0 w:World} {L:List Ent} (h:St w0 w L) (i:Nat) {e size g n cap:Nat} {cs:List Value} (hx:L[i]? = some (Ent.row e size (.slice (some ⟨g,0,none⟩) n cap) n cs)) (o:Nat) (xs:List Value) (hxs:∀ k v,xs[k]? = some v→o+k<n*size∧cs[o+k]? = some v):w.rangeAt g o xs:=fun k v hv=>h.rcell i (o+k) hx (hxs k v hv).1 (hxs k v hv).2
theorem St.rangeB {w0 w:World} {L:List Ent} (h:St w0 w L) (i:Nat) {b:Nat} {cs:Array Value} {T:TypeId} (hx:L[i]? = some (Ent.box b cs T)):w.rangeAt b 0 cs.toList:=fun k v hv=>by rw[Nat.zero_add];exact h.cell i k hx (by simpa using hv)
theorem Zm9 {op:Oper} {a:Act} {w:World} {K:Act→World→Prop} {Q:Exit→Act→World→Prop} (ty:TypeId) (x:Operand) (ho:op.op = .load ty x) (b off:Nat) (hx:a.eval x = .pointer (some ⟨b,off,none⟩)) (cs:Array Value) (d:TypeDesc) (hc:w.rangeAt b off cs.toList)
  (hu:P.underlying ty=some d) (hd:d.isRow=true) (hi:(P.info? ty).map (·.size)=some cs.size) (h:K (a.put op.dst (.agg cs)) w):op.wp P a w K Q :=
 wp_load_mid ty x ho b off hx cs.toList d hc hu hd (by simpa using hi) (by simpa using h)
theorem Zes {ops:Array Oper} {o:Oper} {a:Act} {w:World} {K:Act→World→Prop} {Q:Exit→Act→World→Prop} {E:Prop} (hgd:o.guard=none) (ty:TypeId) (x:Operand) (ho:o.op = .load ty x) (b off:Nat) (hx:a.eval x = .pointer (some ⟨b,off,none⟩)) (cs:Array Value) (d:TypeDesc) (hc:w.rangeAt b off cs.toList)
  (hu:P.underlying ty=some d) (hd:d.isRow=true) (hi:(P.info? ty).map (·.size)=some cs.size) (h:K (a.put o.dst (.agg cs)) w):if Region.wanted o (yielded ops a.tmps)=true then Oper.wp P o a w K Q else E:=by
 have hw:Region.wanted o (yielded ops a.tmps)=true:=by simp[Region.wanted,hgd]
 rw[if_pos hw];exact wp_load_mid ty x ho b off hx cs.toList d hc hu hd (by simpa using hi) (by simpa using h)
theorem Zi4 {ops:Array Oper} {o:Oper} {a:Act} {w:World} {K:Act→World→Prop} {Q:Exit→Act→World→Prop} {E:Prop} (hgd:o.guard=none) (t e:TypeId) (x:Operand) (ho:o.op = .buildSlice t 1 #[(0,x)]) (cs:Array Value) (hx:a.eval x = .agg cs) (ie:TypeInfo) (z:Value) (s:Nat)
  (hu:P.underlying t=some (.slice e)) (hie:P.info? e=some ie) (hz:ie.zero=some z) (hs:ie.size=s) (hcs:cs.size=s) (h0:0<s) (hsm:s≤16777216) (h:K (a.put o.dst (.slice (some ⟨w.heap.size,0,none⟩) 1 1)) (w.alloc (.cells cs e))):if Region.wanted o (yielded ops a.tmps)=true then Oper.wp P o a w K Q else E:=by
 have hw:Region.wanted o (yielded ops a.tmps)=true:=by simp[Region.wanted,hgd]
 rw[if_pos hw];refine wp_buildSlice t e 1 _ ho cs ie z hu hie hz (by rw[hs];omega) (by rw[hs];omega) ?_ h;rw[hs];have hf:=Great.fill_whole h0 [.agg cs] ((Array.range (1*s)).map (z.cells[· % z.cells.size]!)) (by intro v hv;rw[List.mem_singleton] at hv;subst hv;exact hcs) (by simp);simpa [Value.cells,hx] using hf
theorem Zfy {ops:Array Oper} {o:Oper} {a:Act} {w:World} {K:Act→World→Prop} {Q:Exit→Act→World→Prop} {E:Prop} (hgd:o.guard=none) (ty:TypeId) (x y:Operand) (ho:o.op = .store ty x y) (b:Nat) (T:TypeId) (cs cs':Array Value) (hx:a.eval x = .pointer (some ⟨b,0,none⟩)) (hy:a.eval y = .agg cs')
  (hb:Bx w b cs T) (hi:(P.info? ty).map (·.size)=some cs'.size) (hl:cs.size=cs'.size) (h1:∀ v∈cs'.toList,v.oneCell'=true) (h:K (a.put o.dst undef) (w.setRow b cs')):if Region.wanted o (yielded ops a.tmps)=true then Oper.wp P o a w K Q else E:=by
 have hw:Region.wanted o (yielded ops a.tmps)=true:=by simp[Region.wanted,hgd]
 rw[if_pos hw];have hr:=run_storeVar_row (P:=P) w b T ty cs cs' hb hi hl (Array.all_eq_true_iff_forall_mem.2 fun v hv=>h1 v (by simpa using hv));unfold Oper.wp execOp;simp only[ho,hx,hy,Instr.storeAt,Instr.sureAddr,Sem.run_bind,Sem.run_pure,Result.andThen_ok,hr];exact h
end Go.Proofs.YtfikabecgaappaaGreat
