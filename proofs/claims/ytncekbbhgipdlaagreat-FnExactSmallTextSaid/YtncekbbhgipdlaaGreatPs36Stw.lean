/-
  The walks over SmallText of both.
  Condition: the text is one of bytes.
-/
import Derived.Test.YtncekbbhgipdlaaGreatPs22Jf
import Derived.Test.YtncekbbhgipdlaaGreatPs33Xps
import Derived.Test.YtncekbbhgipdlaaGreatPs34Smt
import Derived.Test.YtncekbbhgipdlaaGreatPs35Smj
set_option maxHeartbeats 8000000
set_option maxRecDepth 100000
namespace Go.Proofs.YtncekbbhgipdlaaGreat
open Go.RowKit
theorem ZeY (K:Nat) (hK:K=40) (s T:List Nat) (ok:Bool) (hA:Zpb K s T ok) (w:World) (hs:isT s) :
  Calls Tryz.prog 8 #[.string (txB s)] w fun e w'=>e = .returned (.tuple #[.string (txB T),.bool ok])∧Below w.heap.size w w':=by
 have HR:=qh (fun u=>Zfq s u hs);rcases hA with⟨hq,rfl,rfl⟩|⟨t,o,hq,h60,ho,rfl,hT⟩
 ·have HQ:=qh hq;clear hq
  go_enter Tryz.func8, Tryz.ntmps8
  go_wp2_with fail;refine(HR.out _).mono ?_;rintro e w1 (⟨-,rfl,hb1⟩|⟨es,a,c,hes,-,-⟩)
  ·have HB:=qh hb1;clear hb1;go_wp2
   go_ret2
   exact⟨rfl,HB.out⟩
  exact absurd (HQ.out.symm.trans hes) (by simp)
 have HQ:=qh hq;have hok60:=Zau t h60;have hl60:(simE t).post.length≤60:=Nat.le_trans (Zbg t) h60;have hrun:runC K t.post []=o.map fun d=>[d]:=by rw[← ho];exact Zlj hK t
 have hmin:∀ d,o=some d→minD d=d:=fun d h=>Zk2 hK t (ho.trans h)
 have hc:=fun (v:Value) (u:World) h=>Zfr K hK t.post o hrun hmin v u hok60 h
 have hsim:=Zn5 t h60;have htx:=ZhM (simE t) hl60;unfold SimC at hsim;unfold Zfz at htx;have hpl:=ZaY (simE t);obtain⟨A,hAe⟩:=eI (prE (simE t));obtain⟨M,hM⟩:=eI ((simE t).post);obtain⟨P,hP⟩:=eI (t.post);rw[← hAe] at htx hT hpl;rw[← hM] at htx hsim hl60 hpl;rw[← hP] at hsim hc h60;rw[← hP] at HQ;have hszA:=ZaG A;have Hsim:=qh hsim;have Htx:=qh htx;rcases hT with⟨rfl,rfl⟩|⟨D,L,b,rfl,hk,rfl⟩
 ·have hc2:=hc;simp only[Option.getD_none,Option.isSome_none] at hc2;have Hc:=qh hc2;clear hq hsim htx hc hc2 ho hrun hmin hAe hM hP hok60
  go_enter Tryz.func8, Tryz.ntmps8
  go_wp2_with fail;refine(HR.out _).mono ?_;rintro e w1 (⟨hno,-,-⟩|⟨es1,a,c,hes,rfl,hS⟩)
  ·exact absurd (HQ.out.symm.trans hno) (by simp)
  obtain rfl:P=es1:=by have:=HQ.out.symm.trans hes;simpa using this
  have HP:=qh (Zad (hS.row 0 rfl));have HS1:=qh (show St w w1 [Ent.row 62 2 (.slice a P.length c) P.length (P.flatMap Zaa)] from hS);clear hS hes;go_wp2_with fail;refine(Hsim.out _ _ HP.out).mono ?_;rintro e w2 ⟨g2,k2,F2,rfl,hS2⟩;have HS2:=qh (HS1.out.cat hS2);have HP2:=qh (HP.out.below hS2.bel);have HX:=qh (HS2.out.mkQ 1 rfl HP2.out);clear hS2;go_wp2_with fail;refine(Htx.out _ _ HX.out).mono ?_;rintro e w3 ⟨rfl,hb3⟩;have HS3:=qh (HS2.out.call hb3);have HP3:=qh (HP2.out.below hb3);clear hb3;go_wp2_with fail;refine(Hc.out _ _ HP3.out).mono ?_;rintro e w4 ⟨⟨a1,c1,a2,c2,rfl,hx⟩,hb4⟩;have HS4:=qh (HS3.out.call hb4);clear hx hb4;go_wp2
  go_ret2
  exact⟨rfl,(HS4.out.alloc_ _).bel⟩
 have hc2:=hc;simp only[w_8,Option.isSome_some] at hc2;have Hc:=qh hc2;have hex:=fun (v:Value) (u:World) h=>Zhc D L b hk v u h
 have Hex:=qh hex;cases b with
 | false =>
  rw[if_neg (by decide)];clear hq hsim htx hc hc2 ho hrun hmin hAe hM hP hok60 hex hk
  go_enter Tryz.func8, Tryz.ntmps8
  go_wp2_with fail;refine(HR.out _).mono ?_;rintro e w1 (⟨hno,-,-⟩|⟨es1,a,c,hes,rfl,hS⟩)
  ·exact absurd (HQ.out.symm.trans hno) (by simp)
  obtain rfl:P=es1:=by have:=HQ.out.symm.trans hes;simpa using this
  have HP:=qh (Zad (hS.row 0 rfl));have HS1:=qh (show St w w1 [Ent.row 62 2 (.slice a P.length c) P.length (P.flatMap Zaa)] from hS);clear hS hes;go_wp2_with fail;refine(Hsim.out _ _ HP.out).mono ?_;rintro e w2 ⟨g2,k2,F2,rfl,hS2⟩;have HS2:=qh (HS1.out.cat hS2);have HP2:=qh (HP.out.below hS2.bel);have HX:=qh (HS2.out.mkQ 1 rfl HP2.out);clear hS2;go_wp2_with fail;refine(Htx.out _ _ HX.out).mono ?_;rintro e w3 ⟨rfl,hb3⟩;have HS3:=qh (HS2.out.call hb3);have HP3:=qh (HP2.out.below hb3);clear hb3;go_wp2_with fail;refine(Hc.out _ _ HP3.out).mono ?_;rintro e w4 ⟨⟨a1,c1,a2,c2,rfl,hx⟩,hb4⟩;have HD:=qh (((hx.r).mono (Nat.zero_le _):DfaR 0 w4 (.agg #[.slice a1 D.next.length c1,.slice a2 D.ends.length c2]) D).below ((Below.refl w4.heap.size w4).alloc (Nat.le_refl _) (.cells #[.slice a1 D.next.length c1,.slice a2 D.ends.length c2] 44)));have HS4:=qh (((HS3.out.call hb4).alloc w4.heap.size rfl #[.slice a1 D.next.length c1,.slice a2 D.ends.length c2] 44).pick [2] (by decide));have e0:=HS4.out.cell (v:=.slice a1 D.next.length c1) 0 0 rfl rfl;have e1:=HS4.out.cell (v:=.slice a2 D.ends.length c2) 0 1 rfl rfl;clear hx hb4;go_wp2_with fail;refine(Hex.out _ _ HD.out).mono ?_;rintro e w5 ⟨g5,k5,rfl,hp5,hb5⟩;have HS5:=qh (HS4.out.call hb5);have HL:=qh hp5;clear hp5 hb5 e0 e1;go_wp2
  go_ret2
  exact⟨rfl,HS5.out.bel⟩
 | true =>
  rw[if_pos rfl];obtain⟨-,u,hu,hu60,-⟩:=ZkL hk rfl;have htl:=ZhM u (by rw[hu];exact hu60);unfold Zfz at htl;rw[hu,← ZcO (by rw[hu];exact hu60),hu] at htl;obtain⟨B,hB⟩:=eI (ZdQ L);have hbl:=(ZhN L).2;rw[← hB] at htl hbl ⊢;have hszB:=ZaG B;have Htl:=qh htl;clear hq hsim htx hc hc2 ho hrun hmin hAe hM hP hok60 hex hk htl hB hu hu60
  go_enter Tryz.func8, Tryz.ntmps8
  go_wp2_with fail;refine(HR.out _).mono ?_;rintro e w1 (⟨hno,-,-⟩|⟨es1,a,c,hes,rfl,hS⟩)
  ·exact absurd (HQ.out.symm.trans hno) (by simp)
  obtain rfl:P=es1:=by have:=HQ.out.symm.trans hes;simpa using this
  have HP:=qh (Zad (hS.row 0 rfl));have HS1:=qh (show St w w1 [Ent.row 62 2 (.slice a P.length c) P.length (P.flatMap Zaa)] from hS);clear hS hes;go_wp2_with fail;refine(Hsim.out _ _ HP.out).mono ?_;rintro e w2 ⟨g2,k2,F2,rfl,hS2⟩;have HS2:=qh (HS1.out.cat hS2);have HP2:=qh (HP.out.below hS2.bel);have HX:=qh (HS2.out.mkQ 1 rfl HP2.out);clear hS2;go_wp2_with fail;refine(Htx.out _ _ HX.out).mono ?_;rintro e w3 ⟨rfl,hb3⟩;have HS3:=qh (HS2.out.call hb3);have HP3:=qh (HP2.out.below hb3);clear hb3;go_wp2_with fail;refine(Hc.out _ _ HP3.out).mono ?_;rintro e w4 ⟨⟨a1,c1,a2,c2,rfl,hx⟩,hb4⟩;have HD:=qh (((hx.r).mono (Nat.zero_le _):DfaR 0 w4 (.agg #[.slice a1 D.next.length c1,.slice a2 D.ends.length c2]) D).below ((Below.refl w4.heap.size w4).alloc (Nat.le_refl _) (.cells #[.slice a1 D.next.length c1,.slice a2 D.ends.length c2] 44)));have HS4:=qh (((HS3.out.call hb4).alloc w4.heap.size rfl #[.slice a1 D.next.length c1,.slice a2 D.ends.length c2] 44).pick [2] (by decide));have e0:=HS4.out.cell (v:=.slice a1 D.next.length c1) 0 0 rfl rfl;have e1:=HS4.out.cell (v:=.slice a2 D.ends.length c2) 0 1 rfl rfl;clear hx hb4;go_wp2_with fail;refine(Hex.out _ _ HD.out).mono ?_;rintro e w5 ⟨g5,k5,rfl,hp5,hb5⟩;have HS5:=qh (HS4.out.call hb5);have HL:=qh hp5;clear hp5 hb5 e0 e1;go_wp2_with fail;refine(Htl.out _ _ HL.out).mono ?_;rintro e w6 ⟨rfl,hb6⟩;have HS6:=qh (HS5.out.call hb6);have HL6:=qh (HL.out.below hb6);clear hb6;by_cases hlt:B.length<A.length
  ·have hltI:(B.length:Int)<(A.length:Int):=by omega
   have hsh:Zmj A B=B:=if_pos hlt;have Hsh:=qh hsh;clear hsh hlt;go_wp2_with fail;refine(Htl.out _ _ HL6.out).mono ?_;rintro e w7 ⟨rfl,hb7⟩;have HS7:=qh (HS6.out.call hb7);clear hb7;go_wp2
   go_ret2
   exact⟨by rw[Hsh.out];rfl,HS7.out.bel⟩
  have hltI:¬ (B.length:Int)<(A.length:Int):=by omega
  have hsh:Zmj A B=A:=if_neg hlt;have Hsh:=qh hsh;clear hsh hlt;go_wp2
  go_ret2
  exact⟨by rw[Hsh.out];rfl,HS6.out.bel⟩
theorem ZeK (K:Nat) (hK:K=40) (s T:List Nat) (ok:Bool) (hA:Zpb K s T ok) (w:World) (hs:isT s) :
  Calls Tryz.prog 7 #[.string (txB s)] w fun e w'=>e = .returned (.tuple #[.string (txB T),.bool ok])∧Below w.heap.size w w':=by
 have HR:=qh (fun u=>Zfo s u hs);rcases hA with⟨hq,rfl,rfl⟩|⟨t,o,hq,h60,ho,rfl,hT⟩
 ·have HQ:=qh hq;clear hq
  go_enter Tryz.func7, Tryz.ntmps7
  go_wp2_with fail;refine(HR.out _).mono ?_;rintro e w1 (⟨-,a,c,rfl,hS⟩|⟨es,a,c,hes,-,-⟩)
  ·have HB:=qh hS.bel;clear hS;go_wp2
   go_ret2
   exact⟨rfl,HB.out⟩
  exact absurd (HQ.out.symm.trans hes) (by simp)
 have HQ:=qh hq;have hok60:=Zau t h60;have hl60:(simE t).post.length≤60:=Nat.le_trans (Zbg t) h60;have hc:=fun (v:Value) (u:World) h=>Zf1 K hK t.post o (.inl ⟨hok60,t,rfl,ho⟩) v u (by omega) h
 have hsim:=fun (v:Value) (u:World) h=>ZdR t.post v u (by omega) h
 have htx:=fun (v:Value) (u:World) h=>Zbt (simE t).post v u (by omega) h
 rw[ZiO h60] at hsim;rw[ZcO hl60] at htx;unfold RO at hc;have hpl:=ZaY (simE t);obtain⟨A,hAe⟩:=eI (prE (simE t));obtain⟨M,hM⟩:=eI ((simE t).post);obtain⟨P,hP⟩:=eI (t.post);rw[← hAe] at htx hT hpl;rw[← hM] at htx hsim hl60 hpl;rw[← hP] at hsim hc h60;rw[← hP] at HQ;have hszA:=ZaG A;have Hsim:=qh hsim;have Htx:=qh htx;rcases hT with⟨rfl,rfl⟩|⟨D,L,b,rfl,hk,rfl⟩
 ·have hc2:=hc;simp only[Option.getD_none,Option.isSome_none] at hc2;have Hc:=qh hc2;clear hq hsim htx hc hc2 ho hAe hM hP hok60
  go_enter Tryz.func7, Tryz.ntmps7
  go_wp2_with fail;refine(HR.out _).mono ?_;rintro e w1 (⟨hno,-,-⟩|⟨es1,a,c,hes,rfl,hS⟩)
  ·exact absurd (HQ.out.symm.trans hno) (by simp)
  obtain rfl:P=es1:=by have:=HQ.out.symm.trans hes;simpa using this
  have HP:=qh (Zad (hS.row 0 rfl));have HS1:=qh (show St w w1 [Ent.row 62 2 (.slice a P.length c) P.length (P.flatMap Zaa)] from hS);clear hS hes;go_wp2_with fail;refine(Hsim.out _ _ HP.out).mono ?_;rintro e w2 ⟨g2,k2,rfl,hS2⟩;have HS2:=qh (HS1.out.cat hS2);have HP2:=qh (HP.out.below hS2.bel);have HX:=qh (Zad (HS2.out.row 1 rfl));clear hS2;go_wp2_with fail;refine(Htx.out _ _ HX.out).mono ?_;rintro e w3 ⟨rfl,hb3⟩;have HS3:=qh (HS2.out.call hb3);have HP3:=qh (HP2.out.below hb3);clear hb3;go_wp2_with fail;refine(Hc.out _ _ HP3.out).mono ?_;rintro e w4 ⟨a1,c1,a2,c2,rfl,hx,hb4⟩;have HS4:=qh (HS3.out.call hb4);clear hx hb4;go_wp2
  go_ret2
  exact⟨rfl,(HS4.out.alloc_ _).bel⟩
 have hc2:=hc;simp only[w_8,Option.isSome_some] at hc2;have Hc:=qh hc2;have hex:=fun (v:Value) (u:World) h=>Zg1 D L b hk v u h
 have Hex:=qh hex;cases b with
 | false =>
  rw[if_neg (by decide)];clear hq hsim htx hc hc2 ho hAe hM hP hok60 hex hk
  go_enter Tryz.func7, Tryz.ntmps7
  go_wp2_with fail;refine(HR.out _).mono ?_;rintro e w1 (⟨hno,-,-⟩|⟨es1,a,c,hes,rfl,hS⟩)
  ·exact absurd (HQ.out.symm.trans hno) (by simp)
  obtain rfl:P=es1:=by have:=HQ.out.symm.trans hes;simpa using this
  have HP:=qh (Zad (hS.row 0 rfl));have HS1:=qh (show St w w1 [Ent.row 62 2 (.slice a P.length c) P.length (P.flatMap Zaa)] from hS);clear hS hes;go_wp2_with fail;refine(Hsim.out _ _ HP.out).mono ?_;rintro e w2 ⟨g2,k2,rfl,hS2⟩;have HS2:=qh (HS1.out.cat hS2);have HP2:=qh (HP.out.below hS2.bel);have HX:=qh (Zad (HS2.out.row 1 rfl));clear hS2;go_wp2_with fail;refine(Htx.out _ _ HX.out).mono ?_;rintro e w3 ⟨rfl,hb3⟩;have HS3:=qh (HS2.out.call hb3);have HP3:=qh (HP2.out.below hb3);clear hb3;go_wp2_with fail;refine(Hc.out _ _ HP3.out).mono ?_;rintro e w4 ⟨a1,c1,a2,c2,rfl,hx,hb4⟩;have HD:=qh ((hx.mono (Nat.zero_le _):DfaR 0 w4 (.agg #[.slice a1 D.next.length c1,.slice a2 D.ends.length c2]) D).below ((Below.refl w4.heap.size w4).alloc (Nat.le_refl _) (.cells #[.slice a1 D.next.length c1,.slice a2 D.ends.length c2] 44)));have HS4:=qh (((HS3.out.call hb4).alloc w4.heap.size rfl #[.slice a1 D.next.length c1,.slice a2 D.ends.length c2] 44).pick [2] (by decide));have e0:=HS4.out.cell (v:=.slice a1 D.next.length c1) 0 0 rfl rfl;have e1:=HS4.out.cell (v:=.slice a2 D.ends.length c2) 0 1 rfl rfl;clear hx hb4;go_wp2_with fail;refine(Hex.out _ _ HD.out).mono ?_;rintro e w5 ⟨g5,k5,rfl,hp5,hb5⟩;have HS5:=qh (HS4.out.call hb5);have HL:=qh hp5;clear hp5 hb5 e0 e1;go_wp2
  go_ret2
  exact⟨rfl,HS5.out.bel⟩
 | true =>
  rw[if_pos rfl];have htl:=fun (v:Value) (u:World) h=>Zbt L v u (by have:=Zps hk;omega) h
  obtain⟨B,hB⟩:=eI (ZdQ L);have hbl:=(ZhN L).2;rw[← hB] at htl hbl ⊢;have hszB:=ZaG B;have Htl:=qh htl;clear hq hsim htx hc hc2 ho hAe hM hP hok60 hex hk htl hB
  go_enter Tryz.func7, Tryz.ntmps7
  go_wp2_with fail;refine(HR.out _).mono ?_;rintro e w1 (⟨hno,-,-⟩|⟨es1,a,c,hes,rfl,hS⟩)
  ·exact absurd (HQ.out.symm.trans hno) (by simp)
  obtain rfl:P=es1:=by have:=HQ.out.symm.trans hes;simpa using this
  have HP:=qh (Zad (hS.row 0 rfl));have HS1:=qh (show St w w1 [Ent.row 62 2 (.slice a P.length c) P.length (P.flatMap Zaa)] from hS);clear hS hes;go_wp2_with fail;refine(Hsim.out _ _ HP.out).mono ?_;rintro e w2 ⟨g2,k2,rfl,hS2⟩;have HS2:=qh (HS1.out.cat hS2);have HP2:=qh (HP.out.below hS2.bel);have HX:=qh (Zad (HS2.out.row 1 rfl));clear hS2;go_wp2_with fail;refine(Htx.out _ _ HX.out).mono ?_;rintro e w3 ⟨rfl,hb3⟩;have HS3:=qh (HS2.out.call hb3);have HP3:=qh (HP2.out.below hb3);clear hb3;go_wp2_with fail;refine(Hc.out _ _ HP3.out).mono ?_;rintro e w4 ⟨a1,c1,a2,c2,rfl,hx,hb4⟩;have HD:=qh ((hx.mono (Nat.zero_le _):DfaR 0 w4 (.agg #[.slice a1 D.next.length c1,.slice a2 D.ends.length c2]) D).below ((Below.refl w4.heap.size w4).alloc (Nat.le_refl _) (.cells #[.slice a1 D.next.length c1,.slice a2 D.ends.length c2] 44)));have HS4:=qh (((HS3.out.call hb4).alloc w4.heap.size rfl #[.slice a1 D.next.length c1,.slice a2 D.ends.length c2] 44).pick [2] (by decide));have e0:=HS4.out.cell (v:=.slice a1 D.next.length c1) 0 0 rfl rfl;have e1:=HS4.out.cell (v:=.slice a2 D.ends.length c2) 0 1 rfl rfl;clear hx hb4;go_wp2_with fail;refine(Hex.out _ _ HD.out).mono ?_;rintro e w5 ⟨g5,k5,rfl,hp5,hb5⟩;have HS5:=qh (HS4.out.call hb5);have HL:=qh hp5;clear hp5 hb5 e0 e1;go_wp2_with fail;refine(Htl.out _ _ HL.out).mono ?_;rintro e w6 ⟨rfl,hb6⟩;have HS6:=qh (HS5.out.call hb6);have HL6:=qh (HL.out.below hb6);clear hb6;by_cases hlt:B.length<A.length
  ·have hltI:(B.length:Int)<(A.length:Int):=by omega
   have hsh:Zmj A B=B:=if_pos hlt;have Hsh:=qh hsh;clear hsh hlt;go_wp2_with fail;refine(Htl.out _ _ HL6.out).mono ?_;rintro e w7 ⟨rfl,hb7⟩;have HS7:=qh (HS6.out.call hb7);clear hb7;go_wp2
   go_ret2
   exact⟨by rw[Hsh.out];rfl,HS7.out.bel⟩
  have hltI:¬ (B.length:Int)<(A.length:Int):=by omega
  have hsh:Zmj A B=A:=if_neg hlt;have Hsh:=qh hsh;clear hsh hlt;go_wp2
  go_ret2
  exact⟨by rw[Hsh.out];rfl,HS6.out.bel⟩
end Go.Proofs.YtncekbbhgipdlaaGreat
