/-
  The walk over the law FnPositionBuild.
  Condition: the argument reads as bytes.
-/
import Derived.Test.YtfanhfcamblghaaPq28Ry
import Derived.Test.YtfanhfcamblghaaPq42Jv
import Derived.Test.YtfanhfcamblghaaPq44Blb
set_option maxHeartbeats 16000000
set_option maxRecDepth 100000
namespace Go.Proofs.Ytfanhfcamblghaa
open Go.RowKit
theorem ZmM {K:Nat} (hK:K=40) {es:List (Int × Int)} {N M:NfaD} (h1:PosQ es (some N)) (h2:BldQ es (some M)) {o1 o2:Option DfaD} (hD:detK K N=o1) (hE:detK K M=o2) {D E:DfaD} (e1:o1=some D) (e2:o2=some E):minQ D=minQ E:=by
 subst e1 e2;have hDo:Za2 D.next D.ends=true:=ZiP hK (n:=N) (by obtain⟨-,h2,h3⟩:=Zic hD;rw[h3];exact if_pos h2);have hEo:Za2 E.next E.ends=true:=ZiP hK (n:=M) (by obtain⟨-,h2,h3⟩:=Zic hE;rw[h3];exact if_pos h2);unfold minQ;rw[if_pos hDo,if_pos hEo];rcases h1 with⟨hex,hpl,t,rfl,hb⟩|⟨-,h⟩
 ·rcases h2 with⟨-,-,u,hu,hb2⟩|⟨h|h,-⟩
  ·obtain rfl:=Ziu hu;have hp:=Zcb u hpl;obtain⟨hok2,hl2⟩:=Zmv u M hp hb2;have hok:Zaq N=true:=(ZgA (es:=u.post) (.inl ⟨hex,hpl,u,rfl,hb⟩)).1
   have hN:N=posN u:=by
    unfold posO at hb
    split at hb
    ·cases hb
    split at hb
    ·exact Option.some.inj hb
    cases hb
   exact Zkw (Zec hDo) (Zec hEo) fun w hw=>by rw[Bool.eq_iff_iff,ZiO hD hw,ZiO hE hw,Zbf hok,Zbf hok2];subst hN;exact(Ziv (ZdD u hp) (ZaF hex).2.2.2 w).trans (hl2 w hw).symm
  ·rw[hex] at h;cases h
  rw[hpl] at h;cases h
 cases h
theorem Zdz (bs:List Nat) (v:Value) (w:World) (hb:Bytes 0 w v bs) :
  Calls Try.prog 4 #[v] w fun e w'=>e = .returned (.bool true)∧Below w.heap.size w w':=by
 have HB:=qh hb;obtain⟨av,cv,rfl,hcv1,hcv2,-⟩:=hb.form;clear hb;by_cases hlen:1048576<bs.length
 ·have hl2:(1048576:Int)<bs.length:=by omega
  go_enter Try.func4, Try.ntmps4
  go_wp2;go_ret;exact⟨rfl,Below.refl _ _⟩
 have hl2:¬ (1048576:Int)<bs.length:=by omega
 go_enter Try.func4, Try.ntmps4
 go_wp2_with fail;refine(ZcJ bs _ _ HB.out (by omega)).mono ?_;rintro e w1 ⟨es,ve,hel,rfl,hp,hb1⟩;obtain⟨ae,ce,rfl,hc1,hc2,-⟩:=hp.form;have HP:=qh hp;have HW1:=qh hb1;clear hp hb1;obtain⟨n,hn⟩:=eI (es.length);rw[← hn] at hc1 HP hel;rw[← hn];obtain⟨o,ho⟩:=Zke es;obtain⟨ob,hob⟩:=Znz es;have him:=fun (v:Value) (u:World) h=>Zch es o ho v u h
 have hsp:=fun (v:Value) (u:World) h=>Zb8 es o ho v u (by omega) h
 have hbd:=fun (v:Value) (u:World) h=>ZgM es ob hob v u h
 obtain⟨N,hN⟩:=eJ (o.getD zeN);obtain⟨ok,hok⟩:=eJ (o.isSome);obtain⟨M,hM⟩:∃ N,ob.getD zeN=N:=⟨_,rfl⟩;obtain⟨gd,hgd⟩:∃ ok,ob.isSome=ok:=⟨_,rfl⟩;rw[hN,hok] at him hsp;rw[hM,hgd] at hbd
 have hs:ok=true→o=some N:=fun h=>by
  cases o with
  | none=>rw[h] at hok;cases hok
  | some d=>rw[← hN];rfl
 have hs2:gd=true→ob=some M:=fun h=>by
  cases ob with
  | none=>rw[h] at hgd;cases hgd
  | some d=>rw[← hM];rfl
 have hz:ok=false→N.states=0:=fun h=>by
  cases o with
  | none=>rw[← hN];rfl
  | some d=>rw[h] at hok;cases hok
 have hNb:0≤N.states∧N.states≤1000:=by
  cases hk:ok with
  | false=>rw[hz hk];omega
  | true =>obtain⟨h1,-⟩:=ZgA (hs hk ▸ ho);obtain⟨m,h1,h2,-⟩:=Zao h1;rw[h1];omega
 obtain⟨K,hK⟩:∃ K,K=40:=⟨40,rfl⟩;obtain⟨o1,ho1⟩:=eJ (detK K N);obtain⟨o2,ho2⟩:∃ o1,detK K M=o1:=⟨_,rfl⟩;obtain⟨D,hD⟩:=eJ (o1.getD ZiX);obtain⟨fb,hfb⟩:=eJ (o1.isSome);obtain⟨E,hE⟩:∃ D,o2.getD ZiX=D:=⟨_,rfl⟩;obtain⟨ge,hge⟩:∃ fb,o2.isSome=fb:=⟨_,rfl⟩;obtain⟨C,hC⟩:=eJ (minQ D);have hdt:=fun (v:Value) (u:World) h=>Zeu K hK N D fb (by rw[ho1];exact hD) (by rw[ho1];exact hfb) v u h
 have hdt2:=fun (v:Value) (u:World) h=>Zeu K hK M E ge (by rw[ho2];exact hE) (by rw[ho2];exact hge) v u h
 have hall:=fun (h1:ok=true) (h2:gd=true) (h3:fb=true) (h4:ge=true)=>(show minQ E=C from by
  obtain⟨x,q1⟩:=Option.isSome_iff_exists.1 (hfb.trans h3);obtain⟨y,q2⟩:=Option.isSome_iff_exists.1 (hge.trans h4);have e1:x=D:=by rw[← hD,q1];rfl
  have e2:y=E:=by rw[← hE,q2];rfl
  subst e1 e2;rw[← hC];exact(ZmM hK (hs h1 ▸ ho) (hs2 h2 ▸ hob) ho1 ho2 q1 q2).symm)
 have Him:=qh him;have Hsp:=qh hsp;have Hbd:=qh hbd;have Hdt:=qh hdt;have Hdt2:=qh hdt2;have HALL:=qh hall;have HmD:=qh hC;replace hn:=qh hn;clear him hsp hbd hN hM hok hgd ho hob hs hs2 hz hdt hdt2 hall hD hE hfb hge hC ho1 ho2 hK;go_wp2_with fail;refine(Him.out _ _ HP.out).mono ?_;rintro e w2 ⟨a1,a2,a3,a4,a5,a6,rfl,hS⟩;have hb2:=(Below.refl w2.heap.size w2).alloc (Nat.le_refl _) (.cells #[.int .i64 N.states,.slice a1 N.moves.length a2,.slice a3 N.firsts.length a4,.slice a5 N.ends.length a6] 28);have HS2:=qh (((St.start w1).call hS.bel).alloc _ rfl #[.int .i64 N.states,.slice a1 N.moves.length a2,.slice a3 N.firsts.length a4,.slice a5 N.ends.length a6] 28);have hRa:NfaR 0 w2 (.agg #[.int .i64 N.states,.slice a1 N.moves.length a2,.slice a3 N.firsts.length a4,.slice a5 N.ends.length a6]) N:=Za1 (Zau (hS.row 0 rfl)) (Zah (hS.row 1 rfl)) (Zah (hS.row 2 rfl)) (by omega) (by omega);have HX2:=qh (hRa.below hb2);have HP2:=qh (HP.out.below HS2.out.bel);clear hS hb2 hRa;go_wp2_with fail;refine(Hsp.out _ _ HP2.out).mono ?_;rintro e w3 ⟨b1,b2,b3,b4,b5,b6,rfl,hS⟩;have hb3:=(Below.refl w3.heap.size w3).alloc (Nat.le_refl _) (.cells #[.int .i64 N.states,.slice b1 N.moves.length b2,.slice b3 N.firsts.length b4,.slice b5 N.ends.length b6] 28);have HS3:=qh ((HS2.out.call hS.bel).alloc _ rfl #[.int .i64 N.states,.slice b1 N.moves.length b2,.slice b3 N.firsts.length b4,.slice b5 N.ends.length b6] 28);have HX3:=qh ((HX2.out.below hS.bel).below hb3)
 have hRb:NfaR 0 w3 (.agg #[.int .i64 N.states,.slice b1 N.moves.length b2,.slice b3 N.firsts.length b4,.slice b5 N.ends.length b6]) N:=Za1 (Zau (hS.row 0 rfl)) (Zah (hS.row 1 rfl)) (Zah (hS.row 2 rfl)) (by omega) (by omega);have HY3:=qh (hRb.below hb3);have HP3:=qh ((HP2.out.below hS.bel).below hb3);clear hS hb3 hRb HS2 HX2 HP2;have e0:=HS3.out.cell (v:=.int .i64 N.states) 0 0 rfl rfl;have e1:=HS3.out.cell (v:=.slice a1 N.moves.length a2) 0 1 rfl rfl;have e2:=HS3.out.cell (v:=.slice a3 N.firsts.length a4) 0 2 rfl rfl;have e3:=HS3.out.cell (v:=.slice a5 N.ends.length a6) 0 3 rfl rfl;have f0:=HS3.out.cell (v:=.int .i64 N.states) 1 0 rfl rfl;have f1:=HS3.out.cell (v:=.slice b1 N.moves.length b2) 1 1 rfl rfl;have f2:=HS3.out.cell (v:=.slice b3 N.firsts.length b4) 1 2 rfl rfl;have f3:=HS3.out.cell (v:=.slice b5 N.ends.length b6) 1 3 rfl rfl;go_wp2_with fail;refine(Ze6 N _ _ _ HX3.out HY3.out).mono ?_;rintro e w4 ⟨rfl,hb⟩;have HS4:=qh (HS3.out.call hb);have HX4:=qh (HX3.out.below hb);have HP4:=qh (HP3.out.below hb);have hff:(ok != ok)=false:=by simp
 clear hb HS3 HX3 HY3 HP3 e0 e1 e2 e3 f0 f1 f2 f3 Him Hsp;go_wp2_with fail;refine(Hbd.out _ _ HP4.out).mono ?_;rintro e w5 ⟨m1,m2,m3,m4,m5,m6,rfl,hr,hb⟩;have hb5:=(Below.refl w5.heap.size w5).alloc (Nat.le_refl _) (.cells #[.int .i64 M.states,.slice m1 M.moves.length m2,.slice m3 M.firsts.length m4,.slice m5 M.ends.length m6] 28);have HS5:=qh ((HS4.out.call hb).alloc _ rfl #[.int .i64 M.states,.slice m1 M.moves.length m2,.slice m3 M.firsts.length m4,.slice m5 M.ends.length m6] 28);have HX5:=qh ((HX4.out.below hb).below hb5);have HM5:=qh (hr.below hb5);clear hb hr hb5 HS4 HX4 HP4 hff;have e0:=HS5.out.cell (v:=.int .i64 N.states) 0 0 rfl rfl;have e1:=HS5.out.cell (v:=.slice a1 N.moves.length a2) 0 1 rfl rfl;have e2:=HS5.out.cell (v:=.slice a3 N.firsts.length a4) 0 2 rfl rfl;have e3:=HS5.out.cell (v:=.slice a5 N.ends.length a6) 0 3 rfl rfl;go_wp2_with fail;refine(Hdt.out _ _ HX5.out).mono ?_;rintro e w6 ⟨⟨r1d,s1d,r2d,s2d,rfl,hx⟩,hb⟩;have hb6:=(Below.refl w6.heap.size w6).alloc (Nat.le_refl _) (.cells #[.slice r1d D.next.length s1d,.slice r2d D.ends.length s2d] 45);have HS6:=qh ((HS5.out.call hb).alloc _ rfl #[.slice r1d D.next.length s1d,.slice r2d D.ends.length s2d] 45);have HM6:=qh ((HM5.out.below hb).below hb6);have HD6:=qh (((hx.r).mono (Nat.zero_le _)).below hb6);clear hx hb hb6 HS5 HX5 HM5 e0 e1 e2 e3;have e0:=HS6.out.cell (v:=.int .i64 M.states) 2 0 rfl rfl;have e1:=HS6.out.cell (v:=.slice m1 M.moves.length m2) 2 1 rfl rfl
 have e2:=HS6.out.cell (v:=.slice m3 M.firsts.length m4) 2 2 rfl rfl;have e3:=HS6.out.cell (v:=.slice m5 M.ends.length m6) 2 3 rfl rfl;go_wp2_with fail;refine(Hdt2.out _ _ HM6.out).mono ?_;rintro e w7 ⟨⟨r1e,s1e,r2e,s2e,rfl,hx⟩,hb⟩;have hb7:=(Below.refl w7.heap.size w7).alloc (Nat.le_refl _) (.cells #[.slice r1e E.next.length s1e,.slice r2e E.ends.length s2e] 45);have hS7:St w1 (w7.alloc (.cells #[.slice r1e E.next.length s1e,.slice r2e E.ends.length s2e] 45)) [Ent.box w6.heap.size #[.slice r1d D.next.length s1d,.slice r2d D.ends.length s2d] 45,Ent.box w7.heap.size #[.slice r1e E.next.length s1e,.slice r2e E.ends.length s2e] 45]:=((HS6.out.call hb).alloc _ rfl #[.slice r1e E.next.length s1e,.slice r2e E.ends.length s2e] 45).pick [3,4] (by decide);have HS7:=qh hS7;have HXD:=qh ((HD6.out.below hb).below hb7);have HXE:=qh (((hx.r).mono (Nat.zero_le _)).below hb7);have HSL:=qh (((St.start w).call HW1.out).call HS7.out.bel);clear hx hb hb7 hS7 HS6 HM6 HD6 e0 e1 e2 e3 Hdt Hdt2 Hbd;have D0:=qh (HS7.out.cell (v:=.slice r1d D.next.length s1d) 0 0 rfl rfl);have D1:=qh (HS7.out.cell (v:=.slice r2d D.ends.length s2d) 0 1 rfl rfl);have HltD:=qh (HS7.out.boxlt 0 rfl).2;have E0:=qh (HS7.out.cell (v:=.slice r1e E.next.length s1e) 1 0 rfl rfl);have E1:=qh (HS7.out.cell (v:=.slice r2e E.ends.length s2e) 1 1 rfl rfl);have HltE:=qh (HS7.out.boxlt 1 rfl).2;clear HS7;cases ok
 ·go_wp2;refine wp_region_any (by kernel_rfl) ?_
  refine Zaf (fun A listed a w'=>∃ (l0 l1 l2 l3 l4 l5 l6 l7 l8 l9 l10 l11 l12 l13 l14 l15 l16 l17 l18 l19 l20 l21 l22 l23 l24:Bool) ,listed=#[l0,l1,l2,l3,l4,l5,l6,l7,l8,l9,l10,l11,l12,l13,l14,l15,l16,l17,l18,l19,l20,l21,l22,l23,l24] ∧
    a=⟨((((((((((((((A.tmps.setIfInBounds 53 (if l0=true then .bool false else A.tmps.getD 53 undef)).setIfInBounds 54 (if l1=true then .bool true else A.tmps.getD 54 undef)).setIfInBounds 55 (if l2=true then .bool true else A.tmps.getD 55 undef)).setIfInBounds 58 (if l5=true then .bool true else A.tmps.getD 58 undef)).setIfInBounds 59 (if l6=true then .bool true else A.tmps.getD 59 undef)).setIfInBounds 62 (if l9=true then .bool true else A.tmps.getD 62 undef)).setIfInBounds 63 (if l10=true then .bool true else A.tmps.getD 63 undef)).setIfInBounds 66 (if l13=true then .bool true else A.tmps.getD 66 undef)).setIfInBounds 67 (if l14=true then .bool true else A.tmps.getD 67 undef)).setIfInBounds 73 (if l20=true then .bool true else A.tmps.getD 73 undef)).setIfInBounds 74 (if l21=true then .bool true else A.tmps.getD 74 undef)).setIfInBounds 75 (if l22=true then .bool true else A.tmps.getD 75 undef)).setIfInBounds 76 (if l23=true then .bool true else A.tmps.getD 76 undef)).setIfInBounds 2 (.bool l24)),A.defers⟩ ∧
    St (w7.alloc (.cells #[.slice r1e E.next.length s1e,.slice r2e E.ends.length s2e] 45)) w' []) ?_ ?_ ?_
  ·rintro listed a w' ⟨l0,l1,l2,l3,l4,l5,l6,l7,l8,l9,l10,l11,l12,l13,l14,l15,l16,l17,l18,l19,l20,l21,l22,l23,l24,rfl,rfl,hS⟩ i hi;obtain⟨hun,o,ho,hall⟩:=mem_ready.1 hi;have hlt:=(Array.getElem?_eq_some_iff.1 ho).1;refine wpOp_step ho (fun K hK => ?_);clear hi;have HS:=qh hS;clear hS;simp only[List.setIfInBounds_toArray,List.set_cons_zero,List.set_cons_succ,Array.getD_eq_getD_getElem?,List.getElem?_toArray,List.getElem?_cons_zero,List.getElem?_cons_succ,Option.getD_some];obtain h|h|h|h|h|h|h|h|h|h|h|h|h|h|h|h|h|h|h|h|h|h|h|h|h:i=0∨i=1∨i=2∨i=3∨i=4∨i=5∨i=6∨i=7∨i=8∨i=9∨i=10∨i=11∨i=12∨i=13∨i=14∨i=15∨i=16∨i=17∨i=18∨i=19∨i=20∨i=21∨i=22∨i=23∨i=24:=by simp at hlt;omega
   all_goals subst h
   all_goals simp only[List.getElem?_toArray,List.getElem?_cons_zero,List.getElem?_cons_succ,Option.some.injEq] at ho
   all_goals subst ho
   all_goals simp[Region.binds] at hun hall
   ·subst hun;go_simp;exact hK _ _ ⟨true,l1,l2,l3,l4,l5,l6,l7,l8,l9,l10,l11,l12,l13,l14,l15,l16,l17,l18,l19,l20,l21,l22,l23,l24,rfl,(by simp),HS.out⟩
   ·obtain rfl:=hall;subst hun;go_simp;exact hK _ _ ⟨true,true,l2,l3,l4,l5,l6,l7,l8,l9,l10,l11,l12,l13,l14,l15,l16,l17,l18,l19,l20,l21,l22,l23,l24,rfl,(by simp),HS.out⟩
   ·obtain rfl:=hall;subst hun;go_simp;exact hK _ _ ⟨l0,true,true,l3,l4,l5,l6,l7,l8,l9,l10,l11,l12,l13,l14,l15,l16,l17,l18,l19,l20,l21,l22,l23,l24,rfl,(by simp),HS.out⟩
   ·obtain rfl:=hall;subst hun;go_simp;exact hK _ _ ⟨l0,l1,true,true,l4,l5,l6,l7,l8,l9,l10,l11,l12,l13,l14,l15,l16,l17,l18,l19,l20,l21,l22,l23,l24,rfl,(by simp),HS.out⟩
   ·obtain⟨rfl,rfl⟩:=hall;subst hun;go_simp;exact hK _ _ ⟨l0,l1,true,true,true,l5,l6,l7,l8,l9,l10,l11,l12,l13,l14,l15,l16,l17,l18,l19,l20,l21,l22,l23,l24,rfl,(by simp),HS.out⟩
   ·obtain⟨rfl,rfl⟩:=hall;subst hun;go_simp;exact hK _ _ ⟨l0,l1,true,l3,true,true,l6,l7,l8,l9,l10,l11,l12,l13,l14,l15,l16,l17,l18,l19,l20,l21,l22,l23,l24,rfl,(by simp),HS.out⟩
   ·obtain⟨rfl,rfl⟩:=hall;subst hun;go_simp;exact hK _ _ ⟨l0,l1,true,l3,l4,true,true,l7,l8,l9,l10,l11,l12,l13,l14,l15,l16,l17,l18,l19,l20,l21,l22,l23,l24,rfl,(by simp),HS.out⟩
   ·obtain rfl:=hall;subst hun;go_simp;exact hK _ _ ⟨l0,l1,l2,l3,l4,l5,true,true,l8,l9,l10,l11,l12,l13,l14,l15,l16,l17,l18,l19,l20,l21,l22,l23,l24,rfl,(by simp),HS.out⟩
   ·obtain⟨rfl,rfl⟩:=hall;subst hun;go_simp;exact hK _ _ ⟨l0,l1,l2,l3,l4,l5,true,true,true,l9,l10,l11,l12,l13,l14,l15,l16,l17,l18,l19,l20,l21,l22,l23,l24,rfl,(by simp),HS.out⟩
   ·obtain⟨rfl,rfl⟩:=hall;subst hun;go_simp;exact hK _ _ ⟨l0,l1,l2,l3,l4,l5,true,l7,true,true,l10,l11,l12,l13,l14,l15,l16,l17,l18,l19,l20,l21,l22,l23,l24,rfl,(by simp),HS.out⟩
   ·obtain⟨rfl,rfl⟩:=hall;subst hun;go_simp;exact hK _ _ ⟨l0,l1,l2,l3,l4,l5,true,l7,l8,true,true,l11,l12,l13,l14,l15,l16,l17,l18,l19,l20,l21,l22,l23,l24,rfl,(by simp),HS.out⟩
   ·obtain rfl:=hall;subst hun;go_simp;exact hK _ _ ⟨l0,l1,l2,l3,l4,l5,l6,l7,l8,l9,true,true,l12,l13,l14,l15,l16,l17,l18,l19,l20,l21,l22,l23,l24,rfl,(by simp),HS.out⟩
   ·obtain⟨rfl,rfl⟩:=hall;subst hun;go_simp;exact hK _ _ ⟨l0,l1,l2,l3,l4,l5,l6,l7,l8,l9,true,true,true,l13,l14,l15,l16,l17,l18,l19,l20,l21,l22,l23,l24,rfl,(by simp),HS.out⟩
   ·obtain⟨rfl,rfl⟩:=hall;subst hun;go_simp;exact hK _ _ ⟨l0,l1,l2,l3,l4,l5,l6,l7,l8,l9,true,l11,true,true,l14,l15,l16,l17,l18,l19,l20,l21,l22,l23,l24,rfl,(by simp),HS.out⟩
   ·obtain⟨rfl,rfl⟩:=hall;subst hun;go_simp;exact hK _ _ ⟨l0,l1,l2,l3,l4,l5,l6,l7,l8,l9,true,l11,l12,true,true,l15,l16,l17,l18,l19,l20,l21,l22,l23,l24,rfl,(by simp),HS.out⟩
   ·obtain rfl:=hall;subst hun;go_simp;exact hK _ _ ⟨l0,l1,l2,l3,l4,l5,l6,l7,l8,l9,l10,l11,l12,l13,true,true,l16,l17,l18,l19,l20,l21,l22,l23,l24,rfl,(by simp),HS.out⟩
   ·obtain⟨rfl,rfl⟩:=hall;subst hun;go_simp;exact hK _ _ ⟨l0,l1,l2,l3,l4,l5,l6,l7,l8,l9,l10,l11,l12,l13,true,true,true,l17,l18,l19,l20,l21,l22,l23,l24,rfl,(by simp),HS.out⟩
   ·obtain rfl:=hall;subst hun;go_simp;exact hK _ _ ⟨l0,l1,l2,l3,l4,l5,l6,l7,l8,l9,l10,l11,l12,l13,true,l15,l16,true,l18,l19,l20,l21,l22,l23,l24,rfl,(by simp),HS.out⟩
   ·obtain⟨rfl,rfl,rfl⟩:=hall;subst hun;go_simp;exact hK _ _ ⟨l0,l1,l2,l3,l4,l5,l6,l7,l8,l9,l10,l11,l12,l13,true,l15,true,true,true,l19,l20,l21,l22,l23,l24,rfl,(by simp),HS.out⟩
   ·obtain⟨rfl,rfl,rfl⟩:=hall;subst hun;go_simp;exact hK _ _ ⟨l0,l1,l2,l3,l4,l5,l6,l7,l8,l9,l10,l11,l12,l13,true,l15,true,l17,true,true,l20,l21,l22,l23,l24,rfl,(by simp),HS.out⟩
   ·obtain⟨rfl,rfl⟩:=hall;subst hun;go_simp;exact hK _ _ ⟨l0,l1,l2,l3,l4,l5,l6,l7,l8,l9,l10,l11,l12,l13,true,l15,l16,l17,l18,true,true,l21,l22,l23,l24,rfl,(by simp),HS.out⟩
   ·obtain⟨rfl,rfl⟩:=hall;subst hun;go_simp;exact hK _ _ ⟨l0,l1,l2,l3,l4,l5,l6,l7,l8,l9,l10,l11,l12,l13,l14,l15,l16,l17,l18,true,true,true,l22,l23,l24,rfl,(by simp),HS.out⟩
   ·obtain rfl:=hall;subst hun;go_simp
    go_at_call 10
    refine(Zcq _).mono ?_;rintro e u1 ⟨rfl,rfl⟩;go_simp;exact hK _ _ ⟨l0,l1,l2,l3,l4,l5,l6,l7,l8,l9,l10,l11,l12,l13,l14,l15,l16,l17,l18,l19,l20,true,true,l23,l24,rfl,(by simp),HS.out⟩
   ·obtain⟨rfl,rfl⟩:=hall;subst hun;go_simp;exact hK _ _ ⟨l0,l1,l2,l3,l4,l5,l6,l7,l8,l9,l10,l11,l12,l13,l14,l15,l16,l17,l18,l19,l20,true,true,true,l24,rfl,(by simp),HS.out⟩
   obtain⟨rfl,rfl,rfl,rfl,rfl,rfl,rfl,rfl,rfl,rfl,rfl,rfl,rfl,rfl,rfl,rfl,rfl,rfl,rfl,rfl,rfl,rfl,rfl,rfl,-⟩:=hall;subst hun;go_simp;exact hK _ _ ⟨true,true,true,true,true,true,true,true,true,true,true,true,true,true,true,true,true,true,true,true,true,true,true,true,true,rfl,(by simp),HS.out⟩
  ·rintro listed a w' ⟨l0,l1,l2,l3,l4,l5,l6,l7,l8,l9,l10,l11,l12,l13,l14,l15,l16,l17,l18,l19,l20,l21,l22,l23,l24,rfl,rfl,hS⟩ hr;have hall:=Zag (by kernel_rfl) rfl hr;obtain rfl:l0=true:=by simpa using hall 0 (by simp)
   obtain rfl:l1=true:=by simpa using hall 1 (by simp)
   obtain rfl:l2=true:=by simpa using hall 2 (by simp)
   obtain rfl:l3=true:=by simpa using hall 3 (by simp)
   obtain rfl:l4=true:=by simpa using hall 4 (by simp)
   obtain rfl:l5=true:=by simpa using hall 5 (by simp)
   obtain rfl:l6=true:=by simpa using hall 6 (by simp)
   obtain rfl:l7=true:=by simpa using hall 7 (by simp)
   obtain rfl:l8=true:=by simpa using hall 8 (by simp)
   obtain rfl:l9=true:=by simpa using hall 9 (by simp)
   obtain rfl:l10=true:=by simpa using hall 10 (by simp)
   obtain rfl:l11=true:=by simpa using hall 11 (by simp)
   obtain rfl:l12=true:=by simpa using hall 12 (by simp)
   obtain rfl:l13=true:=by simpa using hall 13 (by simp)
   obtain rfl:l14=true:=by simpa using hall 14 (by simp)
   obtain rfl:l15=true:=by simpa using hall 15 (by simp)
   obtain rfl:l16=true:=by simpa using hall 16 (by simp)
   obtain rfl:l17=true:=by simpa using hall 17 (by simp)
   obtain rfl:l18=true:=by simpa using hall 18 (by simp)
   obtain rfl:l19=true:=by simpa using hall 19 (by simp)
   obtain rfl:l20=true:=by simpa using hall 20 (by simp)
   obtain rfl:l21=true:=by simpa using hall 21 (by simp)
   obtain rfl:l22=true:=by simpa using hall 22 (by simp)
   obtain rfl:l23=true:=by simpa using hall 23 (by simp)
   obtain rfl:l24=true:=by simpa using hall 24 (by simp)
   clear hall hr ;simp only[↓reduceIte] at hS ⊢;simp only[List.setIfInBounds_toArray,List.set_cons_zero,List.set_cons_succ];have HSf:=qh hS;clear hS;go_wp2;go_ret;exact⟨rfl,HSL.out.bel.trans (HSf.out.bel.mono HSL.out.bel.size)⟩
  refine⟨false,false,false,false,false,false,false,false,false,false,false,false,false,false,false,false,false,false,false,false,false,false,false,false,false,rfl,(by simp),?_⟩;exact(St.start (w7.alloc (.cells #[.slice r1e E.next.length s1e,.slice r2e E.ends.length s2e] 45))).drew.pick [] (by decide)
 cases gd
 ·go_wp2;refine wp_region_any (by kernel_rfl) ?_
  refine Zaf (fun A listed a w'=>∃ (l0 l1 l2 l3 l4 l5 l6 l7 l8 l9 l10 l11 l12 l13 l14 l15 l16 l17 l18 l19 l20 l21 l22 l23 l24:Bool) ,listed=#[l0,l1,l2,l3,l4,l5,l6,l7,l8,l9,l10,l11,l12,l13,l14,l15,l16,l17,l18,l19,l20,l21,l22,l23,l24] ∧
    a=⟨((((((((((((((((A.tmps.setIfInBounds 53 (if l0=true then .bool true else A.tmps.getD 53 undef)).setIfInBounds 54 (if l1=true then .bool false else A.tmps.getD 54 undef)).setIfInBounds 55 (if l2=true then .bool false else A.tmps.getD 55 undef)).setIfInBounds 56 (if l3=true then .bool false else A.tmps.getD 56 undef)).setIfInBounds 57 (if l4=true then .bool true else A.tmps.getD 57 undef)).setIfInBounds 58 (if l5=true then .bool true else A.tmps.getD 58 undef)).setIfInBounds 59 (if l6=true then .bool true else A.tmps.getD 59 undef)).setIfInBounds 62 (if l9=true then .bool true else A.tmps.getD 62 undef)).setIfInBounds 63 (if l10=true then .bool true else A.tmps.getD 63 undef)).setIfInBounds 66 (if l13=true then .bool true else A.tmps.getD 66 undef)).setIfInBounds 67 (if l14=true then .bool true else A.tmps.getD 67 undef)).setIfInBounds 73 (if l20=true then .bool true else A.tmps.getD 73 undef)).setIfInBounds 74 (if l21=true then .bool true else A.tmps.getD 74 undef)).setIfInBounds 75 (if l22=true then .bool true else A.tmps.getD 75 undef)).setIfInBounds 76 (if l23=true then .bool true else A.tmps.getD 76 undef)).setIfInBounds 2 (.bool l24)),A.defers⟩ ∧
    St (w7.alloc (.cells #[.slice r1e E.next.length s1e,.slice r2e E.ends.length s2e] 45)) w' []) ?_ ?_ ?_
  ·rintro listed a w' ⟨l0,l1,l2,l3,l4,l5,l6,l7,l8,l9,l10,l11,l12,l13,l14,l15,l16,l17,l18,l19,l20,l21,l22,l23,l24,rfl,rfl,hS⟩ i hi;obtain⟨hun,o,ho,hall⟩:=mem_ready.1 hi;have hlt:=(Array.getElem?_eq_some_iff.1 ho).1;refine wpOp_step ho (fun K hK => ?_);clear hi;have HS:=qh hS;clear hS;simp only[List.setIfInBounds_toArray,List.set_cons_zero,List.set_cons_succ,Array.getD_eq_getD_getElem?,List.getElem?_toArray,List.getElem?_cons_zero,List.getElem?_cons_succ,Option.getD_some];obtain h|h|h|h|h|h|h|h|h|h|h|h|h|h|h|h|h|h|h|h|h|h|h|h|h:i=0∨i=1∨i=2∨i=3∨i=4∨i=5∨i=6∨i=7∨i=8∨i=9∨i=10∨i=11∨i=12∨i=13∨i=14∨i=15∨i=16∨i=17∨i=18∨i=19∨i=20∨i=21∨i=22∨i=23∨i=24:=by simp at hlt;omega
   all_goals subst h
   all_goals simp only[List.getElem?_toArray,List.getElem?_cons_zero,List.getElem?_cons_succ,Option.some.injEq] at ho
   all_goals subst ho
   all_goals simp[Region.binds] at hun hall
   ·subst hun;go_simp;exact hK _ _ ⟨true,l1,l2,l3,l4,l5,l6,l7,l8,l9,l10,l11,l12,l13,l14,l15,l16,l17,l18,l19,l20,l21,l22,l23,l24,rfl,(by simp),HS.out⟩
   ·obtain rfl:=hall;subst hun;go_simp;exact hK _ _ ⟨true,true,l2,l3,l4,l5,l6,l7,l8,l9,l10,l11,l12,l13,l14,l15,l16,l17,l18,l19,l20,l21,l22,l23,l24,rfl,(by simp),HS.out⟩
   ·obtain rfl:=hall;subst hun;go_simp;exact hK _ _ ⟨l0,true,true,l3,l4,l5,l6,l7,l8,l9,l10,l11,l12,l13,l14,l15,l16,l17,l18,l19,l20,l21,l22,l23,l24,rfl,(by simp),HS.out⟩
   ·obtain rfl:=hall;subst hun;go_simp;exact hK _ _ ⟨l0,l1,true,true,l4,l5,l6,l7,l8,l9,l10,l11,l12,l13,l14,l15,l16,l17,l18,l19,l20,l21,l22,l23,l24,rfl,(by simp),HS.out⟩
   ·obtain⟨rfl,rfl⟩:=hall;subst hun;go_simp;exact hK _ _ ⟨l0,l1,true,true,true,l5,l6,l7,l8,l9,l10,l11,l12,l13,l14,l15,l16,l17,l18,l19,l20,l21,l22,l23,l24,rfl,(by simp),HS.out⟩
   ·obtain⟨rfl,rfl⟩:=hall;subst hun;go_simp;exact hK _ _ ⟨l0,l1,true,l3,true,true,l6,l7,l8,l9,l10,l11,l12,l13,l14,l15,l16,l17,l18,l19,l20,l21,l22,l23,l24,rfl,(by simp),HS.out⟩
   ·obtain⟨rfl,rfl⟩:=hall;subst hun;go_simp;exact hK _ _ ⟨l0,l1,true,l3,l4,true,true,l7,l8,l9,l10,l11,l12,l13,l14,l15,l16,l17,l18,l19,l20,l21,l22,l23,l24,rfl,(by simp),HS.out⟩
   ·obtain rfl:=hall;subst hun;go_simp;exact hK _ _ ⟨l0,l1,l2,l3,l4,l5,true,true,l8,l9,l10,l11,l12,l13,l14,l15,l16,l17,l18,l19,l20,l21,l22,l23,l24,rfl,(by simp),HS.out⟩
   ·obtain⟨rfl,rfl⟩:=hall;subst hun;go_simp;exact hK _ _ ⟨l0,l1,l2,l3,l4,l5,true,true,true,l9,l10,l11,l12,l13,l14,l15,l16,l17,l18,l19,l20,l21,l22,l23,l24,rfl,(by simp),HS.out⟩
   ·obtain⟨rfl,rfl⟩:=hall;subst hun;go_simp;exact hK _ _ ⟨l0,l1,l2,l3,l4,l5,true,l7,true,true,l10,l11,l12,l13,l14,l15,l16,l17,l18,l19,l20,l21,l22,l23,l24,rfl,(by simp),HS.out⟩
   ·obtain⟨rfl,rfl⟩:=hall;subst hun;go_simp;exact hK _ _ ⟨l0,l1,l2,l3,l4,l5,true,l7,l8,true,true,l11,l12,l13,l14,l15,l16,l17,l18,l19,l20,l21,l22,l23,l24,rfl,(by simp),HS.out⟩
   ·obtain rfl:=hall;subst hun;go_simp;exact hK _ _ ⟨l0,l1,l2,l3,l4,l5,l6,l7,l8,l9,true,true,l12,l13,l14,l15,l16,l17,l18,l19,l20,l21,l22,l23,l24,rfl,(by simp),HS.out⟩
   ·obtain⟨rfl,rfl⟩:=hall;subst hun;go_simp;exact hK _ _ ⟨l0,l1,l2,l3,l4,l5,l6,l7,l8,l9,true,true,true,l13,l14,l15,l16,l17,l18,l19,l20,l21,l22,l23,l24,rfl,(by simp),HS.out⟩
   ·obtain⟨rfl,rfl⟩:=hall;subst hun;go_simp;exact hK _ _ ⟨l0,l1,l2,l3,l4,l5,l6,l7,l8,l9,true,l11,true,true,l14,l15,l16,l17,l18,l19,l20,l21,l22,l23,l24,rfl,(by simp),HS.out⟩
   ·obtain⟨rfl,rfl⟩:=hall;subst hun;go_simp;exact hK _ _ ⟨l0,l1,l2,l3,l4,l5,l6,l7,l8,l9,true,l11,l12,true,true,l15,l16,l17,l18,l19,l20,l21,l22,l23,l24,rfl,(by simp),HS.out⟩
   ·obtain rfl:=hall;subst hun;go_simp;exact hK _ _ ⟨l0,l1,l2,l3,l4,l5,l6,l7,l8,l9,l10,l11,l12,l13,true,true,l16,l17,l18,l19,l20,l21,l22,l23,l24,rfl,(by simp),HS.out⟩
   ·obtain⟨rfl,rfl⟩:=hall;subst hun;go_simp;exact hK _ _ ⟨l0,l1,l2,l3,l4,l5,l6,l7,l8,l9,l10,l11,l12,l13,true,true,true,l17,l18,l19,l20,l21,l22,l23,l24,rfl,(by simp),HS.out⟩
   ·obtain rfl:=hall;subst hun;go_simp;exact hK _ _ ⟨l0,l1,l2,l3,l4,l5,l6,l7,l8,l9,l10,l11,l12,l13,true,l15,l16,true,l18,l19,l20,l21,l22,l23,l24,rfl,(by simp),HS.out⟩
   ·obtain⟨rfl,rfl,rfl⟩:=hall;subst hun;go_simp;exact hK _ _ ⟨l0,l1,l2,l3,l4,l5,l6,l7,l8,l9,l10,l11,l12,l13,true,l15,true,true,true,l19,l20,l21,l22,l23,l24,rfl,(by simp),HS.out⟩
   ·obtain⟨rfl,rfl,rfl⟩:=hall;subst hun;go_simp;exact hK _ _ ⟨l0,l1,l2,l3,l4,l5,l6,l7,l8,l9,l10,l11,l12,l13,true,l15,true,l17,true,true,l20,l21,l22,l23,l24,rfl,(by simp),HS.out⟩
   ·obtain⟨rfl,rfl⟩:=hall;subst hun;go_simp;exact hK _ _ ⟨l0,l1,l2,l3,l4,l5,l6,l7,l8,l9,l10,l11,l12,l13,true,l15,l16,l17,l18,true,true,l21,l22,l23,l24,rfl,(by simp),HS.out⟩
   ·obtain⟨rfl,rfl⟩:=hall;subst hun;go_simp;exact hK _ _ ⟨l0,l1,l2,l3,l4,l5,l6,l7,l8,l9,l10,l11,l12,l13,l14,l15,l16,l17,l18,true,true,true,l22,l23,l24,rfl,(by simp),HS.out⟩
   ·obtain rfl:=hall;subst hun;go_simp
    go_at_call 10
    refine(Zcq _).mono ?_;rintro e u1 ⟨rfl,rfl⟩;go_simp;exact hK _ _ ⟨l0,l1,l2,l3,l4,l5,l6,l7,l8,l9,l10,l11,l12,l13,l14,l15,l16,l17,l18,l19,l20,true,true,l23,l24,rfl,(by simp),HS.out⟩
   ·obtain⟨rfl,rfl⟩:=hall;subst hun;go_simp;exact hK _ _ ⟨l0,l1,l2,l3,l4,l5,l6,l7,l8,l9,l10,l11,l12,l13,l14,l15,l16,l17,l18,l19,l20,true,true,true,l24,rfl,(by simp),HS.out⟩
   obtain⟨rfl,rfl,rfl,rfl,rfl,rfl,rfl,rfl,rfl,rfl,rfl,rfl,rfl,rfl,rfl,rfl,rfl,rfl,rfl,rfl,rfl,rfl,rfl,rfl,-⟩:=hall;subst hun;go_simp;exact hK _ _ ⟨true,true,true,true,true,true,true,true,true,true,true,true,true,true,true,true,true,true,true,true,true,true,true,true,true,rfl,(by simp),HS.out⟩
  ·rintro listed a w' ⟨l0,l1,l2,l3,l4,l5,l6,l7,l8,l9,l10,l11,l12,l13,l14,l15,l16,l17,l18,l19,l20,l21,l22,l23,l24,rfl,rfl,hS⟩ hr;have hall:=Zag (by kernel_rfl) rfl hr;obtain rfl:l0=true:=by simpa using hall 0 (by simp)
   obtain rfl:l1=true:=by simpa using hall 1 (by simp)
   obtain rfl:l2=true:=by simpa using hall 2 (by simp)
   obtain rfl:l3=true:=by simpa using hall 3 (by simp)
   obtain rfl:l4=true:=by simpa using hall 4 (by simp)
   obtain rfl:l5=true:=by simpa using hall 5 (by simp)
   obtain rfl:l6=true:=by simpa using hall 6 (by simp)
   obtain rfl:l7=true:=by simpa using hall 7 (by simp)
   obtain rfl:l8=true:=by simpa using hall 8 (by simp)
   obtain rfl:l9=true:=by simpa using hall 9 (by simp)
   obtain rfl:l10=true:=by simpa using hall 10 (by simp)
   obtain rfl:l11=true:=by simpa using hall 11 (by simp)
   obtain rfl:l12=true:=by simpa using hall 12 (by simp)
   obtain rfl:l13=true:=by simpa using hall 13 (by simp)
   obtain rfl:l14=true:=by simpa using hall 14 (by simp)
   obtain rfl:l15=true:=by simpa using hall 15 (by simp)
   obtain rfl:l16=true:=by simpa using hall 16 (by simp)
   obtain rfl:l17=true:=by simpa using hall 17 (by simp)
   obtain rfl:l18=true:=by simpa using hall 18 (by simp)
   obtain rfl:l19=true:=by simpa using hall 19 (by simp)
   obtain rfl:l20=true:=by simpa using hall 20 (by simp)
   obtain rfl:l21=true:=by simpa using hall 21 (by simp)
   obtain rfl:l22=true:=by simpa using hall 22 (by simp)
   obtain rfl:l23=true:=by simpa using hall 23 (by simp)
   obtain rfl:l24=true:=by simpa using hall 24 (by simp)
   clear hall hr ;simp only[↓reduceIte] at hS ⊢;simp only[List.setIfInBounds_toArray,List.set_cons_zero,List.set_cons_succ];have HSf:=qh hS;clear hS;go_wp2;go_ret;exact⟨rfl,HSL.out.bel.trans (HSf.out.bel.mono HSL.out.bel.size)⟩
  refine⟨false,false,false,false,false,false,false,false,false,false,false,false,false,false,false,false,false,false,false,false,false,false,false,false,false,rfl,(by simp),?_⟩;exact(St.start (w7.alloc (.cells #[.slice r1e E.next.length s1e,.slice r2e E.ends.length s2e] 45))).drew.pick [] (by decide)
 cases fb
 ·go_wp2;refine wp_region_any (by kernel_rfl) ?_
  refine Zaf (fun A listed a w'=>∃ (l0 l1 l2 l3 l4 l5 l6 l7 l8 l9 l10 l11 l12 l13 l14 l15 l16 l17 l18 l19 l20 l21 l22 l23 l24:Bool) ,listed=#[l0,l1,l2,l3,l4,l5,l6,l7,l8,l9,l10,l11,l12,l13,l14,l15,l16,l17,l18,l19,l20,l21,l22,l23,l24] ∧
    a=⟨((((((((((((((((((A.tmps.setIfInBounds 53 (if l0=true then .bool true else A.tmps.getD 53 undef)).setIfInBounds 54 (if l1=true then .bool false else A.tmps.getD 54 undef)).setIfInBounds 55 (if l2=true then .bool false else A.tmps.getD 55 undef)).setIfInBounds 56 (if l3=true then .bool true else A.tmps.getD 56 undef)).setIfInBounds 57 (if l4=true then .bool false else A.tmps.getD 57 undef)).setIfInBounds 58 (if l5=true then .bool false else A.tmps.getD 58 undef)).setIfInBounds 59 (if l6=true then .bool false else A.tmps.getD 59 undef)).setIfInBounds 60 (if l7=true then .bool false else A.tmps.getD 60 undef)).setIfInBounds 61 (if l8=true then .bool true else A.tmps.getD 61 undef)).setIfInBounds 62 (if l9=true then .bool true else A.tmps.getD 62 undef)).setIfInBounds 63 (if l10=true then .bool true else A.tmps.getD 63 undef)).setIfInBounds 66 (if l13=true then .bool true else A.tmps.getD 66 undef)).setIfInBounds 67 (if l14=true then .bool true else A.tmps.getD 67 undef)).setIfInBounds 73 (if l20=true then .bool true else A.tmps.getD 73 undef)).setIfInBounds 74 (if l21=true then .bool true else A.tmps.getD 74 undef)).setIfInBounds 75 (if l22=true then .bool true else A.tmps.getD 75 undef)).setIfInBounds 76 (if l23=true then .bool true else A.tmps.getD 76 undef)).setIfInBounds 2 (.bool l24)),A.defers⟩ ∧
    St (w7.alloc (.cells #[.slice r1e E.next.length s1e,.slice r2e E.ends.length s2e] 45)) w' []) ?_ ?_ ?_
  ·rintro listed a w' ⟨l0,l1,l2,l3,l4,l5,l6,l7,l8,l9,l10,l11,l12,l13,l14,l15,l16,l17,l18,l19,l20,l21,l22,l23,l24,rfl,rfl,hS⟩ i hi;obtain⟨hun,o,ho,hall⟩:=mem_ready.1 hi;have hlt:=(Array.getElem?_eq_some_iff.1 ho).1;refine wpOp_step ho (fun K hK => ?_);clear hi;have HS:=qh hS;clear hS;simp only[List.setIfInBounds_toArray,List.set_cons_zero,List.set_cons_succ,Array.getD_eq_getD_getElem?,List.getElem?_toArray,List.getElem?_cons_zero,List.getElem?_cons_succ,Option.getD_some];obtain h|h|h|h|h|h|h|h|h|h|h|h|h|h|h|h|h|h|h|h|h|h|h|h|h:i=0∨i=1∨i=2∨i=3∨i=4∨i=5∨i=6∨i=7∨i=8∨i=9∨i=10∨i=11∨i=12∨i=13∨i=14∨i=15∨i=16∨i=17∨i=18∨i=19∨i=20∨i=21∨i=22∨i=23∨i=24:=by simp at hlt;omega
   all_goals subst h
   all_goals simp only[List.getElem?_toArray,List.getElem?_cons_zero,List.getElem?_cons_succ,Option.some.injEq] at ho
   all_goals subst ho
   all_goals simp[Region.binds] at hun hall
   ·subst hun;go_simp;exact hK _ _ ⟨true,l1,l2,l3,l4,l5,l6,l7,l8,l9,l10,l11,l12,l13,l14,l15,l16,l17,l18,l19,l20,l21,l22,l23,l24,rfl,(by simp),HS.out⟩
   ·obtain rfl:=hall;subst hun;go_simp;exact hK _ _ ⟨true,true,l2,l3,l4,l5,l6,l7,l8,l9,l10,l11,l12,l13,l14,l15,l16,l17,l18,l19,l20,l21,l22,l23,l24,rfl,(by simp),HS.out⟩
   ·obtain rfl:=hall;subst hun;go_simp;exact hK _ _ ⟨l0,true,true,l3,l4,l5,l6,l7,l8,l9,l10,l11,l12,l13,l14,l15,l16,l17,l18,l19,l20,l21,l22,l23,l24,rfl,(by simp),HS.out⟩
   ·obtain rfl:=hall;subst hun;go_simp;exact hK _ _ ⟨l0,l1,true,true,l4,l5,l6,l7,l8,l9,l10,l11,l12,l13,l14,l15,l16,l17,l18,l19,l20,l21,l22,l23,l24,rfl,(by simp),HS.out⟩
   ·obtain⟨rfl,rfl⟩:=hall;subst hun;go_simp;exact hK _ _ ⟨l0,l1,true,true,true,l5,l6,l7,l8,l9,l10,l11,l12,l13,l14,l15,l16,l17,l18,l19,l20,l21,l22,l23,l24,rfl,(by simp),HS.out⟩
   ·obtain⟨rfl,rfl⟩:=hall;subst hun;go_simp;exact hK _ _ ⟨l0,l1,true,l3,true,true,l6,l7,l8,l9,l10,l11,l12,l13,l14,l15,l16,l17,l18,l19,l20,l21,l22,l23,l24,rfl,(by simp),HS.out⟩
   ·obtain⟨rfl,rfl⟩:=hall;subst hun;go_simp;exact hK _ _ ⟨l0,l1,true,l3,l4,true,true,l7,l8,l9,l10,l11,l12,l13,l14,l15,l16,l17,l18,l19,l20,l21,l22,l23,l24,rfl,(by simp),HS.out⟩
   ·obtain rfl:=hall;subst hun;go_simp;exact hK _ _ ⟨l0,l1,l2,l3,l4,l5,true,true,l8,l9,l10,l11,l12,l13,l14,l15,l16,l17,l18,l19,l20,l21,l22,l23,l24,rfl,(by simp),HS.out⟩
   ·obtain⟨rfl,rfl⟩:=hall;subst hun;go_simp;exact hK _ _ ⟨l0,l1,l2,l3,l4,l5,true,true,true,l9,l10,l11,l12,l13,l14,l15,l16,l17,l18,l19,l20,l21,l22,l23,l24,rfl,(by simp),HS.out⟩
   ·obtain⟨rfl,rfl⟩:=hall;subst hun;go_simp;exact hK _ _ ⟨l0,l1,l2,l3,l4,l5,true,l7,true,true,l10,l11,l12,l13,l14,l15,l16,l17,l18,l19,l20,l21,l22,l23,l24,rfl,(by simp),HS.out⟩
   ·obtain⟨rfl,rfl⟩:=hall;subst hun;go_simp;exact hK _ _ ⟨l0,l1,l2,l3,l4,l5,true,l7,l8,true,true,l11,l12,l13,l14,l15,l16,l17,l18,l19,l20,l21,l22,l23,l24,rfl,(by simp),HS.out⟩
   ·obtain rfl:=hall;subst hun;go_simp;exact hK _ _ ⟨l0,l1,l2,l3,l4,l5,l6,l7,l8,l9,true,true,l12,l13,l14,l15,l16,l17,l18,l19,l20,l21,l22,l23,l24,rfl,(by simp),HS.out⟩
   ·obtain⟨rfl,rfl⟩:=hall;subst hun;go_simp;exact hK _ _ ⟨l0,l1,l2,l3,l4,l5,l6,l7,l8,l9,true,true,true,l13,l14,l15,l16,l17,l18,l19,l20,l21,l22,l23,l24,rfl,(by simp),HS.out⟩
   ·obtain⟨rfl,rfl⟩:=hall;subst hun;go_simp;exact hK _ _ ⟨l0,l1,l2,l3,l4,l5,l6,l7,l8,l9,true,l11,true,true,l14,l15,l16,l17,l18,l19,l20,l21,l22,l23,l24,rfl,(by simp),HS.out⟩
   ·obtain⟨rfl,rfl⟩:=hall;subst hun;go_simp;exact hK _ _ ⟨l0,l1,l2,l3,l4,l5,l6,l7,l8,l9,true,l11,l12,true,true,l15,l16,l17,l18,l19,l20,l21,l22,l23,l24,rfl,(by simp),HS.out⟩
   ·obtain rfl:=hall;subst hun;go_simp;exact hK _ _ ⟨l0,l1,l2,l3,l4,l5,l6,l7,l8,l9,l10,l11,l12,l13,true,true,l16,l17,l18,l19,l20,l21,l22,l23,l24,rfl,(by simp),HS.out⟩
   ·obtain⟨rfl,rfl⟩:=hall;subst hun;go_simp;exact hK _ _ ⟨l0,l1,l2,l3,l4,l5,l6,l7,l8,l9,l10,l11,l12,l13,true,true,true,l17,l18,l19,l20,l21,l22,l23,l24,rfl,(by simp),HS.out⟩
   ·obtain rfl:=hall;subst hun;go_simp;exact hK _ _ ⟨l0,l1,l2,l3,l4,l5,l6,l7,l8,l9,l10,l11,l12,l13,true,l15,l16,true,l18,l19,l20,l21,l22,l23,l24,rfl,(by simp),HS.out⟩
   ·obtain⟨rfl,rfl,rfl⟩:=hall;subst hun;go_simp;exact hK _ _ ⟨l0,l1,l2,l3,l4,l5,l6,l7,l8,l9,l10,l11,l12,l13,true,l15,true,true,true,l19,l20,l21,l22,l23,l24,rfl,(by simp),HS.out⟩
   ·obtain⟨rfl,rfl,rfl⟩:=hall;subst hun;go_simp;exact hK _ _ ⟨l0,l1,l2,l3,l4,l5,l6,l7,l8,l9,l10,l11,l12,l13,true,l15,true,l17,true,true,l20,l21,l22,l23,l24,rfl,(by simp),HS.out⟩
   ·obtain⟨rfl,rfl⟩:=hall;subst hun;go_simp;exact hK _ _ ⟨l0,l1,l2,l3,l4,l5,l6,l7,l8,l9,l10,l11,l12,l13,true,l15,l16,l17,l18,true,true,l21,l22,l23,l24,rfl,(by simp),HS.out⟩
   ·obtain⟨rfl,rfl⟩:=hall;subst hun;go_simp;exact hK _ _ ⟨l0,l1,l2,l3,l4,l5,l6,l7,l8,l9,l10,l11,l12,l13,l14,l15,l16,l17,l18,true,true,true,l22,l23,l24,rfl,(by simp),HS.out⟩
   ·obtain rfl:=hall;subst hun;go_simp
    go_at_call 10
    refine(Zcq _).mono ?_;rintro e u1 ⟨rfl,rfl⟩;go_simp;exact hK _ _ ⟨l0,l1,l2,l3,l4,l5,l6,l7,l8,l9,l10,l11,l12,l13,l14,l15,l16,l17,l18,l19,l20,true,true,l23,l24,rfl,(by simp),HS.out⟩
   ·obtain⟨rfl,rfl⟩:=hall;subst hun;go_simp;exact hK _ _ ⟨l0,l1,l2,l3,l4,l5,l6,l7,l8,l9,l10,l11,l12,l13,l14,l15,l16,l17,l18,l19,l20,true,true,true,l24,rfl,(by simp),HS.out⟩
   obtain⟨rfl,rfl,rfl,rfl,rfl,rfl,rfl,rfl,rfl,rfl,rfl,rfl,rfl,rfl,rfl,rfl,rfl,rfl,rfl,rfl,rfl,rfl,rfl,rfl,-⟩:=hall;subst hun;go_simp;exact hK _ _ ⟨true,true,true,true,true,true,true,true,true,true,true,true,true,true,true,true,true,true,true,true,true,true,true,true,true,rfl,(by simp),HS.out⟩
  ·rintro listed a w' ⟨l0,l1,l2,l3,l4,l5,l6,l7,l8,l9,l10,l11,l12,l13,l14,l15,l16,l17,l18,l19,l20,l21,l22,l23,l24,rfl,rfl,hS⟩ hr;have hall:=Zag (by kernel_rfl) rfl hr;obtain rfl:l0=true:=by simpa using hall 0 (by simp)
   obtain rfl:l1=true:=by simpa using hall 1 (by simp)
   obtain rfl:l2=true:=by simpa using hall 2 (by simp)
   obtain rfl:l3=true:=by simpa using hall 3 (by simp)
   obtain rfl:l4=true:=by simpa using hall 4 (by simp)
   obtain rfl:l5=true:=by simpa using hall 5 (by simp)
   obtain rfl:l6=true:=by simpa using hall 6 (by simp)
   obtain rfl:l7=true:=by simpa using hall 7 (by simp)
   obtain rfl:l8=true:=by simpa using hall 8 (by simp)
   obtain rfl:l9=true:=by simpa using hall 9 (by simp)
   obtain rfl:l10=true:=by simpa using hall 10 (by simp)
   obtain rfl:l11=true:=by simpa using hall 11 (by simp)
   obtain rfl:l12=true:=by simpa using hall 12 (by simp)
   obtain rfl:l13=true:=by simpa using hall 13 (by simp)
   obtain rfl:l14=true:=by simpa using hall 14 (by simp)
   obtain rfl:l15=true:=by simpa using hall 15 (by simp)
   obtain rfl:l16=true:=by simpa using hall 16 (by simp)
   obtain rfl:l17=true:=by simpa using hall 17 (by simp)
   obtain rfl:l18=true:=by simpa using hall 18 (by simp)
   obtain rfl:l19=true:=by simpa using hall 19 (by simp)
   obtain rfl:l20=true:=by simpa using hall 20 (by simp)
   obtain rfl:l21=true:=by simpa using hall 21 (by simp)
   obtain rfl:l22=true:=by simpa using hall 22 (by simp)
   obtain rfl:l23=true:=by simpa using hall 23 (by simp)
   obtain rfl:l24=true:=by simpa using hall 24 (by simp)
   clear hall hr ;simp only[↓reduceIte] at hS ⊢;simp only[List.setIfInBounds_toArray,List.set_cons_zero,List.set_cons_succ];have HSf:=qh hS;clear hS;go_wp2;go_ret;exact⟨rfl,HSL.out.bel.trans (HSf.out.bel.mono HSL.out.bel.size)⟩
  refine⟨false,false,false,false,false,false,false,false,false,false,false,false,false,false,false,false,false,false,false,false,false,false,false,false,false,rfl,(by simp),?_⟩;exact(St.start (w7.alloc (.cells #[.slice r1e E.next.length s1e,.slice r2e E.ends.length s2e] 45))).drew.pick [] (by decide)
 cases ge
 ·go_wp2;refine wp_region_any (by kernel_rfl) ?_
  refine Zaf (fun A listed a w'=>∃ (l0 l1 l2 l3 l4 l5 l6 l7 l8 l9 l10 l11 l12 l13 l14 l15 l16 l17 l18 l19 l20 l21 l22 l23 l24:Bool) ,listed=#[l0,l1,l2,l3,l4,l5,l6,l7,l8,l9,l10,l11,l12,l13,l14,l15,l16,l17,l18,l19,l20,l21,l22,l23,l24] ∧
    a=⟨((((((((((((((((((((A.tmps.setIfInBounds 53 (if l0=true then .bool true else A.tmps.getD 53 undef)).setIfInBounds 54 (if l1=true then .bool false else A.tmps.getD 54 undef)).setIfInBounds 55 (if l2=true then .bool false else A.tmps.getD 55 undef)).setIfInBounds 56 (if l3=true then .bool true else A.tmps.getD 56 undef)).setIfInBounds 57 (if l4=true then .bool false else A.tmps.getD 57 undef)).setIfInBounds 58 (if l5=true then .bool false else A.tmps.getD 58 undef)).setIfInBounds 59 (if l6=true then .bool false else A.tmps.getD 59 undef)).setIfInBounds 60 (if l7=true then .bool true else A.tmps.getD 60 undef)).setIfInBounds 61 (if l8=true then .bool false else A.tmps.getD 61 undef)).setIfInBounds 62 (if l9=true then .bool false else A.tmps.getD 62 undef)).setIfInBounds 63 (if l10=true then .bool false else A.tmps.getD 63 undef)).setIfInBounds 64 (if l11=true then .bool false else A.tmps.getD 64 undef)).setIfInBounds 65 (if l12=true then .bool true else A.tmps.getD 65 undef)).setIfInBounds 66 (if l13=true then .bool true else A.tmps.getD 66 undef)).setIfInBounds 67 (if l14=true then .bool true else A.tmps.getD 67 undef)).setIfInBounds 73 (if l20=true then .bool true else A.tmps.getD 73 undef)).setIfInBounds 74 (if l21=true then .bool true else A.tmps.getD 74 undef)).setIfInBounds 75 (if l22=true then .bool true else A.tmps.getD 75 undef)).setIfInBounds 76 (if l23=true then .bool true else A.tmps.getD 76 undef)).setIfInBounds 2 (.bool l24)),A.defers⟩ ∧
    St (w7.alloc (.cells #[.slice r1e E.next.length s1e,.slice r2e E.ends.length s2e] 45)) w' []) ?_ ?_ ?_
  ·rintro listed a w' ⟨l0,l1,l2,l3,l4,l5,l6,l7,l8,l9,l10,l11,l12,l13,l14,l15,l16,l17,l18,l19,l20,l21,l22,l23,l24,rfl,rfl,hS⟩ i hi;obtain⟨hun,o,ho,hall⟩:=mem_ready.1 hi;have hlt:=(Array.getElem?_eq_some_iff.1 ho).1;refine wpOp_step ho (fun K hK => ?_);clear hi;have HS:=qh hS;clear hS;simp only[List.setIfInBounds_toArray,List.set_cons_zero,List.set_cons_succ,Array.getD_eq_getD_getElem?,List.getElem?_toArray,List.getElem?_cons_zero,List.getElem?_cons_succ,Option.getD_some];obtain h|h|h|h|h|h|h|h|h|h|h|h|h|h|h|h|h|h|h|h|h|h|h|h|h:i=0∨i=1∨i=2∨i=3∨i=4∨i=5∨i=6∨i=7∨i=8∨i=9∨i=10∨i=11∨i=12∨i=13∨i=14∨i=15∨i=16∨i=17∨i=18∨i=19∨i=20∨i=21∨i=22∨i=23∨i=24:=by simp at hlt;omega
   all_goals subst h
   all_goals simp only[List.getElem?_toArray,List.getElem?_cons_zero,List.getElem?_cons_succ,Option.some.injEq] at ho
   all_goals subst ho
   all_goals simp[Region.binds] at hun hall
   ·subst hun;go_simp;exact hK _ _ ⟨true,l1,l2,l3,l4,l5,l6,l7,l8,l9,l10,l11,l12,l13,l14,l15,l16,l17,l18,l19,l20,l21,l22,l23,l24,rfl,(by simp),HS.out⟩
   ·obtain rfl:=hall;subst hun;go_simp;exact hK _ _ ⟨true,true,l2,l3,l4,l5,l6,l7,l8,l9,l10,l11,l12,l13,l14,l15,l16,l17,l18,l19,l20,l21,l22,l23,l24,rfl,(by simp),HS.out⟩
   ·obtain rfl:=hall;subst hun;go_simp;exact hK _ _ ⟨l0,true,true,l3,l4,l5,l6,l7,l8,l9,l10,l11,l12,l13,l14,l15,l16,l17,l18,l19,l20,l21,l22,l23,l24,rfl,(by simp),HS.out⟩
   ·obtain rfl:=hall;subst hun;go_simp;exact hK _ _ ⟨l0,l1,true,true,l4,l5,l6,l7,l8,l9,l10,l11,l12,l13,l14,l15,l16,l17,l18,l19,l20,l21,l22,l23,l24,rfl,(by simp),HS.out⟩
   ·obtain⟨rfl,rfl⟩:=hall;subst hun;go_simp;exact hK _ _ ⟨l0,l1,true,true,true,l5,l6,l7,l8,l9,l10,l11,l12,l13,l14,l15,l16,l17,l18,l19,l20,l21,l22,l23,l24,rfl,(by simp),HS.out⟩
   ·obtain⟨rfl,rfl⟩:=hall;subst hun;go_simp;exact hK _ _ ⟨l0,l1,true,l3,true,true,l6,l7,l8,l9,l10,l11,l12,l13,l14,l15,l16,l17,l18,l19,l20,l21,l22,l23,l24,rfl,(by simp),HS.out⟩
   ·obtain⟨rfl,rfl⟩:=hall;subst hun;go_simp;exact hK _ _ ⟨l0,l1,true,l3,l4,true,true,l7,l8,l9,l10,l11,l12,l13,l14,l15,l16,l17,l18,l19,l20,l21,l22,l23,l24,rfl,(by simp),HS.out⟩
   ·obtain rfl:=hall;subst hun;go_simp;exact hK _ _ ⟨l0,l1,l2,l3,l4,l5,true,true,l8,l9,l10,l11,l12,l13,l14,l15,l16,l17,l18,l19,l20,l21,l22,l23,l24,rfl,(by simp),HS.out⟩
   ·obtain⟨rfl,rfl⟩:=hall;subst hun;go_simp;exact hK _ _ ⟨l0,l1,l2,l3,l4,l5,true,true,true,l9,l10,l11,l12,l13,l14,l15,l16,l17,l18,l19,l20,l21,l22,l23,l24,rfl,(by simp),HS.out⟩
   ·obtain⟨rfl,rfl⟩:=hall;subst hun;go_simp;exact hK _ _ ⟨l0,l1,l2,l3,l4,l5,true,l7,true,true,l10,l11,l12,l13,l14,l15,l16,l17,l18,l19,l20,l21,l22,l23,l24,rfl,(by simp),HS.out⟩
   ·obtain⟨rfl,rfl⟩:=hall;subst hun;go_simp;exact hK _ _ ⟨l0,l1,l2,l3,l4,l5,true,l7,l8,true,true,l11,l12,l13,l14,l15,l16,l17,l18,l19,l20,l21,l22,l23,l24,rfl,(by simp),HS.out⟩
   ·obtain rfl:=hall;subst hun;go_simp;exact hK _ _ ⟨l0,l1,l2,l3,l4,l5,l6,l7,l8,l9,true,true,l12,l13,l14,l15,l16,l17,l18,l19,l20,l21,l22,l23,l24,rfl,(by simp),HS.out⟩
   ·obtain⟨rfl,rfl⟩:=hall;subst hun;go_simp;exact hK _ _ ⟨l0,l1,l2,l3,l4,l5,l6,l7,l8,l9,true,true,true,l13,l14,l15,l16,l17,l18,l19,l20,l21,l22,l23,l24,rfl,(by simp),HS.out⟩
   ·obtain⟨rfl,rfl⟩:=hall;subst hun;go_simp;exact hK _ _ ⟨l0,l1,l2,l3,l4,l5,l6,l7,l8,l9,true,l11,true,true,l14,l15,l16,l17,l18,l19,l20,l21,l22,l23,l24,rfl,(by simp),HS.out⟩
   ·obtain⟨rfl,rfl⟩:=hall;subst hun;go_simp;exact hK _ _ ⟨l0,l1,l2,l3,l4,l5,l6,l7,l8,l9,true,l11,l12,true,true,l15,l16,l17,l18,l19,l20,l21,l22,l23,l24,rfl,(by simp),HS.out⟩
   ·obtain rfl:=hall;subst hun;go_simp;exact hK _ _ ⟨l0,l1,l2,l3,l4,l5,l6,l7,l8,l9,l10,l11,l12,l13,true,true,l16,l17,l18,l19,l20,l21,l22,l23,l24,rfl,(by simp),HS.out⟩
   ·obtain⟨rfl,rfl⟩:=hall;subst hun;go_simp;exact hK _ _ ⟨l0,l1,l2,l3,l4,l5,l6,l7,l8,l9,l10,l11,l12,l13,true,true,true,l17,l18,l19,l20,l21,l22,l23,l24,rfl,(by simp),HS.out⟩
   ·obtain rfl:=hall;subst hun;go_simp;exact hK _ _ ⟨l0,l1,l2,l3,l4,l5,l6,l7,l8,l9,l10,l11,l12,l13,true,l15,l16,true,l18,l19,l20,l21,l22,l23,l24,rfl,(by simp),HS.out⟩
   ·obtain⟨rfl,rfl,rfl⟩:=hall;subst hun;go_simp;exact hK _ _ ⟨l0,l1,l2,l3,l4,l5,l6,l7,l8,l9,l10,l11,l12,l13,true,l15,true,true,true,l19,l20,l21,l22,l23,l24,rfl,(by simp),HS.out⟩
   ·obtain⟨rfl,rfl,rfl⟩:=hall;subst hun;go_simp;exact hK _ _ ⟨l0,l1,l2,l3,l4,l5,l6,l7,l8,l9,l10,l11,l12,l13,true,l15,true,l17,true,true,l20,l21,l22,l23,l24,rfl,(by simp),HS.out⟩
   ·obtain⟨rfl,rfl⟩:=hall;subst hun;go_simp;exact hK _ _ ⟨l0,l1,l2,l3,l4,l5,l6,l7,l8,l9,l10,l11,l12,l13,true,l15,l16,l17,l18,true,true,l21,l22,l23,l24,rfl,(by simp),HS.out⟩
   ·obtain⟨rfl,rfl⟩:=hall;subst hun;go_simp;exact hK _ _ ⟨l0,l1,l2,l3,l4,l5,l6,l7,l8,l9,l10,l11,l12,l13,l14,l15,l16,l17,l18,true,true,true,l22,l23,l24,rfl,(by simp),HS.out⟩
   ·obtain rfl:=hall;subst hun;go_simp
    go_at_call 10
    refine(Zcq _).mono ?_;rintro e u1 ⟨rfl,rfl⟩;go_simp;exact hK _ _ ⟨l0,l1,l2,l3,l4,l5,l6,l7,l8,l9,l10,l11,l12,l13,l14,l15,l16,l17,l18,l19,l20,true,true,l23,l24,rfl,(by simp),HS.out⟩
   ·obtain⟨rfl,rfl⟩:=hall;subst hun;go_simp;exact hK _ _ ⟨l0,l1,l2,l3,l4,l5,l6,l7,l8,l9,l10,l11,l12,l13,l14,l15,l16,l17,l18,l19,l20,true,true,true,l24,rfl,(by simp),HS.out⟩
   obtain⟨rfl,rfl,rfl,rfl,rfl,rfl,rfl,rfl,rfl,rfl,rfl,rfl,rfl,rfl,rfl,rfl,rfl,rfl,rfl,rfl,rfl,rfl,rfl,rfl,-⟩:=hall;subst hun;go_simp;exact hK _ _ ⟨true,true,true,true,true,true,true,true,true,true,true,true,true,true,true,true,true,true,true,true,true,true,true,true,true,rfl,(by simp),HS.out⟩
  ·rintro listed a w' ⟨l0,l1,l2,l3,l4,l5,l6,l7,l8,l9,l10,l11,l12,l13,l14,l15,l16,l17,l18,l19,l20,l21,l22,l23,l24,rfl,rfl,hS⟩ hr;have hall:=Zag (by kernel_rfl) rfl hr;obtain rfl:l0=true:=by simpa using hall 0 (by simp)
   obtain rfl:l1=true:=by simpa using hall 1 (by simp)
   obtain rfl:l2=true:=by simpa using hall 2 (by simp)
   obtain rfl:l3=true:=by simpa using hall 3 (by simp)
   obtain rfl:l4=true:=by simpa using hall 4 (by simp)
   obtain rfl:l5=true:=by simpa using hall 5 (by simp)
   obtain rfl:l6=true:=by simpa using hall 6 (by simp)
   obtain rfl:l7=true:=by simpa using hall 7 (by simp)
   obtain rfl:l8=true:=by simpa using hall 8 (by simp)
   obtain rfl:l9=true:=by simpa using hall 9 (by simp)
   obtain rfl:l10=true:=by simpa using hall 10 (by simp)
   obtain rfl:l11=true:=by simpa using hall 11 (by simp)
   obtain rfl:l12=true:=by simpa using hall 12 (by simp)
   obtain rfl:l13=true:=by simpa using hall 13 (by simp)
   obtain rfl:l14=true:=by simpa using hall 14 (by simp)
   obtain rfl:l15=true:=by simpa using hall 15 (by simp)
   obtain rfl:l16=true:=by simpa using hall 16 (by simp)
   obtain rfl:l17=true:=by simpa using hall 17 (by simp)
   obtain rfl:l18=true:=by simpa using hall 18 (by simp)
   obtain rfl:l19=true:=by simpa using hall 19 (by simp)
   obtain rfl:l20=true:=by simpa using hall 20 (by simp)
   obtain rfl:l21=true:=by simpa using hall 21 (by simp)
   obtain rfl:l22=true:=by simpa using hall 22 (by simp)
   obtain rfl:l23=true:=by simpa using hall 23 (by simp)
   obtain rfl:l24=true:=by simpa using hall 24 (by simp)
   clear hall hr ;simp only[↓reduceIte] at hS ⊢;simp only[List.setIfInBounds_toArray,List.set_cons_zero,List.set_cons_succ];have HSf:=qh hS;clear hS;go_wp2;go_ret;exact⟨rfl,HSL.out.bel.trans (HSf.out.bel.mono HSL.out.bel.size)⟩
  refine⟨false,false,false,false,false,false,false,false,false,false,false,false,false,false,false,false,false,false,false,false,false,false,false,false,false,rfl,(by simp),?_⟩;exact(St.start (w7.alloc (.cells #[.slice r1e E.next.length s1e,.slice r2e E.ends.length s2e] 45))).drew.pick [] (by decide)
 have HmE:=qh (HALL.out rfl rfl rfl rfl);clear HALL;go_wp2;refine wp_region_any (by kernel_rfl) ?_
 refine Zaf (fun A listed a w'=>∃ (l0 l1 l2 l3 l4 l5 l6 l7 l8 l9 l10 l11 l12 l13 l14 l15 l16 l17 l18 l19 l20 l21 l22 l23 l24:Bool) (ax1:Option Addr) (cx1:Nat) (ax2:Option Addr) (cx2:Nat) (vb:Nat) (vh:Nat) (ax1y:Option Addr) (cx1y:Nat) (ax2y:Option Addr) (cx2y:Nat) (vby:Nat) (vhy:Nat),listed=#[l0,l1,l2,l3,l4,l5,l6,l7,l8,l9,l10,l11,l12,l13,l14,l15,l16,l17,l18,l19,l20,l21,l22,l23,l24] ∧
   a=⟨(((((((((((((((((((((((((A.tmps.setIfInBounds 53 (if l0=true then .bool true else A.tmps.getD 53 undef)).setIfInBounds 54 (if l1=true then .bool false else A.tmps.getD 54 undef)).setIfInBounds 55 (if l2=true then .bool false else A.tmps.getD 55 undef)).setIfInBounds 56 (if l3=true then .bool true else A.tmps.getD 56 undef)).setIfInBounds 57 (if l4=true then .bool false else A.tmps.getD 57 undef)).setIfInBounds 58 (if l5=true then .bool false else A.tmps.getD 58 undef)).setIfInBounds 59 (if l6=true then .bool false else A.tmps.getD 59 undef)).setIfInBounds 60 (if l7=true then .bool true else A.tmps.getD 60 undef)).setIfInBounds 61 (if l8=true then .bool false else A.tmps.getD 61 undef)).setIfInBounds 62 (if l9=true then .bool false else A.tmps.getD 62 undef)).setIfInBounds 63 (if l10=true then .bool false else A.tmps.getD 63 undef)).setIfInBounds 64 (if l11=true then .bool true else A.tmps.getD 64 undef)).setIfInBounds 65 (if l12=true then .bool false else A.tmps.getD 65 undef)).setIfInBounds 66 (if l13=true then .bool false else A.tmps.getD 66 undef)).setIfInBounds 67 (if l14=true then .bool false else A.tmps.getD 67 undef)).setIfInBounds 68 (if l15=true then .agg #[.slice r1d D.next.length s1d,.slice r2d D.ends.length s2d] else A.tmps.getD 68 undef)).setIfInBounds 69 (if l16=true then .agg #[.slice ax1 C.next.length cx1,.slice ax2 C.ends.length cx2] else A.tmps.getD 69 undef)).setIfInBounds 70 (if l17=true then .agg #[.slice r1e E.next.length s1e,.slice r2e E.ends.length s2e] else A.tmps.getD 70 undef)).setIfInBounds 71 (if l18=true then .agg #[.slice ax1y C.next.length cx1y,.slice ax2y C.ends.length cx2y] else A.tmps.getD 71 undef)).setIfInBounds 72 (if l19=true then .bool true else A.tmps.getD 72 undef)).setIfInBounds 73 (if l20=true then .bool true else A.tmps.getD 73 undef)).setIfInBounds 74 (if l21=true then .bool true else A.tmps.getD 74 undef)).setIfInBounds 75 (if l22=true then .bool true else A.tmps.getD 75 undef)).setIfInBounds 76 (if l23=true then .bool true else A.tmps.getD 76 undef)).setIfInBounds 2 (.bool l24)),A.defers⟩ ∧
   St (w7.alloc (.cells #[.slice r1e E.next.length s1e,.slice r2e E.ends.length s2e] 45)) w' [(if l16=true then DfaV vb vh (.slice ax1 C.next.length cx1) (.slice ax2 C.ends.length cx2) C else Ent.nil),(if l18=true then DfaV vby vhy (.slice ax1y C.next.length cx1y) (.slice ax2y C.ends.length cx2y) C else Ent.nil)]) ?_ ?_ ?_
 ·rintro listed a w' ⟨l0,l1,l2,l3,l4,l5,l6,l7,l8,l9,l10,l11,l12,l13,l14,l15,l16,l17,l18,l19,l20,l21,l22,l23,l24,ax1,cx1,ax2,cx2,vb,vh,ax1y,cx1y,ax2y,cx2y,vby,vhy,rfl,rfl,hS⟩ i hi;obtain⟨hun,o,ho,hall⟩:=mem_ready.1 hi;have hlt:=(Array.getElem?_eq_some_iff.1 ho).1;refine wpOp_step ho (fun K hK => ?_);clear hi;have HS:=qh hS;clear hS;simp only[List.setIfInBounds_toArray,List.set_cons_zero,List.set_cons_succ,Array.getD_eq_getD_getElem?,List.getElem?_toArray,List.getElem?_cons_zero,List.getElem?_cons_succ,Option.getD_some];obtain h|h|h|h|h|h|h|h|h|h|h|h|h|h|h|h|h|h|h|h|h|h|h|h|h:i=0∨i=1∨i=2∨i=3∨i=4∨i=5∨i=6∨i=7∨i=8∨i=9∨i=10∨i=11∨i=12∨i=13∨i=14∨i=15∨i=16∨i=17∨i=18∨i=19∨i=20∨i=21∨i=22∨i=23∨i=24:=by simp at hlt;omega
  all_goals subst h
  all_goals simp only[List.getElem?_toArray,List.getElem?_cons_zero,List.getElem?_cons_succ,Option.some.injEq] at ho
  all_goals subst ho
  all_goals simp[Region.binds] at hun hall
  ·subst hun;go_simp;exact hK _ _ ⟨true,l1,l2,l3,l4,l5,l6,l7,l8,l9,l10,l11,l12,l13,l14,l15,l16,l17,l18,l19,l20,l21,l22,l23,l24,ax1,cx1,ax2,cx2,vb,vh,ax1y,cx1y,ax2y,cx2y,vby,vhy,rfl,(by simp),HS.out⟩
  ·obtain rfl:=hall;subst hun;go_simp;exact hK _ _ ⟨true,true,l2,l3,l4,l5,l6,l7,l8,l9,l10,l11,l12,l13,l14,l15,l16,l17,l18,l19,l20,l21,l22,l23,l24,ax1,cx1,ax2,cx2,vb,vh,ax1y,cx1y,ax2y,cx2y,vby,vhy,rfl,(by simp),HS.out⟩
  ·obtain rfl:=hall;subst hun;go_simp;exact hK _ _ ⟨l0,true,true,l3,l4,l5,l6,l7,l8,l9,l10,l11,l12,l13,l14,l15,l16,l17,l18,l19,l20,l21,l22,l23,l24,ax1,cx1,ax2,cx2,vb,vh,ax1y,cx1y,ax2y,cx2y,vby,vhy,rfl,(by simp),HS.out⟩
  ·obtain rfl:=hall;subst hun;go_simp;exact hK _ _ ⟨l0,l1,true,true,l4,l5,l6,l7,l8,l9,l10,l11,l12,l13,l14,l15,l16,l17,l18,l19,l20,l21,l22,l23,l24,ax1,cx1,ax2,cx2,vb,vh,ax1y,cx1y,ax2y,cx2y,vby,vhy,rfl,(by simp),HS.out⟩
  ·obtain⟨rfl,rfl⟩:=hall;subst hun;go_simp;exact hK _ _ ⟨l0,l1,true,true,true,l5,l6,l7,l8,l9,l10,l11,l12,l13,l14,l15,l16,l17,l18,l19,l20,l21,l22,l23,l24,ax1,cx1,ax2,cx2,vb,vh,ax1y,cx1y,ax2y,cx2y,vby,vhy,rfl,(by simp),HS.out⟩
  ·obtain⟨rfl,rfl⟩:=hall;subst hun;go_simp;exact hK _ _ ⟨l0,l1,true,l3,true,true,l6,l7,l8,l9,l10,l11,l12,l13,l14,l15,l16,l17,l18,l19,l20,l21,l22,l23,l24,ax1,cx1,ax2,cx2,vb,vh,ax1y,cx1y,ax2y,cx2y,vby,vhy,rfl,(by simp),HS.out⟩
  ·obtain⟨rfl,rfl⟩:=hall;subst hun;go_simp;exact hK _ _ ⟨l0,l1,true,l3,l4,true,true,l7,l8,l9,l10,l11,l12,l13,l14,l15,l16,l17,l18,l19,l20,l21,l22,l23,l24,ax1,cx1,ax2,cx2,vb,vh,ax1y,cx1y,ax2y,cx2y,vby,vhy,rfl,(by simp),HS.out⟩
  ·obtain rfl:=hall;subst hun;go_simp;exact hK _ _ ⟨l0,l1,l2,l3,l4,l5,true,true,l8,l9,l10,l11,l12,l13,l14,l15,l16,l17,l18,l19,l20,l21,l22,l23,l24,ax1,cx1,ax2,cx2,vb,vh,ax1y,cx1y,ax2y,cx2y,vby,vhy,rfl,(by simp),HS.out⟩
  ·obtain⟨rfl,rfl⟩:=hall;subst hun;go_simp;exact hK _ _ ⟨l0,l1,l2,l3,l4,l5,true,true,true,l9,l10,l11,l12,l13,l14,l15,l16,l17,l18,l19,l20,l21,l22,l23,l24,ax1,cx1,ax2,cx2,vb,vh,ax1y,cx1y,ax2y,cx2y,vby,vhy,rfl,(by simp),HS.out⟩
  ·obtain⟨rfl,rfl⟩:=hall;subst hun;go_simp;exact hK _ _ ⟨l0,l1,l2,l3,l4,l5,true,l7,true,true,l10,l11,l12,l13,l14,l15,l16,l17,l18,l19,l20,l21,l22,l23,l24,ax1,cx1,ax2,cx2,vb,vh,ax1y,cx1y,ax2y,cx2y,vby,vhy,rfl,(by simp),HS.out⟩
  ·obtain⟨rfl,rfl⟩:=hall;subst hun;go_simp;exact hK _ _ ⟨l0,l1,l2,l3,l4,l5,true,l7,l8,true,true,l11,l12,l13,l14,l15,l16,l17,l18,l19,l20,l21,l22,l23,l24,ax1,cx1,ax2,cx2,vb,vh,ax1y,cx1y,ax2y,cx2y,vby,vhy,rfl,(by simp),HS.out⟩
  ·obtain rfl:=hall;subst hun;go_simp;exact hK _ _ ⟨l0,l1,l2,l3,l4,l5,l6,l7,l8,l9,true,true,l12,l13,l14,l15,l16,l17,l18,l19,l20,l21,l22,l23,l24,ax1,cx1,ax2,cx2,vb,vh,ax1y,cx1y,ax2y,cx2y,vby,vhy,rfl,(by simp),HS.out⟩
  ·obtain⟨rfl,rfl⟩:=hall;subst hun;go_simp;exact hK _ _ ⟨l0,l1,l2,l3,l4,l5,l6,l7,l8,l9,true,true,true,l13,l14,l15,l16,l17,l18,l19,l20,l21,l22,l23,l24,ax1,cx1,ax2,cx2,vb,vh,ax1y,cx1y,ax2y,cx2y,vby,vhy,rfl,(by simp),HS.out⟩
  ·obtain⟨rfl,rfl⟩:=hall;subst hun;go_simp;exact hK _ _ ⟨l0,l1,l2,l3,l4,l5,l6,l7,l8,l9,true,l11,true,true,l14,l15,l16,l17,l18,l19,l20,l21,l22,l23,l24,ax1,cx1,ax2,cx2,vb,vh,ax1y,cx1y,ax2y,cx2y,vby,vhy,rfl,(by simp),HS.out⟩
  ·obtain⟨rfl,rfl⟩:=hall;subst hun;go_simp;exact hK _ _ ⟨l0,l1,l2,l3,l4,l5,l6,l7,l8,l9,true,l11,l12,true,true,l15,l16,l17,l18,l19,l20,l21,l22,l23,l24,ax1,cx1,ax2,cx2,vb,vh,ax1y,cx1y,ax2y,cx2y,vby,vhy,rfl,(by simp),HS.out⟩
  ·obtain rfl:=hall;subst hun;have e0:=(bcell HS.out.bel (w6.heap.size) (0) HltD.out).trans D0.out;have e1:=(bcell HS.out.bel (w6.heap.size) (1) HltD.out).trans D1.out;go_simp;exact hK _ _ ⟨l0,l1,l2,l3,l4,l5,l6,l7,l8,l9,l10,l11,l12,l13,true,true,l16,l17,l18,l19,l20,l21,l22,l23,l24,ax1,cx1,ax2,cx2,vb,vh,ax1y,cx1y,ax2y,cx2y,vby,vhy,rfl,(by simp),HS.out⟩
  ·obtain⟨rfl,rfl⟩:=hall;subst hun;go_simp
   go_at_call 20
   refine(ZcH D C HmD.out _ _ (HXD.out.below HS.out.bel)).mono ?_;rintro e u1 ⟨z1,z2,z3,z4,rfl,hr,hb⟩;have hS2:=(HS.out.dfaV hb hr).pick [2,1] (by decide);replace hS2:=qh hS2;go_simp;exact hK _ _ ⟨l0,l1,l2,l3,l4,l5,l6,l7,l8,l9,l10,l11,l12,l13,true,true,true,l17,l18,l19,l20,l21,l22,l23,l24,z1,z2,z3,z4,w'.heap.size,u1.heap.size,ax1y,cx1y,ax2y,cx2y,vby,vhy,rfl,(by simp),hS2.out⟩
  ·obtain rfl:=hall;subst hun;have e0:=(bcell HS.out.bel (w7.heap.size) (0) HltE.out).trans E0.out;have e1:=(bcell HS.out.bel (w7.heap.size) (1) HltE.out).trans E1.out;go_simp;exact hK _ _ ⟨l0,l1,l2,l3,l4,l5,l6,l7,l8,l9,l10,l11,l12,l13,true,l15,l16,true,l18,l19,l20,l21,l22,l23,l24,ax1,cx1,ax2,cx2,vb,vh,ax1y,cx1y,ax2y,cx2y,vby,vhy,rfl,(by simp),HS.out⟩
  ·obtain⟨rfl,rfl,rfl⟩:=hall;subst hun;go_simp
   go_at_call 20
   refine(ZcH E C HmE.out _ _ (HXE.out.below HS.out.bel)).mono ?_;rintro e u1 ⟨z1,z2,z3,z4,rfl,hr,hb⟩;have hS2:=(HS.out.dfaV hb hr).pick [0,2] (by decide);replace hS2:=qh hS2;go_simp;exact hK _ _ ⟨l0,l1,l2,l3,l4,l5,l6,l7,l8,l9,l10,l11,l12,l13,true,l15,true,true,true,l19,l20,l21,l22,l23,l24,ax1,cx1,ax2,cx2,vb,vh,z1,z2,z3,z4,w'.heap.size,u1.heap.size,rfl,(by simp),hS2.out⟩
  ·obtain⟨rfl,rfl,rfl⟩:=hall;subst hun;go_simp
   go_at_call 19
   refine(ZhS C _ _ _ (HS.out.dfaVr 0 rfl) (HS.out.dfaVr 1 rfl)).mono ?_;rintro e u1 ⟨rfl,hb⟩;have hS2:=HS.out.call hb;replace hS2:=qh hS2;go_simp;exact hK _ _ ⟨l0,l1,l2,l3,l4,l5,l6,l7,l8,l9,l10,l11,l12,l13,true,l15,true,l17,true,true,l20,l21,l22,l23,l24,ax1,cx1,ax2,cx2,vb,vh,ax1y,cx1y,ax2y,cx2y,vby,vhy,rfl,(by simp),hS2.out⟩
  ·obtain⟨rfl,rfl⟩:=hall;subst hun;go_simp;exact hK _ _ ⟨l0,l1,l2,l3,l4,l5,l6,l7,l8,l9,l10,l11,l12,l13,true,l15,l16,l17,l18,true,true,l21,l22,l23,l24,ax1,cx1,ax2,cx2,vb,vh,ax1y,cx1y,ax2y,cx2y,vby,vhy,rfl,(by simp),HS.out⟩
  ·obtain⟨rfl,rfl⟩:=hall;subst hun;go_simp;exact hK _ _ ⟨l0,l1,l2,l3,l4,l5,l6,l7,l8,l9,l10,l11,l12,l13,l14,l15,l16,l17,l18,true,true,true,l22,l23,l24,ax1,cx1,ax2,cx2,vb,vh,ax1y,cx1y,ax2y,cx2y,vby,vhy,rfl,(by simp),HS.out⟩
  ·obtain rfl:=hall;subst hun;go_simp
   go_at_call 10
   refine(Zcq _).mono ?_;rintro e u1 ⟨rfl,rfl⟩;go_simp;exact hK _ _ ⟨l0,l1,l2,l3,l4,l5,l6,l7,l8,l9,l10,l11,l12,l13,l14,l15,l16,l17,l18,l19,l20,true,true,l23,l24,ax1,cx1,ax2,cx2,vb,vh,ax1y,cx1y,ax2y,cx2y,vby,vhy,rfl,(by simp),HS.out⟩
  ·obtain⟨rfl,rfl⟩:=hall;subst hun;go_simp;exact hK _ _ ⟨l0,l1,l2,l3,l4,l5,l6,l7,l8,l9,l10,l11,l12,l13,l14,l15,l16,l17,l18,l19,l20,true,true,true,l24,ax1,cx1,ax2,cx2,vb,vh,ax1y,cx1y,ax2y,cx2y,vby,vhy,rfl,(by simp),HS.out⟩
  obtain⟨rfl,rfl,rfl,rfl,rfl,rfl,rfl,rfl,rfl,rfl,rfl,rfl,rfl,rfl,rfl,rfl,rfl,rfl,rfl,rfl,rfl,rfl,rfl,rfl,-⟩:=hall;subst hun;go_simp;exact hK _ _ ⟨true,true,true,true,true,true,true,true,true,true,true,true,true,true,true,true,true,true,true,true,true,true,true,true,true,ax1,cx1,ax2,cx2,vb,vh,ax1y,cx1y,ax2y,cx2y,vby,vhy,rfl,(by simp),HS.out⟩
 ·rintro listed a w' ⟨l0,l1,l2,l3,l4,l5,l6,l7,l8,l9,l10,l11,l12,l13,l14,l15,l16,l17,l18,l19,l20,l21,l22,l23,l24,ax1,cx1,ax2,cx2,vb,vh,ax1y,cx1y,ax2y,cx2y,vby,vhy,rfl,rfl,hS⟩ hr;have hall:=Zag (by kernel_rfl) rfl hr;obtain rfl:l0=true:=by simpa using hall 0 (by simp)
  obtain rfl:l1=true:=by simpa using hall 1 (by simp)
  obtain rfl:l2=true:=by simpa using hall 2 (by simp)
  obtain rfl:l3=true:=by simpa using hall 3 (by simp)
  obtain rfl:l4=true:=by simpa using hall 4 (by simp)
  obtain rfl:l5=true:=by simpa using hall 5 (by simp)
  obtain rfl:l6=true:=by simpa using hall 6 (by simp)
  obtain rfl:l7=true:=by simpa using hall 7 (by simp)
  obtain rfl:l8=true:=by simpa using hall 8 (by simp)
  obtain rfl:l9=true:=by simpa using hall 9 (by simp)
  obtain rfl:l10=true:=by simpa using hall 10 (by simp)
  obtain rfl:l11=true:=by simpa using hall 11 (by simp)
  obtain rfl:l12=true:=by simpa using hall 12 (by simp)
  obtain rfl:l13=true:=by simpa using hall 13 (by simp)
  obtain rfl:l14=true:=by simpa using hall 14 (by simp)
  obtain rfl:l15=true:=by simpa using hall 15 (by simp)
  obtain rfl:l16=true:=by simpa using hall 16 (by simp)
  obtain rfl:l17=true:=by simpa using hall 17 (by simp)
  obtain rfl:l18=true:=by simpa using hall 18 (by simp)
  obtain rfl:l19=true:=by simpa using hall 19 (by simp)
  obtain rfl:l20=true:=by simpa using hall 20 (by simp)
  obtain rfl:l21=true:=by simpa using hall 21 (by simp)
  obtain rfl:l22=true:=by simpa using hall 22 (by simp)
  obtain rfl:l23=true:=by simpa using hall 23 (by simp)
  obtain rfl:l24=true:=by simpa using hall 24 (by simp)
  clear hall hr ;simp only[↓reduceIte] at hS ⊢;simp only[List.setIfInBounds_toArray,List.set_cons_zero,List.set_cons_succ];have HSf:=qh hS;clear hS;go_wp2;go_ret;exact⟨rfl,HSL.out.bel.trans (HSf.out.bel.mono HSL.out.bel.size)⟩
 refine⟨false,false,false,false,false,false,false,false,false,false,false,false,false,false,false,false,false,false,false,false,false,false,false,false,false,none,0,none,0,0,0,none,0,none,0,0,0,rfl,(by simp),?_⟩;exact(St.start (w7.alloc (.cells #[.slice r1e E.next.length s1e,.slice r2e E.ends.length s2e] 45))).drew.pick [0,1] (by decide)
end Go.Proofs.Ytfanhfcamblghaa
