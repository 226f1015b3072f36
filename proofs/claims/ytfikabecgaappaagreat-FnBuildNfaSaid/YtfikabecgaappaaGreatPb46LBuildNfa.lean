/-
  The walk over the law FnBuildNfa.
  Conditions: the arguments read as bytes.
-/
import Derived.Test.YtfikabecgaappaaGreatPb37Blb
import Derived.Test.YtfikabecgaappaaGreatPb45Lb
set_option maxHeartbeats 16000000
set_option maxRecDepth 100000
namespace Go.Proofs.YtfikabecgaappaaGreat
open Go.RowKit
theorem Zm7 {l:List Nat} (hw:wdOk l=true) (t:Ex):accX l t=true↔memE t (lets l):=by
 have h8:(lsT l).length≤8:=by rw[Zme];exact(Zdt hw).1
 have:=Zne h8 t;rw[Zme] at this;exact this
theorem ZmU {K:Nat} (hK:K=40) {es:List (Int × Int)} {N:NfaD} (h:BldQ es (some N)):Zal N=true∧(∀ l r,AccO es l r→accT N l=r)∧∀ (o1 o2:Option DfaD) (D C:DfaD),detK K N=o1→Zo1 K es o2→o1=some D→o2=some C→minQ D=C:=by
 rcases h with⟨hex,hpl,t,ht,hb⟩|⟨-,h⟩
 ·subst ht;have hp:=Zeu t hpl;obtain⟨hok,hl⟩:=Zh5 t N hp hb;refine⟨hok,fun l r hr => ?_,fun o1 o2 D C h1 h2 e1 e2 => ?_⟩
  ·unfold accT;rw[hok,Bool.true_and];rcases hr with⟨-,hwd,u,hu,hx⟩|⟨h1|h1,rfl⟩
   ·obtain rfl:=Zfj hu;rw[hwd,Bool.true_and,← hx,Bool.eq_iff_iff,ZbK hok,Zm7 hwd];exact hl _ (ZnF hwd)
   ·rw[hex] at h1;cases h1
   rw[h1];rfl
  subst e1 e2;have hD:Zak D.next D.ends=true:=Zn1 hK (n:=N) (by obtain⟨-,h2,h3⟩:=ZmD h1;rw[h3];exact if_pos h2);rcases h2 with⟨-,u,hu,hc⟩|⟨h,-⟩
  ·obtain rfl:=Zfj hu;unfold minQ;rw[if_pos hD];exact Zn7 hK hp hb h1 hc hD
  rw[hex] at h;cases h
 cases h
theorem Zh3 (bs cs:List Nat) (v u:Value) (w:World) (hb:Bytes 0 w v bs) (hc:Bytes 0 w u cs) :
  Calls Tryz.prog 3 #[v,u] w fun e w'=>e = .returned (.bool true)∧Below w.heap.size w w':=by
 have HB:=qh hb;have HC:=qh hc;obtain⟨av,cv,rfl,hcv1,hcv2,-⟩:=hb.form;obtain⟨au,cu,rfl,hcu1,hcu2,-⟩:=hc.form;clear hb hc;by_cases hlen:1048576<bs.length
 ·have hl2:(1048576:Int)<bs.length:=by omega
  go_enter Tryz.func3, Tryz.ntmps3
  go_wp2;go_ret;exact⟨rfl,Below.refl _ _⟩
 have hl2:¬ (1048576:Int)<bs.length:=by omega
 by_cases hlen2:1048576<cs.length
 ·have hl3:(1048576:Int)<cs.length:=by omega
  go_enter Tryz.func3, Tryz.ntmps3
  go_wp2;go_ret;exact⟨rfl,Below.refl _ _⟩
 have hl3:¬ (1048576:Int)<cs.length:=by omega
 go_enter Tryz.func3, Tryz.ntmps3
 go_wp2_with fail;refine(ZhY bs _ _ HB.out (by omega)).mono ?_;rintro e w1 ⟨es,ve,hel,rfl,hp,hb1⟩;obtain⟨ae,ce,rfl,hc1,hc2,-⟩:=hp.form;have HP:=qh hp;have HW1:=qh hb1;clear hp hb1;obtain⟨n,hn⟩:=eI (es.length);rw[← hn] at hc1 HP hel;rw[← hn];obtain⟨o,ho⟩:=ZoW es;have him:=fun (v:Value) (u:World) h=>ZhQ es o ho v u h
 have hsp:=fun (v:Value) (u:World) h=>Zhl es o ho v u (by omega) h
 obtain⟨N,hN⟩:=eJ (o.getD zeN);obtain⟨ok,hok⟩:=eJ (o.isSome);rw[hN,hok] at him hsp
 have hNb:0≤N.states∧N.states≤1000:=by
  rcases ho with⟨hex,hpl,t,ht,rfl⟩|⟨-,rfl⟩
  ·cases hb:bldE t with
   | none=>rw[hb] at hN;rw[← hN];decide
   | some M =>rw[hb] at hN;obtain rfl:M=N:=hN;obtain⟨m,h1,h2,-⟩:=Zai (Zh5 t M (Zeu t (ht ▸ hpl)) hb).1;rw[h1];omega
  rw[← hN];decide
 have hz:ok=false→N.states=0:=fun h=>by
  cases o with
  | none=>rw[← hN];rfl
  | some d=>rw[h] at hok;cases hok
 have hs:ok=true→o=some N:=fun h=>by
  cases o with
  | none=>rw[h] at hok;cases hok
  | some d=>rw[← hN];rfl
 have Him:=qh him;have Hsp:=qh hsp;have Ho:=qh ho;replace hn:=qh hn;have Hhz:=qh hz;clear hz;have Hhs:=qh hs;clear hs;clear him hsp hN hok ho;go_wp2_with fail;refine(Him.out _ _ HP.out).mono ?_;rintro e w2 ⟨a1,a2,a3,a4,a5,a6,rfl,hr,hb⟩;have hb2:=(Below.refl w2.heap.size w2).alloc (Nat.le_refl _) (.cells #[.int .i64 N.states,.slice a1 N.moves.length a2,.slice a3 N.firsts.length a4,.slice a5 N.ends.length a6] 28);have HS2:=qh (((St.start w1).call hb).alloc _ rfl #[.int .i64 N.states,.slice a1 N.moves.length a2,.slice a3 N.firsts.length a4,.slice a5 N.ends.length a6] 28);have HX2:=qh (hr.below hb2);have HP2:=qh (HP.out.below HS2.out.bel);clear hr hb hb2;go_wp2_with fail;refine(Hsp.out _ _ HP2.out).mono ?_;rintro e w3 ⟨b1,b2,b3,b4,b5,b6,rfl,hS⟩;have hb3:=(Below.refl w3.heap.size w3).alloc (Nat.le_refl _) (.cells #[.int .i64 N.states,.slice b1 N.moves.length b2,.slice b3 N.firsts.length b4,.slice b5 N.ends.length b6] 28);have HS3:=qh ((HS2.out.call hS.bel).alloc _ rfl #[.int .i64 N.states,.slice b1 N.moves.length b2,.slice b3 N.firsts.length b4,.slice b5 N.ends.length b6] 28);have HX3:=qh ((HX2.out.below hS.bel).below hb3);have hRb:NfaR 0 w3 (.agg #[.int .i64 N.states,.slice b1 N.moves.length b2,.slice b3 N.firsts.length b4,.slice b5 N.ends.length b6]) N:=ZaO (Zax (hS.row 0 rfl)) (Zah (hS.row 1 rfl)) (Zah (hS.row 2 rfl)) (by omega) (by omega);have HY3:=qh (hRb.below hb3);have HP3:=qh ((HP2.out.below hS.bel).below hb3)
 clear hS hb3 hRb HS2 HX2 HP2;have e0:=HS3.out.cell (v:=.int .i64 N.states) 0 0 rfl rfl;have e1:=HS3.out.cell (v:=.slice a1 N.moves.length a2) 0 1 rfl rfl;have e2:=HS3.out.cell (v:=.slice a3 N.firsts.length a4) 0 2 rfl rfl;have e3:=HS3.out.cell (v:=.slice a5 N.ends.length a6) 0 3 rfl rfl;have f0:=HS3.out.cell (v:=.int .i64 N.states) 1 0 rfl rfl;have f1:=HS3.out.cell (v:=.slice b1 N.moves.length b2) 1 1 rfl rfl;have f2:=HS3.out.cell (v:=.slice b3 N.firsts.length b4) 1 2 rfl rfl;have f3:=HS3.out.cell (v:=.slice b5 N.ends.length b6) 1 3 rfl rfl;go_wp2_with fail;refine(Zjb N _ _ _ HX3.out HY3.out).mono ?_;rintro e w4 ⟨rfl,hb⟩;have HS4:=qh (HS3.out.call hb);have HX4:=qh (HX3.out.below hb);have HP4:=qh (HP3.out.below hb);have hff:(ok != ok)=false:=by simp
 clear hb HS3 HX3 HY3 HP3 e0 e1 e2 e3 f0 f1 f2 f3 Him Hsp;cases hoc:ok with
 | false =>
  have hzz:=Hhz.out hoc;subst hoc;have e0:=HS4.out.cell (v:=.int .i64 N.states) 0 0 rfl rfl;rw[hzz] at e0
  as_aux_lemma =>
  go_wp2_with (go_at_call 10;refine(Zm4 _).mono ?_;rintro e w' ⟨rfl,rfl⟩);go_ret;exact⟨rfl,HW1.out.trans (HS4.out.bel.mono HW1.out.size)⟩
 | true =>
  have hso:=Hhs.out hoc;subst hoc;obtain⟨K,hK⟩:∃ K,K=40:=⟨40,rfl⟩;obtain⟨hnok,hacc,hmin⟩:=ZmU hK (hso ▸ Ho.out);obtain⟨o1,ho1⟩:=eJ (detK K N);obtain⟨o2,ho2⟩:=Zn3 K es;obtain⟨D,hD⟩:=eJ (o1.getD Zk7);obtain⟨fb,hfb⟩:=eJ (o1.isSome);obtain⟨C,hC⟩:=eJ (o2.getD zeD);obtain⟨g,hg⟩:=eJ (o2.isSome);have hdt:=fun (v:Value) (u:World) h=>ZiF K hK N D fb (by rw[ho1];exact hD) (by rw[ho1];exact hfb) v u h
  have hcm:=fun (v:Value) (u:World) h=>ZdN K hK es o2 ho2 v u h
  rw[hC,hg] at hcm
  have hmn:fb=true→g=true→minQ D=C:=fun h1 h2=>by
   obtain⟨x,q1⟩:=Option.isSome_iff_exists.1 (hfb.trans h1);obtain⟨y,q2⟩:=Option.isSome_iff_exists.1 (hg.trans h2);have e1:x=D:=by rw[← hD,q1];rfl
   have e2:y=C:=by rw[← hC,q2];rfl
   subst e1 e2;exact hmin o1 o2 x y ho1 ho2 q1 q2
  have Hdt:=qh hdt;have Hcm:=qh hcm;have Hmn0:=qh hmn;have Hnok:=qh hnok;have Hacc0:=qh hacc;clear hdt hcm hmn hnok hacc hmin hD hfb hC hg ho1 ho2 hso hK;go_wp2_with fail;refine(ZiP cs _ _ (HC.out.below (HW1.out.trans (HS4.out.bel.mono HW1.out.size))) (by omega)).mono ?_;rintro e w5 ⟨l,ht,hl,rfl,hb⟩;have HS5:=qh (HS4.out.call hb);have HX5:=qh (HX4.out.below hb);have HP5:=qh (HP4.out.below hb);have Hht:=qh ht;clear ht;clear hb HS4 HX4 HP4;have e0:=HS5.out.cell (v:=.int .i64 N.states) 0 0 rfl rfl;have e1:=HS5.out.cell (v:=.slice a1 N.moves.length a2) 0 1 rfl rfl;have e2:=HS5.out.cell (v:=.slice a3 N.firsts.length a4) 0 2 rfl rfl;have e3:=HS5.out.cell (v:=.slice a5 N.ends.length a6) 0 3 rfl rfl;go_wp2_with fail;refine(Hdt.out _ _ HX5.out).mono ?_;rintro e w6 ⟨⟨r1d,s1d,r2d,s2d,rfl,hx⟩,hb⟩;have hb6:=(Below.refl w6.heap.size w6).alloc (Nat.le_refl _) (.cells #[.slice r1d D.next.length s1d,.slice r2d D.ends.length s2d] 37);have HS6:=qh ((HS5.out.call hb).alloc _ rfl #[.slice r1d D.next.length s1d,.slice r2d D.ends.length s2d] 37);have HX6:=qh ((HX5.out.below hb).below hb6);have HP6:=qh ((HP5.out.below hb).below hb6);have HD6:=qh (((hx.r).mono (Nat.zero_le _)).below hb6);clear hx hb hb6 HS5 HX5 HP5 e0 e1 e2 e3;go_wp2_with fail;refine(Hcm.out _ _ HP6.out).mono ?_;rintro e w7 ⟨⟨r1c,s1c,r2c,s2c,rfl,hx⟩,hb⟩;have hb7:=(Below.refl w7.heap.size w7).alloc (Nat.le_refl _) (.cells #[.slice r1c C.next.length s1c,.slice r2c C.ends.length s2c] 37)
  have hS7:St w1 (w7.alloc (.cells #[.slice r1c C.next.length s1c,.slice r2c C.ends.length s2c] 37)) [Ent.box w2.heap.size #[.int .i64 N.states,.slice a1 N.moves.length a2,.slice a3 N.firsts.length a4,.slice a5 N.ends.length a6] 28,Ent.box w6.heap.size #[.slice r1d D.next.length s1d,.slice r2d D.ends.length s2d] 37,Ent.box w7.heap.size #[.slice r1c C.next.length s1c,.slice r2c C.ends.length s2c] 37]:=((HS6.out.call hb).alloc _ rfl #[.slice r1c C.next.length s1c,.slice r2c C.ends.length s2c] 37).pick [0,2,3] (by decide);have HS7:=qh hS7;have HXN:=qh ((HX6.out.below hb).below hb7);have HXP:=qh ((HP6.out.below hb).below hb7);have HXD:=qh ((HD6.out.below hb).below hb7);have HXC:=qh (((hx.r).mono (Nat.zero_le _)).below hb7);have HSL:=qh (((St.start w).call HW1.out).call HS7.out.bel);obtain⟨q,hr⟩:=Zo0 es l;have hq:=Hacc0.out l q hr;have hqq:(q==q)=true:=beq_self_eq_true q;have Hacc:=qh hq;have Hhr:=qh hr;clear hr;clear hx hb hb7 hS7 hq HS6 HX6 HP6 HD6 Hdt Hcm;have N0:=qh (HS7.out.cell (v:=.int .i64 N.states) 0 0 rfl rfl);have N1:=qh (HS7.out.cell (v:=.slice a1 N.moves.length a2) 0 1 rfl rfl);have N2:=qh (HS7.out.cell (v:=.slice a3 N.firsts.length a4) 0 2 rfl rfl);have N3:=qh (HS7.out.cell (v:=.slice a5 N.ends.length a6) 0 3 rfl rfl);have HltN:=qh (HS7.out.boxlt 0 rfl).2;have D0:=qh (HS7.out.cell (v:=.slice r1d D.next.length s1d) 1 0 rfl rfl);have D1:=qh (HS7.out.cell (v:=.slice r2d D.ends.length s2d) 1 1 rfl rfl)
  have HltD:=qh (HS7.out.boxlt 1 rfl).2;have C0:=qh (HS7.out.cell (v:=.slice r1c C.next.length s1c) 2 0 rfl rfl);have C1:=qh (HS7.out.cell (v:=.slice r2c C.ends.length s2c) 2 1 rfl rfl);have HltC:=qh (HS7.out.boxlt 2 rfl).2;clear HS7;cases fb with
  | false =>
   go_wp2;refine wp_region_any (by kernel_rfl) ?_
   refine Zaq (fun A listed a w'=>∃ (l0 l1 l2 l3 l4 l5 l6 l7 l8 l9 l10 l11 l12 l13 l14 l15 l16 l17 l18 l19 l20 l21 l22 l23 l24 l25:Bool) ,listed=#[l0,l1,l2,l3,l4,l5,l6,l7,l8,l9,l10,l11,l12,l13,l14,l15,l16,l17,l18,l19,l20,l21,l22,l23,l24,l25] ∧
     a=⟨((((((((((((((((((((A.tmps.setIfInBounds 64 (if l0=true then .agg #[.int .i64 N.states,.slice a1 N.moves.length a2,.slice a3 N.firsts.length a4,.slice a5 N.ends.length a6] else A.tmps.getD 64 undef)).setIfInBounds 65 (if l1=true then .bool true else A.tmps.getD 65 undef)).setIfInBounds 66 (if l2=true then .bool true else A.tmps.getD 66 undef)).setIfInBounds 67 (if l3=true then .agg #[.int .i64 N.states,.slice a1 N.moves.length a2,.slice a3 N.firsts.length a4,.slice a5 N.ends.length a6] else A.tmps.getD 67 undef)).setIfInBounds 68 (if l4=true then .string (txB l) else A.tmps.getD 68 undef)).setIfInBounds 69 (if l5=true then .bool q else A.tmps.getD 69 undef)).setIfInBounds 70 (if l6=true then .slice ae n ce else A.tmps.getD 70 undef)).setIfInBounds 71 (if l7=true then .string (txB l) else A.tmps.getD 71 undef)).setIfInBounds 72 (if l8=true then .bool q else A.tmps.getD 72 undef)).setIfInBounds 73 (if l9=true then .bool true else A.tmps.getD 73 undef)).setIfInBounds 74 (if l10=true then .bool true else A.tmps.getD 74 undef)).setIfInBounds 75 (if l11=true then .bool true else A.tmps.getD 75 undef)).setIfInBounds 76 (if l12=true then .bool false else A.tmps.getD 76 undef)).setIfInBounds 77 (if l13=true then .bool true else A.tmps.getD 77 undef)).setIfInBounds 78 (if l14=true then .bool true else A.tmps.getD 78 undef)).setIfInBounds 81 (if l17=true then .bool true else A.tmps.getD 81 undef)).setIfInBounds 82 (if l18=true then .bool true else A.tmps.getD 82 undef)).setIfInBounds 87 (if l23=true then .bool true else A.tmps.getD 87 undef)).setIfInBounds 88 (if l24=true then .bool true else A.tmps.getD 88 undef)).setIfInBounds 4 (.bool l25)),A.defers⟩ ∧
     St (w7.alloc (.cells #[.slice r1c C.next.length s1c,.slice r2c C.ends.length s2c] 37)) w' []) ?_ ?_ ?_
   ·rintro listed a w' ⟨l0,l1,l2,l3,l4,l5,l6,l7,l8,l9,l10,l11,l12,l13,l14,l15,l16,l17,l18,l19,l20,l21,l22,l23,l24,l25,rfl,rfl,hS⟩ i hi;obtain⟨hun,o,ho,hall⟩:=mem_ready.1 hi;have hlt:=(Array.getElem?_eq_some_iff.1 ho).1;refine wpOp_step ho (fun K hK => ?_);clear hi;have HS:=qh hS;clear hS;simp only[List.setIfInBounds_toArray,List.set_cons_zero,List.set_cons_succ,Array.getD_eq_getD_getElem?,List.getElem?_toArray,List.getElem?_cons_zero,List.getElem?_cons_succ,Option.getD_some];obtain h|h|h|h|h|h|h|h|h|h|h|h|h|h|h|h|h|h|h|h|h|h|h|h|h|h:i=0∨i=1∨i=2∨i=3∨i=4∨i=5∨i=6∨i=7∨i=8∨i=9∨i=10∨i=11∨i=12∨i=13∨i=14∨i=15∨i=16∨i=17∨i=18∨i=19∨i=20∨i=21∨i=22∨i=23∨i=24∨i=25:=by simp at hlt;omega
    all_goals subst h
    all_goals simp only[List.getElem?_toArray,List.getElem?_cons_zero,List.getElem?_cons_succ,Option.some.injEq] at ho
    all_goals subst ho
    all_goals simp[Region.binds] at hun hall
    ·subst hun;have e0:=(bcell HS.out.bel (w2.heap.size) (0) HltN.out).trans N0.out;have e1:=(bcell HS.out.bel (w2.heap.size) (1) HltN.out).trans N1.out;have e2:=(bcell HS.out.bel (w2.heap.size) (2) HltN.out).trans N2.out;have e3:=(bcell HS.out.bel (w2.heap.size) (3) HltN.out).trans N3.out;go_simp;exact hK _ _ ⟨true,l1,l2,l3,l4,l5,l6,l7,l8,l9,l10,l11,l12,l13,l14,l15,l16,l17,l18,l19,l20,l21,l22,l23,l24,l25,rfl,(by simp),HS.out⟩
    ·obtain rfl:=hall;subst hun;go_simp
     go_at_call 14
     refine(Zab N _ _ (HXN.out.below HS.out.bel) true Hnok.out).mono ?_;rintro e u1 ⟨rfl,hb⟩;have hS2:=HS.out.call hb;replace hS2:=qh hS2;go_simp;exact hK _ _ ⟨true,true,l2,l3,l4,l5,l6,l7,l8,l9,l10,l11,l12,l13,l14,l15,l16,l17,l18,l19,l20,l21,l22,l23,l24,l25,rfl,(by simp),hS2.out⟩
    ·obtain rfl:=hall;subst hun;go_simp;exact hK _ _ ⟨l0,true,true,l3,l4,l5,l6,l7,l8,l9,l10,l11,l12,l13,l14,l15,l16,l17,l18,l19,l20,l21,l22,l23,l24,l25,rfl,(by simp),HS.out⟩
    ·obtain rfl:=hall;subst hun;have e0:=(bcell HS.out.bel (w2.heap.size) (0) HltN.out).trans N0.out;have e1:=(bcell HS.out.bel (w2.heap.size) (1) HltN.out).trans N1.out;have e2:=(bcell HS.out.bel (w2.heap.size) (2) HltN.out).trans N2.out;have e3:=(bcell HS.out.bel (w2.heap.size) (3) HltN.out).trans N3.out;go_simp;exact hK _ _ ⟨l0,l1,true,true,l4,l5,l6,l7,l8,l9,l10,l11,l12,l13,l14,l15,l16,l17,l18,l19,l20,l21,l22,l23,l24,l25,rfl,(by simp),HS.out⟩
    ·obtain rfl:=hall;subst hun;go_simp;exact hK _ _ ⟨l0,l1,true,l3,true,l5,l6,l7,l8,l9,l10,l11,l12,l13,l14,l15,l16,l17,l18,l19,l20,l21,l22,l23,l24,l25,rfl,(by simp),HS.out⟩
    ·obtain⟨rfl,rfl,rfl⟩:=hall;subst hun;go_simp
     go_at_call 15
     refine(ZcF N l _ _ Hht.out (by omega) (HXN.out.below HS.out.bel) q Hacc.out).mono ?_;rintro e u1 ⟨rfl,hb⟩;have hS2:=HS.out.call hb;replace hS2:=qh hS2;go_simp;exact hK _ _ ⟨l0,l1,true,true,true,true,l6,l7,l8,l9,l10,l11,l12,l13,l14,l15,l16,l17,l18,l19,l20,l21,l22,l23,l24,l25,rfl,(by simp),hS2.out⟩
    ·obtain rfl:=hall;subst hun;go_simp;exact hK _ _ ⟨l0,l1,true,l3,l4,l5,true,l7,l8,l9,l10,l11,l12,l13,l14,l15,l16,l17,l18,l19,l20,l21,l22,l23,l24,l25,rfl,(by simp),HS.out⟩
    ·obtain rfl:=hall;subst hun;go_simp;exact hK _ _ ⟨l0,l1,true,l3,l4,l5,l6,true,l8,l9,l10,l11,l12,l13,l14,l15,l16,l17,l18,l19,l20,l21,l22,l23,l24,l25,rfl,(by simp),HS.out⟩
    ·obtain⟨rfl,rfl,rfl,rfl⟩:=hall;subst hun;go_simp
     go_at_call 16
     refine(Zbr es l _ _ q Hhr.out (HXP.out.below HS.out.bel) Hht.out (by omega)).mono ?_;rintro e u1 ⟨rfl,hb⟩;have hS2:=HS.out.call hb;replace hS2:=qh hS2;go_simp;exact hK _ _ ⟨l0,l1,true,l3,l4,true,true,true,true,l9,l10,l11,l12,l13,l14,l15,l16,l17,l18,l19,l20,l21,l22,l23,l24,l25,rfl,(by simp),hS2.out⟩
    ·obtain⟨rfl,rfl,rfl⟩:=hall;subst hun;go_simp;exact hK _ _ ⟨l0,l1,true,l3,l4,true,l6,l7,true,true,l10,l11,l12,l13,l14,l15,l16,l17,l18,l19,l20,l21,l22,l23,l24,l25,rfl,(by simp),HS.out⟩
    ·obtain⟨rfl,rfl⟩:=hall;subst hun;go_simp;exact hK _ _ ⟨l0,l1,true,l3,l4,l5,l6,l7,l8,true,true,l11,l12,l13,l14,l15,l16,l17,l18,l19,l20,l21,l22,l23,l24,l25,rfl,(by simp),HS.out⟩
    ·obtain⟨rfl,rfl⟩:=hall;subst hun;go_simp;exact hK _ _ ⟨l0,l1,l2,l3,l4,l5,l6,l7,true,l9,true,true,l12,l13,l14,l15,l16,l17,l18,l19,l20,l21,l22,l23,l24,l25,rfl,(by simp),HS.out⟩
    ·obtain rfl:=hall;subst hun;go_simp;exact hK _ _ ⟨l0,l1,l2,l3,l4,l5,l6,l7,l8,l9,l10,true,true,l13,l14,l15,l16,l17,l18,l19,l20,l21,l22,l23,l24,l25,rfl,(by simp),HS.out⟩
    ·obtain⟨rfl,rfl⟩:=hall;subst hun;go_simp;exact hK _ _ ⟨l0,l1,l2,l3,l4,l5,l6,l7,l8,l9,l10,true,true,true,l14,l15,l16,l17,l18,l19,l20,l21,l22,l23,l24,l25,rfl,(by simp),HS.out⟩
    ·obtain⟨rfl,rfl⟩:=hall;subst hun;go_simp;exact hK _ _ ⟨l0,l1,l2,l3,l4,l5,l6,l7,l8,l9,l10,true,l12,true,true,l15,l16,l17,l18,l19,l20,l21,l22,l23,l24,l25,rfl,(by simp),HS.out⟩
    ·obtain rfl:=hall;subst hun;go_simp;exact hK _ _ ⟨l0,l1,l2,l3,l4,l5,l6,l7,l8,l9,l10,l11,l12,l13,true,true,l16,l17,l18,l19,l20,l21,l22,l23,l24,l25,rfl,(by simp),HS.out⟩
    ·obtain⟨rfl,rfl⟩:=hall;subst hun;go_simp;exact hK _ _ ⟨l0,l1,l2,l3,l4,l5,l6,l7,l8,l9,l10,l11,l12,l13,true,true,true,l17,l18,l19,l20,l21,l22,l23,l24,l25,rfl,(by simp),HS.out⟩
    ·obtain⟨rfl,rfl,rfl⟩:=hall;subst hun;go_simp;exact hK _ _ ⟨l0,l1,l2,l3,l4,l5,l6,l7,l8,l9,l10,true,l12,l13,true,l15,true,true,l18,l19,l20,l21,l22,l23,l24,l25,rfl,(by simp),HS.out⟩
    ·obtain⟨rfl,rfl,rfl⟩:=hall;subst hun;go_simp;exact hK _ _ ⟨l0,l1,l2,l3,l4,l5,l6,l7,l8,l9,l10,true,l12,l13,true,l15,l16,true,true,l19,l20,l21,l22,l23,l24,l25,rfl,(by simp),HS.out⟩
    ·obtain rfl:=hall;subst hun;go_simp;exact hK _ _ ⟨l0,l1,l2,l3,l4,l5,l6,l7,l8,l9,l10,l11,l12,l13,l14,l15,l16,l17,true,true,l20,l21,l22,l23,l24,l25,rfl,(by simp),HS.out⟩
    ·obtain⟨rfl,rfl⟩:=hall;subst hun;go_simp;exact hK _ _ ⟨l0,l1,l2,l3,l4,l5,l6,l7,l8,l9,l10,l11,l12,l13,l14,l15,l16,l17,true,true,true,l21,l22,l23,l24,l25,rfl,(by simp),HS.out⟩
    ·obtain rfl:=hall;subst hun;go_simp;exact hK _ _ ⟨l0,l1,l2,l3,l4,l5,l6,l7,l8,l9,l10,l11,l12,l13,l14,l15,l16,l17,true,l19,l20,true,l22,l23,l24,l25,rfl,(by simp),HS.out⟩
    ·obtain⟨rfl,rfl,-,rfl⟩:=hall;subst hun;go_simp;exact hK _ _ ⟨l0,l1,l2,l3,l4,l5,l6,l7,l8,l9,l10,l11,l12,l13,l14,l15,l16,l17,true,l19,true,true,true,l23,l24,l25,rfl,(by simp),HS.out⟩
    ·obtain⟨rfl,rfl,rfl⟩:=hall;subst hun;go_simp;exact hK _ _ ⟨l0,l1,l2,l3,l4,l5,l6,l7,l8,l9,l10,true,l12,l13,l14,l15,l16,l17,true,l19,l20,l21,true,true,l24,l25,rfl,(by simp),HS.out⟩
    ·obtain⟨rfl,rfl⟩:=hall;subst hun;go_simp;exact hK _ _ ⟨l0,l1,l2,l3,l4,l5,l6,l7,l8,l9,l10,true,l12,l13,l14,l15,l16,l17,l18,l19,l20,l21,l22,true,true,l25,rfl,(by simp),HS.out⟩
    obtain⟨rfl,rfl,rfl,rfl,rfl,rfl,rfl,rfl,rfl,rfl,rfl,rfl,rfl,rfl,rfl,rfl,rfl,rfl,rfl,rfl,rfl,rfl,rfl,rfl,-,rfl,-⟩:=hall;subst hun;go_simp;exact hK _ _ ⟨true,true,true,true,true,true,true,true,true,true,true,true,true,true,true,true,true,true,true,true,true,true,true,true,true,true,rfl,(by simp),HS.out⟩
   ·rintro listed a w' ⟨l0,l1,l2,l3,l4,l5,l6,l7,l8,l9,l10,l11,l12,l13,l14,l15,l16,l17,l18,l19,l20,l21,l22,l23,l24,l25,rfl,rfl,hS⟩ hr;have hall:=Zaw (by kernel_rfl) rfl hr;obtain rfl:l0=true:=by simpa using hall 0 (by simp)
    obtain rfl:l1=true:=by simpa using hall 1 (by simp)
    obtain rfl:l2=true:=by simpa using hall 2 (by simp)
    obtain rfl:l3=true:=by simpa using hall 3 (by simp)
    obtain rfl:l4=true:=by simpa using hall 4 (by simp)
    obtain rfl:l5=true:=by simpa using hall 5 (by simp)
    obtain rfl:l6=true:=by simpa using hall 6 (by simp)
    obtain rfl:l7=true:=by simpa using hall 7 (by simp)
    obtain rfl:l8=true:=by simpa using hall 8 (by simp)
    obtain rfl:l9=true:=by simpa using hall 9 (by simp)
    obtain rfl:l10=true:=by simpa using hall 10 (by simp)
    obtain rfl:l11=true:=by simpa using hall 11 (by simp)
    obtain rfl:l12=true:=by simpa using hall 12 (by simp)
    obtain rfl:l13=true:=by simpa using hall 13 (by simp)
    obtain rfl:l14=true:=by simpa using hall 14 (by simp)
    obtain rfl:l15=true:=by simpa using hall 15 (by simp)
    obtain rfl:l16=true:=by simpa using hall 16 (by simp)
    obtain rfl:l17=true:=by simpa using hall 17 (by simp)
    obtain rfl:l18=true:=by simpa using hall 18 (by simp)
    obtain rfl:l19=true:=by simpa using hall 19 (by simp)
    obtain rfl:l20=true:=by simpa using hall 20 (by simp)
    obtain rfl:l21=true:=by simpa using hall 21 (by simp)
    obtain rfl:l22=true:=by simpa using hall 22 (by simp)
    obtain rfl:l23=true:=by simpa using hall 23 (by simp)
    obtain rfl:l24=true:=by simpa using hall 24 (by simp)
    obtain rfl:l25=true:=by simpa using hall 25 (by simp)
    clear hall hr ;simp only[↓reduceIte] at hS ⊢;simp only[List.setIfInBounds_toArray,List.set_cons_zero,List.set_cons_succ];have HSf:=qh hS;clear hS;go_wp2;go_ret;exact⟨rfl,HSL.out.bel.trans (HSf.out.bel.mono HSL.out.bel.size)⟩
   refine⟨false,false,false,false,false,false,false,false,false,false,false,false,false,false,false,false,false,false,false,false,false,false,false,false,false,false,rfl,(by simp),?_⟩;exact(St.start (w7.alloc (.cells #[.slice r1c C.next.length s1c,.slice r2c C.ends.length s2c] 37))).drew.pick [] (by decide)
  | true =>
   cases g with
   | false =>
    go_wp2;refine wp_region_any (by kernel_rfl) ?_
    refine Zaq (fun A listed a w'=>∃ (l0 l1 l2 l3 l4 l5 l6 l7 l8 l9 l10 l11 l12 l13 l14 l15 l16 l17 l18 l19 l20 l21 l22 l23 l24 l25:Bool) ,listed=#[l0,l1,l2,l3,l4,l5,l6,l7,l8,l9,l10,l11,l12,l13,l14,l15,l16,l17,l18,l19,l20,l21,l22,l23,l24,l25] ∧
      a=⟨((((((((((((((((((((((A.tmps.setIfInBounds 64 (if l0=true then .agg #[.int .i64 N.states,.slice a1 N.moves.length a2,.slice a3 N.firsts.length a4,.slice a5 N.ends.length a6] else A.tmps.getD 64 undef)).setIfInBounds 65 (if l1=true then .bool true else A.tmps.getD 65 undef)).setIfInBounds 66 (if l2=true then .bool true else A.tmps.getD 66 undef)).setIfInBounds 67 (if l3=true then .agg #[.int .i64 N.states,.slice a1 N.moves.length a2,.slice a3 N.firsts.length a4,.slice a5 N.ends.length a6] else A.tmps.getD 67 undef)).setIfInBounds 68 (if l4=true then .string (txB l) else A.tmps.getD 68 undef)).setIfInBounds 69 (if l5=true then .bool q else A.tmps.getD 69 undef)).setIfInBounds 70 (if l6=true then .slice ae n ce else A.tmps.getD 70 undef)).setIfInBounds 71 (if l7=true then .string (txB l) else A.tmps.getD 71 undef)).setIfInBounds 72 (if l8=true then .bool q else A.tmps.getD 72 undef)).setIfInBounds 73 (if l9=true then .bool true else A.tmps.getD 73 undef)).setIfInBounds 74 (if l10=true then .bool true else A.tmps.getD 74 undef)).setIfInBounds 75 (if l11=true then .bool true else A.tmps.getD 75 undef)).setIfInBounds 76 (if l12=true then .bool true else A.tmps.getD 76 undef)).setIfInBounds 77 (if l13=true then .bool false else A.tmps.getD 77 undef)).setIfInBounds 78 (if l14=true then .bool false else A.tmps.getD 78 undef)).setIfInBounds 79 (if l15=true then .bool false else A.tmps.getD 79 undef)).setIfInBounds 80 (if l16=true then .bool true else A.tmps.getD 80 undef)).setIfInBounds 81 (if l17=true then .bool true else A.tmps.getD 81 undef)).setIfInBounds 82 (if l18=true then .bool true else A.tmps.getD 82 undef)).setIfInBounds 87 (if l23=true then .bool true else A.tmps.getD 87 undef)).setIfInBounds 88 (if l24=true then .bool true else A.tmps.getD 88 undef)).setIfInBounds 4 (.bool l25)),A.defers⟩ ∧
      St (w7.alloc (.cells #[.slice r1c C.next.length s1c,.slice r2c C.ends.length s2c] 37)) w' []) ?_ ?_ ?_
    ·rintro listed a w' ⟨l0,l1,l2,l3,l4,l5,l6,l7,l8,l9,l10,l11,l12,l13,l14,l15,l16,l17,l18,l19,l20,l21,l22,l23,l24,l25,rfl,rfl,hS⟩ i hi;obtain⟨hun,o,ho,hall⟩:=mem_ready.1 hi;have hlt:=(Array.getElem?_eq_some_iff.1 ho).1;refine wpOp_step ho (fun K hK => ?_);clear hi;have HS:=qh hS;clear hS;simp only[List.setIfInBounds_toArray,List.set_cons_zero,List.set_cons_succ,Array.getD_eq_getD_getElem?,List.getElem?_toArray,List.getElem?_cons_zero,List.getElem?_cons_succ,Option.getD_some];obtain h|h|h|h|h|h|h|h|h|h|h|h|h|h|h|h|h|h|h|h|h|h|h|h|h|h:i=0∨i=1∨i=2∨i=3∨i=4∨i=5∨i=6∨i=7∨i=8∨i=9∨i=10∨i=11∨i=12∨i=13∨i=14∨i=15∨i=16∨i=17∨i=18∨i=19∨i=20∨i=21∨i=22∨i=23∨i=24∨i=25:=by simp at hlt;omega
     all_goals subst h
     all_goals simp only[List.getElem?_toArray,List.getElem?_cons_zero,List.getElem?_cons_succ,Option.some.injEq] at ho
     all_goals subst ho
     all_goals simp[Region.binds] at hun hall
     ·subst hun;have e0:=(bcell HS.out.bel (w2.heap.size) (0) HltN.out).trans N0.out;have e1:=(bcell HS.out.bel (w2.heap.size) (1) HltN.out).trans N1.out;have e2:=(bcell HS.out.bel (w2.heap.size) (2) HltN.out).trans N2.out;have e3:=(bcell HS.out.bel (w2.heap.size) (3) HltN.out).trans N3.out;go_simp;exact hK _ _ ⟨true,l1,l2,l3,l4,l5,l6,l7,l8,l9,l10,l11,l12,l13,l14,l15,l16,l17,l18,l19,l20,l21,l22,l23,l24,l25,rfl,(by simp),HS.out⟩
     ·obtain rfl:=hall;subst hun;go_simp
      go_at_call 14
      refine(Zab N _ _ (HXN.out.below HS.out.bel) true Hnok.out).mono ?_;rintro e u1 ⟨rfl,hb⟩;have hS2:=HS.out.call hb;replace hS2:=qh hS2;go_simp;exact hK _ _ ⟨true,true,l2,l3,l4,l5,l6,l7,l8,l9,l10,l11,l12,l13,l14,l15,l16,l17,l18,l19,l20,l21,l22,l23,l24,l25,rfl,(by simp),hS2.out⟩
     ·obtain rfl:=hall;subst hun;go_simp;exact hK _ _ ⟨l0,true,true,l3,l4,l5,l6,l7,l8,l9,l10,l11,l12,l13,l14,l15,l16,l17,l18,l19,l20,l21,l22,l23,l24,l25,rfl,(by simp),HS.out⟩
     ·obtain rfl:=hall;subst hun;have e0:=(bcell HS.out.bel (w2.heap.size) (0) HltN.out).trans N0.out;have e1:=(bcell HS.out.bel (w2.heap.size) (1) HltN.out).trans N1.out;have e2:=(bcell HS.out.bel (w2.heap.size) (2) HltN.out).trans N2.out;have e3:=(bcell HS.out.bel (w2.heap.size) (3) HltN.out).trans N3.out;go_simp;exact hK _ _ ⟨l0,l1,true,true,l4,l5,l6,l7,l8,l9,l10,l11,l12,l13,l14,l15,l16,l17,l18,l19,l20,l21,l22,l23,l24,l25,rfl,(by simp),HS.out⟩
     ·obtain rfl:=hall;subst hun;go_simp;exact hK _ _ ⟨l0,l1,true,l3,true,l5,l6,l7,l8,l9,l10,l11,l12,l13,l14,l15,l16,l17,l18,l19,l20,l21,l22,l23,l24,l25,rfl,(by simp),HS.out⟩
     ·obtain⟨rfl,rfl,rfl⟩:=hall;subst hun;go_simp
      go_at_call 15
      refine(ZcF N l _ _ Hht.out (by omega) (HXN.out.below HS.out.bel) q Hacc.out).mono ?_;rintro e u1 ⟨rfl,hb⟩;have hS2:=HS.out.call hb;replace hS2:=qh hS2;go_simp;exact hK _ _ ⟨l0,l1,true,true,true,true,l6,l7,l8,l9,l10,l11,l12,l13,l14,l15,l16,l17,l18,l19,l20,l21,l22,l23,l24,l25,rfl,(by simp),hS2.out⟩
     ·obtain rfl:=hall;subst hun;go_simp;exact hK _ _ ⟨l0,l1,true,l3,l4,l5,true,l7,l8,l9,l10,l11,l12,l13,l14,l15,l16,l17,l18,l19,l20,l21,l22,l23,l24,l25,rfl,(by simp),HS.out⟩
     ·obtain rfl:=hall;subst hun;go_simp;exact hK _ _ ⟨l0,l1,true,l3,l4,l5,l6,true,l8,l9,l10,l11,l12,l13,l14,l15,l16,l17,l18,l19,l20,l21,l22,l23,l24,l25,rfl,(by simp),HS.out⟩
     ·obtain⟨rfl,rfl,rfl,rfl⟩:=hall;subst hun;go_simp
      go_at_call 16
      refine(Zbr es l _ _ q Hhr.out (HXP.out.below HS.out.bel) Hht.out (by omega)).mono ?_;rintro e u1 ⟨rfl,hb⟩;have hS2:=HS.out.call hb;replace hS2:=qh hS2;go_simp;exact hK _ _ ⟨l0,l1,true,l3,l4,true,true,true,true,l9,l10,l11,l12,l13,l14,l15,l16,l17,l18,l19,l20,l21,l22,l23,l24,l25,rfl,(by simp),hS2.out⟩
     ·obtain⟨rfl,rfl,rfl⟩:=hall;subst hun;go_simp;exact hK _ _ ⟨l0,l1,true,l3,l4,true,l6,l7,true,true,l10,l11,l12,l13,l14,l15,l16,l17,l18,l19,l20,l21,l22,l23,l24,l25,rfl,(by simp),HS.out⟩
     ·obtain⟨rfl,rfl⟩:=hall;subst hun;go_simp;exact hK _ _ ⟨l0,l1,true,l3,l4,l5,l6,l7,l8,true,true,l11,l12,l13,l14,l15,l16,l17,l18,l19,l20,l21,l22,l23,l24,l25,rfl,(by simp),HS.out⟩
     ·obtain⟨rfl,rfl⟩:=hall;subst hun;go_simp;exact hK _ _ ⟨l0,l1,l2,l3,l4,l5,l6,l7,true,l9,true,true,l12,l13,l14,l15,l16,l17,l18,l19,l20,l21,l22,l23,l24,l25,rfl,(by simp),HS.out⟩
     ·obtain rfl:=hall;subst hun;go_simp;exact hK _ _ ⟨l0,l1,l2,l3,l4,l5,l6,l7,l8,l9,l10,true,true,l13,l14,l15,l16,l17,l18,l19,l20,l21,l22,l23,l24,l25,rfl,(by simp),HS.out⟩
     ·obtain⟨rfl,rfl⟩:=hall;subst hun;go_simp;exact hK _ _ ⟨l0,l1,l2,l3,l4,l5,l6,l7,l8,l9,l10,true,true,true,l14,l15,l16,l17,l18,l19,l20,l21,l22,l23,l24,l25,rfl,(by simp),HS.out⟩
     ·obtain⟨rfl,rfl⟩:=hall;subst hun;go_simp;exact hK _ _ ⟨l0,l1,l2,l3,l4,l5,l6,l7,l8,l9,l10,true,l12,true,true,l15,l16,l17,l18,l19,l20,l21,l22,l23,l24,l25,rfl,(by simp),HS.out⟩
     ·obtain rfl:=hall;subst hun;go_simp;exact hK _ _ ⟨l0,l1,l2,l3,l4,l5,l6,l7,l8,l9,l10,l11,l12,l13,true,true,l16,l17,l18,l19,l20,l21,l22,l23,l24,l25,rfl,(by simp),HS.out⟩
     ·obtain⟨rfl,rfl⟩:=hall;subst hun;go_simp;exact hK _ _ ⟨l0,l1,l2,l3,l4,l5,l6,l7,l8,l9,l10,l11,l12,l13,true,true,true,l17,l18,l19,l20,l21,l22,l23,l24,l25,rfl,(by simp),HS.out⟩
     ·obtain⟨rfl,rfl,rfl⟩:=hall;subst hun;go_simp;exact hK _ _ ⟨l0,l1,l2,l3,l4,l5,l6,l7,l8,l9,l10,true,l12,l13,true,l15,true,true,l18,l19,l20,l21,l22,l23,l24,l25,rfl,(by simp),HS.out⟩
     ·obtain⟨rfl,rfl,rfl⟩:=hall;subst hun;go_simp;exact hK _ _ ⟨l0,l1,l2,l3,l4,l5,l6,l7,l8,l9,l10,true,l12,l13,true,l15,l16,true,true,l19,l20,l21,l22,l23,l24,l25,rfl,(by simp),HS.out⟩
     ·obtain rfl:=hall;subst hun;go_simp;exact hK _ _ ⟨l0,l1,l2,l3,l4,l5,l6,l7,l8,l9,l10,l11,l12,l13,l14,l15,l16,l17,true,true,l20,l21,l22,l23,l24,l25,rfl,(by simp),HS.out⟩
     ·obtain⟨rfl,rfl⟩:=hall;subst hun;go_simp;exact hK _ _ ⟨l0,l1,l2,l3,l4,l5,l6,l7,l8,l9,l10,l11,l12,l13,l14,l15,l16,l17,true,true,true,l21,l22,l23,l24,l25,rfl,(by simp),HS.out⟩
     ·obtain rfl:=hall;subst hun;go_simp;exact hK _ _ ⟨l0,l1,l2,l3,l4,l5,l6,l7,l8,l9,l10,l11,l12,l13,l14,l15,l16,l17,true,l19,l20,true,l22,l23,l24,l25,rfl,(by simp),HS.out⟩
     ·obtain⟨rfl,rfl,-,rfl⟩:=hall;subst hun;go_simp;exact hK _ _ ⟨l0,l1,l2,l3,l4,l5,l6,l7,l8,l9,l10,l11,l12,l13,l14,l15,l16,l17,true,l19,true,true,true,l23,l24,l25,rfl,(by simp),HS.out⟩
     ·obtain⟨rfl,rfl,rfl⟩:=hall;subst hun;go_simp;exact hK _ _ ⟨l0,l1,l2,l3,l4,l5,l6,l7,l8,l9,l10,true,l12,l13,l14,l15,l16,l17,true,l19,l20,l21,true,true,l24,l25,rfl,(by simp),HS.out⟩
     ·obtain⟨rfl,rfl⟩:=hall;subst hun;go_simp;exact hK _ _ ⟨l0,l1,l2,l3,l4,l5,l6,l7,l8,l9,l10,true,l12,l13,l14,l15,l16,l17,l18,l19,l20,l21,l22,true,true,l25,rfl,(by simp),HS.out⟩
     obtain⟨rfl,rfl,rfl,rfl,rfl,rfl,rfl,rfl,rfl,rfl,rfl,rfl,rfl,rfl,rfl,rfl,rfl,rfl,rfl,rfl,rfl,rfl,rfl,rfl,-,rfl,-⟩:=hall;subst hun;go_simp;exact hK _ _ ⟨true,true,true,true,true,true,true,true,true,true,true,true,true,true,true,true,true,true,true,true,true,true,true,true,true,true,rfl,(by simp),HS.out⟩
    ·rintro listed a w' ⟨l0,l1,l2,l3,l4,l5,l6,l7,l8,l9,l10,l11,l12,l13,l14,l15,l16,l17,l18,l19,l20,l21,l22,l23,l24,l25,rfl,rfl,hS⟩ hr;have hall:=Zaw (by kernel_rfl) rfl hr;obtain rfl:l0=true:=by simpa using hall 0 (by simp)
     obtain rfl:l1=true:=by simpa using hall 1 (by simp)
     obtain rfl:l2=true:=by simpa using hall 2 (by simp)
     obtain rfl:l3=true:=by simpa using hall 3 (by simp)
     obtain rfl:l4=true:=by simpa using hall 4 (by simp)
     obtain rfl:l5=true:=by simpa using hall 5 (by simp)
     obtain rfl:l6=true:=by simpa using hall 6 (by simp)
     obtain rfl:l7=true:=by simpa using hall 7 (by simp)
     obtain rfl:l8=true:=by simpa using hall 8 (by simp)
     obtain rfl:l9=true:=by simpa using hall 9 (by simp)
     obtain rfl:l10=true:=by simpa using hall 10 (by simp)
     obtain rfl:l11=true:=by simpa using hall 11 (by simp)
     obtain rfl:l12=true:=by simpa using hall 12 (by simp)
     obtain rfl:l13=true:=by simpa using hall 13 (by simp)
     obtain rfl:l14=true:=by simpa using hall 14 (by simp)
     obtain rfl:l15=true:=by simpa using hall 15 (by simp)
     obtain rfl:l16=true:=by simpa using hall 16 (by simp)
     obtain rfl:l17=true:=by simpa using hall 17 (by simp)
     obtain rfl:l18=true:=by simpa using hall 18 (by simp)
     obtain rfl:l19=true:=by simpa using hall 19 (by simp)
     obtain rfl:l20=true:=by simpa using hall 20 (by simp)
     obtain rfl:l21=true:=by simpa using hall 21 (by simp)
     obtain rfl:l22=true:=by simpa using hall 22 (by simp)
     obtain rfl:l23=true:=by simpa using hall 23 (by simp)
     obtain rfl:l24=true:=by simpa using hall 24 (by simp)
     obtain rfl:l25=true:=by simpa using hall 25 (by simp)
     clear hall hr ;simp only[↓reduceIte] at hS ⊢;simp only[List.setIfInBounds_toArray,List.set_cons_zero,List.set_cons_succ];have HSf:=qh hS;clear hS;go_wp2;go_ret;exact⟨rfl,HSL.out.bel.trans (HSf.out.bel.mono HSL.out.bel.size)⟩
    refine⟨false,false,false,false,false,false,false,false,false,false,false,false,false,false,false,false,false,false,false,false,false,false,false,false,false,false,rfl,(by simp),?_⟩;exact(St.start (w7.alloc (.cells #[.slice r1c C.next.length s1c,.slice r2c C.ends.length s2c] 37))).drew.pick [] (by decide)
   | true =>
    have Hmn:=qh (Hmn0.out rfl rfl);go_wp2;refine wp_region_any (by kernel_rfl) ?_
    refine Zaq (fun A listed a w'=>∃ (l0 l1 l2 l3 l4 l5 l6 l7 l8 l9 l10 l11 l12 l13 l14 l15 l16 l17 l18 l19 l20 l21 l22 l23 l24 l25:Bool) (ax1:Option Addr) (cx1:Nat) (ax2:Option Addr) (cx2:Nat) (vb:Nat) (vh:Nat),listed=#[l0,l1,l2,l3,l4,l5,l6,l7,l8,l9,l10,l11,l12,l13,l14,l15,l16,l17,l18,l19,l20,l21,l22,l23,l24,l25] ∧
      a=⟨((((((((((((((((((((((((((A.tmps.setIfInBounds 64 (if l0=true then .agg #[.int .i64 N.states,.slice a1 N.moves.length a2,.slice a3 N.firsts.length a4,.slice a5 N.ends.length a6] else A.tmps.getD 64 undef)).setIfInBounds 65 (if l1=true then .bool true else A.tmps.getD 65 undef)).setIfInBounds 66 (if l2=true then .bool true else A.tmps.getD 66 undef)).setIfInBounds 67 (if l3=true then .agg #[.int .i64 N.states,.slice a1 N.moves.length a2,.slice a3 N.firsts.length a4,.slice a5 N.ends.length a6] else A.tmps.getD 67 undef)).setIfInBounds 68 (if l4=true then .string (txB l) else A.tmps.getD 68 undef)).setIfInBounds 69 (if l5=true then .bool q else A.tmps.getD 69 undef)).setIfInBounds 70 (if l6=true then .slice ae n ce else A.tmps.getD 70 undef)).setIfInBounds 71 (if l7=true then .string (txB l) else A.tmps.getD 71 undef)).setIfInBounds 72 (if l8=true then .bool q else A.tmps.getD 72 undef)).setIfInBounds 73 (if l9=true then .bool true else A.tmps.getD 73 undef)).setIfInBounds 74 (if l10=true then .bool true else A.tmps.getD 74 undef)).setIfInBounds 75 (if l11=true then .bool true else A.tmps.getD 75 undef)).setIfInBounds 76 (if l12=true then .bool true else A.tmps.getD 76 undef)).setIfInBounds 77 (if l13=true then .bool false else A.tmps.getD 77 undef)).setIfInBounds 78 (if l14=true then .bool false else A.tmps.getD 78 undef)).setIfInBounds 79 (if l15=true then .bool true else A.tmps.getD 79 undef)).setIfInBounds 80 (if l16=true then .bool false else A.tmps.getD 80 undef)).setIfInBounds 81 (if l17=true then .bool false else A.tmps.getD 81 undef)).setIfInBounds 82 (if l18=true then .bool false else A.tmps.getD 82 undef)).setIfInBounds 83 (if l19=true then .agg #[.slice r1d D.next.length s1d,.slice r2d D.ends.length s2d] else A.tmps.getD 83 undef)).setIfInBounds 84 (if l20=true then .agg #[.slice ax1 C.next.length cx1,.slice ax2 C.ends.length cx2] else A.tmps.getD 84 undef)).setIfInBounds 85 (if l21=true then .agg #[.slice r1c C.next.length s1c,.slice r2c C.ends.length s2c] else A.tmps.getD 85 undef)).setIfInBounds 86 (if l22=true then .bool true else A.tmps.getD 86 undef)).setIfInBounds 87 (if l23=true then .bool true else A.tmps.getD 87 undef)).setIfInBounds 88 (if l24=true then .bool true else A.tmps.getD 88 undef)).setIfInBounds 4 (.bool l25)),A.defers⟩ ∧
      St (w7.alloc (.cells #[.slice r1c C.next.length s1c,.slice r2c C.ends.length s2c] 37)) w' [(if l20=true then DfaV vb vh (.slice ax1 C.next.length cx1) (.slice ax2 C.ends.length cx2) C else Ent.nil)]) ?_ ?_ ?_
    ·rintro listed a w' ⟨l0,l1,l2,l3,l4,l5,l6,l7,l8,l9,l10,l11,l12,l13,l14,l15,l16,l17,l18,l19,l20,l21,l22,l23,l24,l25,ax1,cx1,ax2,cx2,vb,vh,rfl,rfl,hS⟩ i hi;obtain⟨hun,o,ho,hall⟩:=mem_ready.1 hi;have hlt:=(Array.getElem?_eq_some_iff.1 ho).1;refine wpOp_step ho (fun K hK => ?_);clear hi;have HS:=qh hS;clear hS;simp only[List.setIfInBounds_toArray,List.set_cons_zero,List.set_cons_succ,Array.getD_eq_getD_getElem?,List.getElem?_toArray,List.getElem?_cons_zero,List.getElem?_cons_succ,Option.getD_some];obtain h|h|h|h|h|h|h|h|h|h|h|h|h|h|h|h|h|h|h|h|h|h|h|h|h|h:i=0∨i=1∨i=2∨i=3∨i=4∨i=5∨i=6∨i=7∨i=8∨i=9∨i=10∨i=11∨i=12∨i=13∨i=14∨i=15∨i=16∨i=17∨i=18∨i=19∨i=20∨i=21∨i=22∨i=23∨i=24∨i=25:=by simp at hlt;omega
     all_goals subst h
     all_goals simp only[List.getElem?_toArray,List.getElem?_cons_zero,List.getElem?_cons_succ,Option.some.injEq] at ho
     all_goals subst ho
     all_goals simp[Region.binds] at hun hall
     ·subst hun;have e0:=(bcell HS.out.bel (w2.heap.size) (0) HltN.out).trans N0.out;have e1:=(bcell HS.out.bel (w2.heap.size) (1) HltN.out).trans N1.out;have e2:=(bcell HS.out.bel (w2.heap.size) (2) HltN.out).trans N2.out;have e3:=(bcell HS.out.bel (w2.heap.size) (3) HltN.out).trans N3.out;go_simp;exact hK _ _ ⟨true,l1,l2,l3,l4,l5,l6,l7,l8,l9,l10,l11,l12,l13,l14,l15,l16,l17,l18,l19,l20,l21,l22,l23,l24,l25,ax1,cx1,ax2,cx2,vb,vh,rfl,(by simp),HS.out⟩
     ·obtain rfl:=hall;subst hun;go_simp
      go_at_call 14
      refine(Zab N _ _ (HXN.out.below HS.out.bel) true Hnok.out).mono ?_;rintro e u1 ⟨rfl,hb⟩;have hS2:=HS.out.call hb;replace hS2:=qh hS2;go_simp;exact hK _ _ ⟨true,true,l2,l3,l4,l5,l6,l7,l8,l9,l10,l11,l12,l13,l14,l15,l16,l17,l18,l19,l20,l21,l22,l23,l24,l25,ax1,cx1,ax2,cx2,vb,vh,rfl,(by simp),hS2.out⟩
     ·obtain rfl:=hall;subst hun;go_simp;exact hK _ _ ⟨l0,true,true,l3,l4,l5,l6,l7,l8,l9,l10,l11,l12,l13,l14,l15,l16,l17,l18,l19,l20,l21,l22,l23,l24,l25,ax1,cx1,ax2,cx2,vb,vh,rfl,(by simp),HS.out⟩
     ·obtain rfl:=hall;subst hun;have e0:=(bcell HS.out.bel (w2.heap.size) (0) HltN.out).trans N0.out;have e1:=(bcell HS.out.bel (w2.heap.size) (1) HltN.out).trans N1.out;have e2:=(bcell HS.out.bel (w2.heap.size) (2) HltN.out).trans N2.out;have e3:=(bcell HS.out.bel (w2.heap.size) (3) HltN.out).trans N3.out;go_simp;exact hK _ _ ⟨l0,l1,true,true,l4,l5,l6,l7,l8,l9,l10,l11,l12,l13,l14,l15,l16,l17,l18,l19,l20,l21,l22,l23,l24,l25,ax1,cx1,ax2,cx2,vb,vh,rfl,(by simp),HS.out⟩
     ·obtain rfl:=hall;subst hun;go_simp;exact hK _ _ ⟨l0,l1,true,l3,true,l5,l6,l7,l8,l9,l10,l11,l12,l13,l14,l15,l16,l17,l18,l19,l20,l21,l22,l23,l24,l25,ax1,cx1,ax2,cx2,vb,vh,rfl,(by simp),HS.out⟩
     ·obtain⟨rfl,rfl,rfl⟩:=hall;subst hun;go_simp
      go_at_call 15
      refine(ZcF N l _ _ Hht.out (by omega) (HXN.out.below HS.out.bel) q Hacc.out).mono ?_;rintro e u1 ⟨rfl,hb⟩;have hS2:=HS.out.call hb;replace hS2:=qh hS2;go_simp;exact hK _ _ ⟨l0,l1,true,true,true,true,l6,l7,l8,l9,l10,l11,l12,l13,l14,l15,l16,l17,l18,l19,l20,l21,l22,l23,l24,l25,ax1,cx1,ax2,cx2,vb,vh,rfl,(by simp),hS2.out⟩
     ·obtain rfl:=hall;subst hun;go_simp;exact hK _ _ ⟨l0,l1,true,l3,l4,l5,true,l7,l8,l9,l10,l11,l12,l13,l14,l15,l16,l17,l18,l19,l20,l21,l22,l23,l24,l25,ax1,cx1,ax2,cx2,vb,vh,rfl,(by simp),HS.out⟩
     ·obtain rfl:=hall;subst hun;go_simp;exact hK _ _ ⟨l0,l1,true,l3,l4,l5,l6,true,l8,l9,l10,l11,l12,l13,l14,l15,l16,l17,l18,l19,l20,l21,l22,l23,l24,l25,ax1,cx1,ax2,cx2,vb,vh,rfl,(by simp),HS.out⟩
     ·obtain⟨rfl,rfl,rfl,rfl⟩:=hall;subst hun;go_simp
      go_at_call 16
      refine(Zbr es l _ _ q Hhr.out (HXP.out.below HS.out.bel) Hht.out (by omega)).mono ?_;rintro e u1 ⟨rfl,hb⟩;have hS2:=HS.out.call hb;replace hS2:=qh hS2;go_simp;exact hK _ _ ⟨l0,l1,true,l3,l4,true,true,true,true,l9,l10,l11,l12,l13,l14,l15,l16,l17,l18,l19,l20,l21,l22,l23,l24,l25,ax1,cx1,ax2,cx2,vb,vh,rfl,(by simp),hS2.out⟩
     ·obtain⟨rfl,rfl,rfl⟩:=hall;subst hun;go_simp;exact hK _ _ ⟨l0,l1,true,l3,l4,true,l6,l7,true,true,l10,l11,l12,l13,l14,l15,l16,l17,l18,l19,l20,l21,l22,l23,l24,l25,ax1,cx1,ax2,cx2,vb,vh,rfl,(by simp),HS.out⟩
     ·obtain⟨rfl,rfl⟩:=hall;subst hun;go_simp;exact hK _ _ ⟨l0,l1,true,l3,l4,l5,l6,l7,l8,true,true,l11,l12,l13,l14,l15,l16,l17,l18,l19,l20,l21,l22,l23,l24,l25,ax1,cx1,ax2,cx2,vb,vh,rfl,(by simp),HS.out⟩
     ·obtain⟨rfl,rfl⟩:=hall;subst hun;go_simp;exact hK _ _ ⟨l0,l1,l2,l3,l4,l5,l6,l7,true,l9,true,true,l12,l13,l14,l15,l16,l17,l18,l19,l20,l21,l22,l23,l24,l25,ax1,cx1,ax2,cx2,vb,vh,rfl,(by simp),HS.out⟩
     ·obtain rfl:=hall;subst hun;go_simp;exact hK _ _ ⟨l0,l1,l2,l3,l4,l5,l6,l7,l8,l9,l10,true,true,l13,l14,l15,l16,l17,l18,l19,l20,l21,l22,l23,l24,l25,ax1,cx1,ax2,cx2,vb,vh,rfl,(by simp),HS.out⟩
     ·obtain⟨rfl,rfl⟩:=hall;subst hun;go_simp;exact hK _ _ ⟨l0,l1,l2,l3,l4,l5,l6,l7,l8,l9,l10,true,true,true,l14,l15,l16,l17,l18,l19,l20,l21,l22,l23,l24,l25,ax1,cx1,ax2,cx2,vb,vh,rfl,(by simp),HS.out⟩
     ·obtain⟨rfl,rfl⟩:=hall;subst hun;go_simp;exact hK _ _ ⟨l0,l1,l2,l3,l4,l5,l6,l7,l8,l9,l10,true,l12,true,true,l15,l16,l17,l18,l19,l20,l21,l22,l23,l24,l25,ax1,cx1,ax2,cx2,vb,vh,rfl,(by simp),HS.out⟩
     ·obtain rfl:=hall;subst hun;go_simp;exact hK _ _ ⟨l0,l1,l2,l3,l4,l5,l6,l7,l8,l9,l10,l11,l12,l13,true,true,l16,l17,l18,l19,l20,l21,l22,l23,l24,l25,ax1,cx1,ax2,cx2,vb,vh,rfl,(by simp),HS.out⟩
     ·obtain⟨rfl,rfl⟩:=hall;subst hun;go_simp;exact hK _ _ ⟨l0,l1,l2,l3,l4,l5,l6,l7,l8,l9,l10,l11,l12,l13,true,true,true,l17,l18,l19,l20,l21,l22,l23,l24,l25,ax1,cx1,ax2,cx2,vb,vh,rfl,(by simp),HS.out⟩
     ·obtain⟨rfl,rfl,rfl⟩:=hall;subst hun;go_simp;exact hK _ _ ⟨l0,l1,l2,l3,l4,l5,l6,l7,l8,l9,l10,true,l12,l13,true,l15,true,true,l18,l19,l20,l21,l22,l23,l24,l25,ax1,cx1,ax2,cx2,vb,vh,rfl,(by simp),HS.out⟩
     ·obtain⟨rfl,rfl,rfl⟩:=hall;subst hun;go_simp;exact hK _ _ ⟨l0,l1,l2,l3,l4,l5,l6,l7,l8,l9,l10,true,l12,l13,true,l15,l16,true,true,l19,l20,l21,l22,l23,l24,l25,ax1,cx1,ax2,cx2,vb,vh,rfl,(by simp),HS.out⟩
     ·obtain rfl:=hall;subst hun;have e0:=(bcell HS.out.bel (w6.heap.size) (0) HltD.out).trans D0.out;have e1:=(bcell HS.out.bel (w6.heap.size) (1) HltD.out).trans D1.out;go_simp;exact hK _ _ ⟨l0,l1,l2,l3,l4,l5,l6,l7,l8,l9,l10,l11,l12,l13,l14,l15,l16,l17,true,true,l20,l21,l22,l23,l24,l25,ax1,cx1,ax2,cx2,vb,vh,rfl,(by simp),HS.out⟩
     ·obtain⟨rfl,rfl⟩:=hall;subst hun;go_simp
      go_at_call 18
      refine(Ze6 D C Hmn.out _ _ (HXD.out.below HS.out.bel)).mono ?_;rintro e u1 ⟨z1,z2,z3,z4,rfl,hr,hb⟩;have hS2:=(HS.out.dfaV hb hr).pick [1] (by decide);replace hS2:=qh hS2;go_simp;exact hK _ _ ⟨l0,l1,l2,l3,l4,l5,l6,l7,l8,l9,l10,l11,l12,l13,l14,l15,l16,l17,true,true,true,l21,l22,l23,l24,l25,z1,z2,z3,z4,w'.heap.size,u1.heap.size,rfl,(by simp),hS2.out⟩
     ·obtain rfl:=hall;subst hun;have e0:=(bcell HS.out.bel (w7.heap.size) (0) HltC.out).trans C0.out;have e1:=(bcell HS.out.bel (w7.heap.size) (1) HltC.out).trans C1.out;go_simp;exact hK _ _ ⟨l0,l1,l2,l3,l4,l5,l6,l7,l8,l9,l10,l11,l12,l13,l14,l15,l16,l17,true,l19,l20,true,l22,l23,l24,l25,ax1,cx1,ax2,cx2,vb,vh,rfl,(by simp),HS.out⟩
     ·obtain⟨rfl,rfl,-,rfl⟩:=hall;subst hun;go_simp
      go_at_call 17
      refine(Zjc C _ _ _ (HS.out.dfaVr 0 rfl) (HXC.out.below HS.out.bel)).mono ?_;rintro e u1 ⟨rfl,hb⟩;have hS2:=HS.out.call hb;replace hS2:=qh hS2;go_simp;exact hK _ _ ⟨l0,l1,l2,l3,l4,l5,l6,l7,l8,l9,l10,l11,l12,l13,l14,l15,l16,l17,true,l19,true,true,true,l23,l24,l25,ax1,cx1,ax2,cx2,vb,vh,rfl,(by simp),hS2.out⟩
     ·obtain⟨rfl,rfl,rfl⟩:=hall;subst hun;go_simp;exact hK _ _ ⟨l0,l1,l2,l3,l4,l5,l6,l7,l8,l9,l10,true,l12,l13,l14,l15,l16,l17,true,l19,l20,l21,true,true,l24,l25,ax1,cx1,ax2,cx2,vb,vh,rfl,(by simp),HS.out⟩
     ·obtain⟨rfl,rfl⟩:=hall;subst hun;go_simp;exact hK _ _ ⟨l0,l1,l2,l3,l4,l5,l6,l7,l8,l9,l10,true,l12,l13,l14,l15,l16,l17,l18,l19,l20,l21,l22,true,true,l25,ax1,cx1,ax2,cx2,vb,vh,rfl,(by simp),HS.out⟩
     obtain⟨rfl,rfl,rfl,rfl,rfl,rfl,rfl,rfl,rfl,rfl,rfl,rfl,rfl,rfl,rfl,rfl,rfl,rfl,rfl,rfl,rfl,rfl,rfl,rfl,-,rfl,-⟩:=hall;subst hun;go_simp;exact hK _ _ ⟨true,true,true,true,true,true,true,true,true,true,true,true,true,true,true,true,true,true,true,true,true,true,true,true,true,true,ax1,cx1,ax2,cx2,vb,vh,rfl,(by simp),HS.out⟩
    ·rintro listed a w' ⟨l0,l1,l2,l3,l4,l5,l6,l7,l8,l9,l10,l11,l12,l13,l14,l15,l16,l17,l18,l19,l20,l21,l22,l23,l24,l25,ax1,cx1,ax2,cx2,vb,vh,rfl,rfl,hS⟩ hr;have hall:=Zaw (by kernel_rfl) rfl hr;obtain rfl:l0=true:=by simpa using hall 0 (by simp)
     obtain rfl:l1=true:=by simpa using hall 1 (by simp)
     obtain rfl:l2=true:=by simpa using hall 2 (by simp)
     obtain rfl:l3=true:=by simpa using hall 3 (by simp)
     obtain rfl:l4=true:=by simpa using hall 4 (by simp)
     obtain rfl:l5=true:=by simpa using hall 5 (by simp)
     obtain rfl:l6=true:=by simpa using hall 6 (by simp)
     obtain rfl:l7=true:=by simpa using hall 7 (by simp)
     obtain rfl:l8=true:=by simpa using hall 8 (by simp)
     obtain rfl:l9=true:=by simpa using hall 9 (by simp)
     obtain rfl:l10=true:=by simpa using hall 10 (by simp)
     obtain rfl:l11=true:=by simpa using hall 11 (by simp)
     obtain rfl:l12=true:=by simpa using hall 12 (by simp)
     obtain rfl:l13=true:=by simpa using hall 13 (by simp)
     obtain rfl:l14=true:=by simpa using hall 14 (by simp)
     obtain rfl:l15=true:=by simpa using hall 15 (by simp)
     obtain rfl:l16=true:=by simpa using hall 16 (by simp)
     obtain rfl:l17=true:=by simpa using hall 17 (by simp)
     obtain rfl:l18=true:=by simpa using hall 18 (by simp)
     obtain rfl:l19=true:=by simpa using hall 19 (by simp)
     obtain rfl:l20=true:=by simpa using hall 20 (by simp)
     obtain rfl:l21=true:=by simpa using hall 21 (by simp)
     obtain rfl:l22=true:=by simpa using hall 22 (by simp)
     obtain rfl:l23=true:=by simpa using hall 23 (by simp)
     obtain rfl:l24=true:=by simpa using hall 24 (by simp)
     obtain rfl:l25=true:=by simpa using hall 25 (by simp)
     clear hall hr ;simp only[↓reduceIte] at hS ⊢;simp only[List.setIfInBounds_toArray,List.set_cons_zero,List.set_cons_succ];have HSf:=qh hS;clear hS;go_wp2;go_ret;exact⟨rfl,HSL.out.bel.trans (HSf.out.bel.mono HSL.out.bel.size)⟩
    refine⟨false,false,false,false,false,false,false,false,false,false,false,false,false,false,false,false,false,false,false,false,false,false,false,false,false,false,none,0,none,0,0,0,rfl,(by simp),?_⟩;exact(St.start (w7.alloc (.cells #[.slice r1c C.next.length s1c,.slice r2c C.ends.length s2c] 37))).drew.pick [0] (by decide)
end Go.Proofs.YtfikabecgaappaaGreat
