/-
  The walk over the law FnExprOf.
  Conditions: the arguments read as bytes.
-/
import Derived.Test.YtehmjmjedopkkaaGreatPo34Xps
import Derived.Test.YtehmjmjedopkkaaGreatPo35Lb
set_option maxHeartbeats 16000000
set_option maxRecDepth 100000
namespace Go.Proofs.YtehmjmjedopkkaaGreat
open Go.RowKit
theorem ZkE (bs cs:List Nat) (v u:Value) (w:World) (hb:Bytes 0 w v bs) (hc:Bytes 0 w u cs) :
  Calls Tryz.prog 4 #[v,u] w fun e w'=>e = .returned (.bool true)∧Below w.heap.size w w':=by
 have HB:=qh hb;have HC:=qh hc;obtain⟨av,cv,rfl,hcv1,hcv2,-⟩:=hb.form;obtain⟨au,cu,rfl,hcu1,hcu2,-⟩:=hc.form;clear hb hc;by_cases hlen:1048576<bs.length
 ·have hl2:(1048576:Int)<bs.length:=by omega
  go_enter Tryz.func4, Tryz.ntmps4
  go_wp2;go_ret;exact⟨rfl,Below.refl _ _⟩
 have hl2:¬ (1048576:Int)<bs.length:=by omega
 by_cases hlen2:1048576<cs.length
 ·have hl3:(1048576:Int)<cs.length:=by omega
  go_enter Tryz.func4, Tryz.ntmps4
  go_wp2;go_ret;exact⟨rfl,Below.refl _ _⟩
 have hl3:¬ (1048576:Int)<cs.length:=by omega
 go_enter Tryz.func4, Tryz.ntmps4
 go_wp2_with fail;refine(Zhf bs _ _ HB.out (by omega)).mono ?_;rintro e w1 ⟨d,a1,a2,c1,c2,hsm,rfl,hd,hb1⟩;have HW1:=qh hb1;have HS1:=qh (((St.start w).call hb1).alloc _ rfl #[.slice a1 d.next.length c1,.slice a2 d.ends.length c2] 32);have HR:=qh (hd.below ((Below.refl w1.heap.size w1).alloc (Nat.le_refl _) (.cells #[.slice a1 d.next.length c1,.slice a2 d.ends.length c2] 32)));clear hb1 hd;obtain⟨L,b,hA⟩:=Zmf d;have hl:=Zqv hA;have hwi:=fun (v:Value) (u:World) h=>Zhb d L b hA v u h
 have hws:=fun (v:Value) (u:World) h=>ZgZ d L b hA v u h
 have hnone:=fun h=>Zlh hA h
 have hff:(b != b)=false:=by simp
 have HA:=qh hA;have Hwi:=qh hwi;have Hws:=qh hws;have Hnone:=qh hnone;clear hwi hws hA hnone;have e0:=HS1.out.cell (v:=.slice a1 d.next.length c1) 0 0 rfl rfl;have e1:=HS1.out.cell (v:=.slice a2 d.ends.length c2) 0 1 rfl rfl;go_wp2_with fail;refine(Hwi.out _ _ HR.out).mono ?_;rintro e w2 ⟨gE,cE,rfl,hp,hb⟩;have HP:=qh hp;have HR2:=qh (HR.out.below hb);have HS2:=qh (HS1.out.call hb);clear hp hb e0 e1;have e0:=HS2.out.cell (v:=.slice a1 d.next.length c1) 0 0 rfl rfl;have e1:=HS2.out.cell (v:=.slice a2 d.ends.length c2) 0 1 rfl rfl;go_wp2_with fail;refine(Hws.out _ _ HR2.out).mono ?_;rintro e w3 ⟨gF,cF,rfl,hp,hb⟩;have HQ:=qh hp;have HP3:=qh (HP.out.below hb);have HR3:=qh (HR2.out.below hb);have HS3:=qh (HS2.out.call hb);clear hp hb e0 e1;go_wp2_with fail;refine(ZhZ L _ _ _ (by omega) HP3.out HQ.out).mono ?_;rintro e w4 ⟨rfl,hb⟩;have HP4:=qh (HP3.out.below hb);have HR4:=qh (HR3.out.below hb);have HS4:=qh (HS3.out.call hb);clear hb HP HQ HP3 HR HR2 HR3 HS1 HS2 HS3 Hwi Hws;cases b with
 | false =>
  have hL:=Hnone.out rfl;have hL0:(L.length:Int)=0:=by rw[hL];rfl
  clear hL
  as_aux_lemma =>
  go_wp2_with (go_at_call 13;refine(ZoJ _).mono ?_;rintro e w' ⟨rfl,rfl⟩);go_ret;exact⟨rfl,HS4.out.bel⟩
 | true =>
  obtain⟨K,hK⟩:∃ K,K=40:=⟨40,rfl⟩;obtain⟨o,ho⟩:=ZfS K L;have hC:=fun (v:Value) (w:World) h=>Zea K hK L o ho v w h
  have hfx:=fun E (hE:o=some E)=>@Zpu K hK d E L true HA.out rfl (by rw[← hE];exact ho)
  obtain⟨E,hE⟩:∃ D,o.getD zeD=D:=⟨_,rfl⟩;obtain⟨g,hg⟩:=eJ (o.isSome);rw[hE,hg] at hC;have HALL:=qh (fun (h2:g=true)=>hfx E (by obtain⟨x1,q1⟩:=Option.isSome_iff_exists.1 (hg.trans h2);rw[q1,← hE,q1];rfl))
  have HK1:=qh hC;have hvok:=ZqZ HA.out rfl;have hdok:=(Zeq HA.out rfl).1;have Hvok:=qh hvok;have Hdok:=qh hdok;clear hC hfx hE hg ho hK hvok hdok;go_wp2_with fail;refine(ZjE cs _ _ (HC.out.below HS4.out.bel) (by omega)).mono ?_;rintro e w5 ⟨l,ht,hl8,rfl,hb⟩;have HP5:=qh (HP4.out.below hb);have HR5:=qh (HR4.out.below hb);have HS5:=qh (HS4.out.call hb);clear hb HS4;go_wp2_with fail;refine(HK1.out _ _ HP5.out).mono ?_;rintro e w6 ⟨⟨r1b,s1b,r2b,s2b,rfl,hx⟩,hb⟩;have hS7:St w (w6.alloc (.cells #[.slice r1b E.next.length s1b,.slice r2b E.ends.length s2b] 32)) [Ent.box w1.heap.size #[.slice a1 d.next.length c1,.slice a2 d.ends.length c2] 32,Ent.box w6.heap.size #[.slice r1b E.next.length s1b,.slice r2b E.ends.length s2b] 32]:=(HS5.out.call hb).alloc _ rfl #[.slice r1b E.next.length s1b,.slice r2b E.ends.length s2b] 32;have HS7:=qh hS7;have hb6:=(Below.refl w6.heap.size w6).alloc (Nat.le_refl _) (.cells #[.slice r1b E.next.length s1b,.slice r2b E.ends.length s2b] 32);have HXE:=qh (((hx.r).mono (Nat.zero_le _)).below hb6);have HXD:=qh ((HR5.out.below hb).below hb6);have HXP:=qh ((HP5.out.below hb).below hb6);have HSL:=qh ((St.start w).call HS7.out.bel);obtain⟨q,hr⟩:=ZqL L l;have hacc:=Zqw HA.out rfl hr;have Hacc:=qh hacc;have Hhr:=qh hr;clear hr;replace ht:=qh ht;clear hx hb hb6 HR4 HR5 HP4 HP5 HS5 HK1 hS7 hacc;have D0:=qh (HS7.out.cell (v:=.slice a1 d.next.length c1) 0 0 rfl rfl)
  have D1:=qh (HS7.out.cell (v:=.slice a2 d.ends.length c2) 0 1 rfl rfl);have HltD:=qh (HS7.out.boxlt 0 rfl).2;have E0:=qh (HS7.out.cell (v:=.slice r1b E.next.length s1b) 1 0 rfl rfl);have E1:=qh (HS7.out.cell (v:=.slice r2b E.ends.length s2b) 1 1 rfl rfl);have HltE:=qh (HS7.out.boxlt 1 rfl).2;cases g
  ·clear HS7;go_wp2;refine wp_region_any (by kernel_rfl) ?_
   refine Zao (fun A listed a w'=>∃ (l0 l1 l2 l3 l4 l5 l6 l7 l8 l9 l10 l11 l12 l13 l14 l15 l16 l17 l18 l19 l20 l21:Bool) ,listed=#[l0,l1,l2,l3,l4,l5,l6,l7,l8,l9,l10,l11,l12,l13,l14,l15,l16,l17,l18,l19,l20,l21] ∧
     a=⟨((((((((((((((((((A.tmps.setIfInBounds 57 (if l0=true then .slice gE L.length cE else A.tmps.getD 57 undef)).setIfInBounds 58 (if l1=true then .bool true else A.tmps.getD 58 undef)).setIfInBounds 59 (if l2=true then .bool true else A.tmps.getD 59 undef)).setIfInBounds 60 (if l3=true then .slice gE L.length cE else A.tmps.getD 60 undef)).setIfInBounds 61 (if l4=true then .string (txB l) else A.tmps.getD 61 undef)).setIfInBounds 62 (if l5=true then .bool q else A.tmps.getD 62 undef)).setIfInBounds 63 (if l6=true then .agg #[.slice a1 d.next.length c1,.slice a2 d.ends.length c2] else A.tmps.getD 63 undef)).setIfInBounds 64 (if l7=true then .string (txB l) else A.tmps.getD 64 undef)).setIfInBounds 65 (if l8=true then .bool q else A.tmps.getD 65 undef)).setIfInBounds 66 (if l9=true then .bool true else A.tmps.getD 66 undef)).setIfInBounds 67 (if l10=true then .bool true else A.tmps.getD 67 undef)).setIfInBounds 68 (if l11=true then .bool true else A.tmps.getD 68 undef)).setIfInBounds 69 (if l12=true then .bool false else A.tmps.getD 69 undef)).setIfInBounds 70 (if l13=true then .bool true else A.tmps.getD 70 undef)).setIfInBounds 71 (if l14=true then .bool true else A.tmps.getD 71 undef)).setIfInBounds 76 (if l19=true then .bool true else A.tmps.getD 76 undef)).setIfInBounds 77 (if l20=true then .bool true else A.tmps.getD 77 undef)).setIfInBounds 4 (.bool l21)),A.defers⟩ ∧
     St (w6.alloc (.cells #[.slice r1b E.next.length s1b,.slice r2b E.ends.length s2b] 32)) w' []) ?_ ?_ ?_
   ·rintro listed a w' ⟨l0,l1,l2,l3,l4,l5,l6,l7,l8,l9,l10,l11,l12,l13,l14,l15,l16,l17,l18,l19,l20,l21,rfl,rfl,hS⟩ i hi;obtain⟨hun,o,ho,hall⟩:=mem_ready.1 hi;have hlt:=(Array.getElem?_eq_some_iff.1 ho).1;refine wpOp_step ho (fun K hK => ?_);clear hi;have HS:=qh hS;clear hS;simp only[w_1,w_2,w_3,w_4,w_5,w_6,w_7,w_8];obtain h|h|h|h|h|h|h|h|h|h|h|h|h|h|h|h|h|h|h|h|h|h:i=0∨i=1∨i=2∨i=3∨i=4∨i=5∨i=6∨i=7∨i=8∨i=9∨i=10∨i=11∨i=12∨i=13∨i=14∨i=15∨i=16∨i=17∨i=18∨i=19∨i=20∨i=21:=by simp at hlt;omega
    all_goals subst h
    all_goals simp only[w_5,w_6,w_7,w_9] at ho
    all_goals subst ho
    all_goals simp[Region.binds] at hun hall
    ·subst hun;go_simp;exact hK _ _ ⟨_,_,_,_,_,_,_,_,_,_,_,_,_,_,_,_,_,_,_,_,_,_,rfl,(by simp),HS.out⟩
    ·obtain rfl:=hall;subst hun;go_simp
     go_at_call 18
     refine(ZaZ L _ _ (HXP.out.below HS.out.bel) true Hvok.out).mono ?_;rintro e u1 ⟨rfl,hb⟩;have hS2:=HS.out.call hb;replace hS2:=qh hS2;go_simp;exact hK _ _ ⟨_,_,_,_,_,_,_,_,_,_,_,_,_,_,_,_,_,_,_,_,_,_,rfl,(by simp),hS2.out⟩
    ·obtain rfl:=hall;subst hun;go_simp;exact hK _ _ ⟨_,_,_,_,_,_,_,_,_,_,_,_,_,_,_,_,_,_,_,_,_,_,rfl,(by simp),HS.out⟩
    ·obtain rfl:=hall;subst hun;go_simp;exact hK _ _ ⟨_,_,_,_,_,_,_,_,_,_,_,_,_,_,_,_,_,_,_,_,_,_,rfl,(by simp),HS.out⟩
    ·obtain rfl:=hall;subst hun;go_simp;exact hK _ _ ⟨_,_,_,_,_,_,_,_,_,_,_,_,_,_,_,_,_,_,_,_,_,_,rfl,(by simp),HS.out⟩
    ·obtain⟨rfl,rfl,rfl⟩:=hall;subst hun;go_simp
     go_at_call 19
     refine(ZcF L l _ _ q Hhr.out (HXP.out.below HS.out.bel) ht.out (by omega)).mono ?_;rintro e u1 ⟨rfl,hb⟩;have hS2:=HS.out.call hb;replace hS2:=qh hS2;go_simp;exact hK _ _ ⟨_,_,_,_,_,_,_,_,_,_,_,_,_,_,_,_,_,_,_,_,_,_,rfl,(by simp),hS2.out⟩
    ·obtain rfl:=hall;subst hun;have e0:=(bcell HS.out.bel (w1.heap.size) (0) HltD.out).trans D0.out;have e1:=(bcell HS.out.bel (w1.heap.size) (1) HltD.out).trans D1.out;go_simp;exact hK _ _ ⟨_,_,_,_,_,_,_,_,_,_,_,_,_,_,_,_,_,_,_,_,_,_,rfl,(by simp),HS.out⟩
    ·obtain rfl:=hall;subst hun;go_simp;exact hK _ _ ⟨_,_,_,_,_,_,_,_,_,_,_,_,_,_,_,_,_,_,_,_,_,_,rfl,(by simp),HS.out⟩
    ·obtain⟨rfl,rfl,rfl,rfl⟩:=hall;subst hun;go_simp
     go_at_call 20
     refine(ZgM d l _ _ ht.out (by omega) (HXD.out.below HS.out.bel) Hdok.out q Hacc.out).mono ?_;rintro e u1 ⟨rfl,hb⟩;have hS2:=HS.out.call hb;replace hS2:=qh hS2;go_simp;exact hK _ _ ⟨_,_,_,_,_,_,_,_,_,_,_,_,_,_,_,_,_,_,_,_,_,_,rfl,(by simp),hS2.out⟩
    ·obtain⟨rfl,rfl,rfl⟩:=hall;subst hun;go_simp;exact hK _ _ ⟨_,_,_,_,_,_,_,_,_,_,_,_,_,_,_,_,_,_,_,_,_,_,rfl,(by simp),HS.out⟩
    ·obtain⟨rfl,rfl⟩:=hall;subst hun;go_simp;exact hK _ _ ⟨_,_,_,_,_,_,_,_,_,_,_,_,_,_,_,_,_,_,_,_,_,_,rfl,(by simp),HS.out⟩
    ·obtain⟨rfl,rfl⟩:=hall;subst hun;go_simp;exact hK _ _ ⟨_,_,_,_,_,_,_,_,_,_,_,_,_,_,_,_,_,_,_,_,_,_,rfl,(by simp),HS.out⟩
    ·obtain rfl:=hall;subst hun;go_simp;exact hK _ _ ⟨_,_,_,_,_,_,_,_,_,_,_,_,_,_,_,_,_,_,_,_,_,_,rfl,(by simp),HS.out⟩
    ·obtain⟨rfl,rfl⟩:=hall;subst hun;go_simp;exact hK _ _ ⟨_,_,_,_,_,_,_,_,_,_,_,_,_,_,_,_,_,_,_,_,_,_,rfl,(by simp),HS.out⟩
    ·obtain⟨rfl,rfl⟩:=hall;subst hun;go_simp;exact hK _ _ ⟨_,_,_,_,_,_,_,_,_,_,_,_,_,_,_,_,_,_,_,_,_,_,rfl,(by simp),HS.out⟩
    ·obtain rfl:=hall;subst hun;go_simp;exact hK _ _ ⟨_,_,_,_,_,_,_,_,_,_,_,_,_,_,_,_,_,_,_,_,_,_,rfl,(by simp),HS.out⟩
    ·obtain rfl:=hall;subst hun;go_simp;exact hK _ _ ⟨_,_,_,_,_,_,_,_,_,_,_,_,_,_,_,_,_,_,_,_,_,_,rfl,(by simp),HS.out⟩
    ·obtain⟨rfl,rfl⟩:=hall;subst hun;go_simp;exact hK _ _ ⟨_,_,_,_,_,_,_,_,_,_,_,_,_,_,_,_,_,_,_,_,_,_,rfl,(by simp),HS.out⟩
    ·obtain⟨rfl,rfl,rfl⟩:=hall;subst hun;go_simp;exact hK _ _ ⟨_,_,_,_,_,_,_,_,_,_,_,_,_,_,_,_,_,_,_,_,_,_,rfl,(by simp),HS.out⟩
    ·obtain⟨rfl,rfl,rfl⟩:=hall;subst hun;go_simp;exact hK _ _ ⟨_,_,_,_,_,_,_,_,_,_,_,_,_,_,_,_,_,_,_,_,_,_,rfl,(by simp),HS.out⟩
    ·obtain⟨rfl,rfl⟩:=hall;subst hun;go_simp;exact hK _ _ ⟨_,_,_,_,_,_,_,_,_,_,_,_,_,_,_,_,_,_,_,_,_,_,rfl,(by simp),HS.out⟩
    obtain⟨rfl,rfl,rfl,rfl,rfl,rfl,rfl,rfl,rfl,rfl,rfl,rfl,rfl,rfl,rfl,rfl,rfl,rfl,rfl,rfl,-,rfl,-⟩:=hall;subst hun;go_simp;exact hK _ _ ⟨_,_,_,_,_,_,_,_,_,_,_,_,_,_,_,_,_,_,_,_,_,_,rfl,(by simp),HS.out⟩
   ·rintro listed a w' ⟨l0,l1,l2,l3,l4,l5,l6,l7,l8,l9,l10,l11,l12,l13,l14,l15,l16,l17,l18,l19,l20,l21,rfl,rfl,hS⟩ hr;obtain⟨rfl,rfl,rfl,rfl,rfl,rfl,rfl,rfl,rfl,rfl,rfl,rfl,rfl,rfl,rfl,rfl,rfl,rfl,rfl,rfl,rfl,rfl,-⟩:=zA (ZaG (by kernel_rfl) rfl hr) rfl;clear hr ;simp only[↓reduceIte] at hS ⊢;simp only[w_1,w_2,w_3];have HSf:=qh hS;clear hS;go_wp2;go_ret;exact⟨rfl,HSL.out.bel.trans (HSf.out.bel.mono HSL.out.bel.size)⟩
   refine⟨false,false,false,false,false,false,false,false,false,false,false,false,false,false,false,false,false,false,false,false,false,false,rfl,(by simp),?_⟩;exact(St.start (w6.alloc (.cells #[.slice r1b E.next.length s1b,.slice r2b E.ends.length s2b] 32))).drew.pick [] (by decide)
  have hmi:=HALL.out rfl;have Hmi:=qh (fun (v:Value) (u:World) h=>Zfw d E hmi v u h);clear HS7 HALL hmi;go_wp2;refine wp_region_any (by kernel_rfl) ?_
  refine Zao (fun A listed a w'=>∃ (l0 l1 l2 l3 l4 l5 l6 l7 l8 l9 l10 l11 l12 l13 l14 l15 l16 l17 l18 l19 l20 l21:Bool) (ax1:Option Addr) (cx1:Nat) (ax2:Option Addr) (cx2:Nat) (vb:Nat) (vh:Nat),listed=#[l0,l1,l2,l3,l4,l5,l6,l7,l8,l9,l10,l11,l12,l13,l14,l15,l16,l17,l18,l19,l20,l21] ∧
    a=⟨((((((((((((((((((((((A.tmps.setIfInBounds 57 (if l0=true then .slice gE L.length cE else A.tmps.getD 57 undef)).setIfInBounds 58 (if l1=true then .bool true else A.tmps.getD 58 undef)).setIfInBounds 59 (if l2=true then .bool true else A.tmps.getD 59 undef)).setIfInBounds 60 (if l3=true then .slice gE L.length cE else A.tmps.getD 60 undef)).setIfInBounds 61 (if l4=true then .string (txB l) else A.tmps.getD 61 undef)).setIfInBounds 62 (if l5=true then .bool q else A.tmps.getD 62 undef)).setIfInBounds 63 (if l6=true then .agg #[.slice a1 d.next.length c1,.slice a2 d.ends.length c2] else A.tmps.getD 63 undef)).setIfInBounds 64 (if l7=true then .string (txB l) else A.tmps.getD 64 undef)).setIfInBounds 65 (if l8=true then .bool q else A.tmps.getD 65 undef)).setIfInBounds 66 (if l9=true then .bool true else A.tmps.getD 66 undef)).setIfInBounds 67 (if l10=true then .bool true else A.tmps.getD 67 undef)).setIfInBounds 68 (if l11=true then .bool true else A.tmps.getD 68 undef)).setIfInBounds 69 (if l12=true then .bool true else A.tmps.getD 69 undef)).setIfInBounds 70 (if l13=true then .bool false else A.tmps.getD 70 undef)).setIfInBounds 71 (if l14=true then .bool false else A.tmps.getD 71 undef)).setIfInBounds 72 (if l15=true then .agg #[.slice r1b E.next.length s1b,.slice r2b E.ends.length s2b] else A.tmps.getD 72 undef)).setIfInBounds 73 (if l16=true then .agg #[.slice a1 d.next.length c1,.slice a2 d.ends.length c2] else A.tmps.getD 73 undef)).setIfInBounds 74 (if l17=true then .agg #[.slice ax1 E.next.length cx1,.slice ax2 E.ends.length cx2] else A.tmps.getD 74 undef)).setIfInBounds 75 (if l18=true then .bool true else A.tmps.getD 75 undef)).setIfInBounds 76 (if l19=true then .bool true else A.tmps.getD 76 undef)).setIfInBounds 77 (if l20=true then .bool true else A.tmps.getD 77 undef)).setIfInBounds 4 (.bool l21)),A.defers⟩ ∧
    St (w6.alloc (.cells #[.slice r1b E.next.length s1b,.slice r2b E.ends.length s2b] 32)) w' [(if l17=true then DfaV vb vh (.slice ax1 E.next.length cx1) (.slice ax2 E.ends.length cx2) E else Ent.nil)]) ?_ ?_ ?_
  ·rintro listed a w' ⟨l0,l1,l2,l3,l4,l5,l6,l7,l8,l9,l10,l11,l12,l13,l14,l15,l16,l17,l18,l19,l20,l21,ax1,cx1,ax2,cx2,vb,vh,rfl,rfl,hS⟩ i hi;obtain⟨hun,o,ho,hall⟩:=mem_ready.1 hi;have hlt:=(Array.getElem?_eq_some_iff.1 ho).1;refine wpOp_step ho (fun K hK => ?_);clear hi;have HS:=qh hS;clear hS;simp only[w_1,w_2,w_3,w_4,w_5,w_6,w_7,w_8];obtain h|h|h|h|h|h|h|h|h|h|h|h|h|h|h|h|h|h|h|h|h|h:i=0∨i=1∨i=2∨i=3∨i=4∨i=5∨i=6∨i=7∨i=8∨i=9∨i=10∨i=11∨i=12∨i=13∨i=14∨i=15∨i=16∨i=17∨i=18∨i=19∨i=20∨i=21:=by simp at hlt;omega
   all_goals subst h
   all_goals simp only[w_5,w_6,w_7,w_9] at ho
   all_goals subst ho
   all_goals simp[Region.binds] at hun hall
   ·subst hun;go_simp;exact hK _ _ ⟨_,_,_,_,_,_,_,_,_,_,_,_,_,_,_,_,_,_,_,_,_,_,ax1,cx1,ax2,cx2,vb,vh,rfl,(by simp),HS.out⟩
   ·obtain rfl:=hall;subst hun;go_simp
    go_at_call 18
    refine(ZaZ L _ _ (HXP.out.below HS.out.bel) true Hvok.out).mono ?_;rintro e u1 ⟨rfl,hb⟩;have hS2:=HS.out.call hb;replace hS2:=qh hS2;go_simp;exact hK _ _ ⟨_,_,_,_,_,_,_,_,_,_,_,_,_,_,_,_,_,_,_,_,_,_,ax1,cx1,ax2,cx2,vb,vh,rfl,(by simp),hS2.out⟩
   ·obtain rfl:=hall;subst hun;go_simp;exact hK _ _ ⟨_,_,_,_,_,_,_,_,_,_,_,_,_,_,_,_,_,_,_,_,_,_,ax1,cx1,ax2,cx2,vb,vh,rfl,(by simp),HS.out⟩
   ·obtain rfl:=hall;subst hun;go_simp;exact hK _ _ ⟨_,_,_,_,_,_,_,_,_,_,_,_,_,_,_,_,_,_,_,_,_,_,ax1,cx1,ax2,cx2,vb,vh,rfl,(by simp),HS.out⟩
   ·obtain rfl:=hall;subst hun;go_simp;exact hK _ _ ⟨_,_,_,_,_,_,_,_,_,_,_,_,_,_,_,_,_,_,_,_,_,_,ax1,cx1,ax2,cx2,vb,vh,rfl,(by simp),HS.out⟩
   ·obtain⟨rfl,rfl,rfl⟩:=hall;subst hun;go_simp
    go_at_call 19
    refine(ZcF L l _ _ q Hhr.out (HXP.out.below HS.out.bel) ht.out (by omega)).mono ?_;rintro e u1 ⟨rfl,hb⟩;have hS2:=HS.out.call hb;replace hS2:=qh hS2;go_simp;exact hK _ _ ⟨_,_,_,_,_,_,_,_,_,_,_,_,_,_,_,_,_,_,_,_,_,_,ax1,cx1,ax2,cx2,vb,vh,rfl,(by simp),hS2.out⟩
   ·obtain rfl:=hall;subst hun;have e0:=(bcell HS.out.bel (w1.heap.size) (0) HltD.out).trans D0.out;have e1:=(bcell HS.out.bel (w1.heap.size) (1) HltD.out).trans D1.out;go_simp;exact hK _ _ ⟨_,_,_,_,_,_,_,_,_,_,_,_,_,_,_,_,_,_,_,_,_,_,ax1,cx1,ax2,cx2,vb,vh,rfl,(by simp),HS.out⟩
   ·obtain rfl:=hall;subst hun;go_simp;exact hK _ _ ⟨_,_,_,_,_,_,_,_,_,_,_,_,_,_,_,_,_,_,_,_,_,_,ax1,cx1,ax2,cx2,vb,vh,rfl,(by simp),HS.out⟩
   ·obtain⟨rfl,rfl,rfl,rfl⟩:=hall;subst hun;go_simp
    go_at_call 20
    refine(ZgM d l _ _ ht.out (by omega) (HXD.out.below HS.out.bel) Hdok.out q Hacc.out).mono ?_;rintro e u1 ⟨rfl,hb⟩;have hS2:=HS.out.call hb;replace hS2:=qh hS2;go_simp;exact hK _ _ ⟨_,_,_,_,_,_,_,_,_,_,_,_,_,_,_,_,_,_,_,_,_,_,ax1,cx1,ax2,cx2,vb,vh,rfl,(by simp),hS2.out⟩
   ·obtain⟨rfl,rfl,rfl⟩:=hall;subst hun;go_simp;exact hK _ _ ⟨_,_,_,_,_,_,_,_,_,_,_,_,_,_,_,_,_,_,_,_,_,_,ax1,cx1,ax2,cx2,vb,vh,rfl,(by simp),HS.out⟩
   ·obtain⟨rfl,rfl⟩:=hall;subst hun;go_simp;exact hK _ _ ⟨_,_,_,_,_,_,_,_,_,_,_,_,_,_,_,_,_,_,_,_,_,_,ax1,cx1,ax2,cx2,vb,vh,rfl,(by simp),HS.out⟩
   ·obtain⟨rfl,rfl⟩:=hall;subst hun;go_simp;exact hK _ _ ⟨_,_,_,_,_,_,_,_,_,_,_,_,_,_,_,_,_,_,_,_,_,_,ax1,cx1,ax2,cx2,vb,vh,rfl,(by simp),HS.out⟩
   ·obtain rfl:=hall;subst hun;go_simp;exact hK _ _ ⟨_,_,_,_,_,_,_,_,_,_,_,_,_,_,_,_,_,_,_,_,_,_,ax1,cx1,ax2,cx2,vb,vh,rfl,(by simp),HS.out⟩
   ·obtain⟨rfl,rfl⟩:=hall;subst hun;go_simp;exact hK _ _ ⟨_,_,_,_,_,_,_,_,_,_,_,_,_,_,_,_,_,_,_,_,_,_,ax1,cx1,ax2,cx2,vb,vh,rfl,(by simp),HS.out⟩
   ·obtain⟨rfl,rfl⟩:=hall;subst hun;go_simp;exact hK _ _ ⟨_,_,_,_,_,_,_,_,_,_,_,_,_,_,_,_,_,_,_,_,_,_,ax1,cx1,ax2,cx2,vb,vh,rfl,(by simp),HS.out⟩
   ·obtain rfl:=hall;subst hun;have e0:=(bcell HS.out.bel (w6.heap.size) (0) HltE.out).trans E0.out;have e1:=(bcell HS.out.bel (w6.heap.size) (1) HltE.out).trans E1.out;go_simp;exact hK _ _ ⟨_,_,_,_,_,_,_,_,_,_,_,_,_,_,_,_,_,_,_,_,_,_,ax1,cx1,ax2,cx2,vb,vh,rfl,(by simp),HS.out⟩
   ·obtain rfl:=hall;subst hun;have e0:=(bcell HS.out.bel (w1.heap.size) (0) HltD.out).trans D0.out;have e1:=(bcell HS.out.bel (w1.heap.size) (1) HltD.out).trans D1.out;go_simp;exact hK _ _ ⟨_,_,_,_,_,_,_,_,_,_,_,_,_,_,_,_,_,_,_,_,_,_,ax1,cx1,ax2,cx2,vb,vh,rfl,(by simp),HS.out⟩
   ·obtain⟨rfl,rfl⟩:=hall;subst hun;go_simp
    go_at_call 21
    refine(Hmi.out _ _ (HXD.out.below HS.out.bel)).mono ?_;rintro e u1 ⟨z1,z2,z3,z4,rfl,hr,hb⟩;have hS2:=(HS.out.dfaV hb hr).pick [1] (by decide);replace hS2:=qh hS2;go_simp;exact hK _ _ ⟨_,_,_,_,_,_,_,_,_,_,_,_,_,_,_,_,_,_,_,_,_,_,z1,z2,z3,z4,w'.heap.size,u1.heap.size,rfl,(by simp),hS2.out⟩
   ·obtain⟨rfl,rfl,rfl⟩:=hall;subst hun;go_simp
    go_at_call 11
    refine(Zj8 E _ _ _ (HXE.out.below HS.out.bel) (HS.out.dfaVr 0 rfl)).mono ?_;rintro e u1 ⟨rfl,hb⟩;have hS2:=HS.out.call hb;replace hS2:=qh hS2;go_simp;exact hK _ _ ⟨_,_,_,_,_,_,_,_,_,_,_,_,_,_,_,_,_,_,_,_,_,_,ax1,cx1,ax2,cx2,vb,vh,rfl,(by simp),hS2.out⟩
   ·obtain⟨rfl,rfl,rfl⟩:=hall;subst hun;go_simp;exact hK _ _ ⟨_,_,_,_,_,_,_,_,_,_,_,_,_,_,_,_,_,_,_,_,_,_,ax1,cx1,ax2,cx2,vb,vh,rfl,(by simp),HS.out⟩
   ·obtain⟨rfl,rfl⟩:=hall;subst hun;go_simp;exact hK _ _ ⟨_,_,_,_,_,_,_,_,_,_,_,_,_,_,_,_,_,_,_,_,_,_,ax1,cx1,ax2,cx2,vb,vh,rfl,(by simp),HS.out⟩
   obtain⟨rfl,rfl,rfl,rfl,rfl,rfl,rfl,rfl,rfl,rfl,rfl,rfl,rfl,rfl,rfl,rfl,rfl,rfl,rfl,rfl,-,rfl,-⟩:=hall;subst hun;go_simp;exact hK _ _ ⟨_,_,_,_,_,_,_,_,_,_,_,_,_,_,_,_,_,_,_,_,_,_,ax1,cx1,ax2,cx2,vb,vh,rfl,(by simp),HS.out⟩
  ·rintro listed a w' ⟨l0,l1,l2,l3,l4,l5,l6,l7,l8,l9,l10,l11,l12,l13,l14,l15,l16,l17,l18,l19,l20,l21,ax1,cx1,ax2,cx2,vb,vh,rfl,rfl,hS⟩ hr;obtain⟨rfl,rfl,rfl,rfl,rfl,rfl,rfl,rfl,rfl,rfl,rfl,rfl,rfl,rfl,rfl,rfl,rfl,rfl,rfl,rfl,rfl,rfl,-⟩:=zA (ZaG (by kernel_rfl) rfl hr) rfl;clear hr ;simp only[↓reduceIte] at hS ⊢;simp only[w_1,w_2,w_3];have HSf:=qh hS;clear hS;go_wp2;go_ret;exact⟨rfl,HSL.out.bel.trans (HSf.out.bel.mono HSL.out.bel.size)⟩
  refine⟨false,false,false,false,false,false,false,false,false,false,false,false,false,false,false,false,false,false,false,false,false,false,none,0,none,0,0,0,rfl,(by simp),?_⟩;exact(St.start (w6.alloc (.cells #[.slice r1b E.next.length s1b,.slice r2b E.ends.length s2b] 32))).drew.pick [0] (by decide)
end Go.Proofs.YtehmjmjedopkkaaGreat
