/-
  The walk over the law FnExprOther.
  Condition: the argument reads as bytes.
-/
import Derived.Test.YtehmjmjedopkkaaGreatPn49Xps
import Derived.Test.YtehmjmjedopkkaaGreatPn50Lb
set_option maxHeartbeats 16000000
set_option maxRecDepth 100000
namespace Go.Proofs.YtehmjmjedopkkaaGreat
open Go.RowKit
theorem ZgE (bs:List Nat) (v:Value) (w:World) (hb:Bytes 0 w v bs) :
  Calls Tryz.prog 5 #[v] w fun e w'=>e = .returned (.bool true)∧Below w.heap.size w w':=by
 have HB:=qh hb;obtain⟨av,cv,rfl,hcv1,hcv2,-⟩:=hb.form;clear hb;by_cases hlen:1048576<bs.length
 ·have hl2:(1048576:Int)<bs.length:=by omega
  go_enter Tryz.func5, Tryz.ntmps5
  go_wp2;go_ret;exact⟨rfl,Below.refl _ _⟩
 have hl2:¬ (1048576:Int)<bs.length:=by omega
 go_enter Tryz.func5, Tryz.ntmps5
 go_wp2_with fail;refine(ZgG bs _ _ HB.out (by omega)).mono ?_;rintro e w1 ⟨d,a1,a2,c1,c2,hsm,rfl,hd,hb1⟩;have HS1:=qh (((St.start w).call hb1).alloc _ rfl #[.slice a1 d.next.length c1,.slice a2 d.ends.length c2] 32);have HR:=qh (hd.below ((Below.refl w1.heap.size w1).alloc (Nat.le_refl _) (.cells #[.slice a1 d.next.length c1,.slice a2 d.ends.length c2] 32)));clear hb1 hd;obtain⟨L,b,hA⟩:=Zlj d;have hl:=Zo5 hA;have hff:(b != b)=false:=by simp
 have hwi:=fun (v:Value) (u:World) h=>ZgC d L b hA v u h
 have hws:=fun (v:Value) (u:World) h=>Zgt d L b hA v u h
 obtain⟨K,hK⟩:∃ K,K=40:=⟨40,rfl⟩;obtain⟨M,hM⟩:=eJ (L++[(7,0)]);have hone:=fun (v:Value) (u:World) h=>ZoV 7 L v u (by omega) h
 rw[hM] at hone;obtain⟨o,ho⟩:=Zfo K M;have hC:=fun (v:Value) (w:World) h=>ZdN K hK M o ho v w h
 have hfx:=fun hb E (hE:o=some E)=>@ZmE K hK d E L b hA hb (by rw[← hE,hM];exact ho)
 obtain⟨E,hE⟩:∃ D,o.getD zeD=D:=⟨_,rfl⟩;obtain⟨g,hg⟩:=eJ (o.isSome);rw[hE,hg] at hC;have HALL:=qh (fun (h1:b=true) (h2:g=true)=>hfx h1 E (by obtain⟨x1,q1⟩:=Option.isSome_iff_exists.1 (hg.trans h2);rw[q1,← hE,q1];rfl));have Hone:=qh hone;have Hwi:=qh hwi;have Hws:=qh hws;have HK1:=qh hC;clear hwi hws hC hfx hE hg ho hK hA hone hM;have e0:=HS1.out.cell (v:=.slice a1 d.next.length c1) 0 0 rfl rfl;have e1:=HS1.out.cell (v:=.slice a2 d.ends.length c2) 0 1 rfl rfl;go_wp2_with fail;refine(Hwi.out _ _ HR.out).mono ?_;rintro e w2 ⟨gE,cE,rfl,hp,hb⟩;have HP:=qh hp;have HR2:=qh (HR.out.below hb);have HS2:=qh (HS1.out.call hb);clear hp hb e0 e1;have e0:=HS2.out.cell (v:=.slice a1 d.next.length c1) 0 0 rfl rfl;have e1:=HS2.out.cell (v:=.slice a2 d.ends.length c2) 0 1 rfl rfl;go_wp2_with fail;refine(Hws.out _ _ HR2.out).mono ?_;rintro e w3 ⟨gF,cF,rfl,hp,hb⟩;have HQ:=qh hp;have HP3:=qh (HP.out.below hb);have HR3:=qh (HR2.out.below hb);have HS3:=qh (HS2.out.call hb);clear hp hb e0 e1;go_wp2_with fail;refine(Zhn L _ _ _ (by omega) HP3.out HQ.out).mono ?_;rintro e w4 ⟨rfl,hb⟩;have HP4:=qh (HP3.out.below hb);have HR4:=qh (HR3.out.below hb);have HS4:=qh (HS3.out.call hb);clear hb HP HQ HP3 HR HR2 HR3 HS1 HS2 HS3;cases b with
 | false =>
  go_wp2_with fail;refine(Hone.out _ _ HP4.out).mono ?_;rintro e w5 ⟨a5,c5,rfl,hS⟩;have HQ5:=qh (Zam (hS.row 0 rfl));have HR5:=qh (HR4.out.below hS.bel);have HS5:=qh (HS4.out.call hS.bel);clear hS;go_wp2_with fail;refine(HK1.out _ _ HQ5.out).mono ?_;rintro e w6 ⟨⟨r1b,s1b,r2b,s2b,rfl,hx⟩,hb⟩;have hS7:St w (w6.alloc (.cells #[.slice r1b E.next.length s1b,.slice r2b E.ends.length s2b] 32)) [Ent.box w1.heap.size #[.slice a1 d.next.length c1,.slice a2 d.ends.length c2] 32,Ent.box w6.heap.size #[.slice r1b E.next.length s1b,.slice r2b E.ends.length s2b] 32]:=(HS5.out.call hb).alloc _ rfl #[.slice r1b E.next.length s1b,.slice r2b E.ends.length s2b] 32;have HS7:=qh hS7;have hb6:=(Below.refl w6.heap.size w6).alloc (Nat.le_refl _) (.cells #[.slice r1b E.next.length s1b,.slice r2b E.ends.length s2b] 32);have HXE:=qh (((hx.r).mono (Nat.zero_le _)).below hb6);have HXD:=qh ((HR5.out.below hb).below hb6);have HSL:=qh ((St.start w).call HS7.out.bel);clear hx hb hb6 HQ5 HR4 HR5 HS5 HK1 HS4 hS7 Hwi Hws;have D0:=qh (HS7.out.cell (v:=.slice a1 d.next.length c1) 0 0 rfl rfl);have D1:=qh (HS7.out.cell (v:=.slice a2 d.ends.length c2) 0 1 rfl rfl);have HltD:=qh (HS7.out.boxlt 0 rfl).2;have E0:=qh (HS7.out.cell (v:=.slice r1b E.next.length s1b) 1 0 rfl rfl);have E1:=qh (HS7.out.cell (v:=.slice r2b E.ends.length s2b) 1 1 rfl rfl);have HltE:=qh (HS7.out.boxlt 1 rfl).2;clear HS7;go_wp2;refine wp_region_any (by kernel_rfl) ?_
  refine Zap (fun A listed a w'=>∃ (l0 l1 l2 l3 l4 l5 l6 l7 l8 l9 l10 l11 l12 l13 l14 l15:Bool) ,listed=#[l0,l1,l2,l3,l4,l5,l6,l7,l8,l9,l10,l11,l12,l13,l14,l15] ∧
    a=⟨((((((((((A.tmps.setIfInBounds 40 (if l0=true then .bool false else A.tmps.getD 40 undef)).setIfInBounds 41 (if l1=true then .bool true else A.tmps.getD 41 undef)).setIfInBounds 42 (if l2=true then .bool true else A.tmps.getD 42 undef)).setIfInBounds 45 (if l5=true then .bool true else A.tmps.getD 45 undef)).setIfInBounds 46 (if l6=true then .bool true else A.tmps.getD 46 undef)).setIfInBounds 51 (if l11=true then .bool true else A.tmps.getD 51 undef)).setIfInBounds 52 (if l12=true then .bool true else A.tmps.getD 52 undef)).setIfInBounds 53 (if l13=true then .bool true else A.tmps.getD 53 undef)).setIfInBounds 54 (if l14=true then .bool true else A.tmps.getD 54 undef)).setIfInBounds 2 (.bool l15)),A.defers⟩ ∧
    St (w6.alloc (.cells #[.slice r1b E.next.length s1b,.slice r2b E.ends.length s2b] 32)) w' []) ?_ ?_ ?_
  ·rintro listed a w' ⟨l0,l1,l2,l3,l4,l5,l6,l7,l8,l9,l10,l11,l12,l13,l14,l15,rfl,rfl,hS⟩ i hi;obtain⟨hun,o,ho,hall⟩:=mem_ready.1 hi;have hlt:=(Array.getElem?_eq_some_iff.1 ho).1;refine wpOp_step ho (fun K hK => ?_);clear hi;have HS:=qh hS;clear hS;simp only[List.setIfInBounds_toArray,List.set_cons_zero,List.set_cons_succ,Array.getD_eq_getD_getElem?,List.getElem?_toArray,List.getElem?_cons_zero,List.getElem?_cons_succ,Option.getD_some];obtain h|h|h|h|h|h|h|h|h|h|h|h|h|h|h|h:i=0∨i=1∨i=2∨i=3∨i=4∨i=5∨i=6∨i=7∨i=8∨i=9∨i=10∨i=11∨i=12∨i=13∨i=14∨i=15:=by simp at hlt;omega
   all_goals subst h
   all_goals simp only[List.getElem?_toArray,List.getElem?_cons_zero,List.getElem?_cons_succ,Option.some.injEq] at ho
   all_goals subst ho
   all_goals simp[Region.binds] at hun hall
   ·subst hun;go_simp;exact hK _ _ ⟨true,l1,l2,l3,l4,l5,l6,l7,l8,l9,l10,l11,l12,l13,l14,l15,rfl,(by simp),HS.out⟩
   ·obtain rfl:=hall;subst hun;go_simp;exact hK _ _ ⟨true,true,l2,l3,l4,l5,l6,l7,l8,l9,l10,l11,l12,l13,l14,l15,rfl,(by simp),HS.out⟩
   ·obtain rfl:=hall;subst hun;go_simp;exact hK _ _ ⟨l0,true,true,l3,l4,l5,l6,l7,l8,l9,l10,l11,l12,l13,l14,l15,rfl,(by simp),HS.out⟩
   ·obtain rfl:=hall;subst hun;go_simp;exact hK _ _ ⟨l0,l1,true,true,l4,l5,l6,l7,l8,l9,l10,l11,l12,l13,l14,l15,rfl,(by simp),HS.out⟩
   ·obtain⟨rfl,rfl⟩:=hall;subst hun;go_simp;exact hK _ _ ⟨l0,l1,true,true,true,l5,l6,l7,l8,l9,l10,l11,l12,l13,l14,l15,rfl,(by simp),HS.out⟩
   ·obtain⟨rfl,rfl⟩:=hall;subst hun;go_simp;exact hK _ _ ⟨l0,l1,true,l3,true,true,l6,l7,l8,l9,l10,l11,l12,l13,l14,l15,rfl,(by simp),HS.out⟩
   ·obtain⟨rfl,rfl⟩:=hall;subst hun;go_simp;exact hK _ _ ⟨l0,l1,true,l3,l4,true,true,l7,l8,l9,l10,l11,l12,l13,l14,l15,rfl,(by simp),HS.out⟩
   ·obtain rfl:=hall;subst hun;go_simp;exact hK _ _ ⟨l0,l1,l2,l3,l4,l5,true,true,l8,l9,l10,l11,l12,l13,l14,l15,rfl,(by simp),HS.out⟩
   ·obtain rfl:=hall;subst hun;go_simp;exact hK _ _ ⟨l0,l1,l2,l3,l4,l5,true,l7,true,l9,l10,l11,l12,l13,l14,l15,rfl,(by simp),HS.out⟩
   ·obtain⟨rfl,rfl⟩:=hall;subst hun;go_simp;exact hK _ _ ⟨l0,l1,l2,l3,l4,l5,true,l7,true,true,l10,l11,l12,l13,l14,l15,rfl,(by simp),HS.out⟩
   ·obtain⟨rfl,rfl,rfl⟩:=hall;subst hun;go_simp;exact hK _ _ ⟨l0,l1,l2,l3,l4,l5,true,true,l8,true,true,l11,l12,l13,l14,l15,rfl,(by simp),HS.out⟩
   ·obtain⟨rfl,rfl⟩:=hall;subst hun;go_simp;exact hK _ _ ⟨l0,l1,l2,l3,l4,l5,true,l7,l8,l9,true,true,l12,l13,l14,l15,rfl,(by simp),HS.out⟩
   ·obtain⟨rfl,rfl⟩:=hall;subst hun;go_simp;exact hK _ _ ⟨l0,l1,l2,l3,l4,l5,l6,l7,l8,l9,true,true,true,l13,l14,l15,rfl,(by simp),HS.out⟩
   ·obtain rfl:=hall;subst hun;go_simp
    go_at_call 13
    refine(Zgr _).mono ?_;rintro e u1 ⟨rfl,rfl⟩;go_simp;exact hK _ _ ⟨l0,l1,l2,l3,l4,l5,l6,l7,l8,l9,l10,l11,true,true,l14,l15,rfl,(by simp),HS.out⟩
   ·obtain⟨rfl,rfl⟩:=hall;subst hun;go_simp;exact hK _ _ ⟨l0,l1,l2,l3,l4,l5,l6,l7,l8,l9,l10,l11,true,true,true,l15,rfl,(by simp),HS.out⟩
   obtain⟨rfl,rfl,rfl,rfl,rfl,rfl,rfl,rfl,rfl,rfl,rfl,rfl,rfl,rfl,rfl,-⟩:=hall;subst hun;go_simp;exact hK _ _ ⟨true,true,true,true,true,true,true,true,true,true,true,true,true,true,true,true,rfl,(by simp),HS.out⟩
  ·rintro listed a w' ⟨l0,l1,l2,l3,l4,l5,l6,l7,l8,l9,l10,l11,l12,l13,l14,l15,rfl,rfl,hS⟩ hr;have hall:=ZaH (by kernel_rfl) rfl hr;obtain rfl:l0=true:=by simpa using hall 0 (by simp)
   obtain rfl:l1=true:=by simpa using hall 1 (by simp)
   obtain rfl:l2=true:=by simpa using hall 2 (by simp)
   obtain rfl:l3=true:=by simpa using hall 3 (by simp)
   obtain rfl:l4=true:=by simpa using hall 4 (by simp)
   obtain rfl:l5=true:=by simpa using hall 5 (by simp)
   obtain rfl:l6=true:=by simpa using hall 6 (by simp)
   obtain rfl:l7=true:=by simpa using hall 7 (by simp)
   obtain rfl:l8=true:=by simpa using hall 8 (by simp)
   obtain rfl:l9=true:=by simpa using hall 9 (by simp)
   obtain rfl:l10=true:=by simpa using hall 10 (by simp)
   obtain rfl:l11=true:=by simpa using hall 11 (by simp)
   obtain rfl:l12=true:=by simpa using hall 12 (by simp)
   obtain rfl:l13=true:=by simpa using hall 13 (by simp)
   obtain rfl:l14=true:=by simpa using hall 14 (by simp)
   obtain rfl:l15=true:=by simpa using hall 15 (by simp)
   clear hall hr ;simp only[↓reduceIte] at hS ⊢;simp only[List.setIfInBounds_toArray,List.set_cons_zero,List.set_cons_succ];have HSf:=qh hS;clear hS;go_wp2;go_ret;exact⟨rfl,HSL.out.bel.trans (HSf.out.bel.mono HSL.out.bel.size)⟩
  refine⟨false,false,false,false,false,false,false,false,false,false,false,false,false,false,false,false,rfl,(by simp),?_⟩;exact(St.start (w6.alloc (.cells #[.slice r1b E.next.length s1b,.slice r2b E.ends.length s2b] 32))).drew.pick [] (by decide)
 | true =>
  go_wp2_with fail;refine(Hone.out _ _ HP4.out).mono ?_;rintro e w5 ⟨a5,c5,rfl,hS⟩;have HQ5:=qh (Zam (hS.row 0 rfl));have HR5:=qh (HR4.out.below hS.bel);have HS5:=qh (HS4.out.call hS.bel);clear hS;go_wp2_with fail;refine(HK1.out _ _ HQ5.out).mono ?_;rintro e w6 ⟨⟨r1b,s1b,r2b,s2b,rfl,hx⟩,hb⟩;have hS7:St w (w6.alloc (.cells #[.slice r1b E.next.length s1b,.slice r2b E.ends.length s2b] 32)) [Ent.box w1.heap.size #[.slice a1 d.next.length c1,.slice a2 d.ends.length c2] 32,Ent.box w6.heap.size #[.slice r1b E.next.length s1b,.slice r2b E.ends.length s2b] 32]:=(HS5.out.call hb).alloc _ rfl #[.slice r1b E.next.length s1b,.slice r2b E.ends.length s2b] 32;have HS7:=qh hS7;have hb6:=(Below.refl w6.heap.size w6).alloc (Nat.le_refl _) (.cells #[.slice r1b E.next.length s1b,.slice r2b E.ends.length s2b] 32);have HXE:=qh (((hx.r).mono (Nat.zero_le _)).below hb6);have HXD:=qh ((HR5.out.below hb).below hb6);have HSL:=qh ((St.start w).call HS7.out.bel);clear hx hb hb6 HQ5 HR4 HR5 HS5 HK1 HS4 hS7 Hwi Hws;have D0:=qh (HS7.out.cell (v:=.slice a1 d.next.length c1) 0 0 rfl rfl);have D1:=qh (HS7.out.cell (v:=.slice a2 d.ends.length c2) 0 1 rfl rfl);have HltD:=qh (HS7.out.boxlt 0 rfl).2;have E0:=qh (HS7.out.cell (v:=.slice r1b E.next.length s1b) 1 0 rfl rfl);have E1:=qh (HS7.out.cell (v:=.slice r2b E.ends.length s2b) 1 1 rfl rfl);have HltE:=qh (HS7.out.boxlt 1 rfl).2;cases g
  ·clear HS7;go_wp2;refine wp_region_any (by kernel_rfl) ?_
   refine Zap (fun A listed a w'=>∃ (l0 l1 l2 l3 l4 l5 l6 l7 l8 l9 l10 l11 l12 l13 l14 l15:Bool) ,listed=#[l0,l1,l2,l3,l4,l5,l6,l7,l8,l9,l10,l11,l12,l13,l14,l15] ∧
     a=⟨((((((((((((A.tmps.setIfInBounds 40 (if l0=true then .bool true else A.tmps.getD 40 undef)).setIfInBounds 41 (if l1=true then .bool false else A.tmps.getD 41 undef)).setIfInBounds 42 (if l2=true then .bool false else A.tmps.getD 42 undef)).setIfInBounds 43 (if l3=true then .bool false else A.tmps.getD 43 undef)).setIfInBounds 44 (if l4=true then .bool true else A.tmps.getD 44 undef)).setIfInBounds 45 (if l5=true then .bool true else A.tmps.getD 45 undef)).setIfInBounds 46 (if l6=true then .bool true else A.tmps.getD 46 undef)).setIfInBounds 51 (if l11=true then .bool true else A.tmps.getD 51 undef)).setIfInBounds 52 (if l12=true then .bool true else A.tmps.getD 52 undef)).setIfInBounds 53 (if l13=true then .bool true else A.tmps.getD 53 undef)).setIfInBounds 54 (if l14=true then .bool true else A.tmps.getD 54 undef)).setIfInBounds 2 (.bool l15)),A.defers⟩ ∧
     St (w6.alloc (.cells #[.slice r1b E.next.length s1b,.slice r2b E.ends.length s2b] 32)) w' []) ?_ ?_ ?_
   ·rintro listed a w' ⟨l0,l1,l2,l3,l4,l5,l6,l7,l8,l9,l10,l11,l12,l13,l14,l15,rfl,rfl,hS⟩ i hi;obtain⟨hun,o,ho,hall⟩:=mem_ready.1 hi;have hlt:=(Array.getElem?_eq_some_iff.1 ho).1;refine wpOp_step ho (fun K hK => ?_);clear hi;have HS:=qh hS;clear hS;simp only[List.setIfInBounds_toArray,List.set_cons_zero,List.set_cons_succ,Array.getD_eq_getD_getElem?,List.getElem?_toArray,List.getElem?_cons_zero,List.getElem?_cons_succ,Option.getD_some];obtain h|h|h|h|h|h|h|h|h|h|h|h|h|h|h|h:i=0∨i=1∨i=2∨i=3∨i=4∨i=5∨i=6∨i=7∨i=8∨i=9∨i=10∨i=11∨i=12∨i=13∨i=14∨i=15:=by simp at hlt;omega
    all_goals subst h
    all_goals simp only[List.getElem?_toArray,List.getElem?_cons_zero,List.getElem?_cons_succ,Option.some.injEq] at ho
    all_goals subst ho
    all_goals simp[Region.binds] at hun hall
    ·subst hun;go_simp;exact hK _ _ ⟨true,l1,l2,l3,l4,l5,l6,l7,l8,l9,l10,l11,l12,l13,l14,l15,rfl,(by simp),HS.out⟩
    ·obtain rfl:=hall;subst hun;go_simp;exact hK _ _ ⟨true,true,l2,l3,l4,l5,l6,l7,l8,l9,l10,l11,l12,l13,l14,l15,rfl,(by simp),HS.out⟩
    ·obtain rfl:=hall;subst hun;go_simp;exact hK _ _ ⟨l0,true,true,l3,l4,l5,l6,l7,l8,l9,l10,l11,l12,l13,l14,l15,rfl,(by simp),HS.out⟩
    ·obtain rfl:=hall;subst hun;go_simp;exact hK _ _ ⟨l0,l1,true,true,l4,l5,l6,l7,l8,l9,l10,l11,l12,l13,l14,l15,rfl,(by simp),HS.out⟩
    ·obtain⟨rfl,rfl⟩:=hall;subst hun;go_simp;exact hK _ _ ⟨l0,l1,true,true,true,l5,l6,l7,l8,l9,l10,l11,l12,l13,l14,l15,rfl,(by simp),HS.out⟩
    ·obtain⟨rfl,rfl⟩:=hall;subst hun;go_simp;exact hK _ _ ⟨l0,l1,true,l3,true,true,l6,l7,l8,l9,l10,l11,l12,l13,l14,l15,rfl,(by simp),HS.out⟩
    ·obtain⟨rfl,rfl⟩:=hall;subst hun;go_simp;exact hK _ _ ⟨l0,l1,true,l3,l4,true,true,l7,l8,l9,l10,l11,l12,l13,l14,l15,rfl,(by simp),HS.out⟩
    ·obtain rfl:=hall;subst hun;go_simp;exact hK _ _ ⟨l0,l1,l2,l3,l4,l5,true,true,l8,l9,l10,l11,l12,l13,l14,l15,rfl,(by simp),HS.out⟩
    ·obtain rfl:=hall;subst hun;go_simp;exact hK _ _ ⟨l0,l1,l2,l3,l4,l5,true,l7,true,l9,l10,l11,l12,l13,l14,l15,rfl,(by simp),HS.out⟩
    ·obtain⟨rfl,rfl⟩:=hall;subst hun;go_simp;exact hK _ _ ⟨l0,l1,l2,l3,l4,l5,true,l7,true,true,l10,l11,l12,l13,l14,l15,rfl,(by simp),HS.out⟩
    ·obtain⟨rfl,rfl,rfl⟩:=hall;subst hun;go_simp;exact hK _ _ ⟨l0,l1,l2,l3,l4,l5,true,true,l8,true,true,l11,l12,l13,l14,l15,rfl,(by simp),HS.out⟩
    ·obtain⟨rfl,rfl⟩:=hall;subst hun;go_simp;exact hK _ _ ⟨l0,l1,l2,l3,l4,l5,true,l7,l8,l9,true,true,l12,l13,l14,l15,rfl,(by simp),HS.out⟩
    ·obtain⟨rfl,rfl⟩:=hall;subst hun;go_simp;exact hK _ _ ⟨l0,l1,l2,l3,l4,l5,l6,l7,l8,l9,true,true,true,l13,l14,l15,rfl,(by simp),HS.out⟩
    ·obtain rfl:=hall;subst hun;go_simp
     go_at_call 13
     refine(Zgr _).mono ?_;rintro e u1 ⟨rfl,rfl⟩;go_simp;exact hK _ _ ⟨l0,l1,l2,l3,l4,l5,l6,l7,l8,l9,l10,l11,true,true,l14,l15,rfl,(by simp),HS.out⟩
    ·obtain⟨rfl,rfl⟩:=hall;subst hun;go_simp;exact hK _ _ ⟨l0,l1,l2,l3,l4,l5,l6,l7,l8,l9,l10,l11,true,true,true,l15,rfl,(by simp),HS.out⟩
    obtain⟨rfl,rfl,rfl,rfl,rfl,rfl,rfl,rfl,rfl,rfl,rfl,rfl,rfl,rfl,rfl,-⟩:=hall;subst hun;go_simp;exact hK _ _ ⟨true,true,true,true,true,true,true,true,true,true,true,true,true,true,true,true,rfl,(by simp),HS.out⟩
   ·rintro listed a w' ⟨l0,l1,l2,l3,l4,l5,l6,l7,l8,l9,l10,l11,l12,l13,l14,l15,rfl,rfl,hS⟩ hr;have hall:=ZaH (by kernel_rfl) rfl hr;obtain rfl:l0=true:=by simpa using hall 0 (by simp)
    obtain rfl:l1=true:=by simpa using hall 1 (by simp)
    obtain rfl:l2=true:=by simpa using hall 2 (by simp)
    obtain rfl:l3=true:=by simpa using hall 3 (by simp)
    obtain rfl:l4=true:=by simpa using hall 4 (by simp)
    obtain rfl:l5=true:=by simpa using hall 5 (by simp)
    obtain rfl:l6=true:=by simpa using hall 6 (by simp)
    obtain rfl:l7=true:=by simpa using hall 7 (by simp)
    obtain rfl:l8=true:=by simpa using hall 8 (by simp)
    obtain rfl:l9=true:=by simpa using hall 9 (by simp)
    obtain rfl:l10=true:=by simpa using hall 10 (by simp)
    obtain rfl:l11=true:=by simpa using hall 11 (by simp)
    obtain rfl:l12=true:=by simpa using hall 12 (by simp)
    obtain rfl:l13=true:=by simpa using hall 13 (by simp)
    obtain rfl:l14=true:=by simpa using hall 14 (by simp)
    obtain rfl:l15=true:=by simpa using hall 15 (by simp)
    clear hall hr ;simp only[↓reduceIte] at hS ⊢;simp only[List.setIfInBounds_toArray,List.set_cons_zero,List.set_cons_succ];have HSf:=qh hS;clear hS;go_wp2;go_ret;exact⟨rfl,HSL.out.bel.trans (HSf.out.bel.mono HSL.out.bel.size)⟩
   refine⟨false,false,false,false,false,false,false,false,false,false,false,false,false,false,false,false,rfl,(by simp),?_⟩;exact(St.start (w6.alloc (.cells #[.slice r1b E.next.length s1b,.slice r2b E.ends.length s2b] 32))).drew.pick [] (by decide)
  have hot:=HALL.out (by first|rfl|trivial) (by first|rfl|trivial);have Hot:=qh (fun (v:Value) (u:World) h=>Ze4 d E hot v u h);clear HS7 HALL hot;go_wp2;refine wp_region_any (by kernel_rfl) ?_
  refine Zap (fun A listed a w'=>∃ (l0 l1 l2 l3 l4 l5 l6 l7 l8 l9 l10 l11 l12 l13 l14 l15:Bool) (ax1:Option Addr) (cx1:Nat) (ax2:Option Addr) (cx2:Nat) (vb:Nat) (vh:Nat),listed=#[l0,l1,l2,l3,l4,l5,l6,l7,l8,l9,l10,l11,l12,l13,l14,l15] ∧
    a=⟨((((((((((((((((A.tmps.setIfInBounds 40 (if l0=true then .bool true else A.tmps.getD 40 undef)).setIfInBounds 41 (if l1=true then .bool false else A.tmps.getD 41 undef)).setIfInBounds 42 (if l2=true then .bool false else A.tmps.getD 42 undef)).setIfInBounds 43 (if l3=true then .bool true else A.tmps.getD 43 undef)).setIfInBounds 44 (if l4=true then .bool false else A.tmps.getD 44 undef)).setIfInBounds 45 (if l5=true then .bool false else A.tmps.getD 45 undef)).setIfInBounds 46 (if l6=true then .bool false else A.tmps.getD 46 undef)).setIfInBounds 47 (if l7=true then .agg #[.slice r1b E.next.length s1b,.slice r2b E.ends.length s2b] else A.tmps.getD 47 undef)).setIfInBounds 48 (if l8=true then .agg #[.slice a1 d.next.length c1,.slice a2 d.ends.length c2] else A.tmps.getD 48 undef)).setIfInBounds 49 (if l9=true then .agg #[.slice ax1 E.next.length cx1,.slice ax2 E.ends.length cx2] else A.tmps.getD 49 undef)).setIfInBounds 50 (if l10=true then .bool true else A.tmps.getD 50 undef)).setIfInBounds 51 (if l11=true then .bool true else A.tmps.getD 51 undef)).setIfInBounds 52 (if l12=true then .bool true else A.tmps.getD 52 undef)).setIfInBounds 53 (if l13=true then .bool true else A.tmps.getD 53 undef)).setIfInBounds 54 (if l14=true then .bool true else A.tmps.getD 54 undef)).setIfInBounds 2 (.bool l15)),A.defers⟩ ∧
    St (w6.alloc (.cells #[.slice r1b E.next.length s1b,.slice r2b E.ends.length s2b] 32)) w' [(if l9=true then DfaV vb vh (.slice ax1 E.next.length cx1) (.slice ax2 E.ends.length cx2) E else Ent.nil)]) ?_ ?_ ?_
  ·rintro listed a w' ⟨l0,l1,l2,l3,l4,l5,l6,l7,l8,l9,l10,l11,l12,l13,l14,l15,ax1,cx1,ax2,cx2,vb,vh,rfl,rfl,hS⟩ i hi;obtain⟨hun,o,ho,hall⟩:=mem_ready.1 hi;have hlt:=(Array.getElem?_eq_some_iff.1 ho).1;refine wpOp_step ho (fun K hK => ?_);clear hi;have HS:=qh hS;clear hS;simp only[List.setIfInBounds_toArray,List.set_cons_zero,List.set_cons_succ,Array.getD_eq_getD_getElem?,List.getElem?_toArray,List.getElem?_cons_zero,List.getElem?_cons_succ,Option.getD_some];obtain h|h|h|h|h|h|h|h|h|h|h|h|h|h|h|h:i=0∨i=1∨i=2∨i=3∨i=4∨i=5∨i=6∨i=7∨i=8∨i=9∨i=10∨i=11∨i=12∨i=13∨i=14∨i=15:=by simp at hlt;omega
   all_goals subst h
   all_goals simp only[List.getElem?_toArray,List.getElem?_cons_zero,List.getElem?_cons_succ,Option.some.injEq] at ho
   all_goals subst ho
   all_goals simp[Region.binds] at hun hall
   ·subst hun;go_simp;exact hK _ _ ⟨true,l1,l2,l3,l4,l5,l6,l7,l8,l9,l10,l11,l12,l13,l14,l15,ax1,cx1,ax2,cx2,vb,vh,rfl,(by simp),HS.out⟩
   ·obtain rfl:=hall;subst hun;go_simp;exact hK _ _ ⟨true,true,l2,l3,l4,l5,l6,l7,l8,l9,l10,l11,l12,l13,l14,l15,ax1,cx1,ax2,cx2,vb,vh,rfl,(by simp),HS.out⟩
   ·obtain rfl:=hall;subst hun;go_simp;exact hK _ _ ⟨l0,true,true,l3,l4,l5,l6,l7,l8,l9,l10,l11,l12,l13,l14,l15,ax1,cx1,ax2,cx2,vb,vh,rfl,(by simp),HS.out⟩
   ·obtain rfl:=hall;subst hun;go_simp;exact hK _ _ ⟨l0,l1,true,true,l4,l5,l6,l7,l8,l9,l10,l11,l12,l13,l14,l15,ax1,cx1,ax2,cx2,vb,vh,rfl,(by simp),HS.out⟩
   ·obtain⟨rfl,rfl⟩:=hall;subst hun;go_simp;exact hK _ _ ⟨l0,l1,true,true,true,l5,l6,l7,l8,l9,l10,l11,l12,l13,l14,l15,ax1,cx1,ax2,cx2,vb,vh,rfl,(by simp),HS.out⟩
   ·obtain⟨rfl,rfl⟩:=hall;subst hun;go_simp;exact hK _ _ ⟨l0,l1,true,l3,true,true,l6,l7,l8,l9,l10,l11,l12,l13,l14,l15,ax1,cx1,ax2,cx2,vb,vh,rfl,(by simp),HS.out⟩
   ·obtain⟨rfl,rfl⟩:=hall;subst hun;go_simp;exact hK _ _ ⟨l0,l1,true,l3,l4,true,true,l7,l8,l9,l10,l11,l12,l13,l14,l15,ax1,cx1,ax2,cx2,vb,vh,rfl,(by simp),HS.out⟩
   ·obtain rfl:=hall;subst hun;have e0:=(bcell HS.out.bel (w6.heap.size) (0) HltE.out).trans E0.out;have e1:=(bcell HS.out.bel (w6.heap.size) (1) HltE.out).trans E1.out;go_simp;exact hK _ _ ⟨l0,l1,l2,l3,l4,l5,true,true,l8,l9,l10,l11,l12,l13,l14,l15,ax1,cx1,ax2,cx2,vb,vh,rfl,(by simp),HS.out⟩
   ·obtain rfl:=hall;subst hun;have e0:=(bcell HS.out.bel (w1.heap.size) (0) HltD.out).trans D0.out;have e1:=(bcell HS.out.bel (w1.heap.size) (1) HltD.out).trans D1.out;go_simp;exact hK _ _ ⟨l0,l1,l2,l3,l4,l5,true,l7,true,l9,l10,l11,l12,l13,l14,l15,ax1,cx1,ax2,cx2,vb,vh,rfl,(by simp),HS.out⟩
   ·obtain⟨rfl,rfl⟩:=hall;subst hun;go_simp
    go_at_call 23
    refine(Hot.out _ _ (HXD.out.below HS.out.bel)).mono ?_;rintro e u1 ⟨z1,z2,z3,z4,rfl,hr,hb⟩;have hS2:=(HS.out.dfaV hb hr).pick [1] (by decide);replace hS2:=qh hS2;go_simp;exact hK _ _ ⟨l0,l1,l2,l3,l4,l5,true,l7,true,true,l10,l11,l12,l13,l14,l15,z1,z2,z3,z4,w'.heap.size,u1.heap.size,rfl,(by simp),hS2.out⟩
   ·obtain⟨rfl,rfl,rfl⟩:=hall;subst hun;go_simp
    go_at_call 11
    refine(Zjn E _ _ _ (HXE.out.below HS.out.bel) (HS.out.dfaVr 0 rfl)).mono ?_;rintro e u1 ⟨rfl,hb⟩;have hS2:=HS.out.call hb;replace hS2:=qh hS2;go_simp;exact hK _ _ ⟨l0,l1,l2,l3,l4,l5,true,true,l8,true,true,l11,l12,l13,l14,l15,ax1,cx1,ax2,cx2,vb,vh,rfl,(by simp),hS2.out⟩
   ·obtain⟨rfl,rfl⟩:=hall;subst hun;go_simp;exact hK _ _ ⟨l0,l1,l2,l3,l4,l5,true,l7,l8,l9,true,true,l12,l13,l14,l15,ax1,cx1,ax2,cx2,vb,vh,rfl,(by simp),HS.out⟩
   ·obtain⟨rfl,rfl⟩:=hall;subst hun;go_simp;exact hK _ _ ⟨l0,l1,l2,l3,l4,l5,l6,l7,l8,l9,true,true,true,l13,l14,l15,ax1,cx1,ax2,cx2,vb,vh,rfl,(by simp),HS.out⟩
   ·obtain rfl:=hall;subst hun;go_simp
    go_at_call 13
    refine(Zgr _).mono ?_;rintro e u1 ⟨rfl,rfl⟩;go_simp;exact hK _ _ ⟨l0,l1,l2,l3,l4,l5,l6,l7,l8,l9,l10,l11,true,true,l14,l15,ax1,cx1,ax2,cx2,vb,vh,rfl,(by simp),HS.out⟩
   ·obtain⟨rfl,rfl⟩:=hall;subst hun;go_simp;exact hK _ _ ⟨l0,l1,l2,l3,l4,l5,l6,l7,l8,l9,l10,l11,true,true,true,l15,ax1,cx1,ax2,cx2,vb,vh,rfl,(by simp),HS.out⟩
   obtain⟨rfl,rfl,rfl,rfl,rfl,rfl,rfl,rfl,rfl,rfl,rfl,rfl,rfl,rfl,rfl,-⟩:=hall;subst hun;go_simp;exact hK _ _ ⟨true,true,true,true,true,true,true,true,true,true,true,true,true,true,true,true,ax1,cx1,ax2,cx2,vb,vh,rfl,(by simp),HS.out⟩
  ·rintro listed a w' ⟨l0,l1,l2,l3,l4,l5,l6,l7,l8,l9,l10,l11,l12,l13,l14,l15,ax1,cx1,ax2,cx2,vb,vh,rfl,rfl,hS⟩ hr;have hall:=ZaH (by kernel_rfl) rfl hr;obtain rfl:l0=true:=by simpa using hall 0 (by simp)
   obtain rfl:l1=true:=by simpa using hall 1 (by simp)
   obtain rfl:l2=true:=by simpa using hall 2 (by simp)
   obtain rfl:l3=true:=by simpa using hall 3 (by simp)
   obtain rfl:l4=true:=by simpa using hall 4 (by simp)
   obtain rfl:l5=true:=by simpa using hall 5 (by simp)
   obtain rfl:l6=true:=by simpa using hall 6 (by simp)
   obtain rfl:l7=true:=by simpa using hall 7 (by simp)
   obtain rfl:l8=true:=by simpa using hall 8 (by simp)
   obtain rfl:l9=true:=by simpa using hall 9 (by simp)
   obtain rfl:l10=true:=by simpa using hall 10 (by simp)
   obtain rfl:l11=true:=by simpa using hall 11 (by simp)
   obtain rfl:l12=true:=by simpa using hall 12 (by simp)
   obtain rfl:l13=true:=by simpa using hall 13 (by simp)
   obtain rfl:l14=true:=by simpa using hall 14 (by simp)
   obtain rfl:l15=true:=by simpa using hall 15 (by simp)
   clear hall hr ;simp only[↓reduceIte] at hS ⊢;simp only[List.setIfInBounds_toArray,List.set_cons_zero,List.set_cons_succ];have HSf:=qh hS;clear hS;go_wp2;go_ret;exact⟨rfl,HSL.out.bel.trans (HSf.out.bel.mono HSL.out.bel.size)⟩
  refine⟨false,false,false,false,false,false,false,false,false,false,false,false,false,false,false,false,none,0,none,0,0,0,rfl,(by simp),?_⟩;exact(St.start (w6.alloc (.cells #[.slice r1b E.next.length s1b,.slice r2b E.ends.length s2b] 32))).drew.pick [0] (by decide)
end Go.Proofs.YtehmjmjedopkkaaGreat
