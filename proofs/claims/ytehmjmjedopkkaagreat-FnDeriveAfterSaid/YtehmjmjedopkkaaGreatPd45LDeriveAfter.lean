/-
  The walk over the law FnDeriveAfter.
  Condition: the argument reads as bytes.
-/
import Derived.Test.YtehmjmjedopkkaaGreatPd38Tux
import Derived.Test.YtehmjmjedopkkaaGreatPd44Lb
set_option maxHeartbeats 16000000
set_option maxRecDepth 100000
namespace Go.Proofs.YtehmjmjedopkkaaGreat
open Go.RowKit
theorem Zfc (bs:List Nat) (v:Value) (w:World) (hb:Bytes 0 w v bs) :
  Calls Tryz.prog 3 #[v] w fun e w'=>e = .returned (.bool true)∧Below w.heap.size w w':=by
 have HB:=qh hb;obtain⟨av,cv,rfl,hcv1,hcv2,-⟩:=hb.form;clear hb;by_cases hlen:1048576<bs.length
 ·have hl2:(1048576:Int)<bs.length:=by omega
  go_enter Tryz.func3, Tryz.ntmps3
  go_wp2;go_ret;exact⟨rfl,Below.refl _ _⟩
 have hl2:¬ (1048576:Int)<bs.length:=by omega
 go_enter Tryz.func3, Tryz.ntmps3
 go_wp2_with fail;refine(Zel bs _ _ HB.out (by omega)).mono ?_;rintro e w1 ⟨es,v0,l,hel,ht,hl,rfl,hp1,hb1⟩;have HW1:=qh hb1;have HP1:=qh hp1;obtain⟨o,ho⟩:=ZoV es l;have hdl:=ZnQ ho;have hwi:=fun (u:World) (h:Pairs 0 u v0 es)=>Zef es l o ho v0 u hel h ht (by omega)
 have hws:=fun (u:World) (h:Pairs 0 u v0 es)=>ZdW es l o ho v0 u hel h ht (by omega)
 obtain⟨K,hK⟩:∃ K,K=40:=⟨40,rfl⟩;obtain⟨o1,ho1⟩:=Zki K es;obtain⟨o2,ho2⟩:=Zki K (o.getD []);have hfx:=fun hs=>@Zmk K hK es l o o1 o2 ho ho1 ho2 (o1.getD zeD) (o2.getD zeD) hs
 have hC1:=fun (v:Value) (w:World) h=>Zco K hK es o1 ho1 v w h
 have hC2:=fun (v:Value) (w:World) h=>Zco K hK (o.getD []) o2 ho2 v w h
 obtain⟨M,hM⟩:∃ m,o.getD []=m:=⟨_,rfl⟩;obtain⟨gk,hgk⟩:∃ g,o.isSome=g:=⟨_,rfl⟩;obtain⟨D,hD⟩:=eJ (o1.getD zeD);obtain⟨g,hg⟩:=eJ (o1.isSome);obtain⟨E,hE⟩:∃ D,o2.getD zeD=D:=⟨_,rfl⟩;obtain⟨g2,hg2⟩:∃ g,o2.isSome=g:=⟨_,rfl⟩;rw[hM,hgk] at hwi hws;rw[hM] at hdl;rw[hD,hg] at hC1;rw[hM,hE,hg2] at hC2;rw[hD,hE] at hfx
 have HALL:=qh (fun (h1:gk=true) (h2:g=true) (h3:g2=true)=>hfx (hgk.trans h1) (by
  obtain⟨x1,q1⟩:=Option.isSome_iff_exists.1 (hg.trans h2);rw[q1,← hD,q1];rfl) (by
  obtain⟨x1,q1⟩:=Option.isSome_iff_exists.1 (hg2.trans h3);rw[q1,← hE,q1];rfl))
 have Hwi:=qh hwi;have Hws:=qh hws;have HK1:=qh hC1;have HK2:=qh hC2;replace ht:=qh ht;clear hb1 hp1 hwi hws hC1 hC2 hfx hM hgk hD hg hE hg2 ho ho1 ho2 hK;go_wp2_with fail;refine(Hwi.out _ HP1.out).mono ?_;rintro e w2 ⟨aT,cT,rfl,hS⟩;have HQ:=qh (Zad (hS.row 0 rfl));have HP2:=qh (HP1.out.below hS.bel);have HS2:=qh ((St.start w1).call hS.bel);clear hS;go_wp2_with fail;refine(Hws.out _ HP2.out).mono ?_;rintro e w3 ⟨aU,cU,rfl,hS⟩;have HU:=qh (Zad (hS.row 0 rfl));have HQ3:=qh (HQ.out.below hS.bel);have HP3:=qh (HP2.out.below hS.bel);have HS3:=qh (HS2.out.call hS.bel);clear hS;go_wp2_with fail;refine(Zhf M _ _ _ (by omega) HQ3.out HU.out).mono ?_;rintro e w4 ⟨rfl,hb⟩;have HQ4:=qh (HQ3.out.below hb);have HP4:=qh (HP3.out.below hb);have HS4:=qh (HS3.out.call hb);clear hb HQ HQ3 HU HP1 HP2 HP3 HS2 HS3;go_wp2_with fail;refine(HK1.out _ _ HP4.out).mono ?_;rintro e w5 ⟨⟨r1a,s1a,r2a,s2a,rfl,hx⟩,hb⟩;have hb5:=(Below.refl w5.heap.size w5).alloc (Nat.le_refl _) (.cells #[.slice r1a D.next.length s1a,.slice r2a D.ends.length s2a] 32);have HS5:=qh ((HS4.out.call hb).alloc _ rfl #[.slice r1a D.next.length s1a,.slice r2a D.ends.length s2a] 32);have HX5:=qh (((hx.r).mono (Nat.zero_le _)).below hb5);have HQ5:=qh ((HQ4.out.below hb).below hb5);clear hx hb hb5 HQ4 HP4;go_wp2_with fail;refine(HK2.out _ _ HQ5.out).mono ?_;rintro e w6 ⟨⟨r1b,s1b,r2b,s2b,rfl,hx⟩,hb⟩
 have hS7:St w1 (w6.alloc (.cells #[.slice r1b E.next.length s1b,.slice r2b E.ends.length s2b] 32)) [Ent.box w5.heap.size #[.slice r1a D.next.length s1a,.slice r2a D.ends.length s2a] 32,Ent.box w6.heap.size #[.slice r1b E.next.length s1b,.slice r2b E.ends.length s2b] 32]:=(HS5.out.call hb).alloc _ rfl #[.slice r1b E.next.length s1b,.slice r2b E.ends.length s2b] 32;have HS7:=qh hS7;have hb6:=(Below.refl w6.heap.size w6).alloc (Nat.le_refl _) (.cells #[.slice r1b E.next.length s1b,.slice r2b E.ends.length s2b] 32);have HXE:=qh (((hx.r).mono (Nat.zero_le _)).below hb6);have HXD:=qh ((HX5.out.below hb).below hb6);have HSL:=qh (((St.start w).call HW1.out).call HS7.out.bel);clear hx hb hb6 HX5 HQ5 HS5 HK1 HK2 HS4 hS7 Hwi Hws;have D0:=qh (HS7.out.cell (v:=.slice r1a D.next.length s1a) 0 0 rfl rfl);have D1:=qh (HS7.out.cell (v:=.slice r2a D.ends.length s2a) 0 1 rfl rfl);have HltD:=qh (HS7.out.boxlt 0 rfl).2;have E0:=qh (HS7.out.cell (v:=.slice r1b E.next.length s1b) 1 0 rfl rfl);have E1:=qh (HS7.out.cell (v:=.slice r2b E.ends.length s2b) 1 1 rfl rfl);have HltE:=qh (HS7.out.boxlt 1 rfl).2;cases gk
 ·clear HS7;go_wp2;refine wp_region_any (by kernel_rfl) ?_
  refine Zam (fun A listed a w'=>∃ (l0 l1 l2 l3 l4 l5 l6 l7 l8 l9 l10 l11 l12 l13 l14 l15 l16 l17 l18 l19 l20:Bool) ,listed=#[l0,l1,l2,l3,l4,l5,l6,l7,l8,l9,l10,l11,l12,l13,l14,l15,l16,l17,l18,l19,l20] ∧
    a=⟨((((((((((((A.tmps.setIfInBounds 52 (if l0=true then .bool false else A.tmps.getD 52 undef)).setIfInBounds 53 (if l1=true then .bool true else A.tmps.getD 53 undef)).setIfInBounds 54 (if l2=true then .bool true else A.tmps.getD 54 undef)).setIfInBounds 57 (if l5=true then .bool true else A.tmps.getD 57 undef)).setIfInBounds 58 (if l6=true then .bool true else A.tmps.getD 58 undef)).setIfInBounds 61 (if l9=true then .bool true else A.tmps.getD 61 undef)).setIfInBounds 62 (if l10=true then .bool true else A.tmps.getD 62 undef)).setIfInBounds 68 (if l16=true then .bool true else A.tmps.getD 68 undef)).setIfInBounds 69 (if l17=true then .bool true else A.tmps.getD 69 undef)).setIfInBounds 70 (if l18=true then .bool true else A.tmps.getD 70 undef)).setIfInBounds 71 (if l19=true then .bool true else A.tmps.getD 71 undef)).setIfInBounds 2 (.bool l20)),A.defers⟩ ∧
    St (w6.alloc (.cells #[.slice r1b E.next.length s1b,.slice r2b E.ends.length s2b] 32)) w' []) ?_ ?_ ?_
  ·rintro listed a w' ⟨l0,l1,l2,l3,l4,l5,l6,l7,l8,l9,l10,l11,l12,l13,l14,l15,l16,l17,l18,l19,l20,rfl,rfl,hS⟩ i hi;obtain⟨hun,o,ho,hall⟩:=mem_ready.1 hi;have hlt:=(Array.getElem?_eq_some_iff.1 ho).1;refine wpOp_step ho (fun K hK => ?_);clear hi;have HS:=qh hS;clear hS;simp only[List.setIfInBounds_toArray,List.set_cons_zero,List.set_cons_succ,Array.getD_eq_getD_getElem?,List.getElem?_toArray,List.getElem?_cons_zero,List.getElem?_cons_succ,Option.getD_some];obtain h|h|h|h|h|h|h|h|h|h|h|h|h|h|h|h|h|h|h|h|h:i=0∨i=1∨i=2∨i=3∨i=4∨i=5∨i=6∨i=7∨i=8∨i=9∨i=10∨i=11∨i=12∨i=13∨i=14∨i=15∨i=16∨i=17∨i=18∨i=19∨i=20:=by simp at hlt;omega
   all_goals subst h
   all_goals simp only[List.getElem?_toArray,List.getElem?_cons_zero,List.getElem?_cons_succ,Option.some.injEq] at ho
   all_goals subst ho
   all_goals simp[Region.binds] at hun hall
   ·subst hun;go_simp;exact hK _ _ ⟨true,l1,l2,l3,l4,l5,l6,l7,l8,l9,l10,l11,l12,l13,l14,l15,l16,l17,l18,l19,l20,rfl,(by simp),HS.out⟩
   ·obtain rfl:=hall;subst hun;go_simp;exact hK _ _ ⟨true,true,l2,l3,l4,l5,l6,l7,l8,l9,l10,l11,l12,l13,l14,l15,l16,l17,l18,l19,l20,rfl,(by simp),HS.out⟩
   ·obtain rfl:=hall;subst hun;go_simp;exact hK _ _ ⟨l0,true,true,l3,l4,l5,l6,l7,l8,l9,l10,l11,l12,l13,l14,l15,l16,l17,l18,l19,l20,rfl,(by simp),HS.out⟩
   ·obtain rfl:=hall;subst hun;go_simp;exact hK _ _ ⟨l0,l1,true,true,l4,l5,l6,l7,l8,l9,l10,l11,l12,l13,l14,l15,l16,l17,l18,l19,l20,rfl,(by simp),HS.out⟩
   ·obtain⟨rfl,rfl⟩:=hall;subst hun;go_simp;exact hK _ _ ⟨l0,l1,true,true,true,l5,l6,l7,l8,l9,l10,l11,l12,l13,l14,l15,l16,l17,l18,l19,l20,rfl,(by simp),HS.out⟩
   ·obtain⟨rfl,rfl⟩:=hall;subst hun;go_simp;exact hK _ _ ⟨l0,l1,true,l3,true,true,l6,l7,l8,l9,l10,l11,l12,l13,l14,l15,l16,l17,l18,l19,l20,rfl,(by simp),HS.out⟩
   ·obtain⟨rfl,rfl⟩:=hall;subst hun;go_simp;exact hK _ _ ⟨l0,l1,true,l3,l4,true,true,l7,l8,l9,l10,l11,l12,l13,l14,l15,l16,l17,l18,l19,l20,rfl,(by simp),HS.out⟩
   ·obtain rfl:=hall;subst hun;go_simp;exact hK _ _ ⟨l0,l1,l2,l3,l4,l5,true,true,l8,l9,l10,l11,l12,l13,l14,l15,l16,l17,l18,l19,l20,rfl,(by simp),HS.out⟩
   ·obtain⟨rfl,rfl⟩:=hall;subst hun;go_simp;exact hK _ _ ⟨l0,l1,l2,l3,l4,l5,true,true,true,l9,l10,l11,l12,l13,l14,l15,l16,l17,l18,l19,l20,rfl,(by simp),HS.out⟩
   ·obtain⟨rfl,rfl⟩:=hall;subst hun;go_simp;exact hK _ _ ⟨l0,l1,l2,l3,l4,l5,true,l7,true,true,l10,l11,l12,l13,l14,l15,l16,l17,l18,l19,l20,rfl,(by simp),HS.out⟩
   ·obtain⟨rfl,rfl⟩:=hall;subst hun;go_simp;exact hK _ _ ⟨l0,l1,l2,l3,l4,l5,true,l7,l8,true,true,l11,l12,l13,l14,l15,l16,l17,l18,l19,l20,rfl,(by simp),HS.out⟩
   ·obtain rfl:=hall;subst hun;go_simp;exact hK _ _ ⟨l0,l1,l2,l3,l4,l5,l6,l7,l8,l9,true,true,l12,l13,l14,l15,l16,l17,l18,l19,l20,rfl,(by simp),HS.out⟩
   ·obtain rfl:=hall;subst hun;go_simp;exact hK _ _ ⟨l0,l1,l2,l3,l4,l5,l6,l7,l8,l9,true,l11,true,l13,l14,l15,l16,l17,l18,l19,l20,rfl,(by simp),HS.out⟩
   ·obtain rfl:=hall;subst hun;go_simp;exact hK _ _ ⟨l0,l1,l2,l3,l4,l5,l6,l7,l8,l9,true,l11,l12,true,l14,l15,l16,l17,l18,l19,l20,rfl,(by simp),HS.out⟩
   ·obtain⟨rfl,rfl,rfl⟩:=hall;subst hun;go_simp;exact hK _ _ ⟨l0,l1,l2,l3,l4,l5,l6,l7,l8,l9,true,l11,true,true,true,l15,l16,l17,l18,l19,l20,rfl,(by simp),HS.out⟩
   ·obtain⟨rfl,rfl,rfl⟩:=hall;subst hun;go_simp;exact hK _ _ ⟨l0,l1,l2,l3,l4,l5,l6,l7,l8,l9,true,true,l12,l13,true,true,l16,l17,l18,l19,l20,rfl,(by simp),HS.out⟩
   ·obtain⟨rfl,rfl⟩:=hall;subst hun;go_simp;exact hK _ _ ⟨l0,l1,l2,l3,l4,l5,l6,l7,l8,l9,true,l11,l12,l13,l14,true,true,l17,l18,l19,l20,rfl,(by simp),HS.out⟩
   ·obtain⟨rfl,rfl⟩:=hall;subst hun;go_simp;exact hK _ _ ⟨l0,l1,l2,l3,l4,l5,l6,l7,l8,l9,l10,l11,l12,l13,l14,true,true,true,l18,l19,l20,rfl,(by simp),HS.out⟩
   ·obtain rfl:=hall;subst hun;go_simp
    go_at_call 13
    refine(Zes _).mono ?_;rintro e u1 ⟨rfl,rfl⟩;go_simp;exact hK _ _ ⟨l0,l1,l2,l3,l4,l5,l6,l7,l8,l9,l10,l11,l12,l13,l14,l15,l16,true,true,l19,l20,rfl,(by simp),HS.out⟩
   ·obtain⟨rfl,rfl⟩:=hall;subst hun;go_simp;exact hK _ _ ⟨l0,l1,l2,l3,l4,l5,l6,l7,l8,l9,l10,l11,l12,l13,l14,l15,l16,true,true,true,l20,rfl,(by simp),HS.out⟩
   obtain⟨rfl,rfl,rfl,rfl,rfl,rfl,rfl,rfl,rfl,rfl,rfl,rfl,rfl,rfl,rfl,rfl,rfl,rfl,rfl,rfl,-⟩:=hall;subst hun;go_simp;exact hK _ _ ⟨true,true,true,true,true,true,true,true,true,true,true,true,true,true,true,true,true,true,true,true,true,rfl,(by simp),HS.out⟩
  ·rintro listed a w' ⟨l0,l1,l2,l3,l4,l5,l6,l7,l8,l9,l10,l11,l12,l13,l14,l15,l16,l17,l18,l19,l20,rfl,rfl,hS⟩ hr;have hall:=Zan (by kernel_rfl) rfl hr;obtain rfl:l0=true:=by simpa using hall 0 (by simp)
   obtain rfl:l1=true:=by simpa using hall 1 (by simp)
   obtain rfl:l2=true:=by simpa using hall 2 (by simp)
   obtain rfl:l3=true:=by simpa using hall 3 (by simp)
   obtain rfl:l4=true:=by simpa using hall 4 (by simp)
   obtain rfl:l5=true:=by simpa using hall 5 (by simp)
   obtain rfl:l6=true:=by simpa using hall 6 (by simp)
   obtain rfl:l7=true:=by simpa using hall 7 (by simp)
   obtain rfl:l8=true:=by simpa using hall 8 (by simp)
   obtain rfl:l9=true:=by simpa using hall 9 (by simp)
   obtain rfl:l10=true:=by simpa using hall 10 (by simp)
   obtain rfl:l11=true:=by simpa using hall 11 (by simp)
   obtain rfl:l12=true:=by simpa using hall 12 (by simp)
   obtain rfl:l13=true:=by simpa using hall 13 (by simp)
   obtain rfl:l14=true:=by simpa using hall 14 (by simp)
   obtain rfl:l15=true:=by simpa using hall 15 (by simp)
   obtain rfl:l16=true:=by simpa using hall 16 (by simp)
   obtain rfl:l17=true:=by simpa using hall 17 (by simp)
   obtain rfl:l18=true:=by simpa using hall 18 (by simp)
   obtain rfl:l19=true:=by simpa using hall 19 (by simp)
   obtain rfl:l20=true:=by simpa using hall 20 (by simp)
   clear hall hr ;simp only[↓reduceIte] at hS ⊢;simp only[List.setIfInBounds_toArray,List.set_cons_zero,List.set_cons_succ];have HSf:=qh hS;clear hS;go_wp2;go_ret;exact⟨rfl,HSL.out.bel.trans (HSf.out.bel.mono HSL.out.bel.size)⟩
  refine⟨false,false,false,false,false,false,false,false,false,false,false,false,false,false,false,false,false,false,false,false,false,rfl,(by simp),?_⟩;exact(St.start (w6.alloc (.cells #[.slice r1b E.next.length s1b,.slice r2b E.ends.length s2b] 32))).drew.pick [] (by decide)
 cases g
 ·clear HS7;go_wp2;refine wp_region_any (by kernel_rfl) ?_
  refine Zam (fun A listed a w'=>∃ (l0 l1 l2 l3 l4 l5 l6 l7 l8 l9 l10 l11 l12 l13 l14 l15 l16 l17 l18 l19 l20:Bool) ,listed=#[l0,l1,l2,l3,l4,l5,l6,l7,l8,l9,l10,l11,l12,l13,l14,l15,l16,l17,l18,l19,l20] ∧
    a=⟨((((((((((((((A.tmps.setIfInBounds 52 (if l0=true then .bool true else A.tmps.getD 52 undef)).setIfInBounds 53 (if l1=true then .bool false else A.tmps.getD 53 undef)).setIfInBounds 54 (if l2=true then .bool false else A.tmps.getD 54 undef)).setIfInBounds 55 (if l3=true then .bool false else A.tmps.getD 55 undef)).setIfInBounds 56 (if l4=true then .bool true else A.tmps.getD 56 undef)).setIfInBounds 57 (if l5=true then .bool true else A.tmps.getD 57 undef)).setIfInBounds 58 (if l6=true then .bool true else A.tmps.getD 58 undef)).setIfInBounds 61 (if l9=true then .bool true else A.tmps.getD 61 undef)).setIfInBounds 62 (if l10=true then .bool true else A.tmps.getD 62 undef)).setIfInBounds 68 (if l16=true then .bool true else A.tmps.getD 68 undef)).setIfInBounds 69 (if l17=true then .bool true else A.tmps.getD 69 undef)).setIfInBounds 70 (if l18=true then .bool true else A.tmps.getD 70 undef)).setIfInBounds 71 (if l19=true then .bool true else A.tmps.getD 71 undef)).setIfInBounds 2 (.bool l20)),A.defers⟩ ∧
    St (w6.alloc (.cells #[.slice r1b E.next.length s1b,.slice r2b E.ends.length s2b] 32)) w' []) ?_ ?_ ?_
  ·rintro listed a w' ⟨l0,l1,l2,l3,l4,l5,l6,l7,l8,l9,l10,l11,l12,l13,l14,l15,l16,l17,l18,l19,l20,rfl,rfl,hS⟩ i hi;obtain⟨hun,o,ho,hall⟩:=mem_ready.1 hi;have hlt:=(Array.getElem?_eq_some_iff.1 ho).1;refine wpOp_step ho (fun K hK => ?_);clear hi;have HS:=qh hS;clear hS;simp only[List.setIfInBounds_toArray,List.set_cons_zero,List.set_cons_succ,Array.getD_eq_getD_getElem?,List.getElem?_toArray,List.getElem?_cons_zero,List.getElem?_cons_succ,Option.getD_some];obtain h|h|h|h|h|h|h|h|h|h|h|h|h|h|h|h|h|h|h|h|h:i=0∨i=1∨i=2∨i=3∨i=4∨i=5∨i=6∨i=7∨i=8∨i=9∨i=10∨i=11∨i=12∨i=13∨i=14∨i=15∨i=16∨i=17∨i=18∨i=19∨i=20:=by simp at hlt;omega
   all_goals subst h
   all_goals simp only[List.getElem?_toArray,List.getElem?_cons_zero,List.getElem?_cons_succ,Option.some.injEq] at ho
   all_goals subst ho
   all_goals simp[Region.binds] at hun hall
   ·subst hun;go_simp;exact hK _ _ ⟨true,l1,l2,l3,l4,l5,l6,l7,l8,l9,l10,l11,l12,l13,l14,l15,l16,l17,l18,l19,l20,rfl,(by simp),HS.out⟩
   ·obtain rfl:=hall;subst hun;go_simp;exact hK _ _ ⟨true,true,l2,l3,l4,l5,l6,l7,l8,l9,l10,l11,l12,l13,l14,l15,l16,l17,l18,l19,l20,rfl,(by simp),HS.out⟩
   ·obtain rfl:=hall;subst hun;go_simp;exact hK _ _ ⟨l0,true,true,l3,l4,l5,l6,l7,l8,l9,l10,l11,l12,l13,l14,l15,l16,l17,l18,l19,l20,rfl,(by simp),HS.out⟩
   ·obtain rfl:=hall;subst hun;go_simp;exact hK _ _ ⟨l0,l1,true,true,l4,l5,l6,l7,l8,l9,l10,l11,l12,l13,l14,l15,l16,l17,l18,l19,l20,rfl,(by simp),HS.out⟩
   ·obtain⟨rfl,rfl⟩:=hall;subst hun;go_simp;exact hK _ _ ⟨l0,l1,true,true,true,l5,l6,l7,l8,l9,l10,l11,l12,l13,l14,l15,l16,l17,l18,l19,l20,rfl,(by simp),HS.out⟩
   ·obtain⟨rfl,rfl⟩:=hall;subst hun;go_simp;exact hK _ _ ⟨l0,l1,true,l3,true,true,l6,l7,l8,l9,l10,l11,l12,l13,l14,l15,l16,l17,l18,l19,l20,rfl,(by simp),HS.out⟩
   ·obtain⟨rfl,rfl⟩:=hall;subst hun;go_simp;exact hK _ _ ⟨l0,l1,true,l3,l4,true,true,l7,l8,l9,l10,l11,l12,l13,l14,l15,l16,l17,l18,l19,l20,rfl,(by simp),HS.out⟩
   ·obtain rfl:=hall;subst hun;go_simp;exact hK _ _ ⟨l0,l1,l2,l3,l4,l5,true,true,l8,l9,l10,l11,l12,l13,l14,l15,l16,l17,l18,l19,l20,rfl,(by simp),HS.out⟩
   ·obtain⟨rfl,rfl⟩:=hall;subst hun;go_simp;exact hK _ _ ⟨l0,l1,l2,l3,l4,l5,true,true,true,l9,l10,l11,l12,l13,l14,l15,l16,l17,l18,l19,l20,rfl,(by simp),HS.out⟩
   ·obtain⟨rfl,rfl⟩:=hall;subst hun;go_simp;exact hK _ _ ⟨l0,l1,l2,l3,l4,l5,true,l7,true,true,l10,l11,l12,l13,l14,l15,l16,l17,l18,l19,l20,rfl,(by simp),HS.out⟩
   ·obtain⟨rfl,rfl⟩:=hall;subst hun;go_simp;exact hK _ _ ⟨l0,l1,l2,l3,l4,l5,true,l7,l8,true,true,l11,l12,l13,l14,l15,l16,l17,l18,l19,l20,rfl,(by simp),HS.out⟩
   ·obtain rfl:=hall;subst hun;go_simp;exact hK _ _ ⟨l0,l1,l2,l3,l4,l5,l6,l7,l8,l9,true,true,l12,l13,l14,l15,l16,l17,l18,l19,l20,rfl,(by simp),HS.out⟩
   ·obtain rfl:=hall;subst hun;go_simp;exact hK _ _ ⟨l0,l1,l2,l3,l4,l5,l6,l7,l8,l9,true,l11,true,l13,l14,l15,l16,l17,l18,l19,l20,rfl,(by simp),HS.out⟩
   ·obtain rfl:=hall;subst hun;go_simp;exact hK _ _ ⟨l0,l1,l2,l3,l4,l5,l6,l7,l8,l9,true,l11,l12,true,l14,l15,l16,l17,l18,l19,l20,rfl,(by simp),HS.out⟩
   ·obtain⟨rfl,rfl,rfl⟩:=hall;subst hun;go_simp;exact hK _ _ ⟨l0,l1,l2,l3,l4,l5,l6,l7,l8,l9,true,l11,true,true,true,l15,l16,l17,l18,l19,l20,rfl,(by simp),HS.out⟩
   ·obtain⟨rfl,rfl,rfl⟩:=hall;subst hun;go_simp;exact hK _ _ ⟨l0,l1,l2,l3,l4,l5,l6,l7,l8,l9,true,true,l12,l13,true,true,l16,l17,l18,l19,l20,rfl,(by simp),HS.out⟩
   ·obtain⟨rfl,rfl⟩:=hall;subst hun;go_simp;exact hK _ _ ⟨l0,l1,l2,l3,l4,l5,l6,l7,l8,l9,true,l11,l12,l13,l14,true,true,l17,l18,l19,l20,rfl,(by simp),HS.out⟩
   ·obtain⟨rfl,rfl⟩:=hall;subst hun;go_simp;exact hK _ _ ⟨l0,l1,l2,l3,l4,l5,l6,l7,l8,l9,l10,l11,l12,l13,l14,true,true,true,l18,l19,l20,rfl,(by simp),HS.out⟩
   ·obtain rfl:=hall;subst hun;go_simp
    go_at_call 13
    refine(Zes _).mono ?_;rintro e u1 ⟨rfl,rfl⟩;go_simp;exact hK _ _ ⟨l0,l1,l2,l3,l4,l5,l6,l7,l8,l9,l10,l11,l12,l13,l14,l15,l16,true,true,l19,l20,rfl,(by simp),HS.out⟩
   ·obtain⟨rfl,rfl⟩:=hall;subst hun;go_simp;exact hK _ _ ⟨l0,l1,l2,l3,l4,l5,l6,l7,l8,l9,l10,l11,l12,l13,l14,l15,l16,true,true,true,l20,rfl,(by simp),HS.out⟩
   obtain⟨rfl,rfl,rfl,rfl,rfl,rfl,rfl,rfl,rfl,rfl,rfl,rfl,rfl,rfl,rfl,rfl,rfl,rfl,rfl,rfl,-⟩:=hall;subst hun;go_simp;exact hK _ _ ⟨true,true,true,true,true,true,true,true,true,true,true,true,true,true,true,true,true,true,true,true,true,rfl,(by simp),HS.out⟩
  ·rintro listed a w' ⟨l0,l1,l2,l3,l4,l5,l6,l7,l8,l9,l10,l11,l12,l13,l14,l15,l16,l17,l18,l19,l20,rfl,rfl,hS⟩ hr;have hall:=Zan (by kernel_rfl) rfl hr;obtain rfl:l0=true:=by simpa using hall 0 (by simp)
   obtain rfl:l1=true:=by simpa using hall 1 (by simp)
   obtain rfl:l2=true:=by simpa using hall 2 (by simp)
   obtain rfl:l3=true:=by simpa using hall 3 (by simp)
   obtain rfl:l4=true:=by simpa using hall 4 (by simp)
   obtain rfl:l5=true:=by simpa using hall 5 (by simp)
   obtain rfl:l6=true:=by simpa using hall 6 (by simp)
   obtain rfl:l7=true:=by simpa using hall 7 (by simp)
   obtain rfl:l8=true:=by simpa using hall 8 (by simp)
   obtain rfl:l9=true:=by simpa using hall 9 (by simp)
   obtain rfl:l10=true:=by simpa using hall 10 (by simp)
   obtain rfl:l11=true:=by simpa using hall 11 (by simp)
   obtain rfl:l12=true:=by simpa using hall 12 (by simp)
   obtain rfl:l13=true:=by simpa using hall 13 (by simp)
   obtain rfl:l14=true:=by simpa using hall 14 (by simp)
   obtain rfl:l15=true:=by simpa using hall 15 (by simp)
   obtain rfl:l16=true:=by simpa using hall 16 (by simp)
   obtain rfl:l17=true:=by simpa using hall 17 (by simp)
   obtain rfl:l18=true:=by simpa using hall 18 (by simp)
   obtain rfl:l19=true:=by simpa using hall 19 (by simp)
   obtain rfl:l20=true:=by simpa using hall 20 (by simp)
   clear hall hr ;simp only[↓reduceIte] at hS ⊢;simp only[List.setIfInBounds_toArray,List.set_cons_zero,List.set_cons_succ];have HSf:=qh hS;clear hS;go_wp2;go_ret;exact⟨rfl,HSL.out.bel.trans (HSf.out.bel.mono HSL.out.bel.size)⟩
  refine⟨false,false,false,false,false,false,false,false,false,false,false,false,false,false,false,false,false,false,false,false,false,rfl,(by simp),?_⟩;exact(St.start (w6.alloc (.cells #[.slice r1b E.next.length s1b,.slice r2b E.ends.length s2b] 32))).drew.pick [] (by decide)
 cases g2
 ·clear HS7;go_wp2;refine wp_region_any (by kernel_rfl) ?_
  refine Zam (fun A listed a w'=>∃ (l0 l1 l2 l3 l4 l5 l6 l7 l8 l9 l10 l11 l12 l13 l14 l15 l16 l17 l18 l19 l20:Bool) ,listed=#[l0,l1,l2,l3,l4,l5,l6,l7,l8,l9,l10,l11,l12,l13,l14,l15,l16,l17,l18,l19,l20] ∧
    a=⟨((((((((((((((((A.tmps.setIfInBounds 52 (if l0=true then .bool true else A.tmps.getD 52 undef)).setIfInBounds 53 (if l1=true then .bool false else A.tmps.getD 53 undef)).setIfInBounds 54 (if l2=true then .bool false else A.tmps.getD 54 undef)).setIfInBounds 55 (if l3=true then .bool true else A.tmps.getD 55 undef)).setIfInBounds 56 (if l4=true then .bool false else A.tmps.getD 56 undef)).setIfInBounds 57 (if l5=true then .bool false else A.tmps.getD 57 undef)).setIfInBounds 58 (if l6=true then .bool false else A.tmps.getD 58 undef)).setIfInBounds 59 (if l7=true then .bool false else A.tmps.getD 59 undef)).setIfInBounds 60 (if l8=true then .bool true else A.tmps.getD 60 undef)).setIfInBounds 61 (if l9=true then .bool true else A.tmps.getD 61 undef)).setIfInBounds 62 (if l10=true then .bool true else A.tmps.getD 62 undef)).setIfInBounds 68 (if l16=true then .bool true else A.tmps.getD 68 undef)).setIfInBounds 69 (if l17=true then .bool true else A.tmps.getD 69 undef)).setIfInBounds 70 (if l18=true then .bool true else A.tmps.getD 70 undef)).setIfInBounds 71 (if l19=true then .bool true else A.tmps.getD 71 undef)).setIfInBounds 2 (.bool l20)),A.defers⟩ ∧
    St (w6.alloc (.cells #[.slice r1b E.next.length s1b,.slice r2b E.ends.length s2b] 32)) w' []) ?_ ?_ ?_
  ·rintro listed a w' ⟨l0,l1,l2,l3,l4,l5,l6,l7,l8,l9,l10,l11,l12,l13,l14,l15,l16,l17,l18,l19,l20,rfl,rfl,hS⟩ i hi;obtain⟨hun,o,ho,hall⟩:=mem_ready.1 hi;have hlt:=(Array.getElem?_eq_some_iff.1 ho).1;refine wpOp_step ho (fun K hK => ?_);clear hi;have HS:=qh hS;clear hS;simp only[List.setIfInBounds_toArray,List.set_cons_zero,List.set_cons_succ,Array.getD_eq_getD_getElem?,List.getElem?_toArray,List.getElem?_cons_zero,List.getElem?_cons_succ,Option.getD_some];obtain h|h|h|h|h|h|h|h|h|h|h|h|h|h|h|h|h|h|h|h|h:i=0∨i=1∨i=2∨i=3∨i=4∨i=5∨i=6∨i=7∨i=8∨i=9∨i=10∨i=11∨i=12∨i=13∨i=14∨i=15∨i=16∨i=17∨i=18∨i=19∨i=20:=by simp at hlt;omega
   all_goals subst h
   all_goals simp only[List.getElem?_toArray,List.getElem?_cons_zero,List.getElem?_cons_succ,Option.some.injEq] at ho
   all_goals subst ho
   all_goals simp[Region.binds] at hun hall
   ·subst hun;go_simp;exact hK _ _ ⟨true,l1,l2,l3,l4,l5,l6,l7,l8,l9,l10,l11,l12,l13,l14,l15,l16,l17,l18,l19,l20,rfl,(by simp),HS.out⟩
   ·obtain rfl:=hall;subst hun;go_simp;exact hK _ _ ⟨true,true,l2,l3,l4,l5,l6,l7,l8,l9,l10,l11,l12,l13,l14,l15,l16,l17,l18,l19,l20,rfl,(by simp),HS.out⟩
   ·obtain rfl:=hall;subst hun;go_simp;exact hK _ _ ⟨l0,true,true,l3,l4,l5,l6,l7,l8,l9,l10,l11,l12,l13,l14,l15,l16,l17,l18,l19,l20,rfl,(by simp),HS.out⟩
   ·obtain rfl:=hall;subst hun;go_simp;exact hK _ _ ⟨l0,l1,true,true,l4,l5,l6,l7,l8,l9,l10,l11,l12,l13,l14,l15,l16,l17,l18,l19,l20,rfl,(by simp),HS.out⟩
   ·obtain⟨rfl,rfl⟩:=hall;subst hun;go_simp;exact hK _ _ ⟨l0,l1,true,true,true,l5,l6,l7,l8,l9,l10,l11,l12,l13,l14,l15,l16,l17,l18,l19,l20,rfl,(by simp),HS.out⟩
   ·obtain⟨rfl,rfl⟩:=hall;subst hun;go_simp;exact hK _ _ ⟨l0,l1,true,l3,true,true,l6,l7,l8,l9,l10,l11,l12,l13,l14,l15,l16,l17,l18,l19,l20,rfl,(by simp),HS.out⟩
   ·obtain⟨rfl,rfl⟩:=hall;subst hun;go_simp;exact hK _ _ ⟨l0,l1,true,l3,l4,true,true,l7,l8,l9,l10,l11,l12,l13,l14,l15,l16,l17,l18,l19,l20,rfl,(by simp),HS.out⟩
   ·obtain rfl:=hall;subst hun;go_simp;exact hK _ _ ⟨l0,l1,l2,l3,l4,l5,true,true,l8,l9,l10,l11,l12,l13,l14,l15,l16,l17,l18,l19,l20,rfl,(by simp),HS.out⟩
   ·obtain⟨rfl,rfl⟩:=hall;subst hun;go_simp;exact hK _ _ ⟨l0,l1,l2,l3,l4,l5,true,true,true,l9,l10,l11,l12,l13,l14,l15,l16,l17,l18,l19,l20,rfl,(by simp),HS.out⟩
   ·obtain⟨rfl,rfl⟩:=hall;subst hun;go_simp;exact hK _ _ ⟨l0,l1,l2,l3,l4,l5,true,l7,true,true,l10,l11,l12,l13,l14,l15,l16,l17,l18,l19,l20,rfl,(by simp),HS.out⟩
   ·obtain⟨rfl,rfl⟩:=hall;subst hun;go_simp;exact hK _ _ ⟨l0,l1,l2,l3,l4,l5,true,l7,l8,true,true,l11,l12,l13,l14,l15,l16,l17,l18,l19,l20,rfl,(by simp),HS.out⟩
   ·obtain rfl:=hall;subst hun;go_simp;exact hK _ _ ⟨l0,l1,l2,l3,l4,l5,l6,l7,l8,l9,true,true,l12,l13,l14,l15,l16,l17,l18,l19,l20,rfl,(by simp),HS.out⟩
   ·obtain rfl:=hall;subst hun;go_simp;exact hK _ _ ⟨l0,l1,l2,l3,l4,l5,l6,l7,l8,l9,true,l11,true,l13,l14,l15,l16,l17,l18,l19,l20,rfl,(by simp),HS.out⟩
   ·obtain rfl:=hall;subst hun;go_simp;exact hK _ _ ⟨l0,l1,l2,l3,l4,l5,l6,l7,l8,l9,true,l11,l12,true,l14,l15,l16,l17,l18,l19,l20,rfl,(by simp),HS.out⟩
   ·obtain⟨rfl,rfl,rfl⟩:=hall;subst hun;go_simp;exact hK _ _ ⟨l0,l1,l2,l3,l4,l5,l6,l7,l8,l9,true,l11,true,true,true,l15,l16,l17,l18,l19,l20,rfl,(by simp),HS.out⟩
   ·obtain⟨rfl,rfl,rfl⟩:=hall;subst hun;go_simp;exact hK _ _ ⟨l0,l1,l2,l3,l4,l5,l6,l7,l8,l9,true,true,l12,l13,true,true,l16,l17,l18,l19,l20,rfl,(by simp),HS.out⟩
   ·obtain⟨rfl,rfl⟩:=hall;subst hun;go_simp;exact hK _ _ ⟨l0,l1,l2,l3,l4,l5,l6,l7,l8,l9,true,l11,l12,l13,l14,true,true,l17,l18,l19,l20,rfl,(by simp),HS.out⟩
   ·obtain⟨rfl,rfl⟩:=hall;subst hun;go_simp;exact hK _ _ ⟨l0,l1,l2,l3,l4,l5,l6,l7,l8,l9,l10,l11,l12,l13,l14,true,true,true,l18,l19,l20,rfl,(by simp),HS.out⟩
   ·obtain rfl:=hall;subst hun;go_simp
    go_at_call 13
    refine(Zes _).mono ?_;rintro e u1 ⟨rfl,rfl⟩;go_simp;exact hK _ _ ⟨l0,l1,l2,l3,l4,l5,l6,l7,l8,l9,l10,l11,l12,l13,l14,l15,l16,true,true,l19,l20,rfl,(by simp),HS.out⟩
   ·obtain⟨rfl,rfl⟩:=hall;subst hun;go_simp;exact hK _ _ ⟨l0,l1,l2,l3,l4,l5,l6,l7,l8,l9,l10,l11,l12,l13,l14,l15,l16,true,true,true,l20,rfl,(by simp),HS.out⟩
   obtain⟨rfl,rfl,rfl,rfl,rfl,rfl,rfl,rfl,rfl,rfl,rfl,rfl,rfl,rfl,rfl,rfl,rfl,rfl,rfl,rfl,-⟩:=hall;subst hun;go_simp;exact hK _ _ ⟨true,true,true,true,true,true,true,true,true,true,true,true,true,true,true,true,true,true,true,true,true,rfl,(by simp),HS.out⟩
  ·rintro listed a w' ⟨l0,l1,l2,l3,l4,l5,l6,l7,l8,l9,l10,l11,l12,l13,l14,l15,l16,l17,l18,l19,l20,rfl,rfl,hS⟩ hr;have hall:=Zan (by kernel_rfl) rfl hr;obtain rfl:l0=true:=by simpa using hall 0 (by simp)
   obtain rfl:l1=true:=by simpa using hall 1 (by simp)
   obtain rfl:l2=true:=by simpa using hall 2 (by simp)
   obtain rfl:l3=true:=by simpa using hall 3 (by simp)
   obtain rfl:l4=true:=by simpa using hall 4 (by simp)
   obtain rfl:l5=true:=by simpa using hall 5 (by simp)
   obtain rfl:l6=true:=by simpa using hall 6 (by simp)
   obtain rfl:l7=true:=by simpa using hall 7 (by simp)
   obtain rfl:l8=true:=by simpa using hall 8 (by simp)
   obtain rfl:l9=true:=by simpa using hall 9 (by simp)
   obtain rfl:l10=true:=by simpa using hall 10 (by simp)
   obtain rfl:l11=true:=by simpa using hall 11 (by simp)
   obtain rfl:l12=true:=by simpa using hall 12 (by simp)
   obtain rfl:l13=true:=by simpa using hall 13 (by simp)
   obtain rfl:l14=true:=by simpa using hall 14 (by simp)
   obtain rfl:l15=true:=by simpa using hall 15 (by simp)
   obtain rfl:l16=true:=by simpa using hall 16 (by simp)
   obtain rfl:l17=true:=by simpa using hall 17 (by simp)
   obtain rfl:l18=true:=by simpa using hall 18 (by simp)
   obtain rfl:l19=true:=by simpa using hall 19 (by simp)
   obtain rfl:l20=true:=by simpa using hall 20 (by simp)
   clear hall hr ;simp only[↓reduceIte] at hS ⊢;simp only[List.setIfInBounds_toArray,List.set_cons_zero,List.set_cons_succ];have HSf:=qh hS;clear hS;go_wp2;go_ret;exact⟨rfl,HSL.out.bel.trans (HSf.out.bel.mono HSL.out.bel.size)⟩
  refine⟨false,false,false,false,false,false,false,false,false,false,false,false,false,false,false,false,false,false,false,false,false,rfl,(by simp),?_⟩;exact(St.start (w6.alloc (.cells #[.slice r1b E.next.length s1b,.slice r2b E.ends.length s2b] 32))).drew.pick [] (by decide)
 obtain⟨hwd,hok,q,hq1,hq2,hq3⟩:=HALL.out rfl rfl rfl;have haf:=fun (v:Value) (u:World) h=>ZiF D l q hq1 hq2 v u hok h ht.out hwd
 rw[hq3] at haf;have Haf:=qh haf;clear haf HS7 HALL hwd hok hq1 hq2 hq3;go_wp2;refine wp_region_any (by kernel_rfl) ?_
 refine Zam (fun A listed a w'=>∃ (l0 l1 l2 l3 l4 l5 l6 l7 l8 l9 l10 l11 l12 l13 l14 l15 l16 l17 l18 l19 l20:Bool) (ax1:Option Addr) (cx1:Nat) (ax2:Option Addr) (cx2:Nat) (vb:Nat) (vh:Nat),listed=#[l0,l1,l2,l3,l4,l5,l6,l7,l8,l9,l10,l11,l12,l13,l14,l15,l16,l17,l18,l19,l20] ∧
   a=⟨(((((((((((((((((((((A.tmps.setIfInBounds 52 (if l0=true then .bool true else A.tmps.getD 52 undef)).setIfInBounds 53 (if l1=true then .bool false else A.tmps.getD 53 undef)).setIfInBounds 54 (if l2=true then .bool false else A.tmps.getD 54 undef)).setIfInBounds 55 (if l3=true then .bool true else A.tmps.getD 55 undef)).setIfInBounds 56 (if l4=true then .bool false else A.tmps.getD 56 undef)).setIfInBounds 57 (if l5=true then .bool false else A.tmps.getD 57 undef)).setIfInBounds 58 (if l6=true then .bool false else A.tmps.getD 58 undef)).setIfInBounds 59 (if l7=true then .bool true else A.tmps.getD 59 undef)).setIfInBounds 60 (if l8=true then .bool false else A.tmps.getD 60 undef)).setIfInBounds 61 (if l9=true then .bool false else A.tmps.getD 61 undef)).setIfInBounds 62 (if l10=true then .bool false else A.tmps.getD 62 undef)).setIfInBounds 63 (if l11=true then .agg #[.slice r1b E.next.length s1b,.slice r2b E.ends.length s2b] else A.tmps.getD 63 undef)).setIfInBounds 64 (if l12=true then .agg #[.slice r1a D.next.length s1a,.slice r2a D.ends.length s2a] else A.tmps.getD 64 undef)).setIfInBounds 65 (if l13=true then .string (txB l) else A.tmps.getD 65 undef)).setIfInBounds 66 (if l14=true then .agg #[.slice ax1 E.next.length cx1,.slice ax2 E.ends.length cx2] else A.tmps.getD 66 undef)).setIfInBounds 67 (if l15=true then .bool true else A.tmps.getD 67 undef)).setIfInBounds 68 (if l16=true then .bool true else A.tmps.getD 68 undef)).setIfInBounds 69 (if l17=true then .bool true else A.tmps.getD 69 undef)).setIfInBounds 70 (if l18=true then .bool true else A.tmps.getD 70 undef)).setIfInBounds 71 (if l19=true then .bool true else A.tmps.getD 71 undef)).setIfInBounds 2 (.bool l20)),A.defers⟩ ∧
   St (w6.alloc (.cells #[.slice r1b E.next.length s1b,.slice r2b E.ends.length s2b] 32)) w' [(if l14=true then DfaV vb vh (.slice ax1 E.next.length cx1) (.slice ax2 E.ends.length cx2) E else Ent.nil)]) ?_ ?_ ?_
 ·rintro listed a w' ⟨l0,l1,l2,l3,l4,l5,l6,l7,l8,l9,l10,l11,l12,l13,l14,l15,l16,l17,l18,l19,l20,ax1,cx1,ax2,cx2,vb,vh,rfl,rfl,hS⟩ i hi;obtain⟨hun,o,ho,hall⟩:=mem_ready.1 hi;have hlt:=(Array.getElem?_eq_some_iff.1 ho).1;refine wpOp_step ho (fun K hK => ?_);clear hi;have HS:=qh hS;clear hS;simp only[List.setIfInBounds_toArray,List.set_cons_zero,List.set_cons_succ,Array.getD_eq_getD_getElem?,List.getElem?_toArray,List.getElem?_cons_zero,List.getElem?_cons_succ,Option.getD_some];obtain h|h|h|h|h|h|h|h|h|h|h|h|h|h|h|h|h|h|h|h|h:i=0∨i=1∨i=2∨i=3∨i=4∨i=5∨i=6∨i=7∨i=8∨i=9∨i=10∨i=11∨i=12∨i=13∨i=14∨i=15∨i=16∨i=17∨i=18∨i=19∨i=20:=by simp at hlt;omega
  all_goals subst h
  all_goals simp only[List.getElem?_toArray,List.getElem?_cons_zero,List.getElem?_cons_succ,Option.some.injEq] at ho
  all_goals subst ho
  all_goals simp[Region.binds] at hun hall
  ·subst hun;go_simp;exact hK _ _ ⟨true,l1,l2,l3,l4,l5,l6,l7,l8,l9,l10,l11,l12,l13,l14,l15,l16,l17,l18,l19,l20,ax1,cx1,ax2,cx2,vb,vh,rfl,(by simp),HS.out⟩
  ·obtain rfl:=hall;subst hun;go_simp;exact hK _ _ ⟨true,true,l2,l3,l4,l5,l6,l7,l8,l9,l10,l11,l12,l13,l14,l15,l16,l17,l18,l19,l20,ax1,cx1,ax2,cx2,vb,vh,rfl,(by simp),HS.out⟩
  ·obtain rfl:=hall;subst hun;go_simp;exact hK _ _ ⟨l0,true,true,l3,l4,l5,l6,l7,l8,l9,l10,l11,l12,l13,l14,l15,l16,l17,l18,l19,l20,ax1,cx1,ax2,cx2,vb,vh,rfl,(by simp),HS.out⟩
  ·obtain rfl:=hall;subst hun;go_simp;exact hK _ _ ⟨l0,l1,true,true,l4,l5,l6,l7,l8,l9,l10,l11,l12,l13,l14,l15,l16,l17,l18,l19,l20,ax1,cx1,ax2,cx2,vb,vh,rfl,(by simp),HS.out⟩
  ·obtain⟨rfl,rfl⟩:=hall;subst hun;go_simp;exact hK _ _ ⟨l0,l1,true,true,true,l5,l6,l7,l8,l9,l10,l11,l12,l13,l14,l15,l16,l17,l18,l19,l20,ax1,cx1,ax2,cx2,vb,vh,rfl,(by simp),HS.out⟩
  ·obtain⟨rfl,rfl⟩:=hall;subst hun;go_simp;exact hK _ _ ⟨l0,l1,true,l3,true,true,l6,l7,l8,l9,l10,l11,l12,l13,l14,l15,l16,l17,l18,l19,l20,ax1,cx1,ax2,cx2,vb,vh,rfl,(by simp),HS.out⟩
  ·obtain⟨rfl,rfl⟩:=hall;subst hun;go_simp;exact hK _ _ ⟨l0,l1,true,l3,l4,true,true,l7,l8,l9,l10,l11,l12,l13,l14,l15,l16,l17,l18,l19,l20,ax1,cx1,ax2,cx2,vb,vh,rfl,(by simp),HS.out⟩
  ·obtain rfl:=hall;subst hun;go_simp;exact hK _ _ ⟨l0,l1,l2,l3,l4,l5,true,true,l8,l9,l10,l11,l12,l13,l14,l15,l16,l17,l18,l19,l20,ax1,cx1,ax2,cx2,vb,vh,rfl,(by simp),HS.out⟩
  ·obtain⟨rfl,rfl⟩:=hall;subst hun;go_simp;exact hK _ _ ⟨l0,l1,l2,l3,l4,l5,true,true,true,l9,l10,l11,l12,l13,l14,l15,l16,l17,l18,l19,l20,ax1,cx1,ax2,cx2,vb,vh,rfl,(by simp),HS.out⟩
  ·obtain⟨rfl,rfl⟩:=hall;subst hun;go_simp;exact hK _ _ ⟨l0,l1,l2,l3,l4,l5,true,l7,true,true,l10,l11,l12,l13,l14,l15,l16,l17,l18,l19,l20,ax1,cx1,ax2,cx2,vb,vh,rfl,(by simp),HS.out⟩
  ·obtain⟨rfl,rfl⟩:=hall;subst hun;go_simp;exact hK _ _ ⟨l0,l1,l2,l3,l4,l5,true,l7,l8,true,true,l11,l12,l13,l14,l15,l16,l17,l18,l19,l20,ax1,cx1,ax2,cx2,vb,vh,rfl,(by simp),HS.out⟩
  ·obtain rfl:=hall;subst hun;have e0:=(bcell HS.out.bel (w6.heap.size) (0) HltE.out).trans E0.out;have e1:=(bcell HS.out.bel (w6.heap.size) (1) HltE.out).trans E1.out;go_simp;exact hK _ _ ⟨l0,l1,l2,l3,l4,l5,l6,l7,l8,l9,true,true,l12,l13,l14,l15,l16,l17,l18,l19,l20,ax1,cx1,ax2,cx2,vb,vh,rfl,(by simp),HS.out⟩
  ·obtain rfl:=hall;subst hun;have e0:=(bcell HS.out.bel (w5.heap.size) (0) HltD.out).trans D0.out;have e1:=(bcell HS.out.bel (w5.heap.size) (1) HltD.out).trans D1.out;go_simp;exact hK _ _ ⟨l0,l1,l2,l3,l4,l5,l6,l7,l8,l9,true,l11,true,l13,l14,l15,l16,l17,l18,l19,l20,ax1,cx1,ax2,cx2,vb,vh,rfl,(by simp),HS.out⟩
  ·obtain rfl:=hall;subst hun;go_simp;exact hK _ _ ⟨l0,l1,l2,l3,l4,l5,l6,l7,l8,l9,true,l11,l12,true,l14,l15,l16,l17,l18,l19,l20,ax1,cx1,ax2,cx2,vb,vh,rfl,(by simp),HS.out⟩
  ·obtain⟨rfl,rfl,rfl⟩:=hall;subst hun;go_simp
   go_at_call 12
   refine(Haf.out _ _ (HXD.out.below HS.out.bel)).mono ?_;rintro e u1 ⟨z1,z2,z3,z4,rfl,hr,hb⟩;have hS2:=(HS.out.dfaV hb hr).pick [1] (by decide);replace hS2:=qh hS2;go_simp;exact hK _ _ ⟨l0,l1,l2,l3,l4,l5,l6,l7,l8,l9,true,l11,true,true,true,l15,l16,l17,l18,l19,l20,z1,z2,z3,z4,w'.heap.size,u1.heap.size,rfl,(by simp),hS2.out⟩
  ·obtain⟨rfl,rfl,rfl⟩:=hall;subst hun;go_simp
   go_at_call 11
   refine(Zi2 E _ _ _ (HXE.out.below HS.out.bel) (HS.out.dfaVr 0 rfl)).mono ?_;rintro e u1 ⟨rfl,hb⟩;have hS2:=HS.out.call hb;replace hS2:=qh hS2;go_simp;exact hK _ _ ⟨l0,l1,l2,l3,l4,l5,l6,l7,l8,l9,true,true,l12,l13,true,true,l16,l17,l18,l19,l20,ax1,cx1,ax2,cx2,vb,vh,rfl,(by simp),hS2.out⟩
  ·obtain⟨rfl,rfl⟩:=hall;subst hun;go_simp;exact hK _ _ ⟨l0,l1,l2,l3,l4,l5,l6,l7,l8,l9,true,l11,l12,l13,l14,true,true,l17,l18,l19,l20,ax1,cx1,ax2,cx2,vb,vh,rfl,(by simp),HS.out⟩
  ·obtain⟨rfl,rfl⟩:=hall;subst hun;go_simp;exact hK _ _ ⟨l0,l1,l2,l3,l4,l5,l6,l7,l8,l9,l10,l11,l12,l13,l14,true,true,true,l18,l19,l20,ax1,cx1,ax2,cx2,vb,vh,rfl,(by simp),HS.out⟩
  ·obtain rfl:=hall;subst hun;go_simp
   go_at_call 13
   refine(Zes _).mono ?_;rintro e u1 ⟨rfl,rfl⟩;go_simp;exact hK _ _ ⟨l0,l1,l2,l3,l4,l5,l6,l7,l8,l9,l10,l11,l12,l13,l14,l15,l16,true,true,l19,l20,ax1,cx1,ax2,cx2,vb,vh,rfl,(by simp),HS.out⟩
  ·obtain⟨rfl,rfl⟩:=hall;subst hun;go_simp;exact hK _ _ ⟨l0,l1,l2,l3,l4,l5,l6,l7,l8,l9,l10,l11,l12,l13,l14,l15,l16,true,true,true,l20,ax1,cx1,ax2,cx2,vb,vh,rfl,(by simp),HS.out⟩
  obtain⟨rfl,rfl,rfl,rfl,rfl,rfl,rfl,rfl,rfl,rfl,rfl,rfl,rfl,rfl,rfl,rfl,rfl,rfl,rfl,rfl,-⟩:=hall;subst hun;go_simp;exact hK _ _ ⟨true,true,true,true,true,true,true,true,true,true,true,true,true,true,true,true,true,true,true,true,true,ax1,cx1,ax2,cx2,vb,vh,rfl,(by simp),HS.out⟩
 ·rintro listed a w' ⟨l0,l1,l2,l3,l4,l5,l6,l7,l8,l9,l10,l11,l12,l13,l14,l15,l16,l17,l18,l19,l20,ax1,cx1,ax2,cx2,vb,vh,rfl,rfl,hS⟩ hr;have hall:=Zan (by kernel_rfl) rfl hr;obtain rfl:l0=true:=by simpa using hall 0 (by simp)
  obtain rfl:l1=true:=by simpa using hall 1 (by simp)
  obtain rfl:l2=true:=by simpa using hall 2 (by simp)
  obtain rfl:l3=true:=by simpa using hall 3 (by simp)
  obtain rfl:l4=true:=by simpa using hall 4 (by simp)
  obtain rfl:l5=true:=by simpa using hall 5 (by simp)
  obtain rfl:l6=true:=by simpa using hall 6 (by simp)
  obtain rfl:l7=true:=by simpa using hall 7 (by simp)
  obtain rfl:l8=true:=by simpa using hall 8 (by simp)
  obtain rfl:l9=true:=by simpa using hall 9 (by simp)
  obtain rfl:l10=true:=by simpa using hall 10 (by simp)
  obtain rfl:l11=true:=by simpa using hall 11 (by simp)
  obtain rfl:l12=true:=by simpa using hall 12 (by simp)
  obtain rfl:l13=true:=by simpa using hall 13 (by simp)
  obtain rfl:l14=true:=by simpa using hall 14 (by simp)
  obtain rfl:l15=true:=by simpa using hall 15 (by simp)
  obtain rfl:l16=true:=by simpa using hall 16 (by simp)
  obtain rfl:l17=true:=by simpa using hall 17 (by simp)
  obtain rfl:l18=true:=by simpa using hall 18 (by simp)
  obtain rfl:l19=true:=by simpa using hall 19 (by simp)
  obtain rfl:l20=true:=by simpa using hall 20 (by simp)
  clear hall hr ;simp only[↓reduceIte] at hS ⊢;simp only[List.setIfInBounds_toArray,List.set_cons_zero,List.set_cons_succ];have HSf:=qh hS;clear hS;go_wp2;go_ret;exact⟨rfl,HSL.out.bel.trans (HSf.out.bel.mono HSL.out.bel.size)⟩
 refine⟨false,false,false,false,false,false,false,false,false,false,false,false,false,false,false,false,false,false,false,false,false,none,0,none,0,0,0,rfl,(by simp),?_⟩;exact(St.start (w6.alloc (.cells #[.slice r1b E.next.length s1b,.slice r2b E.ends.length s2b] 32))).drew.pick [0] (by decide)
end Go.Proofs.YtehmjmjedopkkaaGreat
