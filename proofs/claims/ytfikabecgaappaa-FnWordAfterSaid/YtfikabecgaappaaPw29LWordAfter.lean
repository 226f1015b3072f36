/-
  The walk over the law FnWordAfter.
  Condition: the argument reads as bytes.
-/
import Derived.Test.YtfikabecgaappaaPw17Lm
import Derived.Test.YtfikabecgaappaaPw24Rds
import Derived.Test.YtfikabecgaappaaPw25Jy
import Derived.Test.YtfikabecgaappaaPw28Lb
set_option maxHeartbeats 16000000
set_option maxRecDepth 100000
namespace Go.Proofs.Ytfikabecgaappaa
open Go.RowKit
theorem Zih {K:Nat} (hK:K=40) {l:List Nat} {o1 o2:Option DfaD} (h1:Zk9 K (ZaS l) o1) (h2:Zk9 K [(2,0)] o2) {D E:DfaD} (q1:o1=some D) (q2:o2.getD zeD=E):wdOk l=true∧Zae D.next D.ends=true∧Ziy D=(l.length:Int)∧∃ q:Nat,runD D 0 (lets l)=(q:Int)∧q<D.next.length∧minD (ZbY D q)=E:=by
 subst q1;rcases h1 with⟨hok,t,ht,hc⟩|⟨-,h⟩
 ·have hwd:wdOk l=true:=by
   cases hw:wdOk l with
   | true=>rfl
   | false =>rw[Ze1 hw] at hok;have:=(Zdq hok).2.2.1;simp at this
  obtain⟨h3,h4⟩:=ZiR hwd;obtain rfl:=ZhQ (ht.trans h3.symm);have hd:=Zbk hK _ hc;have hls:=ZdY hwd;have hl:(lets l).length=l.length:=by simp[lets]
  obtain⟨q,hq1,hq2⟩:=ZbK (Zan hd) (lets l) hls (Zan hd).1;refine⟨hwd,hd,?_,q,hq2,hq1,?_⟩
  ·rw[← hl];exact Zjy hd hls fun w hw=>(ZeG hK _ hc w hw).trans (h4 w)
  have hE:Zal K .one=some E:=by
   rcases h2 with⟨-,u,hu,hcu⟩|⟨h,-⟩
   ·obtain rfl:=ZhQ (hu.trans (show [(2,0)]=Ex.one.post from rfl));rw[← hcu] at q2;simp only[Zal,Option.getD_some] at q2;simp only[Zal,q2]
   exact absurd h (by decide)
  exact ZiN hK hc hls h4 hE hq2 hq1
 cases h
theorem ZeS (bs:List Nat) (v:Value) (w:World) (hb:Bytes 0 w v bs) :
  Calls Try.prog 3 #[v] w fun e w'=>e = .returned (.bool true)∧Below w.heap.size w w':=by
 have HB:=qh hb;obtain⟨av,cv,rfl,hcv1,hcv2,-⟩:=hb.form;clear hb;by_cases hlen:1048576<bs.length
 ·have hl2:(1048576:Int)<bs.length:=by omega
  go_enter Try.func3, Try.ntmps3
  go_wp2;go_ret;exact⟨rfl,Below.refl _ _⟩
 have hl2:¬ (1048576:Int)<bs.length:=by omega
 go_enter Try.func3, Try.ntmps3
 go_wp2_with fail;refine(ZdO bs _ _ HB.out (by omega)).mono ?_;rintro e w1 ⟨l,ht,hl,rfl,hb1⟩;have HW1:=qh hb1;have hsz:=ZbJ l
 have hlen10:(ZaS l).length≤100:=by
  cases hw:wdOk l with
  | false=>rw[Ze1 hw];decide
  | true=>exact Nat.le_trans (Zii hw).2 (by decide)
 obtain⟨T,hT⟩:=eJ (ZaS l);have hwi:=fun (u:World)=>ZdI l u ht (by omega)
 have hws:=fun (u:World)=>ZdG l u ht (by omega)
 rw[hT] at hwi hws hlen10;obtain⟨n,hn⟩:=eJ (l.length);rw[hn] at hsz hl;have Hwi:=qh hwi;have Hws:=qh hws;replace hT:=qh hT;have Hhn:=qh hn;clear hn;have Hht:=qh ht;clear ht;clear hb1 hwi hws;go_wp2_with fail;refine(Hwi.out _).mono ?_;rintro e w2 ⟨aT,cT,rfl,hS⟩;have HQ:=qh (Zch (hS.row 0 rfl));have HS2:=qh ((St.start w1).call hS.bel);clear hS;go_wp2_with fail;refine(Hws.out _).mono ?_;rintro e w3 ⟨aU,cU,rfl,hS⟩;have HU:=qh (Zch (hS.row 0 rfl));have HQ3:=qh (HQ.out.below hS.bel);have HS3:=qh (HS2.out.call hS.bel);clear hS;go_wp2_with fail;refine(Zfw T _ _ _ (by omega) HQ3.out HU.out).mono ?_;rintro e w4 ⟨rfl,hb⟩;have HQ4:=qh (HQ3.out.below hb);have HS4:=qh (HS3.out.call hb);clear hb;obtain⟨K,hK⟩:∃ K,K=40:=⟨40,rfl⟩;obtain⟨o1,ho1⟩:=Zh9 K T;obtain⟨o2,ho2⟩:=Zh9 K [(2,0)];obtain⟨D,hD⟩:=eJ (o1.getD zeD);obtain⟨g,hg⟩:=eJ (o1.isSome);obtain⟨E,hE⟩:∃ D,o2.getD zeD=D:=⟨_,rfl⟩;obtain⟨g2,hg2⟩:∃ g,o2.isSome=g:=⟨_,rfl⟩;have hC1:=fun (v:Value) (w:World) h=>ZbE K hK T o1 ho1 v w h
 have hC2:=fun (v:Value) (w:World) h=>ZbE K hK [(2,0)] o2 ho2 v w h
 rw[hD,hg] at hC1;rw[hE,hg2] at hC2;have HK1:=qh hC1;have HK2:=qh hC2
 have hall:=fun (h1:g=true)=>(show wdOk l=true∧Zae D.next D.ends=true∧Ziy D=(l.length:Int)∧∃ q:Nat,runD D 0 (lets l)=(q:Int)∧q<D.next.length∧minD (ZbY D q)=E from by
  obtain⟨x1,q1⟩:=Option.isSome_iff_exists.1 (hg.trans h1);obtain rfl:x1=D:=by rw[← hD,q1];rfl
  exact Zih hK (hT.out ▸ ho1) ho2 q1 hE)
 have HALL:=qh hall;clear hall hC1 hC2 hD hg hE hg2 ho1 ho2 hK;go_wp2_with fail;refine(HK1.out _ _ HQ4.out).mono ?_;rintro e w5 ⟨⟨r1a,s1a,r2a,s2a,rfl,hx⟩,hb⟩;have hb5:=((Below.refl w5.heap.size w5).alloc (Nat.le_refl _) (.cells #[.slice r1a D.next.length s1a,.slice r2a D.ends.length s2a] 30)).alloc (by simp) (.cells #[.int .i64 2,.int .i64 0] 34);have HS5:=qh ((((HS4.out.call hb).alloc _ rfl #[.slice r1a D.next.length s1a,.slice r2a D.ends.length s2a] 30).alloc (w5.heap.size+1) (by simp) #[.int .i64 2,.int .i64 0] 34).boxrow 1 1 2 [.int .i64 2,.int .i64 0] rfl rfl (by unfold maxLen;omega));have HX5:=qh (((hx.r).mono (Nat.zero_le _)).below hb5);have HQ5:=qh (Zch (xs:=[(2,0)]) (HS5.out.row 1 rfl));clear hx hb hb5 HQ HQ3 HQ4 HU;go_wp2_with fail;refine(HK2.out _ _ HQ5.out).mono ?_;rintro e w6 ⟨⟨r1b,s1b,r2b,s2b,rfl,hx⟩,hb⟩;have hS7:St w1 (w6.alloc (.cells #[.slice r1b E.next.length s1b,.slice r2b E.ends.length s2b] 30)) [Ent.box w5.heap.size #[.slice r1a D.next.length s1a,.slice r2a D.ends.length s2a] 30,Ent.box w6.heap.size #[.slice r1b E.next.length s1b,.slice r2b E.ends.length s2b] 30]:=((HS5.out.call hb).alloc _ rfl #[.slice r1b E.next.length s1b,.slice r2b E.ends.length s2b] 30).pick [0,2] (by decide);have HS7:=qh hS7;have hb6:=(Below.refl w6.heap.size w6).alloc (Nat.le_refl _) (.cells #[.slice r1b E.next.length s1b,.slice r2b E.ends.length s2b] 30)
 have HXE:=qh (((hx.r).mono (Nat.zero_le _)).below hb6);have HXD:=qh ((HX5.out.below hb).below hb6);have HSL:=qh (((St.start w).call HW1.out).call HS7.out.bel);clear hx hb hb6 HX5 HQ5 HS5 HK1 HK2 HS2 HS3 HS4 hS7;have D0:=qh (HS7.out.cell (v:=.slice r1a D.next.length s1a) 0 0 rfl rfl);have D1:=qh (HS7.out.cell (v:=.slice r2a D.ends.length s2a) 0 1 rfl rfl);have HltD:=qh (HS7.out.boxlt 0 rfl).2;have E0:=qh (HS7.out.cell (v:=.slice r1b E.next.length s1b) 1 0 rfl rfl);have E1:=qh (HS7.out.cell (v:=.slice r2b E.ends.length s2b) 1 1 rfl rfl);have HltE:=qh (HS7.out.boxlt 1 rfl).2;cases g
 ·clear HS7;go_wp2;refine wp_region_any (by kernel_rfl) ?_
  refine Zau (fun A listed a w'=>∃ (l0 l1 l2 l3 l4 l5 l6 l7 l8 l9 l10 l11 l12 l13 l14 l15 l16 l17 l18 l19:Bool) ,listed=#[l0,l1,l2,l3,l4,l5,l6,l7,l8,l9,l10,l11,l12,l13,l14,l15,l16,l17,l18,l19] ∧
    a=⟨((((((((A.tmps.setIfInBounds 32 (if l0=true then .bool false else A.tmps.getD 32 undef)).setIfInBounds 33 (if l1=true then .bool true else A.tmps.getD 33 undef)).setIfInBounds 34 (if l2=true then .bool true else A.tmps.getD 34 undef)).setIfInBounds 47 (if l15=true then .bool true else A.tmps.getD 47 undef)).setIfInBounds 48 (if l16=true then .bool true else A.tmps.getD 48 undef)).setIfInBounds 49 (if l17=true then .bool true else A.tmps.getD 49 undef)).setIfInBounds 50 (if l18=true then .bool true else A.tmps.getD 50 undef)).setIfInBounds 2 (.bool l19)),A.defers⟩ ∧
    St (w6.alloc (.cells #[.slice r1b E.next.length s1b,.slice r2b E.ends.length s2b] 30)) w' []) ?_ ?_ ?_
  ·rintro listed a w' ⟨l0,l1,l2,l3,l4,l5,l6,l7,l8,l9,l10,l11,l12,l13,l14,l15,l16,l17,l18,l19,rfl,rfl,hS⟩ i hi;obtain⟨hun,o,ho,hall⟩:=mem_ready.1 hi;have hlt:=(Array.getElem?_eq_some_iff.1 ho).1;refine wpOp_step ho (fun K hK => ?_);clear hi;have HS:=qh hS;clear hS;simp only[List.setIfInBounds_toArray,List.set_cons_zero,List.set_cons_succ,Array.getD_eq_getD_getElem?,List.getElem?_toArray,List.getElem?_cons_zero,List.getElem?_cons_succ,Option.getD_some];obtain h|h|h|h|h|h|h|h|h|h|h|h|h|h|h|h|h|h|h|h:i=0∨i=1∨i=2∨i=3∨i=4∨i=5∨i=6∨i=7∨i=8∨i=9∨i=10∨i=11∨i=12∨i=13∨i=14∨i=15∨i=16∨i=17∨i=18∨i=19:=by simp at hlt;omega
   all_goals subst h
   all_goals simp only[List.getElem?_toArray,List.getElem?_cons_zero,List.getElem?_cons_succ,Option.some.injEq] at ho
   all_goals subst ho
   all_goals simp[Region.binds] at hun hall
   ·subst hun;go_simp;exact hK _ _ ⟨true,l1,l2,l3,l4,l5,l6,l7,l8,l9,l10,l11,l12,l13,l14,l15,l16,l17,l18,l19,rfl,(by simp),HS.out⟩
   ·obtain rfl:=hall;subst hun;go_simp;exact hK _ _ ⟨true,true,l2,l3,l4,l5,l6,l7,l8,l9,l10,l11,l12,l13,l14,l15,l16,l17,l18,l19,rfl,(by simp),HS.out⟩
   ·obtain rfl:=hall;subst hun;go_simp;exact hK _ _ ⟨l0,true,true,l3,l4,l5,l6,l7,l8,l9,l10,l11,l12,l13,l14,l15,l16,l17,l18,l19,rfl,(by simp),HS.out⟩
   ·obtain rfl:=hall;subst hun;go_simp;exact hK _ _ ⟨l0,l1,true,true,l4,l5,l6,l7,l8,l9,l10,l11,l12,l13,l14,l15,l16,l17,l18,l19,rfl,(by simp),HS.out⟩
   ·obtain rfl:=hall;subst hun;go_simp;exact hK _ _ ⟨l0,l1,true,l3,true,l5,l6,l7,l8,l9,l10,l11,l12,l13,l14,l15,l16,l17,l18,l19,rfl,(by simp),HS.out⟩
   ·obtain⟨rfl,rfl,rfl⟩:=hall;subst hun;go_simp;exact hK _ _ ⟨l0,l1,true,true,true,true,l6,l7,l8,l9,l10,l11,l12,l13,l14,l15,l16,l17,l18,l19,rfl,(by simp),HS.out⟩
   ·obtain rfl:=hall;subst hun;go_simp;exact hK _ _ ⟨l0,l1,true,l3,l4,l5,true,l7,l8,l9,l10,l11,l12,l13,l14,l15,l16,l17,l18,l19,rfl,(by simp),HS.out⟩
   ·obtain⟨rfl,rfl,-,rfl⟩:=hall;subst hun;go_simp;exact hK _ _ ⟨l0,l1,true,l3,l4,true,true,true,l8,l9,l10,l11,l12,l13,l14,l15,l16,l17,l18,l19,rfl,(by simp),HS.out⟩
   ·obtain⟨rfl,rfl⟩:=hall;subst hun;go_simp;exact hK _ _ ⟨l0,l1,true,l3,l4,l5,l6,true,true,l9,l10,l11,l12,l13,l14,l15,l16,l17,l18,l19,rfl,(by simp),HS.out⟩
   ·obtain rfl:=hall;subst hun;go_simp;exact hK _ _ ⟨l0,l1,l2,l3,l4,l5,l6,l7,true,true,l10,l11,l12,l13,l14,l15,l16,l17,l18,l19,rfl,(by simp),HS.out⟩
   ·obtain⟨rfl,rfl⟩:=hall;subst hun;go_simp;exact hK _ _ ⟨l0,l1,l2,l3,l4,l5,l6,l7,true,true,true,l11,l12,l13,l14,l15,l16,l17,l18,l19,rfl,(by simp),HS.out⟩
   ·obtain rfl:=hall;subst hun;go_simp;exact hK _ _ ⟨l0,l1,l2,l3,l4,l5,l6,l7,true,l9,l10,true,l12,l13,l14,l15,l16,l17,l18,l19,rfl,(by simp),HS.out⟩
   ·obtain⟨rfl,rfl⟩:=hall;subst hun;go_simp;exact hK _ _ ⟨l0,l1,l2,l3,l4,l5,l6,l7,true,l9,l10,true,true,l13,l14,l15,l16,l17,l18,l19,rfl,(by simp),HS.out⟩
   ·obtain⟨rfl,rfl,rfl⟩:=hall;subst hun;go_simp;exact hK _ _ ⟨l0,l1,l2,l3,l4,l5,l6,l7,true,l9,true,l11,true,true,l14,l15,l16,l17,l18,l19,rfl,(by simp),HS.out⟩
   ·obtain⟨rfl,rfl,rfl⟩:=hall;subst hun;go_simp;exact hK _ _ ⟨l0,l1,true,l3,l4,l5,l6,l7,true,l9,l10,l11,l12,true,true,l15,l16,l17,l18,l19,rfl,(by simp),HS.out⟩
   ·obtain⟨rfl,rfl⟩:=hall;subst hun;go_simp;exact hK _ _ ⟨l0,l1,true,l3,l4,l5,l6,l7,l8,l9,l10,l11,l12,l13,true,true,l16,l17,l18,l19,rfl,(by simp),HS.out⟩
   ·obtain⟨rfl,rfl⟩:=hall;subst hun;go_simp;exact hK _ _ ⟨l0,l1,l2,l3,l4,l5,l6,l7,l8,l9,true,l11,l12,l13,l14,true,true,l17,l18,l19,rfl,(by simp),HS.out⟩
   ·obtain rfl:=hall;subst hun;go_simp
    go_at_call 13
    refine(ZgZ _).mono ?_;rintro e u1 ⟨rfl,rfl⟩;go_simp;exact hK _ _ ⟨l0,l1,l2,l3,l4,l5,l6,l7,l8,l9,l10,l11,l12,l13,l14,l15,true,true,l18,l19,rfl,(by simp),HS.out⟩
   ·obtain⟨rfl,rfl⟩:=hall;subst hun;go_simp;exact hK _ _ ⟨l0,l1,l2,l3,l4,l5,l6,l7,l8,l9,l10,l11,l12,l13,l14,l15,true,true,true,l19,rfl,(by simp),HS.out⟩
   obtain⟨rfl,rfl,rfl,rfl,rfl,rfl,rfl,rfl,rfl,rfl,rfl,rfl,rfl,rfl,rfl,rfl,rfl,rfl,rfl,-⟩:=hall;subst hun;go_simp;exact hK _ _ ⟨true,true,true,true,true,true,true,true,true,true,true,true,true,true,true,true,true,true,true,true,rfl,(by simp),HS.out⟩
  ·rintro listed a w' ⟨l0,l1,l2,l3,l4,l5,l6,l7,l8,l9,l10,l11,l12,l13,l14,l15,l16,l17,l18,l19,rfl,rfl,hS⟩ hr;have hall:=ZaL (by kernel_rfl) rfl hr;obtain rfl:l0=true:=by simpa using hall 0 (by simp)
   obtain rfl:l1=true:=by simpa using hall 1 (by simp)
   obtain rfl:l2=true:=by simpa using hall 2 (by simp)
   obtain rfl:l3=true:=by simpa using hall 3 (by simp)
   obtain rfl:l4=true:=by simpa using hall 4 (by simp)
   obtain rfl:l5=true:=by simpa using hall 5 (by simp)
   obtain rfl:l6=true:=by simpa using hall 6 (by simp)
   obtain rfl:l7=true:=by simpa using hall 7 (by simp)
   obtain rfl:l8=true:=by simpa using hall 8 (by simp)
   obtain rfl:l9=true:=by simpa using hall 9 (by simp)
   obtain rfl:l10=true:=by simpa using hall 10 (by simp)
   obtain rfl:l11=true:=by simpa using hall 11 (by simp)
   obtain rfl:l12=true:=by simpa using hall 12 (by simp)
   obtain rfl:l13=true:=by simpa using hall 13 (by simp)
   obtain rfl:l14=true:=by simpa using hall 14 (by simp)
   obtain rfl:l15=true:=by simpa using hall 15 (by simp)
   obtain rfl:l16=true:=by simpa using hall 16 (by simp)
   obtain rfl:l17=true:=by simpa using hall 17 (by simp)
   obtain rfl:l18=true:=by simpa using hall 18 (by simp)
   obtain rfl:l19=true:=by simpa using hall 19 (by simp)
   clear hall hr ;simp only[↓reduceIte] at hS ⊢;simp only[List.setIfInBounds_toArray,List.set_cons_zero,List.set_cons_succ,Array.getD_eq_getD_getElem?,List.getElem?_toArray,List.getElem?_cons_zero,List.getElem?_cons_succ,Option.getD_some];have HSf:=qh hS;clear hS;go_wp2;go_ret;exact⟨rfl,HSL.out.bel.trans (HSf.out.bel.mono HSL.out.bel.size)⟩
  refine⟨false,false,false,false,false,false,false,false,false,false,false,false,false,false,false,false,false,false,false,false,rfl,(by simp),?_⟩;exact(St.start (w6.alloc (.cells #[.slice r1b E.next.length s1b,.slice r2b E.ends.length s2b] 30))).drew.pick [] (by decide)
 obtain⟨hwd,hok,hlo,q,hq1,hq2,hq3⟩:=HALL.out rfl;have haf:=fun (v:Value) (u:World) h=>ZgQ D l q hq1 hq2 v u hok h Hht.out hwd
 rw[hq3] at haf;have hlg:=fun (v:Value) (u:World) h=>Zhk D v u hok h
 rw[hlo,Hhn.out] at hlg;have Haf:=qh haf;have Hlg:=qh hlg;clear haf hlg HS7 HALL hwd hok hlo hq1 hq2 hq3;go_wp2;refine wp_region_any (by kernel_rfl) ?_
 refine Zau (fun A listed a w'=>∃ (l0 l1 l2 l3 l4 l5 l6 l7 l8 l9 l10 l11 l12 l13 l14 l15 l16 l17 l18 l19:Bool) (ax1:Option Addr) (cx1:Nat) (ax2:Option Addr) (cx2:Nat) (vb:Nat) (vh:Nat),listed=#[l0,l1,l2,l3,l4,l5,l6,l7,l8,l9,l10,l11,l12,l13,l14,l15,l16,l17,l18,l19] ∧
   a=⟨((((((((((((((((((((A.tmps.setIfInBounds 32 (if l0=true then .bool true else A.tmps.getD 32 undef)).setIfInBounds 33 (if l1=true then .bool false else A.tmps.getD 33 undef)).setIfInBounds 34 (if l2=true then .bool false else A.tmps.getD 34 undef)).setIfInBounds 35 (if l3=true then .agg #[.slice r1a D.next.length s1a,.slice r2a D.ends.length s2a] else A.tmps.getD 35 undef)).setIfInBounds 36 (if l4=true then .string (txB l) else A.tmps.getD 36 undef)).setIfInBounds 37 (if l5=true then .agg #[.slice ax1 E.next.length cx1,.slice ax2 E.ends.length cx2] else A.tmps.getD 37 undef)).setIfInBounds 38 (if l6=true then .agg #[.slice r1b E.next.length s1b,.slice r2b E.ends.length s2b] else A.tmps.getD 38 undef)).setIfInBounds 39 (if l7=true then .bool true else A.tmps.getD 39 undef)).setIfInBounds 40 (if l8=true then .bool true else A.tmps.getD 40 undef)).setIfInBounds 41 (if l9=true then .agg #[.slice r1a D.next.length s1a,.slice r2a D.ends.length s2a] else A.tmps.getD 41 undef)).setIfInBounds 42 (if l10=true then .int .i64 (n:Int) else A.tmps.getD 42 undef)).setIfInBounds 43 (if l11=true then .string (txB l) else A.tmps.getD 43 undef)).setIfInBounds 44 (if l12=true then .int .i64 (n:Int) else A.tmps.getD 44 undef)).setIfInBounds 45 (if l13=true then .bool true else A.tmps.getD 45 undef)).setIfInBounds 46 (if l14=true then .bool true else A.tmps.getD 46 undef)).setIfInBounds 47 (if l15=true then .bool true else A.tmps.getD 47 undef)).setIfInBounds 48 (if l16=true then .bool true else A.tmps.getD 48 undef)).setIfInBounds 49 (if l17=true then .bool true else A.tmps.getD 49 undef)).setIfInBounds 50 (if l18=true then .bool true else A.tmps.getD 50 undef)).setIfInBounds 2 (.bool l19)),A.defers⟩ ∧
   St (w6.alloc (.cells #[.slice r1b E.next.length s1b,.slice r2b E.ends.length s2b] 30)) w' [(if l5=true then DfaV vb vh (.slice ax1 E.next.length cx1) (.slice ax2 E.ends.length cx2) E else Ent.nil)]) ?_ ?_ ?_
 ·rintro listed a w' ⟨l0,l1,l2,l3,l4,l5,l6,l7,l8,l9,l10,l11,l12,l13,l14,l15,l16,l17,l18,l19,ax1,cx1,ax2,cx2,vb,vh,rfl,rfl,hS⟩ i hi;obtain⟨hun,o,ho,hall⟩:=mem_ready.1 hi;have hlt:=(Array.getElem?_eq_some_iff.1 ho).1;refine wpOp_step ho (fun K hK => ?_);clear hi;have HS:=qh hS;clear hS;simp only[List.setIfInBounds_toArray,List.set_cons_zero,List.set_cons_succ,Array.getD_eq_getD_getElem?,List.getElem?_toArray,List.getElem?_cons_zero,List.getElem?_cons_succ,Option.getD_some];obtain h|h|h|h|h|h|h|h|h|h|h|h|h|h|h|h|h|h|h|h:i=0∨i=1∨i=2∨i=3∨i=4∨i=5∨i=6∨i=7∨i=8∨i=9∨i=10∨i=11∨i=12∨i=13∨i=14∨i=15∨i=16∨i=17∨i=18∨i=19:=by simp at hlt;omega
  all_goals subst h
  all_goals simp only[List.getElem?_toArray,List.getElem?_cons_zero,List.getElem?_cons_succ,Option.some.injEq] at ho
  all_goals subst ho
  all_goals simp[Region.binds] at hun hall
  ·subst hun;go_simp;exact hK _ _ ⟨true,l1,l2,l3,l4,l5,l6,l7,l8,l9,l10,l11,l12,l13,l14,l15,l16,l17,l18,l19,ax1,cx1,ax2,cx2,vb,vh,rfl,(by simp),HS.out⟩
  ·obtain rfl:=hall;subst hun;go_simp;exact hK _ _ ⟨true,true,l2,l3,l4,l5,l6,l7,l8,l9,l10,l11,l12,l13,l14,l15,l16,l17,l18,l19,ax1,cx1,ax2,cx2,vb,vh,rfl,(by simp),HS.out⟩
  ·obtain rfl:=hall;subst hun;go_simp;exact hK _ _ ⟨l0,true,true,l3,l4,l5,l6,l7,l8,l9,l10,l11,l12,l13,l14,l15,l16,l17,l18,l19,ax1,cx1,ax2,cx2,vb,vh,rfl,(by simp),HS.out⟩
  ·obtain rfl:=hall;subst hun;have e0:=(bcell HS.out.bel (w5.heap.size) (0) HltD.out).trans D0.out;have e1:=(bcell HS.out.bel (w5.heap.size) (1) HltD.out).trans D1.out;go_simp;exact hK _ _ ⟨l0,l1,true,true,l4,l5,l6,l7,l8,l9,l10,l11,l12,l13,l14,l15,l16,l17,l18,l19,ax1,cx1,ax2,cx2,vb,vh,rfl,(by simp),HS.out⟩
  ·obtain rfl:=hall;subst hun;go_simp;exact hK _ _ ⟨l0,l1,true,l3,true,l5,l6,l7,l8,l9,l10,l11,l12,l13,l14,l15,l16,l17,l18,l19,ax1,cx1,ax2,cx2,vb,vh,rfl,(by simp),HS.out⟩
  ·obtain⟨rfl,rfl,rfl⟩:=hall;subst hun;go_simp
   go_at_call 11
   refine(Haf.out _ _ (HXD.out.below HS.out.bel)).mono ?_;rintro e u1 ⟨z1,z2,z3,z4,rfl,hr,hb⟩;have hS2:=(HS.out.dfaV hb hr).pick [1] (by decide);replace hS2:=qh hS2;go_simp;exact hK _ _ ⟨l0,l1,true,true,true,true,l6,l7,l8,l9,l10,l11,l12,l13,l14,l15,l16,l17,l18,l19,z1,z2,z3,z4,w'.heap.size,u1.heap.size,rfl,(by simp),hS2.out⟩
  ·obtain rfl:=hall;subst hun;have e0:=(bcell HS.out.bel (w6.heap.size) (0) HltE.out).trans E0.out;have e1:=(bcell HS.out.bel (w6.heap.size) (1) HltE.out).trans E1.out;go_simp;exact hK _ _ ⟨l0,l1,true,l3,l4,l5,true,l7,l8,l9,l10,l11,l12,l13,l14,l15,l16,l17,l18,l19,ax1,cx1,ax2,cx2,vb,vh,rfl,(by simp),HS.out⟩
  ·obtain⟨rfl,rfl,-,rfl⟩:=hall;subst hun;go_simp
   go_at_call 10
   refine(Zha E _ _ _ (HS.out.dfaVr 0 rfl) (HXE.out.below HS.out.bel)).mono ?_;rintro e u1 ⟨rfl,hb⟩;have hS2:=HS.out.call hb;replace hS2:=qh hS2;go_simp;exact hK _ _ ⟨l0,l1,true,l3,l4,true,true,true,l8,l9,l10,l11,l12,l13,l14,l15,l16,l17,l18,l19,ax1,cx1,ax2,cx2,vb,vh,rfl,(by simp),hS2.out⟩
  ·obtain⟨rfl,rfl⟩:=hall;subst hun;go_simp;exact hK _ _ ⟨l0,l1,true,l3,l4,l5,l6,true,true,l9,l10,l11,l12,l13,l14,l15,l16,l17,l18,l19,ax1,cx1,ax2,cx2,vb,vh,rfl,(by simp),HS.out⟩
  ·obtain rfl:=hall;subst hun;have e0:=(bcell HS.out.bel (w5.heap.size) (0) HltD.out).trans D0.out;have e1:=(bcell HS.out.bel (w5.heap.size) (1) HltD.out).trans D1.out;go_simp;exact hK _ _ ⟨l0,l1,l2,l3,l4,l5,l6,l7,true,true,l10,l11,l12,l13,l14,l15,l16,l17,l18,l19,ax1,cx1,ax2,cx2,vb,vh,rfl,(by simp),HS.out⟩
  ·obtain⟨rfl,rfl⟩:=hall;subst hun;go_simp
   go_at_call 12
   refine(Hlg.out _ _ (HXD.out.below HS.out.bel)).mono ?_;rintro e u1 ⟨rfl,hb⟩;have hS2:=HS.out.call hb;replace hS2:=qh hS2;go_simp;exact hK _ _ ⟨l0,l1,l2,l3,l4,l5,l6,l7,true,true,true,l11,l12,l13,l14,l15,l16,l17,l18,l19,ax1,cx1,ax2,cx2,vb,vh,rfl,(by simp),hS2.out⟩
  ·obtain rfl:=hall;subst hun;go_simp;exact hK _ _ ⟨l0,l1,l2,l3,l4,l5,l6,l7,true,l9,l10,true,l12,l13,l14,l15,l16,l17,l18,l19,ax1,cx1,ax2,cx2,vb,vh,rfl,(by simp),HS.out⟩
  ·obtain⟨rfl,rfl⟩:=hall;subst hun;go_simp;exact hK _ _ ⟨l0,l1,l2,l3,l4,l5,l6,l7,true,l9,l10,true,true,l13,l14,l15,l16,l17,l18,l19,ax1,cx1,ax2,cx2,vb,vh,rfl,(by simp),HS.out⟩
  ·obtain⟨rfl,rfl,rfl⟩:=hall;subst hun;go_simp;exact hK _ _ ⟨l0,l1,l2,l3,l4,l5,l6,l7,true,l9,true,l11,true,true,l14,l15,l16,l17,l18,l19,ax1,cx1,ax2,cx2,vb,vh,rfl,(by simp),HS.out⟩
  ·obtain⟨rfl,rfl,rfl⟩:=hall;subst hun;go_simp;exact hK _ _ ⟨l0,l1,true,l3,l4,l5,l6,l7,true,l9,l10,l11,l12,true,true,l15,l16,l17,l18,l19,ax1,cx1,ax2,cx2,vb,vh,rfl,(by simp),HS.out⟩
  ·obtain⟨rfl,rfl⟩:=hall;subst hun;go_simp;exact hK _ _ ⟨l0,l1,true,l3,l4,l5,l6,l7,l8,l9,l10,l11,l12,l13,true,true,l16,l17,l18,l19,ax1,cx1,ax2,cx2,vb,vh,rfl,(by simp),HS.out⟩
  ·obtain⟨rfl,rfl⟩:=hall;subst hun;go_simp;exact hK _ _ ⟨l0,l1,l2,l3,l4,l5,l6,l7,l8,l9,true,l11,l12,l13,l14,true,true,l17,l18,l19,ax1,cx1,ax2,cx2,vb,vh,rfl,(by simp),HS.out⟩
  ·obtain rfl:=hall;subst hun;go_simp
   go_at_call 13
   refine(ZgZ _).mono ?_;rintro e u1 ⟨rfl,rfl⟩;go_simp;exact hK _ _ ⟨l0,l1,l2,l3,l4,l5,l6,l7,l8,l9,l10,l11,l12,l13,l14,l15,true,true,l18,l19,ax1,cx1,ax2,cx2,vb,vh,rfl,(by simp),HS.out⟩
  ·obtain⟨rfl,rfl⟩:=hall;subst hun;go_simp;exact hK _ _ ⟨l0,l1,l2,l3,l4,l5,l6,l7,l8,l9,l10,l11,l12,l13,l14,l15,true,true,true,l19,ax1,cx1,ax2,cx2,vb,vh,rfl,(by simp),HS.out⟩
  obtain⟨rfl,rfl,rfl,rfl,rfl,rfl,rfl,rfl,rfl,rfl,rfl,rfl,rfl,rfl,rfl,rfl,rfl,rfl,rfl,-⟩:=hall;subst hun;go_simp;exact hK _ _ ⟨true,true,true,true,true,true,true,true,true,true,true,true,true,true,true,true,true,true,true,true,ax1,cx1,ax2,cx2,vb,vh,rfl,(by simp),HS.out⟩
 ·rintro listed a w' ⟨l0,l1,l2,l3,l4,l5,l6,l7,l8,l9,l10,l11,l12,l13,l14,l15,l16,l17,l18,l19,ax1,cx1,ax2,cx2,vb,vh,rfl,rfl,hS⟩ hr;have hall:=ZaL (by kernel_rfl) rfl hr;obtain rfl:l0=true:=by simpa using hall 0 (by simp)
  obtain rfl:l1=true:=by simpa using hall 1 (by simp)
  obtain rfl:l2=true:=by simpa using hall 2 (by simp)
  obtain rfl:l3=true:=by simpa using hall 3 (by simp)
  obtain rfl:l4=true:=by simpa using hall 4 (by simp)
  obtain rfl:l5=true:=by simpa using hall 5 (by simp)
  obtain rfl:l6=true:=by simpa using hall 6 (by simp)
  obtain rfl:l7=true:=by simpa using hall 7 (by simp)
  obtain rfl:l8=true:=by simpa using hall 8 (by simp)
  obtain rfl:l9=true:=by simpa using hall 9 (by simp)
  obtain rfl:l10=true:=by simpa using hall 10 (by simp)
  obtain rfl:l11=true:=by simpa using hall 11 (by simp)
  obtain rfl:l12=true:=by simpa using hall 12 (by simp)
  obtain rfl:l13=true:=by simpa using hall 13 (by simp)
  obtain rfl:l14=true:=by simpa using hall 14 (by simp)
  obtain rfl:l15=true:=by simpa using hall 15 (by simp)
  obtain rfl:l16=true:=by simpa using hall 16 (by simp)
  obtain rfl:l17=true:=by simpa using hall 17 (by simp)
  obtain rfl:l18=true:=by simpa using hall 18 (by simp)
  obtain rfl:l19=true:=by simpa using hall 19 (by simp)
  clear hall hr ;simp only[↓reduceIte] at hS ⊢;simp only[List.setIfInBounds_toArray,List.set_cons_zero,List.set_cons_succ,Array.getD_eq_getD_getElem?,List.getElem?_toArray,List.getElem?_cons_zero,List.getElem?_cons_succ,Option.getD_some];have HSf:=qh hS;clear hS;go_wp2;go_ret;exact⟨rfl,HSL.out.bel.trans (HSf.out.bel.mono HSL.out.bel.size)⟩
 refine⟨false,false,false,false,false,false,false,false,false,false,false,false,false,false,false,false,false,false,false,false,none,0,none,0,0,0,rfl,(by simp),?_⟩;exact(St.start (w6.alloc (.cells #[.slice r1b E.next.length s1b,.slice r2b E.ends.length s2b] 30))).drew.pick [0] (by decide)
end Go.Proofs.Ytfikabecgaappaa
