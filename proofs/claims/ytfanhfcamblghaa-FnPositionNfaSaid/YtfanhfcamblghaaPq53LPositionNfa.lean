/-
  The walk over the law FnPositionNfa.
  Conditions: the arguments read as bytes.
-/
import Derived.Test.YtfanhfcamblghaaPq52Wr
set_option maxHeartbeats 16000000
set_option maxRecDepth 100000
namespace Go.Proofs.Ytfanhfcamblghaa
open Go.RowKit
theorem Zey (bs cs:List Nat) (v u:Value) (w:World) (hb:Bytes 0 w v bs) (hc:Bytes 0 w u cs) :
  Calls Try.prog 3 #[v,u] w fun e w'=>e = .returned (.bool true)∧Below w.heap.size w w':=by
 have HB:=qh hb;have HC:=qh hc;obtain⟨av,cv,rfl,hcv1,hcv2,-⟩:=hb.form;obtain⟨au,cu,rfl,hcu1,hcu2,-⟩:=hc.form;clear hb hc;by_cases hlen:1048576<bs.length
 ·have hl2:(1048576:Int)<bs.length:=by omega
  go_enter Try.func3, Try.ntmps3
  go_wp2;go_ret;exact⟨rfl,Below.refl _ _⟩
 have hl2:¬ (1048576:Int)<bs.length:=by omega
 by_cases hlen2:1048576<cs.length
 ·have hl3:(1048576:Int)<cs.length:=by omega
  go_enter Try.func3, Try.ntmps3
  go_wp2;go_ret;exact⟨rfl,Below.refl _ _⟩
 have hl3:¬ (1048576:Int)<cs.length:=by omega
 go_enter Try.func3, Try.ntmps3
 go_wp2_with fail;refine(ZcJ bs _ _ HB.out (by omega)).mono ?_;rintro e w1 ⟨es,ve,hel,rfl,hp,hb1⟩;obtain⟨ae,ce,rfl,hc1,hc2,-⟩:=hp.form;have HP:=qh hp;have HW1:=qh hb1;clear hp hb1;obtain⟨n,hn⟩:=eI (es.length);rw[← hn] at hc1 HP hel;rw[← hn];obtain⟨o,ho⟩:=Zke es;have him:=fun (v:Value) (u:World) h=>Zch es o ho v u h
 have hsp:=fun (v:Value) (u:World) h=>Zb8 es o ho v u (by omega) h
 obtain⟨N,hN⟩:=eJ (o.getD zeN);obtain⟨ok,hok⟩:=eJ (o.isSome);rw[hN,hok] at him hsp
 have hs:ok=true→o=some N:=fun h=>by
  cases o with
  | none=>rw[h] at hok;cases hok
  | some d=>rw[← hN];rfl
 have hz:ok=false→N.states=0:=fun h=>by
  cases o with
  | none=>rw[← hN];rfl
  | some d=>rw[h] at hok;cases hok
 have hNb:0≤N.states∧N.states≤1000:=by
  cases hk:ok with
  | false=>rw[hz hk];omega
  | true =>obtain⟨h1,-⟩:=ZgA (hs hk ▸ ho);obtain⟨m,h1,h2,-⟩:=Zao h1;rw[h1];omega
 have Him:=qh him;have Hsp:=qh hsp;have Ho:=qh ho;replace hn:=qh hn;have Hhz:=qh hz;clear hz;have Hhs:=qh hs;clear hs;clear him hsp hN hok ho;go_wp2_with fail;refine(Him.out _ _ HP.out).mono ?_;rintro e w2 ⟨a1,a2,a3,a4,a5,a6,rfl,hS⟩;have hb2:=(Below.refl w2.heap.size w2).alloc (Nat.le_refl _) (.cells #[.int .i64 N.states,.slice a1 N.moves.length a2,.slice a3 N.firsts.length a4,.slice a5 N.ends.length a6] 28);have HS2:=qh (((St.start w1).call hS.bel).alloc _ rfl #[.int .i64 N.states,.slice a1 N.moves.length a2,.slice a3 N.firsts.length a4,.slice a5 N.ends.length a6] 28);have hRa:NfaR 0 w2 (.agg #[.int .i64 N.states,.slice a1 N.moves.length a2,.slice a3 N.firsts.length a4,.slice a5 N.ends.length a6]) N:=Za1 (Zau (hS.row 0 rfl)) (Zah (hS.row 1 rfl)) (Zah (hS.row 2 rfl)) (by omega) (by omega);have HX2:=qh (hRa.below hb2);have HP2:=qh (HP.out.below HS2.out.bel);clear hS hb2 hRa;go_wp2_with fail;refine(Hsp.out _ _ HP2.out).mono ?_;rintro e w3 ⟨b1,b2,b3,b4,b5,b6,rfl,hS⟩;have hb3:=(Below.refl w3.heap.size w3).alloc (Nat.le_refl _) (.cells #[.int .i64 N.states,.slice b1 N.moves.length b2,.slice b3 N.firsts.length b4,.slice b5 N.ends.length b6] 28);have HS3:=qh ((HS2.out.call hS.bel).alloc _ rfl #[.int .i64 N.states,.slice b1 N.moves.length b2,.slice b3 N.firsts.length b4,.slice b5 N.ends.length b6] 28);have HX3:=qh ((HX2.out.below hS.bel).below hb3)
 have hRb:NfaR 0 w3 (.agg #[.int .i64 N.states,.slice b1 N.moves.length b2,.slice b3 N.firsts.length b4,.slice b5 N.ends.length b6]) N:=Za1 (Zau (hS.row 0 rfl)) (Zah (hS.row 1 rfl)) (Zah (hS.row 2 rfl)) (by omega) (by omega);have HY3:=qh (hRb.below hb3);have HP3:=qh ((HP2.out.below hS.bel).below hb3);clear hS hb3 hRb HS2 HX2 HP2;have e0:=HS3.out.cell (v:=.int .i64 N.states) 0 0 rfl rfl;have e1:=HS3.out.cell (v:=.slice a1 N.moves.length a2) 0 1 rfl rfl;have e2:=HS3.out.cell (v:=.slice a3 N.firsts.length a4) 0 2 rfl rfl;have e3:=HS3.out.cell (v:=.slice a5 N.ends.length a6) 0 3 rfl rfl;have f0:=HS3.out.cell (v:=.int .i64 N.states) 1 0 rfl rfl;have f1:=HS3.out.cell (v:=.slice b1 N.moves.length b2) 1 1 rfl rfl;have f2:=HS3.out.cell (v:=.slice b3 N.firsts.length b4) 1 2 rfl rfl;have f3:=HS3.out.cell (v:=.slice b5 N.ends.length b6) 1 3 rfl rfl;go_wp2_with fail;refine(Ze6 N _ _ _ HX3.out HY3.out).mono ?_;rintro e w4 ⟨rfl,hb⟩;have HS4:=qh (HS3.out.call hb);have HX4:=qh (HX3.out.below hb);have HP4:=qh (HP3.out.below hb);have hff:(ok != ok)=false:=by simp
 clear hb HS3 HX3 HY3 HP3 e0 e1 e2 e3 f0 f1 f2 f3 Him Hsp;cases hoc:ok with
 | false =>
  have hzz:=Hhz.out hoc;subst hoc;have e0:=HS4.out.cell (v:=.int .i64 N.states) 0 0 rfl rfl;rw[hzz] at e0
  as_aux_lemma =>
  go_wp2_with (go_at_call 10;refine(Zcq _).mono ?_;rintro e w' ⟨rfl,rfl⟩);go_ret;exact⟨rfl,HW1.out.trans (HS4.out.bel.mono HW1.out.size)⟩
 | true =>
  have hso:=Hhs.out hoc;subst hoc;obtain⟨hnok,hacc,hmv,hst,t,ht0,hl60,hnl⟩:=ZgA (hso ▸ Ho.out);have Hnok:=qh hnok;have Hacc0:=qh hacc;have hml:N.moves.length≤400:=by unfold Zaq at hnok;simp only[Bool.and_eq_true,decide_eq_true_eq] at hnok;exact hnok.1.1.1.2
  obtain⟨z,hz9⟩:=eJ (hasE t);have hnil:∀ (u:World),NfaR 0 u (.agg #[.int .i64 N.states,.slice a1 N.moves.length a2,.slice a3 N.firsts.length a4,.slice a5 N.ends.length a6]) N→Calls Try.prog 14 #[.agg #[.int .i64 N.states,.slice a1 N.moves.length a2,.slice a3 N.firsts.length a4,.slice a5 N.ends.length a6],.string { data:=#[] }] u fun e w'=>e = .returned (.bool z)∧Below u.heap.size u w':=fun u hu=>Zdf N [] _ u (fun b hb=>by cases hb) (by decide) hu z (hnl.trans hz9)
  have hemp:∀ (u:World),Pairs 0 u (.slice ae n ce) es→Calls Try.prog 16 #[.slice ae n ce] u fun e w'=>e = .returned (.bool z)∧Below u.heap.size u w':=fun u hu=>by have h:=ZeB t (by rw[ht0];exact hl60) (.slice ae n ce) u (by rw[ht0];exact hu);rw[hz9] at h;exact h
  obtain⟨lp,hlp⟩:∃ k,(lpL es).length=k:=⟨_,rfl⟩;have hlpc:∀ (u:World),Pairs 0 u (.slice ae n ce) es→Calls Try.prog 13 #[.slice ae n ce] u fun e w'=>∃ a c,e = .returned (.slice a lp c)∧St u w' [Ent.row 3 1 (.slice a lp c) lp (natC (lpL es))]:=fun u hu=>by have h:=Zbu es (.slice ae n ce) u hu;simp only[ROn,hlp] at h;exact h
  rw[hlp] at hst;have hlw:IntKind.i64.wrap ((lp:Int)+1)=N.states:=by rw[IntWalk.i64_in _ (by omega),hst]
  have Hnil:=qh hnil;have Hemp:=qh hemp;have Hlp:=qh hlpc;have Hmv:=qh hmv;have Hhz9:=qh hz9;clear hz9;replace hlp:=qh hlp;have Hhst:=qh hst;clear hst;have Hht0:=qh ht0;clear ht0;clear hso hnok hacc hmv hnl hnil hemp hlpc;have e0:=HS4.out.cell (v:=.int .i64 N.states) 0 0 rfl rfl;have e1:=HS4.out.cell (v:=.slice a1 N.moves.length a2) 0 1 rfl rfl;obtain⟨M,hM⟩:∃ l,N.moves.length=l:=⟨_,rfl⟩;have hmr:∀ i,i<M→∃ b off,a1=some ⟨b,off,none⟩∧∃ x y,0≤x∧y≠0∧w4.cell? ⟨b,off+i*3+1,none⟩=some (.int .i64 x)∧w4.cell? ⟨b,off+i*3+2,none⟩=some (.int .i64 y):=fun i hi=>by obtain⟨u1,u2,u3,hv,g1,-⟩:=HX4.out;simp only[Value.agg.injEq,Array.mk.injEq,List.cons.injEq,true_and,and_true] at hv;obtain⟨rfl,-,-⟩:=hv;obtain⟨a,c,hva,-,-,hr⟩:=g1.form;simp only[Value.slice.injEq] at hva;obtain⟨rfl,-,-⟩:=hva;obtain⟨b,off,hab,-,-,hcc⟩:=hr (by omega);obtain⟨-,h2,h3⟩:=hcc i (by omega);have hm:=Hmv.out (N.moves.getD i (0,0,0)) (by rw[List.getD_eq_getElem?_getD,List.getElem?_eq_getElem (by omega)];exact List.getElem_mem _);exact⟨b,off,hab,_,_,hm.1,hm.2,h2,h3⟩
  have Hmr:=qh hmr;rw[hM] at e1 hml;replace hM:=qh hM;clear hmr;go_wp2
  go_loopw [4,10] (fun rv iv wr=>rv = .bool false∧∃ i:Nat,iv = .int .i64 (i:Int)∧i≤M∧w4=wr) (fun _ iv _=>M-(intOf iv).toNat)
  case atStart=>exact⟨rfl,0,rfl,Nat.zero_le _,rfl⟩
  case round =>
  obtain⟨rfl,i,rfl,hi,rfl⟩:=hrel;by_cases hil:i<M
  ·have hilI:(i:Int)<(M:Int):=by omega
   obtain⟨b,off,rfl,x,y,hx,hy,g1,g2⟩:=Hmr.out i hil;have hxI:¬ x<0:=by omega
   obtain⟨q1,q2,q3,q4⟩:=Zan hy;go_wp2;go_roundw
   case rel=>exact⟨rfl,i+1,by go_num,by omega,trivial⟩
   case measure=>simp[intOf];omega
  obtain rfl:i=M:=by omega
  clear e0 e1 hil hi Hmr;have e1:=HS4.out.cell (v:=.slice a1 N.moves.length a2) 0 1 rfl rfl;rw[hM.out] at e1;go_wp2_with fail;refine(Zhv cs _ _ (HC.out.below (HW1.out.trans (HS4.out.bel.mono HW1.out.size))) (by omega)).mono ?_;rintro e w5 ⟨l,ht,hl,rfl,hb⟩;have HS7:Hid (St w1 w5 [Ent.box w2.heap.size #[.int .i64 N.states,.slice a1 N.moves.length a2,.slice a3 N.firsts.length a4,.slice a5 N.ends.length a6] 28]):=qh ((HS4.out.call hb).pick [0] (by decide));have HXN:=qh (HX4.out.below hb);have HXP:=qh (HP4.out.below hb);have HSL:=qh (((St.start w).call HW1.out).call HS7.out.bel);obtain⟨q,hr⟩:=ZnF es l;have hq:=Hacc0.out l q hr;have hqq:(q==q)=true:=beq_self_eq_true q;have hzz:(z==z)=true:=beq_self_eq_true z;have Haccq:=qh hq;have Hht:=qh ht;clear ht;have Hhr:=qh hr;clear hr;clear hb hq e1 HS4 HX4 HP4 Hacc0;have N0:=qh (HS7.out.cell (v:=.int .i64 N.states) 0 0 rfl rfl);have N1:=qh (HS7.out.cell (v:=.slice a1 N.moves.length a2) 0 1 rfl rfl);have N2:=qh (HS7.out.cell (v:=.slice a3 N.firsts.length a4) 0 2 rfl rfl);have N3:=qh (HS7.out.cell (v:=.slice a5 N.ends.length a6) 0 3 rfl rfl);have HltN:=qh (HS7.out.boxlt 0 rfl).2;clear HS7;go_wp2;refine wp_region_any (by kernel_rfl) ?_
  refine Zaf (fun A listed a w'=>∃ (l0 l1 l2 l3 l4 l5 l6 l7 l8 l9 l10 l11 l12 l13 l14 l15 l16 l17 l18 l19 l20 l21 l22 l23 l24 l25 l26 l27:Bool) (aL:Option Addr) (cL:Nat),listed=#[l0,l1,l2,l3,l4,l5,l6,l7,l8,l9,l10,l11,l12,l13,l14,l15,l16,l17,l18,l19,l20,l21,l22,l23,l24,l25,l26,l27] ∧
    a=⟨((((((((((((((((((((((((((((A.tmps.setIfInBounds 74 (if l0=true then .agg #[.int .i64 N.states,.slice a1 N.moves.length a2,.slice a3 N.firsts.length a4,.slice a5 N.ends.length a6] else A.tmps.getD 74 undef)).setIfInBounds 75 (if l1=true then .bool true else A.tmps.getD 75 undef)).setIfInBounds 76 (if l2=true then .bool true else A.tmps.getD 76 undef)).setIfInBounds 77 (if l3=true then .pointer (some ⟨w2.heap.size,0,none⟩) else A.tmps.getD 77 undef)).setIfInBounds 78 (if l4=true then .int .i64 N.states else A.tmps.getD 78 undef)).setIfInBounds 79 (if l5=true then .slice ae n ce else A.tmps.getD 79 undef)).setIfInBounds 80 (if l6=true then .slice aL lp cL else A.tmps.getD 80 undef)).setIfInBounds 81 (if l7=true then .int .i64 (lp:Int) else A.tmps.getD 81 undef)).setIfInBounds 82 (if l8=true then .int .i64 N.states else A.tmps.getD 82 undef)).setIfInBounds 83 (if l9=true then .bool true else A.tmps.getD 83 undef)).setIfInBounds 84 (if l10=true then .bool true else A.tmps.getD 84 undef)).setIfInBounds 85 (if l11=true then .bool true else A.tmps.getD 85 undef)).setIfInBounds 86 (if l12=true then .agg #[.int .i64 N.states,.slice a1 N.moves.length a2,.slice a3 N.firsts.length a4,.slice a5 N.ends.length a6] else A.tmps.getD 86 undef)).setIfInBounds 87 (if l13=true then .string (txB l) else A.tmps.getD 87 undef)).setIfInBounds 88 (if l14=true then .bool q else A.tmps.getD 88 undef)).setIfInBounds 89 (if l15=true then .slice ae n ce else A.tmps.getD 89 undef)).setIfInBounds 90 (if l16=true then .string (txB l) else A.tmps.getD 90 undef)).setIfInBounds 91 (if l17=true then .bool q else A.tmps.getD 91 undef)).setIfInBounds 92 (if l18=true then .bool true else A.tmps.getD 92 undef)).setIfInBounds 93 (if l19=true then .bool true else A.tmps.getD 93 undef)).setIfInBounds 94 (if l20=true then .bool true else A.tmps.getD 94 undef)).setIfInBounds 95 (if l21=true then .agg #[.int .i64 N.states,.slice a1 N.moves.length a2,.slice a3 N.firsts.length a4,.slice a5 N.ends.length a6] else A.tmps.getD 95 undef)).setIfInBounds 96 (if l22=true then .bool z else A.tmps.getD 96 undef)).setIfInBounds 97 (if l23=true then .slice ae n ce else A.tmps.getD 97 undef)).setIfInBounds 98 (if l24=true then .bool z else A.tmps.getD 98 undef)).setIfInBounds 99 (if l25=true then .bool true else A.tmps.getD 99 undef)).setIfInBounds 100 (if l26=true then .bool true else A.tmps.getD 100 undef)).setIfInBounds 4 (.bool l27)),A.defers⟩ ∧
    St w5 w' []) ?_ ?_ ?_
  ·rintro listed a w' ⟨l0,l1,l2,l3,l4,l5,l6,l7,l8,l9,l10,l11,l12,l13,l14,l15,l16,l17,l18,l19,l20,l21,l22,l23,l24,l25,l26,l27,aL,cL,rfl,rfl,hS⟩ i hi;obtain⟨hun,o,ho,hall⟩:=mem_ready.1 hi;have hlt:=(Array.getElem?_eq_some_iff.1 ho).1;refine wpOp_step ho (fun K hK => ?_);clear hi;have HS:=qh hS;clear hS;simp only[List.setIfInBounds_toArray,List.set_cons_zero,List.set_cons_succ,Array.getD_eq_getD_getElem?,List.getElem?_toArray,List.getElem?_cons_zero,List.getElem?_cons_succ,Option.getD_some];obtain h|h|h|h|h|h|h|h|h|h|h|h|h|h|h|h|h|h|h|h|h|h|h|h|h|h|h|h:i=0∨i=1∨i=2∨i=3∨i=4∨i=5∨i=6∨i=7∨i=8∨i=9∨i=10∨i=11∨i=12∨i=13∨i=14∨i=15∨i=16∨i=17∨i=18∨i=19∨i=20∨i=21∨i=22∨i=23∨i=24∨i=25∨i=26∨i=27:=by simp at hlt;omega
   all_goals subst h
   all_goals simp only[List.getElem?_toArray,List.getElem?_cons_zero,List.getElem?_cons_succ,Option.some.injEq] at ho
   all_goals subst ho
   all_goals simp[Region.binds] at hun hall
   ·subst hun;have e0:=(bcell HS.out.bel (w2.heap.size) (0) HltN.out).trans N0.out;have e1:=(bcell HS.out.bel (w2.heap.size) (1) HltN.out).trans N1.out;have e2:=(bcell HS.out.bel (w2.heap.size) (2) HltN.out).trans N2.out;have e3:=(bcell HS.out.bel (w2.heap.size) (3) HltN.out).trans N3.out;go_simp;exact hK _ _ ⟨true,l1,l2,l3,l4,l5,l6,l7,l8,l9,l10,l11,l12,l13,l14,l15,l16,l17,l18,l19,l20,l21,l22,l23,l24,l25,l26,l27,aL,cL,rfl,(by simp),HS.out⟩
   ·obtain rfl:=hall;subst hun;go_simp
    go_at_call 12
    refine(Zac N _ _ (HXN.out.below HS.out.bel) true Hnok.out).mono ?_;rintro e u1 ⟨rfl,hb⟩;have hS2:=HS.out.call hb;have HhS2:=qh hS2;clear hS2;go_simp;exact hK _ _ ⟨true,true,l2,l3,l4,l5,l6,l7,l8,l9,l10,l11,l12,l13,l14,l15,l16,l17,l18,l19,l20,l21,l22,l23,l24,l25,l26,l27,aL,cL,rfl,(by simp),HhS2.out⟩
   ·obtain rfl:=hall;subst hun;go_simp;exact hK _ _ ⟨l0,true,true,l3,l4,l5,l6,l7,l8,l9,l10,l11,l12,l13,l14,l15,l16,l17,l18,l19,l20,l21,l22,l23,l24,l25,l26,l27,aL,cL,rfl,(by simp),HS.out⟩
   ·obtain rfl:=hall;subst hun;go_simp;exact hK _ _ ⟨l0,l1,true,true,l4,l5,l6,l7,l8,l9,l10,l11,l12,l13,l14,l15,l16,l17,l18,l19,l20,l21,l22,l23,l24,l25,l26,l27,aL,cL,rfl,(by simp),HS.out⟩
   ·obtain⟨rfl,rfl⟩:=hall;subst hun;have e0:=(bcell HS.out.bel (w2.heap.size) (0) HltN.out).trans N0.out;go_simp;exact hK _ _ ⟨l0,l1,true,true,true,l5,l6,l7,l8,l9,l10,l11,l12,l13,l14,l15,l16,l17,l18,l19,l20,l21,l22,l23,l24,l25,l26,l27,aL,cL,rfl,(by simp),HS.out⟩
   ·obtain rfl:=hall;subst hun;go_simp;exact hK _ _ ⟨l0,l1,true,l3,l4,true,l6,l7,l8,l9,l10,l11,l12,l13,l14,l15,l16,l17,l18,l19,l20,l21,l22,l23,l24,l25,l26,l27,aL,cL,rfl,(by simp),HS.out⟩
   ·obtain⟨rfl,rfl⟩:=hall;subst hun;go_simp
    go_at_call 13
    refine(Hlp.out _ (HXP.out.below HS.out.bel)).mono ?_;rintro e u1 ⟨a9,c9,rfl,hS9⟩;have hS2:=HS.out.call hS9.bel;have HhS2:=qh hS2;clear hS2;go_simp;exact hK _ _ ⟨l0,l1,true,l3,l4,true,true,l7,l8,l9,l10,l11,l12,l13,l14,l15,l16,l17,l18,l19,l20,l21,l22,l23,l24,l25,l26,l27,a9,c9,rfl,(by simp),HhS2.out⟩
   ·obtain⟨rfl,rfl⟩:=hall;subst hun;go_simp;exact hK _ _ ⟨l0,l1,true,l3,l4,l5,true,true,l8,l9,l10,l11,l12,l13,l14,l15,l16,l17,l18,l19,l20,l21,l22,l23,l24,l25,l26,l27,aL,cL,rfl,(by simp),HS.out⟩
   ·obtain⟨rfl,rfl⟩:=hall;subst hun;go_simp;exact hK _ _ ⟨l0,l1,true,l3,l4,l5,l6,true,true,l9,l10,l11,l12,l13,l14,l15,l16,l17,l18,l19,l20,l21,l22,l23,l24,l25,l26,l27,aL,cL,rfl,(by simp),HS.out⟩
   ·obtain⟨rfl,rfl,rfl⟩:=hall;subst hun;go_simp;exact hK _ _ ⟨l0,l1,true,l3,true,l5,l6,l7,true,true,l10,l11,l12,l13,l14,l15,l16,l17,l18,l19,l20,l21,l22,l23,l24,l25,l26,l27,aL,cL,rfl,(by simp),HS.out⟩
   ·obtain⟨rfl,rfl⟩:=hall;subst hun;go_simp;exact hK _ _ ⟨l0,l1,true,l3,l4,l5,l6,l7,l8,true,true,l11,l12,l13,l14,l15,l16,l17,l18,l19,l20,l21,l22,l23,l24,l25,l26,l27,aL,cL,rfl,(by simp),HS.out⟩
   ·obtain⟨rfl,rfl⟩:=hall;subst hun;go_simp;exact hK _ _ ⟨l0,l1,l2,l3,l4,l5,true,l7,l8,l9,true,true,l12,l13,l14,l15,l16,l17,l18,l19,l20,l21,l22,l23,l24,l25,l26,l27,aL,cL,rfl,(by simp),HS.out⟩
   ·obtain rfl:=hall;subst hun;have e0:=(bcell HS.out.bel (w2.heap.size) (0) HltN.out).trans N0.out;have e1:=(bcell HS.out.bel (w2.heap.size) (1) HltN.out).trans N1.out;have e2:=(bcell HS.out.bel (w2.heap.size) (2) HltN.out).trans N2.out;have e3:=(bcell HS.out.bel (w2.heap.size) (3) HltN.out).trans N3.out;go_simp;exact hK _ _ ⟨l0,l1,l2,l3,l4,l5,l6,l7,l8,l9,l10,true,true,l13,l14,l15,l16,l17,l18,l19,l20,l21,l22,l23,l24,l25,l26,l27,aL,cL,rfl,(by simp),HS.out⟩
   ·obtain rfl:=hall;subst hun;go_simp;exact hK _ _ ⟨l0,l1,l2,l3,l4,l5,l6,l7,l8,l9,l10,true,l12,true,l14,l15,l16,l17,l18,l19,l20,l21,l22,l23,l24,l25,l26,l27,aL,cL,rfl,(by simp),HS.out⟩
   ·obtain⟨rfl,rfl,rfl⟩:=hall;subst hun;go_simp
    go_at_call 14
    refine(Zdf N l _ _ Hht.out (by omega) (HXN.out.below HS.out.bel) q Haccq.out).mono ?_;rintro e u1 ⟨rfl,hb⟩;have hS2:=HS.out.call hb;have HhS2:=qh hS2;clear hS2;go_simp;exact hK _ _ ⟨l0,l1,l2,l3,l4,l5,l6,l7,l8,l9,l10,true,true,true,true,l15,l16,l17,l18,l19,l20,l21,l22,l23,l24,l25,l26,l27,aL,cL,rfl,(by simp),HhS2.out⟩
   ·obtain rfl:=hall;subst hun;go_simp;exact hK _ _ ⟨l0,l1,l2,l3,l4,l5,l6,l7,l8,l9,l10,true,l12,l13,l14,true,l16,l17,l18,l19,l20,l21,l22,l23,l24,l25,l26,l27,aL,cL,rfl,(by simp),HS.out⟩
   ·obtain rfl:=hall;subst hun;go_simp;exact hK _ _ ⟨l0,l1,l2,l3,l4,l5,l6,l7,l8,l9,l10,true,l12,l13,l14,l15,true,l17,l18,l19,l20,l21,l22,l23,l24,l25,l26,l27,aL,cL,rfl,(by simp),HS.out⟩
   ·obtain⟨rfl,rfl,rfl,rfl⟩:=hall;subst hun;go_simp
    go_at_call 15
    refine(Zdo es l _ _ q Hhr.out (HXP.out.below HS.out.bel) Hht.out (by omega)).mono ?_;rintro e u1 ⟨rfl,hb⟩;have hS2:=HS.out.call hb;have HhS2:=qh hS2;clear hS2;go_simp;exact hK _ _ ⟨l0,l1,l2,l3,l4,l5,l6,l7,l8,l9,l10,true,l12,l13,true,true,true,true,l18,l19,l20,l21,l22,l23,l24,l25,l26,l27,aL,cL,rfl,(by simp),HhS2.out⟩
   ·obtain⟨rfl,rfl,rfl⟩:=hall;subst hun;go_simp;exact hK _ _ ⟨l0,l1,l2,l3,l4,l5,l6,l7,l8,l9,l10,true,l12,l13,true,l15,l16,true,true,l19,l20,l21,l22,l23,l24,l25,l26,l27,aL,cL,rfl,(by simp),HS.out⟩
   ·obtain⟨rfl,rfl⟩:=hall;subst hun;go_simp;exact hK _ _ ⟨l0,l1,l2,l3,l4,l5,l6,l7,l8,l9,l10,true,l12,l13,l14,l15,l16,l17,true,true,l20,l21,l22,l23,l24,l25,l26,l27,aL,cL,rfl,(by simp),HS.out⟩
   ·obtain⟨rfl,rfl⟩:=hall;subst hun;go_simp;exact hK _ _ ⟨l0,l1,l2,l3,l4,l5,l6,l7,l8,l9,l10,l11,l12,l13,l14,l15,l16,true,l18,true,true,l21,l22,l23,l24,l25,l26,l27,aL,cL,rfl,(by simp),HS.out⟩
   ·obtain rfl:=hall;subst hun;have e0:=(bcell HS.out.bel (w2.heap.size) (0) HltN.out).trans N0.out;have e1:=(bcell HS.out.bel (w2.heap.size) (1) HltN.out).trans N1.out;have e2:=(bcell HS.out.bel (w2.heap.size) (2) HltN.out).trans N2.out;have e3:=(bcell HS.out.bel (w2.heap.size) (3) HltN.out).trans N3.out;go_simp;exact hK _ _ ⟨l0,l1,l2,l3,l4,l5,l6,l7,l8,l9,l10,l11,l12,l13,l14,l15,l16,l17,l18,l19,true,true,l22,l23,l24,l25,l26,l27,aL,cL,rfl,(by simp),HS.out⟩
   ·obtain⟨rfl,rfl⟩:=hall;subst hun;go_simp
    go_at_call 14
    refine(Hnil.out _ (HXN.out.below HS.out.bel)).mono ?_;rintro e u1 ⟨rfl,hb⟩;have hS2:=HS.out.call hb;have HhS2:=qh hS2;clear hS2;go_simp;exact hK _ _ ⟨l0,l1,l2,l3,l4,l5,l6,l7,l8,l9,l10,l11,l12,l13,l14,l15,l16,l17,l18,l19,true,true,true,l23,l24,l25,l26,l27,aL,cL,rfl,(by simp),HhS2.out⟩
   ·obtain rfl:=hall;subst hun;go_simp;exact hK _ _ ⟨l0,l1,l2,l3,l4,l5,l6,l7,l8,l9,l10,l11,l12,l13,l14,l15,l16,l17,l18,l19,true,l21,l22,true,l24,l25,l26,l27,aL,cL,rfl,(by simp),HS.out⟩
   ·obtain⟨rfl,rfl,rfl⟩:=hall;subst hun;go_simp
    go_at_call 16
    refine(Hemp.out _ (HXP.out.below HS.out.bel)).mono ?_;rintro e u1 ⟨rfl,hb⟩;have hS2:=HS.out.call hb;have HhS2:=qh hS2;clear hS2;go_simp;exact hK _ _ ⟨l0,l1,l2,l3,l4,l5,l6,l7,l8,l9,l10,l11,l12,l13,l14,l15,l16,l17,l18,l19,true,l21,true,true,true,l25,l26,l27,aL,cL,rfl,(by simp),HhS2.out⟩
   ·obtain⟨rfl,rfl,rfl⟩:=hall;subst hun;go_simp;exact hK _ _ ⟨l0,l1,l2,l3,l4,l5,l6,l7,l8,l9,l10,l11,l12,l13,l14,l15,l16,l17,l18,l19,true,l21,true,l23,true,true,l26,l27,aL,cL,rfl,(by simp),HS.out⟩
   ·obtain⟨rfl,rfl⟩:=hall;subst hun;go_simp;exact hK _ _ ⟨l0,l1,l2,l3,l4,l5,l6,l7,l8,l9,l10,l11,l12,l13,l14,l15,l16,l17,l18,l19,true,l21,l22,l23,l24,true,true,l27,aL,cL,rfl,(by simp),HS.out⟩
   obtain⟨rfl,rfl,rfl,rfl,rfl,rfl,rfl,rfl,rfl,rfl,rfl,rfl,rfl,rfl,rfl,rfl,rfl,rfl,rfl,rfl,rfl,rfl,rfl,rfl,rfl,rfl,-,rfl,-⟩:=hall;subst hun;go_simp;exact hK _ _ ⟨true,true,true,true,true,true,true,true,true,true,true,true,true,true,true,true,true,true,true,true,true,true,true,true,true,true,true,true,aL,cL,rfl,(by simp),HS.out⟩
  ·rintro listed a w' ⟨l0,l1,l2,l3,l4,l5,l6,l7,l8,l9,l10,l11,l12,l13,l14,l15,l16,l17,l18,l19,l20,l21,l22,l23,l24,l25,l26,l27,aL,cL,rfl,rfl,hS⟩ hr;have hall:=Zag (by kernel_rfl) rfl hr;obtain rfl:l0=true:=by simpa using hall 0 (by simp)
   obtain rfl:l1=true:=by simpa using hall 1 (by simp)
   obtain rfl:l2=true:=by simpa using hall 2 (by simp)
   obtain rfl:l3=true:=by simpa using hall 3 (by simp)
   obtain rfl:l4=true:=by simpa using hall 4 (by simp)
   obtain rfl:l5=true:=by simpa using hall 5 (by simp)
   obtain rfl:l6=true:=by simpa using hall 6 (by simp)
   obtain rfl:l7=true:=by simpa using hall 7 (by simp)
   obtain rfl:l8=true:=by simpa using hall 8 (by simp)
   obtain rfl:l9=true:=by simpa using hall 9 (by simp)
   obtain rfl:l10=true:=by simpa using hall 10 (by simp)
   obtain rfl:l11=true:=by simpa using hall 11 (by simp)
   obtain rfl:l12=true:=by simpa using hall 12 (by simp)
   obtain rfl:l13=true:=by simpa using hall 13 (by simp)
   obtain rfl:l14=true:=by simpa using hall 14 (by simp)
   obtain rfl:l15=true:=by simpa using hall 15 (by simp)
   obtain rfl:l16=true:=by simpa using hall 16 (by simp)
   obtain rfl:l17=true:=by simpa using hall 17 (by simp)
   obtain rfl:l18=true:=by simpa using hall 18 (by simp)
   obtain rfl:l19=true:=by simpa using hall 19 (by simp)
   obtain rfl:l20=true:=by simpa using hall 20 (by simp)
   obtain rfl:l21=true:=by simpa using hall 21 (by simp)
   obtain rfl:l22=true:=by simpa using hall 22 (by simp)
   obtain rfl:l23=true:=by simpa using hall 23 (by simp)
   obtain rfl:l24=true:=by simpa using hall 24 (by simp)
   obtain rfl:l25=true:=by simpa using hall 25 (by simp)
   obtain rfl:l26=true:=by simpa using hall 26 (by simp)
   obtain rfl:l27=true:=by simpa using hall 27 (by simp)
   clear hall hr ;simp only[↓reduceIte] at hS ⊢;simp only[List.setIfInBounds_toArray,List.set_cons_zero,List.set_cons_succ];have HSf:=qh hS;clear hS;go_wp2;go_ret;exact⟨rfl,HSL.out.bel.trans (HSf.out.bel.mono HSL.out.bel.size)⟩
  refine⟨false,false,false,false,false,false,false,false,false,false,false,false,false,false,false,false,false,false,false,false,false,false,false,false,false,false,false,false,none,0,rfl,(by simp),?_⟩;exact(St.start w5).drew.pick [] (by decide)
end Go.Proofs.Ytfanhfcamblghaa
