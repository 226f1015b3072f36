/-
  The walk over the program's TextAccepts.
  Conditions: the texts are ones of bytes, the second one of at most 1000000.
-/
import Derived.Test.YtfgpkadhegdffaaGreatPk40De
import Derived.Test.YtfgpkadhegdffaaGreatPk46Tlg
import Derived.Test.YtfgpkadhegdffaaGreatPk48Dtx
set_option maxHeartbeats 16000000
set_option maxRecDepth 100000
namespace Go.Proofs.YtfgpkadhegdffaaGreat
open Go.RowKit
def AccT (s l:List Nat) (r:Bool):Prop:=(Za5 s=none∧r=false)∨∃ es,Za5 s=some es∧AccO es l r
theorem ZrI (s l:List Nat):∃ r,AccT s l r:=by
 cases h:Za5 s with
 | none=>exact⟨false,.inl ⟨h,rfl⟩⟩
 | some es =>obtain⟨r,hr⟩:=Zpv es l;exact⟨r,.inr ⟨es,h,hr⟩⟩
theorem ZeK (s l:List Nat) (w:World) (r:Bool) (hr:AccT s l r) (hs:isT s) (ht:isT l) (hlen:l.length≤1000000) :
  Calls Tryz.prog 32 #[.string (txB s),.string (txB l)] w fun e w'=>e = .returned (.bool r)∧Below w.heap.size w w':=by
 have HR:=qh (fun u=>ZbI s u hs);have HA:=qh (fun es v u (hr:AccO es l r) (hp:Pairs 0 u v es)=>ZcP es l v u r hr hp ht hlen);have Hr:=qh hr;clear hr hs ht
 go_enter Tryz.func32, Tryz.ntmps32
 go_wp2_with fail;refine(HR.out _).mono ?_;rintro e w1 (⟨hn,rfl,hb⟩|⟨es,a,c,hn,rfl,hS⟩)
 ·have hrf:r=false:=by
   rcases Hr.out with⟨-,h⟩|⟨es,h,-⟩
   ·exact h
   rw[hn] at h;cases h
  subst hrf;clear hn;go_wp2;go_ret;exact⟨rfl,hb⟩
 have hro:AccO es l r:=by
  rcases Hr.out with⟨h,-⟩|⟨es',h,h2⟩
  ·rw[hn] at h;cases h
  rw[hn] at h;obtain rfl:=Option.some.inj h;exact h2
 have HP:=qh (Zan (hS.row 0 rfl));have HB:=qh hS.bel;have Hro:=qh hro;clear hn hS hro;go_wp2_with (go_at_call 28;refine(HA.out _ _ _ Hro.out HP.out).mono ?_;rintro e w2 ⟨rfl,hb2⟩);go_ret;exact⟨rfl,HB.out.trans (hb2.mono HB.out.size)⟩
theorem ZqM {K:Nat} (hK:K=40) {s l:List Nat} {D:DfaD} {r:Bool} (hc:ZhB K (Za5 s) (some D)) (hr:AccT s l r):(wdOk l&&accD D (lets l))=r:=by
 rcases hc with⟨-,h⟩|⟨es,hes,-,hc⟩
 ·cases h
 rcases hr with⟨h,-⟩|⟨es',h,hr⟩
 ·rw[hes] at h;cases h
 rw[hes] at h;obtain rfl:=Option.some.inj h;exact Zms hK hc hr
theorem Zix (bs cs:List Nat) (v u:Value) (w:World) (hb:Bytes 0 w v bs) (hc:Bytes 0 w u cs) :
  Calls Tryz.prog 8 #[v,u] w fun e w'=>e = .returned (.bool true)∧Below w.heap.size w w':=by
 have HB:=qh hb;have HC:=qh hc;obtain⟨av,cv,rfl,hcv1,hcv2,-⟩:=hb.form;obtain⟨au,cu,rfl,hcu1,hcu2,-⟩:=hc.form;clear hb hc;by_cases hlen:1048576<bs.length
 ·have hl2:(1048576:Int)<bs.length:=by omega
  go_enter Tryz.func8, Tryz.ntmps8
  go_wp2;go_ret;exact⟨rfl,Below.refl _ _⟩
 have hl2:¬ (1048576:Int)<bs.length:=by omega
 by_cases hlen2:1048576<cs.length
 ·have hl3:(1048576:Int)<cs.length:=by omega
  go_enter Tryz.func8, Tryz.ntmps8
  go_wp2;go_ret;exact⟨rfl,Below.refl _ _⟩
 have hl3:¬ (1048576:Int)<cs.length:=by omega
 go_enter Tryz.func8, Tryz.ntmps8
 go_wp2_with fail;refine(ZcS bs _ _ HB.out (by omega)).mono ?_;rintro e w1 ⟨⟨s,hs,hsl,rfl⟩,hb1⟩;obtain⟨K,hK⟩:∃ K:Nat,K=40:=⟨_,rfl⟩;obtain⟨o,ho⟩:=Zme K s;have hsp:=fun (u:World)=>ZcF K hK s o ho u hs
 have him:=fun (u:World)=>ZcQ K hK s o ho u hs
 obtain⟨D,hD⟩:=eJ (o.getD Zbj);have hD2:o.getD zeD=D:=hD;obtain⟨fb,hfb⟩:=eJ (o.isSome);unfold RO at hsp;rw[hD,hfb] at hsp;rw[hD2,hfb] at him;obtain⟨hno,hyes⟩:=Zkn hK ho hD hfb;replace hs:=qh hs;replace ho:=qh ho;replace hK:=qh hK;have Hsp:=qh hsp;have Him:=qh him;have Hhno:=qh hno;clear hno;have Hhyes:=qh hyes;clear hyes;clear hsp him hD hD2 hfb;have HS1:=qh ((St.start w).call hb1);clear hb1;go_wp2_with fail;refine(Him.out _).mono ?_;rintro e w2 ⟨⟨g1,c1,g2,c2,rfl,hx⟩,hb⟩;have HS2:=qh ((HS1.out.call hb).alloc _ rfl #[.slice g1 D.next.length c1,.slice g2 D.ends.length c2] 25);have HX2:=qh (((hx.r).mono (Nat.zero_le _)).below ((Below.refl w2.heap.size w2).alloc (Nat.le_refl _) (.cells #[.slice g1 D.next.length c1,.slice g2 D.ends.length c2] 25)));have HB2:=qh (hb.trans (((Below.refl w2.heap.size w2).alloc (Nat.le_refl _) (.cells #[.slice g1 D.next.length c1,.slice g2 D.ends.length c2] 25)).mono hb.size));clear hb hx;go_wp2_with fail;refine(Hsp.out _).mono ?_;rintro e w3 ⟨x1,y1,x2,y2,rfl,hr,hb⟩;have HS3:=qh ((HS2.out.call hb).alloc _ rfl #[.slice x1 D.next.length y1,.slice x2 D.ends.length y2] 25);have HX3:=qh ((HX2.out.below hb).below ((Below.refl w3.heap.size w3).alloc (Nat.le_refl _) (.cells #[.slice x1 D.next.length y1,.slice x2 D.ends.length y2] 25)))
 have HY3:=qh ((hr.mono (Nat.zero_le _)).below ((Below.refl w3.heap.size w3).alloc (Nat.le_refl _) (.cells #[.slice x1 D.next.length y1,.slice x2 D.ends.length y2] 25)));clear hb hr HX2;have e0:=HS3.out.cell (v:=.slice g1 D.next.length c1) 0 0 rfl rfl;have e1:=HS3.out.cell (v:=.slice g2 D.ends.length c2) 0 1 rfl rfl;have f0:=HS3.out.cell (v:=.slice x1 D.next.length y1) 1 0 rfl rfl;have f1:=HS3.out.cell (v:=.slice x2 D.ends.length y2) 1 1 rfl rfl;go_wp2_with fail;refine(ZbO D _ _ _ HX3.out HY3.out).mono ?_;rintro e w4 ⟨rfl,hb⟩;have HS4:=qh (HS3.out.call hb);have HX4:=qh (HX3.out.below hb);have hff:(fb != fb)=false:=by simp
 clear hb HX3 HY3 HS2 HS3 e0 e1 f0 f1 HB2;cases fb
 ·have hz0:((D.next.length:Int)==0)=true:=by rw[Hhno.out rfl];rfl
  have e0:=HS4.out.cell (v:=.slice g1 D.next.length c1) 0 0 rfl rfl;have e1:=HS4.out.cell (v:=.slice g2 D.ends.length c2) 0 1 rfl rfl;go_wp2_with (go_at_call 21;refine(Zfu _).mono ?_;rintro e w' ⟨rfl,rfl⟩);go_ret;exact⟨rfl,HS4.out.bel⟩
 obtain⟨ho1,hok,hmin⟩:=Hhyes.out rfl;have hacc:∀ l r,AccT s l r→(wdOk l&&accD D (lets l))=r:=fun l r h=>ZqM hK.out (ho1 ▸ ho.out) h
 have Hhok:=qh hok;clear hok;have Hhmin:=qh hmin;clear hmin;have Hhacc:=qh hacc;clear hacc;clear ho1;go_wp2_with fail;refine(Zgc cs _ _ (HC.out.below HS4.out.bel) (by omega)).mono ?_;rintro e w5 ⟨l,ht,hl,rfl,hb⟩;have HS5:=qh (HS4.out.call hb);have HX5:=qh (HX4.out.below hb);have Hht:=qh ht;clear ht;clear hb;obtain⟨q,hr⟩:=ZrI s l;have hq:=Hhacc.out l q hr;have hqq:(q==q)=true:=beq_self_eq_true q;have Hhr:=qh hr;clear hr;have Hhq:=qh hq;clear hq;have D0:=qh (HS5.out.cell (v:=.slice g1 D.next.length c1) 0 0 rfl rfl);have D1:=qh (HS5.out.cell (v:=.slice g2 D.ends.length c2) 0 1 rfl rfl);have HltD:=qh (HS5.out.boxlt 0 rfl).2;clear HS4 HX4;go_wp2;refine wp_region_any (by kernel_rfl) ?_
 refine Zau (fun A listed a w'=>∃ (l0 l1 l2 l3 l4 l5 l6 l7 l8 l9 l10 l11 l12 l13:Bool) (ax1:Option Addr) (cx1:Nat) (ax2:Option Addr) (cx2:Nat) (vb:Nat) (vh:Nat),listed=#[l0,l1,l2,l3,l4,l5,l6,l7,l8,l9,l10,l11,l12,l13] ∧
   a=⟨((((((((((((((A.tmps.setIfInBounds 51 (if l0=true then .agg #[.slice g1 D.next.length c1,.slice g2 D.ends.length c2] else A.tmps.getD 51 undef)).setIfInBounds 52 (if l1=true then .string (txB l) else A.tmps.getD 52 undef)).setIfInBounds 53 (if l2=true then .bool q else A.tmps.getD 53 undef)).setIfInBounds 54 (if l3=true then .string (txB s) else A.tmps.getD 54 undef)).setIfInBounds 55 (if l4=true then .string (txB l) else A.tmps.getD 55 undef)).setIfInBounds 56 (if l5=true then .bool q else A.tmps.getD 56 undef)).setIfInBounds 57 (if l6=true then .bool true else A.tmps.getD 57 undef)).setIfInBounds 58 (if l7=true then .bool true else A.tmps.getD 58 undef)).setIfInBounds 59 (if l8=true then .agg #[.slice g1 D.next.length c1,.slice g2 D.ends.length c2] else A.tmps.getD 59 undef)).setIfInBounds 60 (if l9=true then .agg #[.slice ax1 D.next.length cx1,.slice ax2 D.ends.length cx2] else A.tmps.getD 60 undef)).setIfInBounds 61 (if l10=true then .agg #[.slice g1 D.next.length c1,.slice g2 D.ends.length c2] else A.tmps.getD 61 undef)).setIfInBounds 62 (if l11=true then .bool true else A.tmps.getD 62 undef)).setIfInBounds 63 (if l12=true then .bool true else A.tmps.getD 63 undef)).setIfInBounds 4 (.bool l13)),A.defers⟩ ∧
   St w5 w' [(if l9=true then DfaV vb vh (.slice ax1 D.next.length cx1) (.slice ax2 D.ends.length cx2) D else Ent.nil)]) ?_ ?_ ?_
 ·rintro listed a w' ⟨l0,l1,l2,l3,l4,l5,l6,l7,l8,l9,l10,l11,l12,l13,ax1,cx1,ax2,cx2,vb,vh,rfl,rfl,hS⟩ i hi;obtain⟨hun,o,ho,hall⟩:=mem_ready.1 hi;have hlt:=(Array.getElem?_eq_some_iff.1 ho).1;refine wpOp_step ho (fun K hK => ?_);clear hi;have HS:=qh hS;clear hS;simp only[List.setIfInBounds_toArray,List.set_cons_zero,List.set_cons_succ,Array.getD_eq_getD_getElem?,List.getElem?_toArray,List.getElem?_cons_zero,List.getElem?_cons_succ,Option.getD_some];obtain h|h|h|h|h|h|h|h|h|h|h|h|h|h:i=0∨i=1∨i=2∨i=3∨i=4∨i=5∨i=6∨i=7∨i=8∨i=9∨i=10∨i=11∨i=12∨i=13:=by simp at hlt;omega
  all_goals subst h
  all_goals simp only[List.getElem?_toArray,List.getElem?_cons_zero,List.getElem?_cons_succ,Option.some.injEq] at ho
  all_goals subst ho
  all_goals simp[Region.binds] at hun hall
  ·subst hun;have e0:=(bcell HS.out.bel (w2.heap.size) (0) HltD.out).trans D0.out;have e1:=(bcell HS.out.bel (w2.heap.size) (1) HltD.out).trans D1.out;go_simp;exact hK _ _ ⟨true,l1,l2,l3,l4,l5,l6,l7,l8,l9,l10,l11,l12,l13,ax1,cx1,ax2,cx2,vb,vh,rfl,(by simp),HS.out⟩
  ·subst hun;go_simp;exact hK _ _ ⟨l0,true,l2,l3,l4,l5,l6,l7,l8,l9,l10,l11,l12,l13,ax1,cx1,ax2,cx2,vb,vh,rfl,(by simp),HS.out⟩
  ·obtain⟨rfl,rfl⟩:=hall;subst hun;go_simp
   go_at_call 27
   refine(Zhq D l _ _ Hht.out (by omega) (HX5.out.below HS.out.bel) Hhok.out _ Hhq.out).mono ?_;rintro e u1 ⟨rfl,hb⟩;have hS2:=HS.out.call hb;have HhS2:=qh hS2;clear hS2;go_simp;exact hK _ _ ⟨true,true,true,l3,l4,l5,l6,l7,l8,l9,l10,l11,l12,l13,ax1,cx1,ax2,cx2,vb,vh,rfl,(by simp),HhS2.out⟩
  ·subst hun;go_simp;exact hK _ _ ⟨l0,l1,l2,true,l4,l5,l6,l7,l8,l9,l10,l11,l12,l13,ax1,cx1,ax2,cx2,vb,vh,rfl,(by simp),HS.out⟩
  ·subst hun;go_simp;exact hK _ _ ⟨l0,l1,l2,l3,true,l5,l6,l7,l8,l9,l10,l11,l12,l13,ax1,cx1,ax2,cx2,vb,vh,rfl,(by simp),HS.out⟩
  ·obtain⟨rfl,rfl,rfl⟩:=hall;subst hun;go_simp
   go_at_call 32
   refine(ZeK s l _ _ Hhr.out hs.out Hht.out (by omega)).mono ?_;rintro e u1 ⟨rfl,hb⟩;have hS2:=HS.out.call hb;have HhS2:=qh hS2;clear hS2;go_simp;exact hK _ _ ⟨l0,l1,true,true,true,true,l6,l7,l8,l9,l10,l11,l12,l13,ax1,cx1,ax2,cx2,vb,vh,rfl,(by simp),HhS2.out⟩
  ·obtain⟨rfl,rfl⟩:=hall;subst hun;go_simp;exact hK _ _ ⟨l0,l1,true,l3,l4,true,true,l7,l8,l9,l10,l11,l12,l13,ax1,cx1,ax2,cx2,vb,vh,rfl,(by simp),HS.out⟩
  ·obtain⟨rfl,rfl⟩:=hall;subst hun;go_simp;exact hK _ _ ⟨l0,l1,l2,l3,l4,true,true,true,l8,l9,l10,l11,l12,l13,ax1,cx1,ax2,cx2,vb,vh,rfl,(by simp),HS.out⟩
  ·obtain rfl:=hall;subst hun;have e0:=(bcell HS.out.bel (w2.heap.size) (0) HltD.out).trans D0.out;have e1:=(bcell HS.out.bel (w2.heap.size) (1) HltD.out).trans D1.out;go_simp;exact hK _ _ ⟨l0,l1,l2,l3,l4,l5,l6,true,true,l9,l10,l11,l12,l13,ax1,cx1,ax2,cx2,vb,vh,rfl,(by simp),HS.out⟩
  ·obtain⟨rfl,rfl⟩:=hall;subst hun;go_simp
   go_at_call 31
   refine(ZdF D D Hhmin.out _ _ (HX5.out.below HS.out.bel)).mono ?_;rintro e u1 ⟨z1,z2,z3,z4,rfl,hr,hb⟩;have hS2:=(HS.out.dfaV hb hr).pick [1] (by decide);have HhS2:=qh hS2;clear hS2;go_simp;exact hK _ _ ⟨l0,l1,l2,l3,l4,l5,l6,true,true,true,l10,l11,l12,l13,z1,z2,z3,z4,w'.heap.size,u1.heap.size,rfl,(by simp),HhS2.out⟩
  ·obtain rfl:=hall;subst hun;have e0:=(bcell HS.out.bel (w2.heap.size) (0) HltD.out).trans D0.out;have e1:=(bcell HS.out.bel (w2.heap.size) (1) HltD.out).trans D1.out;go_simp;exact hK _ _ ⟨l0,l1,l2,l3,l4,l5,l6,true,l8,l9,true,l11,l12,l13,ax1,cx1,ax2,cx2,vb,vh,rfl,(by simp),HS.out⟩
  ·obtain⟨rfl,rfl,-,rfl⟩:=hall;subst hun;go_simp
   go_at_call 20
   refine(ZbO D _ _ _ (HS.out.dfaVr 0 rfl) (HX5.out.below HS.out.bel)).mono ?_;rintro e u1 ⟨rfl,hb⟩;have hS2:=HS.out.call hb;have HhS2:=qh hS2;clear hS2;go_simp;exact hK _ _ ⟨l0,l1,l2,l3,l4,l5,l6,true,l8,true,true,true,l12,l13,ax1,cx1,ax2,cx2,vb,vh,rfl,(by simp),HhS2.out⟩
  ·obtain⟨rfl,rfl⟩:=hall;subst hun;go_simp;exact hK _ _ ⟨l0,l1,l2,l3,l4,l5,l6,true,l8,l9,l10,true,true,l13,ax1,cx1,ax2,cx2,vb,vh,rfl,(by simp),HS.out⟩
  obtain⟨rfl,rfl,rfl,rfl,rfl,rfl,rfl,rfl,rfl,rfl,rfl,rfl,rfl,-⟩:=hall;subst hun;go_simp;exact hK _ _ ⟨true,true,true,true,true,true,true,true,true,true,true,true,true,true,ax1,cx1,ax2,cx2,vb,vh,rfl,(by simp),HS.out⟩
 ·rintro listed a w' ⟨l0,l1,l2,l3,l4,l5,l6,l7,l8,l9,l10,l11,l12,l13,ax1,cx1,ax2,cx2,vb,vh,rfl,rfl,hS⟩ hr;have hall:=ZaT (by kernel_rfl) rfl hr;obtain rfl:l0=true:=by simpa using hall 0 (by simp)
  obtain rfl:l1=true:=by simpa using hall 1 (by simp)
  obtain rfl:l2=true:=by simpa using hall 2 (by simp)
  obtain rfl:l3=true:=by simpa using hall 3 (by simp)
  obtain rfl:l4=true:=by simpa using hall 4 (by simp)
  obtain rfl:l5=true:=by simpa using hall 5 (by simp)
  obtain rfl:l6=true:=by simpa using hall 6 (by simp)
  obtain rfl:l7=true:=by simpa using hall 7 (by simp)
  obtain rfl:l8=true:=by simpa using hall 8 (by simp)
  obtain rfl:l9=true:=by simpa using hall 9 (by simp)
  obtain rfl:l10=true:=by simpa using hall 10 (by simp)
  obtain rfl:l11=true:=by simpa using hall 11 (by simp)
  obtain rfl:l12=true:=by simpa using hall 12 (by simp)
  obtain rfl:l13=true:=by simpa using hall 13 (by simp)
  clear hall hr ;simp only[↓reduceIte] at hS ⊢;simp only[List.setIfInBounds_toArray,List.set_cons_zero,List.set_cons_succ];have HSf:=qh hS;clear hS;go_wp2;go_ret;exact⟨rfl,HS5.out.bel.trans (HSf.out.bel.mono HS5.out.bel.size)⟩
 refine⟨false,false,false,false,false,false,false,false,false,false,false,false,false,false,none,0,none,0,0,0,rfl,(by simp),?_⟩;exact(St.start w5).drew.pick [0] (by decide)
end Go.Proofs.YtfgpkadhegdffaaGreat
