/-
  The walk over the program's sameStates.
  Condition: the automaton is valid and reads as such.
-/
import Derived.Test.YtfikabecgaappaaGreatPr12Rp
set_option maxHeartbeats 8000000
set_option maxRecDepth 100000
namespace Go.Proofs.YtfikabecgaappaaGreat
open Go.RowKit
def Zj3 (w:World) (b j:Nat):Nat:=match w.cell? ⟨b,j,none⟩ with
 | some v=>(intOf v).toNat
 | none=>0
theorem ZcS {w:World} {b j t:Nat} (h:w.cell? ⟨b,j,none⟩=some (.int .i64 ((t:Nat):Int))):Zj3 w b j=t:=by unfold Zj3;rw[h];simp[intOf]
def ZnQ (w:World) (b n:Nat):Nat:=((List.range n).filter fun s=>decide (Zj3 w b s=s)).length
theorem Zjh {w:World} {b n:Nat} {cl:Nat→Nat} (h:∀ s,s<n→w.cell? ⟨b,s,none⟩=some (.int .i64 ((cl s:Nat):Int))):ZnQ w b n=reps n cl:=by
 unfold ZnQ reps;congr 1;refine List.filter_congr fun s hs => ?_
 rw[ZcS (h s (List.mem_range.1 hs))]
def Zew:Value→Nat
 | .slice (some a) _ _=>a.block
 | _=>0
def Zkg:Value→Bool
 | .bool b=>b
 | _=>false
def RCl (d:DfaD) (w:World) (e:Ending) (w':World):Prop:=∃ b c,e = .returned (.slice (some ⟨b,0,none⟩) d.next.length c)∧St w w' [Ent.row 3 1 (.slice (some ⟨b,0,none⟩) d.next.length c) d.next.length (intCells (clsL d.next.length (clD d)))]
theorem Zf4 (d:DfaD) (v:Value) (w:World) (hd:Zae d.next d.ends=true) (h:DfaR 0 w v d) :
  Calls Tryz.prog 104 #[v] w fun e w'=>RCl d w e w':=by
 have HR:=qh h;obtain⟨b1,o1,cv,b2,o2,cw,rfl,hC⟩:=Zbv hd h;have hnx:∀ s c,s<d.next.length→c<3→nxD d s c<d.next.length:=fun s c hs hc=>hC.lt s c hs hc
 obtain⟨N,hN,hNs,hNo⟩:=ZgP (n:=d.next.length) (nx:=nxD d) (enD d);obtain⟨C,hCC⟩:=eI (clAt d.next.length (nxD d) (enD d));have hfin:∀ s,s<d.next.length→C (N+1) s=clD d s:=fun s hs=>by rw[hCC,hNs s hs];exact(ZjH hnx hN hNs hs).symm
 have hgood:∀ i,GoodC d.next.length (C i):=fun i=>by rw[hCC];exact Zdc (enD d) i
 have hc0:∀ s,s<d.next.length→C 0 s≤s∧enD d (C 0 s)=enD d s∧∀ j,j<C 0 s→enD d j≠enD d s:=fun s hs=>by rw[hCC];exact Zdd hs
 have hcs:∀ i s,s<d.next.length→C (i+1) s≤s∧Zbn (nxD d) (C i) (C (i+1) s) s=true∧∀ j,j<C (i+1) s→Zbn (nxD d) (C i) j s=false:=fun i s hs=>by rw[hCC];exact ZaN hs
 have hsd:∀ i,clsL d.next.length (C (i+1))=clsL d.next.length (C i)↔stays d.next.length (nxD d) (enD d) i:=fun i=>by rw[Znl,hCC];exact Iff.rfl
 obtain⟨L,hL⟩:=eI (d.next.length);have hl1:=hC.l1;have hl2:=hC.l2;have hS0:=(St.start w).alloc _ rfl #[.slice (some ⟨b1,o1,none⟩) L cv,.slice (some ⟨b2,o2,none⟩) L cw] 37;unfold RCl;rw[← hL] at hl1 hl2 HR hN hgood hc0 hcs hsd hfin;rw[← hL];obtain⟨i0,hi,hz0,hz1,hz2⟩:=info_parts Tryz.infoInt;have HC:=qh hC;have Hgood:=qh hgood;have Hc0:=qh hc0;have Hcs:=qh hcs;have Hsd:=qh hsd;have Hfin:=qh hfin;have HNo:=qh hNo;have HNs:=qh hNs;replace hS0:=qh hS0;replace hL:=qh hL;replace hCC:=qh hCC;have Hhi:=qh hi;clear hi;have Hhz0:=qh hz0;clear hz0;have Hhz1:=qh hz1;clear hz1;have Hhz2:=qh hz2;clear hz2;clear hC hgood hc0 hcs hsd hfin hNo hNs hnx h
 go_enter Tryz.func104, Tryz.ntmps104
 have HD:=qh (show ∀ w1:World,w1.ownsRow (w.alloc (.cells #[.slice (some ⟨b1,o1,none⟩) L cv,.slice (some ⟨b2,o2,none⟩) L cw] 37)).heap.size 3 1 (.slice (some ⟨w.heap.size+1,0,none⟩) L L) L (intCells (padL L 0 (C 0)))→Below (w.alloc (.cells #[.slice (some ⟨b1,o1,none⟩) L cv,.slice (some ⟨b2,o2,none⟩) L cw] 37)).heap.size (w.alloc (.cells #[.slice (some ⟨b1,o1,none⟩) L cv,.slice (some ⟨b2,o2,none⟩) L cw] 37)) w1 →
   St w w1 [Ent.box w.heap.size #[.slice (some ⟨b1,o1,none⟩) L cv,.slice (some ⟨b2,o2,none⟩) L cw] 37,Ent.row 3 1 (.slice (some ⟨w.heap.size+1,0,none⟩) L L) L (intCells (padL L 0 (C 0)))] from fun w1 h1 h2=>hS0.out.made h2 h1)
 go_wp2_with (at_make;refine wpList_make_full _ rfl _ _ 26 rfl _ 3 i0 (.int .i64 0) 1 Tryz.underlying26 Hhi.out Hhz0.out Hhz1.out .i64 .i64 _ _ L rfl rfl rfl rfl (by rw[Hhz2.out];omega) (by unfold maxLen;omega) (Nat.le_refl _) ?_;intro w1 hown hgrow;have hm:=Zfv (C 0) hown;simp only[World.size_alloc] at hm;have HS1:=qh (HD.out w1 (by simpa only [World.size_alloc] using hm) ((Below.refl _ _).grown hgrow (Nat.le_refl _) (fun _ h=>by cases h)));clear hown hgrow hm)
 go_loopw [14] (fun i wr=>∃ s:Nat,i = .int .i64 s∧s≤L∧St w wr [Ent.box w.heap.size #[.slice (some ⟨b1,o1,none⟩) L cv,.slice (some ⟨b2,o2,none⟩) L cw] 37,Ent.row 3 1 (.slice (some ⟨w.heap.size+1,0,none⟩) L L) L (intCells (padL L s (C 0)))]) (fun i _=>L-(intOf i).toNat)
 case atStart=>exact⟨0,rfl,Nat.zero_le _,HS1.out⟩
 case round =>
  obtain⟨s,rfl,hs,hS⟩:=hrel;by_cases hlt:s<L
  ·have hlt2:(s:Int)<L:=by omega
   have hsn:s<d.next.length:=by have:=hL.out;omega
   have hen:=HC.out.en s hsn;have hci:=Hc0.out s hlt;have hpad:=Ze2 (n:=L) (s:=s) (C 0);have hset:=Ze1 (n:=L) (s:=s) (C 0) 0 (C 0 s);rw[Zjn (C 0) hlt] at hS;rw[hpad] at hset;have hat:=ZcN (n:=L) (s:=s) (C 0) 0;have hix:=fun (w':World) (hb:Below w.heap.size w w') (z:Bool) (hz:z=enD d s)=>Zkh d.ends z (C 0 s) (.slice (some ⟨b2,o2,none⟩) L cw) w' (by obtain⟨u1,u2,hq,-,h2⟩:=HR.out;simp only[Value.agg.injEq,Array.mk.injEq,List.cons.injEq,and_true] at hq;rw[hq.2];exact h2.below hb) (by have:=HC.out.le;omega) (by rw[hz];exact hci.2.1) (fun j hj=>by rw[hz];exact hci.2.2 j hj)
   obtain⟨z,hz⟩:=eI (enD d s);rw[← hz] at hen;obtain⟨p,hp⟩:=eI (C 0 s);rw[← hp] at hset hix;have Hix:=qh fun (w':World) (hb:Below w.heap.size w w')=>hix w' hb z hz
   have Hen:=qh hen;obtain⟨X0,hX0⟩:=eI (intCells (padT L s (C 0) 0));obtain⟨X1,hX1⟩:=eI (intCells (padL L (s+1) (C 0)));rw[← hX0,← hX1] at hset;rw[← hX0] at hS hat;have HS:=qh hS;have Hhz:=qh hz;clear hz;have Hhp:=qh hp;clear hp;have Hhset:=qh hset;clear hset;have Hhat:=qh hat;clear hat;have HhX0:=qh hX0;clear hX0;have HhX1:=qh hX1;clear hX1;clear hS hix hen hci hpad;go_wp2;refine wp_region_any (by kernel_rfl) ?_
   refine Zas (fun A listed a w'=>∃ (l0 l1 l2 l3 l4 l5 l6 l7 l8 l9 l10 l11:Bool) ,listed=#[l0,l1,l2,l3,l4,l5,l6,l7,l8,l9,l10,l11] ∧
     a=⟨(((((((((((A.tmps.setIfInBounds 17 (if l0=true then .slice (some ⟨w.heap.size+1,0,none⟩) L L else A.tmps.getD 17 undef)).setIfInBounds 18 (if l1=true then .int .i64 (s:Int) else A.tmps.getD 18 undef)).setIfInBounds 19 (if l2=true then .pointer (some ⟨w.heap.size,1,none⟩) else A.tmps.getD 19 undef)).setIfInBounds 20 (if l3=true then .slice (some ⟨b2,o2,none⟩) L cw else A.tmps.getD 20 undef)).setIfInBounds 21 (if l4=true then .pointer (some ⟨w.heap.size,1,none⟩) else A.tmps.getD 21 undef)).setIfInBounds 22 (if l5=true then .slice (some ⟨b2,o2,none⟩) L cw else A.tmps.getD 22 undef)).setIfInBounds 23 (if l6=true then .int .i64 (s:Int) else A.tmps.getD 23 undef)).setIfInBounds 24 (if l7=true then .pointer (some ⟨b2,o2+s,none⟩) else A.tmps.getD 24 undef)).setIfInBounds 25 (if l8=true then .bool z else A.tmps.getD 25 undef)).setIfInBounds 26 (if l9=true then .int .i64 (p:Int) else A.tmps.getD 26 undef)).setIfInBounds 27 (if l10=true then .pointer (some ⟨w.heap.size+1,s,none⟩) else A.tmps.getD 27 undef)),A.defers⟩ ∧
     St w w' [Ent.box w.heap.size #[.slice (some ⟨b1,o1,none⟩) L cv,.slice (some ⟨b2,o2,none⟩) L cw] 37,Ent.row 3 1 (.slice (some ⟨w.heap.size+1,0,none⟩) L L) L (if l11=true then X1 else X0)]) ?_ ?_ ?_
   ·rintro listed a w' ⟨l0,l1,l2,l3,l4,l5,l6,l7,l8,l9,l10,l11,rfl,rfl,hS⟩ i hi;obtain⟨hun,o,ho,hall⟩:=mem_ready.1 hi;have hlt:=(Array.getElem?_eq_some_iff.1 ho).1;refine wpOp_step ho (fun K hK => ?_);clear hi;have HS:=qh hS;clear hS;simp only[List.setIfInBounds_toArray,List.set_cons_zero,List.set_cons_succ,Array.getD_eq_getD_getElem?,List.getElem?_toArray,List.getElem?_cons_zero,List.getElem?_cons_succ,Option.getD_some];obtain h|h|h|h|h|h|h|h|h|h|h|h:i=0∨i=1∨i=2∨i=3∨i=4∨i=5∨i=6∨i=7∨i=8∨i=9∨i=10∨i=11:=by simp at hlt;omega
    all_goals subst h
    all_goals simp only[List.getElem?_toArray,List.getElem?_cons_zero,List.getElem?_cons_succ,Option.some.injEq] at ho
    all_goals subst ho
    all_goals simp[Region.binds] at hun hall
    ·subst hun;go_simp;exact hK _ _ ⟨true,l1,l2,l3,l4,l5,l6,l7,l8,l9,l10,l11,rfl,(by simp),HS.out⟩
    ·subst hun;go_simp;exact hK _ _ ⟨l0,true,l2,l3,l4,l5,l6,l7,l8,l9,l10,l11,rfl,(by simp),HS.out⟩
    ·subst hun;go_simp;exact hK _ _ ⟨l0,l1,true,l3,l4,l5,l6,l7,l8,l9,l10,l11,rfl,(by simp),HS.out⟩
    ·obtain rfl:=hall;subst hun;have e0:=HS.out.cell (v:=.slice (some ⟨b2,o2,none⟩) L cw) 0 1 rfl rfl;go_simp;exact hK _ _ ⟨l0,l1,true,true,l4,l5,l6,l7,l8,l9,l10,l11,rfl,(by simp),HS.out⟩
    ·subst hun;go_simp;exact hK _ _ ⟨l0,l1,l2,l3,true,l5,l6,l7,l8,l9,l10,l11,rfl,(by simp),HS.out⟩
    ·obtain rfl:=hall;subst hun;have e0:=HS.out.cell (v:=.slice (some ⟨b2,o2,none⟩) L cw) 0 1 rfl rfl;go_simp;exact hK _ _ ⟨l0,l1,l2,l3,true,true,l6,l7,l8,l9,l10,l11,rfl,(by simp),HS.out⟩
    ·subst hun;go_simp;exact hK _ _ ⟨l0,l1,l2,l3,l4,l5,true,l7,l8,l9,l10,l11,rfl,(by simp),HS.out⟩
    ·obtain⟨rfl,rfl⟩:=hall;subst hun;go_simp;exact hK _ _ ⟨l0,l1,l2,l3,l4,true,true,true,l8,l9,l10,l11,rfl,(by simp),HS.out⟩
    ·obtain rfl:=hall;subst hun;have e0:=(bcell HS.out.bel b2 _ HC.out.hb2).trans Hen.out;go_simp;exact hK _ _ ⟨l0,l1,l2,l3,l4,l5,l6,true,true,l9,l10,l11,rfl,(by simp),HS.out⟩
    ·obtain⟨rfl,rfl⟩:=hall;subst hun;go_simp
     go_at_call 149
     refine(Hix.out _ HS.out.bel).mono ?_;rintro e u1 ⟨rfl,hbx⟩;have hS2:=HS.out.call hbx;have HhS2:=qh hS2;clear hS2;go_simp;exact hK _ _ ⟨l0,l1,l2,true,l4,l5,l6,l7,true,true,l10,l11,rfl,(by simp),HhS2.out⟩
    ·obtain⟨rfl,rfl,-,-,rfl,rfl,rfl,rfl,rfl,rfl,rfl,rfl⟩:=hall;subst hun;go_simp;exact hK _ _ ⟨true,true,true,true,true,true,true,true,true,true,true,l11,rfl,(by simp only[↓reduceIte,List.setIfInBounds_toArray,List.set_cons_zero,List.set_cons_succ]),HS.out⟩
    obtain⟨rfl,rfl,rfl,rfl,rfl,rfl,rfl,rfl,rfl,rfl,rfl,-⟩:=hall;subst hun;have f0:=HS.out.rfr 1 s rfl;have k0:=HS.out.rcell (v:=.int .i64 ((0:Nat):Int)) 1 s rfl (by omega) Hhat.out;have hS2:=HS.out.store 1 rfl s (.int .i64 (p:Int));simp only[List.set_cons_succ,List.set_cons_zero,Bool.false_eq_true,↓reduceIte,Hhset.out] at hS2;go_simp;exact hK _ _ ⟨true,true,true,true,true,true,true,true,true,true,true,true,rfl,(by simp only[↓reduceIte,List.setIfInBounds_toArray,List.set_cons_zero,List.set_cons_succ]),hS2⟩
   ·rintro listed a w' ⟨l0,l1,l2,l3,l4,l5,l6,l7,l8,l9,l10,l11,rfl,rfl,hS⟩ hr;have hall:=ZaQ (by kernel_rfl) rfl hr;obtain rfl:l0=true:=by simpa using hall 0 (by simp)
    obtain rfl:l1=true:=by simpa using hall 1 (by simp)
    obtain rfl:l2=true:=by simpa using hall 2 (by simp)
    obtain rfl:l3=true:=by simpa using hall 3 (by simp)
    obtain rfl:l4=true:=by simpa using hall 4 (by simp)
    obtain rfl:l5=true:=by simpa using hall 5 (by simp)
    obtain rfl:l6=true:=by simpa using hall 6 (by simp)
    obtain rfl:l7=true:=by simpa using hall 7 (by simp)
    obtain rfl:l8=true:=by simpa using hall 8 (by simp)
    obtain rfl:l9=true:=by simpa using hall 9 (by simp)
    obtain rfl:l10=true:=by simpa using hall 10 (by simp)
    obtain rfl:l11=true:=by simpa using hall 11 (by simp)
    clear hall hr ;simp only[↓reduceIte] at hS ⊢;simp only[List.setIfInBounds_toArray,List.set_cons_zero,List.set_cons_succ];have HS9:=qh hS;clear hS;go_wp2;go_roundw
    case rel =>refine⟨s+1,by go_num,by omega,?_⟩;rw[← HhX1.out];exact HS9.out
    case measure=>simp[intOf];omega
   refine⟨false,false,false,false,false,false,false,false,false,false,false,false,rfl,(by simp),?_⟩;exact HS.out.drew
  obtain rfl:L=s:=by omega
  rw[Zg1] at hS;have HS2:=qh hS;clear hS;go_wp2
  go_loopw [3,5] (fun vc va wr=>∃ (i gc cc:Nat) (ag:Bool),vc = .slice (some ⟨gc,0,none⟩) L cc∧va = .bool ag∧((ag=true∧i≤N)∨(ag=false∧i=N+1)) ∧
    St w wr [Ent.box w.heap.size #[.slice (some ⟨b1,o1,none⟩) L cv,.slice (some ⟨b2,o2,none⟩) L cw] 37,Ent.row 3 1 (.slice (some ⟨gc,0,none⟩) L cc) L (intCells (clsL L (C i)))])
   (fun vc va wr=>if Zkg va=true then L+1-ZnQ wr (Zew vc) L else 0)
  case atStart=>exact⟨0,_,_,true,rfl,rfl,Or.inl ⟨rfl,Nat.zero_le _⟩,HS2.out⟩
  case round =>
   obtain⟨i,gc,cc,ag,rfl,rfl,hag,hS⟩:=hrel;obtain⟨wo,hwo⟩:∃ wo:World,wo=wr:=⟨_,rfl⟩;subst hwo;rcases hag with⟨rfl,hiN⟩|⟨rfl,rfl⟩
   ·have HS3:=qh hS;clear hS;go_wp2_with (at_make;refine wpList_make_full _ rfl _ _ 26 rfl _ 3 i0 (.int .i64 0) 1 Tryz.underlying26 Hhi.out Hhz0.out Hhz1.out .i64 .i64 _ _ L rfl rfl rfl rfl (by rw[Hhz2.out];omega) (by unfold maxLen;omega) (Nat.le_refl _) ?_;intro w1 hown hgrow;have HS4:=qh (HS3.out.made ((Below.refl _ _).grown hgrow (Nat.le_refl _) (fun _ h=>by cases h)) (Zfv (C (i+1)) hown));clear hown hgrow)
    go_loopw [35] (fun j wi=>∃ s:Nat,j = .int .i64 s∧s≤L∧St w wi [Ent.box w.heap.size #[.slice (some ⟨b1,o1,none⟩) L cv,.slice (some ⟨b2,o2,none⟩) L cw] 37,Ent.row 3 1 (.slice (some ⟨gc,0,none⟩) L cc) L (intCells (clsL L (C i))),Ent.row 3 1 (.slice (some ⟨wo.heap.size,0,none⟩) L L) L (intCells (padL L s (C (i+1))))]) (fun j _=>L-(intOf j).toNat)
    case atStart=>exact⟨0,rfl,Nat.zero_le _,HS4.out⟩
    case round =>
     obtain⟨s,rfl,hs,hS⟩:=hrel;by_cases hlt:s<L
     ·have hlt2:(s:Int)<L:=by omega
      have hsn:s<d.next.length:=by have:=hL.out;omega
      have hci:=Hcs.out i s hlt;have hcis:=hci.1;rw[Zjn _ hlt] at hS;have HS5:=qh hS;have Hci:=qh hci;clear hS hci;go_wp2
      go_loopw [] (fun wi=>∃ t:Nat,t≤C (i+1) s∧(∀ j,j<t→Zbn (nxD d) (C i) j s=false)∧St w wi [Ent.box w.heap.size #[.slice (some ⟨b1,o1,none⟩) L cv,.slice (some ⟨b2,o2,none⟩) L cw] 37,Ent.row 3 1 (.slice (some ⟨gc,0,none⟩) L cc) L (intCells (clsL L (C i))),Ent.row 3 1 (.slice (some ⟨wo.heap.size,0,none⟩) L L) L (intCells (padT L s (C (i+1)) t))]) (fun wi=>L+1-Zj3 wi wo.heap.size s)
      case atStart=>exact⟨0,Nat.zero_le _,fun j hj=>absurd hj (by omega),HS5.out⟩
      case round =>
       obtain⟨t,ht,hno,hS⟩:=hrel;have htL:t<L:=by omega
       have htL2:(t:Int)<L:=by omega
       have htn:t<d.next.length:=by have:=hL.out;omega
       have c1:=hS.rcell (v:=.int .i64 ((t:Nat):Int)) 2 s rfl (by omega) (ZcN (C (i+1)) t);have c2:=hS.rcell (v:=.int .i64 ((C i t:Nat):Int)) 1 t rfl (by omega) (ZaS (C i) htL);have c3:=hS.rcell (v:=.int .i64 ((C i s:Nat):Int)) 1 s rfl (by omega) (ZaS (C i) hlt);have f1:=hS.rfr 2 s rfl;have hset:=Ze1 (n:=L) (s:=s) (C (i+1)) t (t+1);have hsr:=Zjd d (C i) t s;have Hc1:=qh c1;have HS6:=qh hS;have Hno:=qh hno;have Hset:=qh hset;obtain⟨p,hp⟩:=eI (C i t);obtain⟨q,hq⟩:=eI (C i s);rw[← hp] at c2 hsr;rw[← hq] at c3 hsr;have Hhp:=qh hp;clear hp;have Hhq:=qh hq;clear hq;clear hno hset;by_cases he:p=q
       ·have g1:((p:Int) != (q:Int))=false:=by rw[he];simp
        have g2:((p:Int)=(q:Int))=True:=by simp[he]
        have g3:(!((p:Int)==(q:Int)))=false:=by rw[he];simp
        rw[decide_eq_true he,Bool.true_and] at hsr;have b0:=hS.cell (v:=.slice (some ⟨b1,o1,none⟩) L cv) 0 0 rfl rfl;have b3:=hS.cell (v:=.slice (some ⟨b2,o2,none⟩) L cw) 0 1 rfl rfl
        have hk:=fun (w':World) (hb:Below wr.heap.size wr w')=>(show w'.cell? ⟨wo.heap.size,s,none⟩=some (.int .i64 (t:Nat))∧w'.cell? ⟨gc,t,none⟩=some (.int .i64 (p:Nat))∧w'.cell? ⟨gc,s,none⟩=some (.int .i64 (q:Nat))∧w'.cell? ⟨w.heap.size,0,none⟩=some (.slice (some ⟨b1,o1,none⟩) L cv)∧w'.cell? ⟨w.heap.size,1,none⟩=some (.slice (some ⟨b2,o2,none⟩) L cw) from
         ⟨(bcell hb _ _ (hS.rowlt 2 rfl).2).trans c1,(bcell hb _ _ (hS.rowlt 1 rfl).2).trans c2,(bcell hb _ _ (hS.rowlt 1 rfl).2).trans c3,(bcell hb _ _ (hS.boxlt 0 rfl).2).trans b0,(bcell hb _ _ (hS.boxlt 0 rfl).2).trans b3⟩)
        have Hk:=qh hk;cases hr:Zdx d (C i) t s 3
        all_goals
         have hsw:=fun (w':World) (hb:Below wr.heap.size wr w')=>Ziy d (C i) t s (.agg #[.slice (some ⟨b1,o1,none⟩) L cv,.slice (some ⟨b2,o2,none⟩) L cw]) (.slice (some ⟨gc,0,none⟩) L cc) w' hd htn hsn (fun x hx=>Nat.lt_of_le_of_lt ((Hgood.out i).le x (by rw[hL.out];exact hx)) hx) (HR.out.below (HS6.out.call hb).bel) (by rw[← hL.out];exact(HS6.out.call hb).intsC 1 rfl) _ hr
         rw[hr] at hsr;have Hsw:=qh hsw;have Hsm:=qh hsr;have Hhr:=qh hr;clear hr;have Hhe:=qh he;clear he;clear hS hk hsw hsr;go_wp2
         go_region_held3 (fun w'=>w'.cell? ⟨wo.heap.size,s,none⟩=some (.int .i64 (t:Nat))∧w'.cell? ⟨gc,t,none⟩=some (.int .i64 (p:Nat))∧w'.cell? ⟨gc,s,none⟩=some (.int .i64 (q:Nat))∧w'.cell? ⟨w.heap.size,0,none⟩=some (.slice (some ⟨b1,o1,none⟩) L cv)∧w'.cell? ⟨w.heap.size,1,none⟩=some (.slice (some ⟨b2,o2,none⟩) L cw))
          (first|go_keep|exact Hk.out _ hq0)
          (first
           | (go_at_call 150;(with_reducible refine(Hsw.out _ (Below.refl _ _).drew).mono ?_);rintro e v3 ⟨rfl,hq0'⟩;have hq0:Below wr.heap.size wr v3:=((Below.refl _ _).drew).trans hq0'))
        ·have HS6:=qh (HS6.out.call hq0);have z1:=HS6.out.rcell (v:=.int .i64 ((t:Nat):Int)) 2 s rfl (by omega) (ZcN (C (i+1)) t);have z2:=HS6.out.rfr 2 s rfl;clear hq0 hq0' b0 b3 c1 c2 c3 f1;go_wp2;go_roundw
         case rel =>
          refine⟨t+1,?_,?_,?_⟩
          ·rcases Nat.lt_or_ge t (C (i+1) s) with h|h
           ·exact h
           have he:t=C (i+1) s:=Nat.le_antisymm ht h;have h2:=Hci.out.2.1;rw[← he,Hsm.out] at h2;exact absurd h2 (by simp)
          ·intro j hj;by_cases e:j=t
           ·rw[e];exact Hsm.out
           exact Hno.out j (by omega)
          have h:=HS6.out.store 2 rfl s (.int .i64 ((t:Int)+1));rw[show((t:Int)+1)=((t+1:Nat):Int) by omega] at h;simp only[List.set_cons_succ,List.set_cons_zero,Hset.out] at h;exact h
         case measure =>have h:=HS6.out.store 2 rfl s (.int .i64 ((t:Int)+1));rw[show((t:Int)+1)=((t+1:Nat):Int) by omega] at h;simp only[List.set_cons_succ,List.set_cons_zero,Hset.out] at h;rw[show((t:Int)+1)=((t+1:Nat):Int) by omega,ZcS (h.rcell (v:=.int .i64 ((t+1:Nat):Int)) 2 s rfl (by omega) (ZcN (C (i+1)) (t+1))),ZcS Hc1.out];omega
        have HS6:=qh (HS6.out.call hq0);clear hq0 hq0' b0 b3 c1 c2 c3 f1;go_wp2;go_roundw
        case rel =>
         refine⟨s+1,by go_num,by omega,?_⟩
         have e:t=C (i+1) s:=by
          rcases Nat.lt_or_ge t (C (i+1) s) with h|h
          ·have h2:=Hci.out.2.2 t h;rw[Hsm.out] at h2;exact absurd h2 (by simp)
          exact Nat.le_antisymm ht h
         have h:=HS6.out;rw[e,Ze2] at h;exact h
        case measure=>simp[intOf];omega
       have g1:((p:Int) != (q:Int))=true:=by simp;omega
       have g2:((p:Int)=(q:Int))=False:=by simp;omega
       have g3:(!((p:Int)==(q:Int)))=true:=by simp;omega
       rw[decide_eq_false he,Bool.false_and] at hsr;have Hsm:=qh hsr;have Hhe:=qh he;clear he;clear hS hsr;go_wp2
       go_quiet (fail)
       have HS6:=qh (HS6.out.drewN nq);go_wp2;go_roundw
       case rel =>
        refine⟨t+1,?_,?_,?_⟩
        ·rcases Nat.lt_or_ge t (C (i+1) s) with h|h
         ·exact h
         have he:t=C (i+1) s:=Nat.le_antisymm ht h;have h2:=Hci.out.2.1;rw[← he,Hsm.out] at h2;exact absurd h2 (by simp)
        ·intro j hj;by_cases e:j=t
         ·rw[e];exact Hsm.out
         exact Hno.out j (by omega)
        have h:=HS6.out.store 2 rfl s (.int .i64 ((t:Int)+1));rw[show((t:Int)+1)=((t+1:Nat):Int) by omega] at h;simp only[List.set_cons_succ,List.set_cons_zero,Hset.out] at h;exact h
       case measure =>have h:=HS6.out.store 2 rfl s (.int .i64 ((t:Int)+1));rw[show((t:Int)+1)=((t+1:Nat):Int) by omega] at h;simp only[List.set_cons_succ,List.set_cons_zero,Hset.out] at h;rw[show((t:Int)+1)=((t+1:Nat):Int) by omega,ZcS (h.rcell (v:=.int .i64 ((t+1:Nat):Int)) 2 s rfl (by omega) (ZcN (C (i+1)) (t+1))),ZcS Hc1.out];omega
     obtain rfl:L=s:=by omega
     rw[Zg1] at hS;have HS5:=qh hS;clear hS
     have hreq:∀ (r:Bool),decide (clsL L (C (i+1))=clsL L (C i))=r→Calls Tryz.prog 151 #[.slice (some ⟨wo.heap.size,0,none⟩) L L,.slice (some ⟨gc,0,none⟩) L cc] wr fun e w'=>e = .returned (.bool r)∧Below wr.heap.size wr w' :=
      fun r hr=>Zkl (clsL L (C (i+1))) (clsL L (C i)) L _ _ wr (Zbh _ _) (Zbh _ _) (HS5.out.intsC 2 rfl) (HS5.out.intsC 1 rfl) r hr
     have hm0:=Zjh (w:=wo) (b:=gc) (n:=L) (cl:=C i) fun x hx=>HS3.out.rcell 1 x rfl (by omega) (ZaS (C i) hx)
     by_cases hiN:i=N
     ·have h1:=hreq true (by rw[decide_eq_true_eq,Hsd.out i,hiN,hL.out];exact HNs.out);have H1:=qh h1;have Hm0:=qh hm0;clear hreq h1 hm0;go_wp2_with fail;refine H1.out.mono ?_;rintro e v3 ⟨rfl,hb3⟩;have HS6:=qh (HS5.out.call hb3);clear hb3;go_wp2;go_roundw
      case rel=>exact⟨i+1,_,_,false,rfl,rfl,Or.inr ⟨rfl,by omega⟩,HS6.out.pick [0,2] (by decide)⟩
      case measure =>have:=ZiD L (C i);simp only[Zkg,Zew,↓reduceIte,Bool.false_eq_true,Hm0.out];omega
     have hns:=HNo.out i (by omega);have h1:=hreq false (by rw[decide_eq_false_iff_not,Hsd.out i,hL.out];exact hns)
     have hmore:reps L (C i)<reps L (C (i+1)):=by
      have hex:∃ x,x<L∧C (i+1) x≠C i x:=by
       apply Classical.byContradiction;intro hc;refine hns fun x hx => ?_
       rw[← hCC.out];apply Classical.byContradiction;intro hcx;exact hc ⟨x,by rw[hL.out];exact hx,hcx⟩
      obtain⟨x,hx,hxne⟩:=hex;have hst:C (i+1)=Zao L (nxD d) (C i):=by rw[hCC.out,hL.out];rfl
      rw[hst] at hxne ⊢;exact Zfk (Hgood.out i) hx hxne
     have H1:=qh h1;have Hm0:=qh hm0;have Hmore:=qh hmore;have Hhns:=qh hns;clear hns;clear hreq h1 hm0 hmore;go_wp2_with fail;refine H1.out.mono ?_;rintro e v3 ⟨rfl,hb3⟩;have HS6:=qh (HS5.out.call hb3);clear hb3;go_wp2;go_roundw
     case rel=>exact⟨i+1,_,_,true,rfl,rfl,Or.inl ⟨rfl,by omega⟩,HS6.out.pick [0,2] (by decide)⟩
     case measure =>
      have h2:=Zjh (w:=v3) (b:=wo.heap.size) (n:=L) (cl:=C (i+1)) fun x hx=>HS6.out.rcell 2 x rfl (by omega) (ZaS (C (i+1)) hx)
      have h3:=Hmore.out;have h4:=ZiD L (C i);simp only[Zkg,Zew,↓reduceIte,Hm0.out,h2];omega
   have hcl:intCells (clsL L (C (N+1)))=intCells (clsL L (clD d)):=by rw[Zes Hfin.out]
   rw[hcl] at hS;have HS3:=qh hS;have Hhcl:=qh hcl;clear hcl;clear hS;go_wp2;go_ret;exact⟨gc,cc,rfl,HS3.out.pick [1] (by decide)⟩
theorem ZmQ (d:DfaD) (cl:Nat→Nat) (b1 o1 cv b2 o2 cw bc bd g cg x c:Nat) (w:World) (hC:DfaC w d b1 o1 cv b2 o2 cw) (hx:x<d.next.length) (hc:c<3) (hb:Bx w bd #[.slice (some ⟨b1,o1,none⟩) d.next.length cv,.slice (some ⟨b2,o2,none⟩) d.next.length cw] 37)
  (hbc:Bx w bc #[.slice (some ⟨g,0,none⟩) d.next.length cg] 26) (hcl:∀ s,s<d.next.length→w.cell? ⟨g,s,none⟩=some (.int .i64 ((cl s:Nat):Int))) :
  Calls Tryz.prog 106 #[.int .i64 (x:Nat),.int .i64 (c:Nat),.pointer (some ⟨bc,0,none⟩),.pointer (some ⟨bd,0,none⟩)] w fun e w'=>e = .returned (.int .i64 ((cl (nxD d x c):Nat):Int))∧Below w.heap.size w w':=by
 have c0:=hb.cell 0;have c1:=hbc.cell 0;simp only[List.getElem?_toArray,List.getElem?_cons_zero] at c0 c1;obtain⟨b3,o3,c3,p1,p2,p3,p4,p5⟩:=hC.row x hx;have p6:=p5 c hc;have hyl:=hC.lt x c hx hc;obtain⟨y,hy⟩:=eI (nxD d x c);rw[← hy] at p6 hyl;rw[← hy];have c2:=hcl y hyl;obtain⟨z,hz⟩:=eI (cl y);rw[← hz] at c2;rw[← hz];have hc3:(c:Int)<3:=by omega
 have hxL:(x:Int)<d.next.length:=by omega
 have hyL:(y:Int)<d.next.length:=by omega
 have hl2:=hC.l2;replace hy:=qh hy;have Hhz:=qh hz;clear hz;clear p5 hC hb hbc hcl
 go_enter Tryz.func106, Tryz.ntmps106
 go_wp2
 go_quiet (fail)
 go_wp2;go_ret;exact⟨rfl,below_drewN (Below.refl _ _) _⟩
theorem ZmP (d:DfaD) (b1 o1 cv b2 o2 cw bd x:Nat) (w:World) (hC:DfaC w d b1 o1 cv b2 o2 cw) (hx:x<d.next.length) (hb:Bx w bd #[.slice (some ⟨b1,o1,none⟩) d.next.length cv,.slice (some ⟨b2,o2,none⟩) d.next.length cw] 37) :
  Calls Tryz.prog 107 #[.int .i64 (x:Nat),.pointer (some ⟨bd,0,none⟩)] w fun e w'=>e = .returned (.bool (den d (x:Int)))∧Below w.heap.size w w':=by
 have c0:=hb.cell 1;simp only[List.getElem?_toArray,List.getElem?_cons_zero,List.getElem?_cons_succ] at c0;have p6:=hC.en x hx;have hz:den d (x:Int)=enD d x:=by simp[den,enD]
 rw[hz];obtain⟨y,hy⟩:=eI (enD d x);rw[← hy] at p6;rw[← hy];have hxL:(x:Int)<d.next.length:=by omega
 have hl2:=hC.l2;replace hy:=qh hy;have Hhz:=qh hz;clear hz;clear hC hb
 go_enter Tryz.func107, Tryz.ntmps107
 go_wp2;go_ret;exact⟨rfl,Below.refl _ _⟩
theorem Zj5 {d:DfaD} (hd:Zae d.next d.ends=true) (K:Nat):(∀ x∈(bat (nxM d) ((clD d 0:Nat):Int) K).met,0≤x∧x<(d.next.length:Int))∧(bat (nxM d) ((clD d 0:Nat):Int) K).met.length≤d.next.length:=by
 have hf:=ZaB hd;have hl:=Zac hd
 have h1:∀ x∈(bat (nxM d) ((clD d 0:Nat):Int) K).met,0≤x∧x<(d.next.length:Int):=by
  refine ZbF (Q:=fun x=>0≤x∧x<(d.next.length:Int)) ?_ (fun x c hc hx => ?_) K
  ·have:=(Zba (d:=d) 0 (by omega)).1;omega
  have h2:=(Zbz hf (s:=x.toNat) (c:=c) (by omega) hc).1;have h3:=(Zba (d:=d) (nxD d x.toNat c) h2).1;unfold nxM;omega
 refine⟨h1,?_⟩
 have h2:=Zdn (Za9 (nx:=nxM d) (a:=((clD d 0:Nat):Int)) K).1 (m:=ZaT d.next.length) (fun x hx=>by
  have:=h1 x hx;have e:x=((x.toNat:Nat):Int):=by omega
  rw[e,Zb3];omega)
 rw[Zb0] at h2;exact h2
theorem ZbC (d:DfaD) (v:Value) (w:World) (hd:Zae d.next d.ends=true) (h:DfaR 0 w v d) :
  Calls Tryz.prog 58 #[v] w fun e w'=>RDo (minD d) w e w':=by
 have HR:=qh h;obtain⟨b1,o1,cv,b2,o2,cw,rfl,hC⟩:=Zbv hd h;have hl1:=hC.l1;have hl2:=hC.l2;have hFl:=(Zj5 hd d.next.length).2;have hS0:=((St.start w).alloc _ rfl #[.slice (some ⟨b1,o1,none⟩) d.next.length cv,.slice (some ⟨b2,o2,none⟩) d.next.length cw] 37).alloc (w.heap.size+1) (by simp) #[.slice none 0 0,.slice none 0 0] 37
 have hex:=fun (W:World) (bc g cg:Nat) (hbx:Bx W w.heap.size #[.slice (some ⟨b1,o1,none⟩) d.next.length cv,.slice (some ⟨b2,o2,none⟩) d.next.length cw] 37) (hbc:Bx W bc #[.slice (some ⟨g,0,none⟩) d.next.length cg] 26)
   (hg:g<W.heap.size) (hcl:∀ s,s<d.next.length→W.cell? ⟨g,s,none⟩=some (.int .i64 ((clD d s:Nat):Int))) (hb:Below w.heap.size w W) =>
  Zhn ((clD d 0:Nat):Int) bc w.heap.size (nxM d) (den d) (fun x=>0≤x∧x<(d.next.length:Int)) d.next.length W
   (by have:=(Zba (d:=d) 0 (by omega)).1;omega)
   (fun x c hc hx=>by have h2:=(Zbz (ZaB hd) (s:=x.toNat) (c:=c) (by omega) hc).1;have h3:=(Zba (d:=d) (nxD d x.toNat c) h2).1;unfold nxM;omega)
   (fun x hx=>by unfold fitI;omega) (by omega) (by omega) hFl
   (fun x c w' hx hc hb'=>by obtain⟨n,rfl⟩:∃ n:Nat,x=(n:Int):=⟨x.toNat,by omega⟩;exact ZmQ d (clD d) b1 o1 cv b2 o2 cw bc w.heap.size g cg n c w' ((hC.below hb).below hb') (by omega) hc (hbx.below hb' hbx.lt) (hbc.below hb' hbc.lt) (fun s hs=>(bcell hb' g _ hg).trans (hcl s hs)))
   (fun x w' hx hb'=>by obtain⟨n,rfl⟩:∃ n:Nat,x=(n:Int):=⟨x.toNat,by omega⟩;exact ZmP d b1 o1 cv b2 o2 cw w.heap.size n w' ((hC.below hb).below hb') (by omega) (hbx.below hb' hbx.lt))
 obtain⟨F,hF⟩:=eI ((bat (nxM d) ((clD d 0:Nat):Int) d.next.length).met);rw[← hF] at hex hFl;have htr:minD d=⟨F.map (Zad (nxM d) F),F.map (den d)⟩:=by unfold minD;rw[← hF];rfl
 rw[htr];have hsm:=fun (W:World) (hb:Below w.heap.size w W)=>Zf4 d (.agg #[.slice (some ⟨b1,o1,none⟩) d.next.length cv,.slice (some ⟨b2,o2,none⟩) d.next.length cw]) W hd (HR.out.below hb)
 unfold RCl at hsm;obtain⟨L,hL⟩:=eI (d.next.length);obtain⟨C,hK⟩:=eI (clD d);rw[← hL,← hK] at hex hsm;rw[← hL] at hS0 hFl hl1 hl2;rw[← hL];obtain⟨k0,hk0⟩:=eI (C 0);rw[← hk0] at hex;have Hex:=qh hex;have Hsm:=qh hsm;replace hS0:=qh hS0;replace hF:=qh hF;have Hhtr:=qh htr;clear htr;have HhL:=qh hL;clear hL;have HhK:=qh hK;clear hK;have Hhk0:=qh hk0;clear hk0;clear hex hsm hC h
 go_enter Tryz.func58, Tryz.ntmps58
 have e0:=hS0.out.cell (v:=.slice (some ⟨b1,o1,none⟩) L cv) 0 0 rfl rfl;have e1:=hS0.out.cell (v:=.slice (some ⟨b2,o2,none⟩) L cw) 0 1 rfl rfl;go_wp2_with fail;refine(Hsm.out _ hS0.out.bel).mono ?_;rintro e w1 ⟨g,cg,rfl,hS'⟩;have hS2:=(hS0.out.cat hS').alloc _ rfl #[.slice (some ⟨g,0,none⟩) L cg] 26;have HS:=qh hS2;clear hS2 hS' e0 e1;go_wp2;have hc0:=ZaS (n:=L) (s:=0) C (by omega);rw[← Hhk0.out] at hc0;have hL0:(0:Int)<L:=by omega
 have hL00:0<L:=by omega
 have Hhc0:=qh hc0;clear hc0;refine wp_region_any (by kernel_rfl) ?_
 refine Zas (fun A listed a w'=>∃ (l0 l1 l2 l3 l4 l5 l6 l7 l8 l9 l10 l11 l12 l13 l14 l15 l16:Bool) (a1:Option Addr) (c1:Nat) (a2:Option Addr) (c2:Nat) (a3:Option Addr) (c3:Nat) (vs:List Value) (b:Nat),listed=#[l0,l1,l2,l3,l4,l5,l6,l7,l8,l9,l10,l11,l12,l13,l14,l15,l16]∧(l8=true→l7=true∧l6=true)∧(l9=true→l8=true∧l7=true)∧(l10=true→l9=true∧l8=true)∧(l11=true→l9=true∧l8=true)∧(l14=true→l10=true∧l13=true)∧(l15=true→l11=true∧l14=true) ∧
   a=⟨((((((((((((((((A.tmps.setIfInBounds 10 (if l0=true then .slice (some ⟨g,0,none⟩) L cg else A.tmps.getD 10 undef)).setIfInBounds 11 (if l1=true then .pointer (some ⟨g,0,none⟩) else A.tmps.getD 11 undef)).setIfInBounds 12 (if l2=true then .int .i64 ((k0:Nat):Int) else A.tmps.getD 12 undef)).setIfInBounds 13 (if l3=true then .pointer (some ⟨w.heap.size,0,none⟩) else A.tmps.getD 13 undef)).setIfInBounds 14 (if l4=true then .slice (some ⟨b1,o1,none⟩) L cv else A.tmps.getD 14 undef)).setIfInBounds 15 (if l5=true then .int .i64 (L:Int) else A.tmps.getD 15 undef)).setIfInBounds 16 (if l6=true then .func (.func 106) #[] #[.pointer (some ⟨w1.heap.size,0,none⟩),.pointer (some ⟨w.heap.size,0,none⟩)] else A.tmps.getD 16 undef)).setIfInBounds 17 (if l7=true then .func (.func 107) #[] #[.pointer (some ⟨w.heap.size,0,none⟩)] else A.tmps.getD 17 undef)).setIfInBounds 18 (if l8=true then .tuple #[.agg #[.slice a1 F.length c1,.slice a2 F.length c2],.slice a3 F.length c3,.bool true] else A.tmps.getD 18 undef)).setIfInBounds 9 (if l9=true then .tuple #[.agg #[.slice a1 F.length c1,.slice a2 F.length c2],.slice a3 F.length c3,.bool true] else A.tmps.getD 9 undef)).setIfInBounds 19 (if l10=true then .agg #[.slice a1 F.length c1,.slice a2 F.length c2] else A.tmps.getD 19 undef)).setIfInBounds 20 (if l11=true then .slice a3 F.length c3 else A.tmps.getD 20 undef)).setIfInBounds 21 (if l12=true then .bool true else A.tmps.getD 21 undef)).setIfInBounds 4 (if l13=true then .pointer (some ⟨b,0,none⟩) else A.tmps.getD 4 undef)).setIfInBounds 5 (if l15=true then .slice a3 F.length c3 else A.tmps.getD 5 undef)).setIfInBounds 6 (if l16=true then .bool true else A.tmps.getD 6 undef)),A.defers⟩ ∧
   St w w' [Ent.box w.heap.size #[.slice (some ⟨b1,o1,none⟩) L cv,.slice (some ⟨b2,o2,none⟩) L cw] 37,Ent.box (w.heap.size+1) #[.slice none 0 0,.slice none 0 0] 37,Ent.row 3 1 (.slice (some ⟨g,0,none⟩) L cg) L (intCells (clsL L C)),Ent.box w1.heap.size #[.slice (some ⟨g,0,none⟩) L cg] 26,(if l13=true then Ent.box b (if l14=true then #[.slice a1 F.length c1,.slice a2 F.length c2] else #[.slice none 0 0,.slice none 0 0]) 37 else Ent.nil),(if l8=true then Ent.rows 26 3 (.slice a1 F.length c1) vs ((F.map (Zad (nxM d) F)).map intCells) else Ent.nil),(if l8=true then Ent.row 4 1 (.slice a2 F.length c2) F.length (boolCells (F.map (den d))) else Ent.nil),(if l8=true then Ent.row 3 1 (.slice a3 F.length c3) F.length (intCells F) else Ent.nil)]) ?_ ?_ ?_
 ·rintro listed a w' ⟨l0,l1,l2,l3,l4,l5,l6,l7,l8,l9,l10,l11,l12,l13,l14,l15,l16,a1,c1,a2,c2,a3,c3,vs,b,rfl,hd8,hd9,hd10,hd11,hd14,hd15,rfl,hS⟩ i hi;obtain⟨hun,o,ho,hall⟩:=mem_ready.1 hi;have hlt:=(Array.getElem?_eq_some_iff.1 ho).1;refine wpOp_step ho (fun K hK => ?_);clear hi;have HS:=qh hS;clear hS;simp only[List.setIfInBounds_toArray,List.set_cons_zero,List.set_cons_succ,Array.getD_eq_getD_getElem?,List.getElem?_toArray,List.getElem?_cons_zero,List.getElem?_cons_succ,Option.getD_some];obtain h|h|h|h|h|h|h|h|h|h|h|h|h|h|h|h|h:i=0∨i=1∨i=2∨i=3∨i=4∨i=5∨i=6∨i=7∨i=8∨i=9∨i=10∨i=11∨i=12∨i=13∨i=14∨i=15∨i=16:=by simp at hlt;omega
  all_goals subst h
  all_goals simp only[List.getElem?_toArray,List.getElem?_cons_zero,List.getElem?_cons_succ,Option.some.injEq] at ho
  all_goals subst ho
  all_goals simp[Region.binds] at hun hall
  ·subst hun;have e0:=HS.out.cell (v:=.slice (some ⟨g,0,none⟩) L cg) 3 0 rfl rfl;go_simp;exact hK _ _ ⟨true,l1,l2,l3,l4,l5,l6,l7,l8,l9,l10,l11,l12,l13,l14,l15,l16,a1,c1,a2,c2,a3,c3,vs,b,rfl,hd8,hd9,hd10,hd11,hd14,hd15,(by simp),HS.out⟩
  ·obtain rfl:=hall;subst hun;go_simp;exact hK _ _ ⟨true,true,l2,l3,l4,l5,l6,l7,l8,l9,l10,l11,l12,l13,l14,l15,l16,a1,c1,a2,c2,a3,c3,vs,b,rfl,hd8,hd9,hd10,hd11,hd14,hd15,(by simp),HS.out⟩
  ·obtain rfl:=hall;subst hun;have e0:=HS.out.rcell (v:=.int .i64 ((k0:Nat):Int)) 2 0 rfl (by omega) Hhc0.out;go_simp;exact hK _ _ ⟨l0,true,true,l3,l4,l5,l6,l7,l8,l9,l10,l11,l12,l13,l14,l15,l16,a1,c1,a2,c2,a3,c3,vs,b,rfl,hd8,hd9,hd10,hd11,hd14,hd15,(by simp),HS.out⟩
  ·subst hun;go_simp;exact hK _ _ ⟨l0,l1,l2,true,l4,l5,l6,l7,l8,l9,l10,l11,l12,l13,l14,l15,l16,a1,c1,a2,c2,a3,c3,vs,b,rfl,hd8,hd9,hd10,hd11,hd14,hd15,(by simp),HS.out⟩
  ·obtain rfl:=hall;subst hun;have e0:=HS.out.cell (v:=.slice (some ⟨b1,o1,none⟩) L cv) 0 0 rfl rfl;go_simp;exact hK _ _ ⟨l0,l1,l2,true,true,l5,l6,l7,l8,l9,l10,l11,l12,l13,l14,l15,l16,a1,c1,a2,c2,a3,c3,vs,b,rfl,hd8,hd9,hd10,hd11,hd14,hd15,(by simp),HS.out⟩
  ·obtain rfl:=hall;subst hun;go_simp;exact hK _ _ ⟨l0,l1,l2,l3,true,true,l6,l7,l8,l9,l10,l11,l12,l13,l14,l15,l16,a1,c1,a2,c2,a3,c3,vs,b,rfl,hd8,hd9,hd10,hd11,hd14,hd15,(by simp),HS.out⟩
  ·subst hun;obtain rfl:l8=false:=offR hd8 rfl;obtain rfl:l9=false:=offL hd9 rfl;obtain rfl:l10=false:=offL hd10 rfl;obtain rfl:l11=false:=offL hd11 rfl;obtain rfl:l14=false:=offL hd14 rfl;obtain rfl:l15=false:=offL hd15 rfl;go_simp;exact hK _ _ ⟨l0,l1,l2,l3,l4,l5,true,l7,false,false,false,false,l12,l13,false,false,l16,a1,c1,a2,c2,a3,c3,vs,b,rfl,by simp,by simp,by simp,by simp,by simp,by simp,(by simp),HS.out⟩
  ·subst hun;obtain rfl:l8=false:=offL hd8 rfl;obtain rfl:l9=false:=offL hd9 rfl;obtain rfl:l10=false:=offL hd10 rfl;obtain rfl:l11=false:=offL hd11 rfl;obtain rfl:l14=false:=offL hd14 rfl;obtain rfl:l15=false:=offL hd15 rfl;go_simp;exact hK _ _ ⟨l0,l1,l2,l3,l4,l5,l6,true,false,false,false,false,l12,l13,false,false,l16,a1,c1,a2,c2,a3,c3,vs,b,rfl,by simp,by simp,by simp,by simp,by simp,by simp,(by simp),HS.out⟩
  ·obtain⟨rfl,rfl,rfl,rfl⟩:=hall;subst hun;obtain rfl:l9=false:=offL hd9 rfl;obtain rfl:l10=false:=offL hd10 rfl;obtain rfl:l11=false:=offL hd11 rfl;obtain rfl:l14=false:=offL hd14 rfl;obtain rfl:l15=false:=offL hd15 rfl;go_simp
   go_at_call 105
   refine(Hex.out _ _ _ _ (HS.out.box 0 rfl) (HS.out.box 3 rfl) (HS.out.rowlt 2 rfl).2 (fun x hx=>HS.out.rcell 2 x rfl (by omega) (ZaS C hx)) HS.out.bel).mono ?_;rintro e u1 ⟨a1,c1,a2,c2,a3,c3,vs,rfl,hSx⟩;have hS2:=(HS.out.cat hSx).pick [0,1,2,3,4,8,9,10] (by decide);have HhS2:=qh hS2;clear hS2;go_simp;exact hK _ _ ⟨l0,l1,true,l3,l4,true,true,true,true,false,false,false,l12,l13,false,false,l16,a1,c1,a2,c2,a3,c3,vs,b,rfl,by simp,by simp,by simp,by simp,by simp,by simp,(by simp),HhS2.out⟩
  ·obtain rfl:=hall;subst hun;obtain⟨rfl,rfl⟩:=hd8 rfl;obtain rfl:l10=false:=offL hd10 rfl;obtain rfl:l11=false:=offL hd11 rfl;obtain rfl:l14=false:=offL hd14 rfl;obtain rfl:l15=false:=offL hd15 rfl;go_simp;exact hK _ _ ⟨l0,l1,l2,l3,l4,l5,true,true,true,true,false,false,l12,l13,false,false,l16,a1,c1,a2,c2,a3,c3,vs,b,rfl,by simp,by simp,by simp,by simp,by simp,by simp,(by simp),HS.out⟩
  ·obtain rfl:=hall;subst hun;obtain⟨rfl,rfl⟩:=hd9 rfl;obtain⟨-,rfl⟩:=hd8 rfl;obtain rfl:l14=false:=offL hd14 rfl;obtain rfl:l15=false:=offR hd15 rfl;go_simp;exact hK _ _ ⟨l0,l1,l2,l3,l4,l5,true,true,true,true,true,l11,l12,l13,false,false,l16,a1,c1,a2,c2,a3,c3,vs,b,rfl,by simp,by simp,by simp,hd11,by simp,by simp,(by simp),HS.out⟩
  ·obtain rfl:=hall;subst hun;obtain⟨rfl,rfl⟩:=hd9 rfl;obtain⟨-,rfl⟩:=hd8 rfl;obtain rfl:l15=false:=offL hd15 rfl;go_simp;exact hK _ _ ⟨l0,l1,l2,l3,l4,l5,true,true,true,true,l10,true,l12,l13,l14,false,l16,a1,c1,a2,c2,a3,c3,vs,b,rfl,by simp,by simp,hd10,by simp,hd14,by simp,(by simp),HS.out⟩
  ·obtain rfl:=hall;subst hun;obtain⟨rfl,rfl⟩:=hd9 rfl;obtain⟨-,rfl⟩:=hd8 rfl;go_simp;exact hK _ _ ⟨l0,l1,l2,l3,l4,l5,true,true,true,true,l10,l11,true,l13,l14,l15,l16,a1,c1,a2,c2,a3,c3,vs,b,rfl,by simp,by simp,hd10,hd11,hd14,hd15,(by simp),HS.out⟩
  ·subst hun;obtain rfl:l14=false:=offR hd14 rfl;obtain rfl:l15=false:=offR hd15 rfl;have hS2:=(HS.out.alloc _ rfl #[.slice none 0 0,.slice none 0 0] 37).pick [0,1,2,3,8,5,6,7] (by decide);have HhS2:=qh hS2;clear hS2;go_simp;exact hK _ _ ⟨l0,l1,l2,l3,l4,l5,l6,l7,l8,l9,l10,l11,l12,true,false,false,l16,a1,c1,a2,c2,a3,c3,vs,_,rfl,hd8,hd9,hd10,hd11,by simp,by simp,(by simp),HhS2.out⟩
  ·obtain⟨rfl,rfl,rfl,rfl,rfl,rfl,rfl,rfl,rfl,rfl,rfl,-,rfl,-⟩:=hall;subst hun;obtain rfl:l15=false:=offR hd15 rfl;have f0:=HS.out.fr 4 0 rfl;have f1:=HS.out.fr 4 1 rfl;have k0:=HS.out.cell (v:=.slice none 0 0) 4 0 rfl rfl;have k1:=HS.out.cell (v:=.slice none 0 0) 4 1 rfl rfl;go_simp;exact hK _ _ ⟨true,true,true,true,true,true,true,true,true,true,true,l11,l12,true,true,false,l16,a1,c1,a2,c2,a3,c3,vs,b,rfl,by simp,by simp,by simp,hd11,by simp,by simp,(by simp),((HS.out.set 4 rfl 0 (.slice a1 F.length c1)).set 4 rfl 1 (.slice a2 F.length c2))⟩
  ·obtain⟨rfl,rfl,rfl,rfl,rfl,rfl,rfl,rfl,rfl,rfl,rfl,rfl,rfl,-,rfl,-⟩:=hall;subst hun;go_simp;exact hK _ _ ⟨true,true,true,true,true,true,true,true,true,true,true,true,l12,true,true,true,l16,a1,c1,a2,c2,a3,c3,vs,b,rfl,by simp,by simp,by simp,by simp,by simp,by simp,(by simp),HS.out⟩
  obtain⟨rfl,rfl,rfl,rfl,rfl,rfl,rfl,rfl,rfl,rfl,rfl,rfl,rfl,rfl,-,rfl,rfl,-⟩:=hall;subst hun;go_simp;exact hK _ _ ⟨true,true,true,true,true,true,true,true,true,true,true,true,true,true,true,true,true,a1,c1,a2,c2,a3,c3,vs,b,rfl,by simp,by simp,by simp,by simp,by simp,by simp,(by simp only[↓reduceIte,List.setIfInBounds_toArray,List.set_cons_zero,List.set_cons_succ]),HS.out⟩
 ·rintro listed a w' ⟨l0,l1,l2,l3,l4,l5,l6,l7,l8,l9,l10,l11,l12,l13,l14,l15,l16,a1,c1,a2,c2,a3,c3,vs,b,rfl,hd8,hd9,hd10,hd11,hd14,hd15,rfl,hS⟩ hr;have hall:=Za5 (by kernel_rfl) rfl hr;obtain rfl:l0=true:=by simpa using hall 0 (by simp)
  obtain rfl:l1=true:=by simpa using hall 1 (by simp)
  obtain rfl:l2=true:=by simpa using hall 2 (by simp)
  obtain rfl:l3=true:=by simpa using hall 3 (by simp)
  obtain rfl:l4=true:=by simpa using hall 4 (by simp)
  obtain rfl:l5=true:=by simpa using hall 5 (by simp)
  obtain rfl:l6=true:=by simpa using hall 6 (by simp)
  obtain rfl:l7=true:=by simpa using hall 7 (by simp)
  obtain rfl:l8=true:=by simpa using hall 8 (by simp)
  obtain rfl:l9=true:=by simpa using hall 9 (by simp)
  obtain rfl:l10=true:=by simpa using hall 10 (by simp)
  obtain rfl:l11=true:=by simpa using hall 11 (by simp)
  obtain rfl:l12=true:=by simpa using hall 12 (by simp)
  obtain rfl:l13=true:=by simpa using hall 13 (by simp)
  obtain rfl:l14=true:=by simpa using hall 14 (by simp)
  obtain rfl:l15=true:=by simpa using hall 15 (by simp)
  obtain rfl:l16=true:=by simpa using hall 16 (by simp)
  clear hall hr hd8 hd9 hd10 hd11 hd14 hd15;simp only[↓reduceIte] at hS ⊢;simp only[List.setIfInBounds_toArray,List.set_cons_zero,List.set_cons_succ];have d0:=hS.cell (v:=.slice a1 F.length c1) 4 0 rfl rfl;have d1:=hS.cell (v:=.slice a2 F.length c2) 4 1 rfl rfl;have f0:=hS.fr 1 0 rfl;have f1:=hS.fr 1 1 rfl;have k0:=hS.cell (v:=.slice none 0 0) 1 0 rfl rfl;have k1:=hS.cell (v:=.slice none 0 0) 1 1 rfl rfl;have HS9:=qh hS;clear hS;go_wp2;have hq:=(HS9.out.set 1 rfl 0 (.slice a1 F.length c1)).set 1 rfl 1 (.slice a2 F.length c2);have q0:=hq.cell (v:=.slice a1 F.length c1) 1 0 rfl rfl;have q1:=hq.cell (v:=.slice a2 F.length c2) 1 1 rfl rfl;refine bodyPost_ret (v:=.agg #[.slice a1 F.length c1,.slice a2 F.length c2]) (by simp[results,Tryz.results58,go_sem,q0,q1]) rfl ?_;refine⟨a1,c1,a2,c2,by simp only[List.length_map],⟨.slice a1 F.length c1,.slice a2 F.length c2,by simp only[List.length_map],hq.intSS 5 rfl,?_⟩,hq.bel⟩;have hb:=Zaa (hq.row 6 rfl);unfold OBools;simpa only [List.length_map] using hb
 refine⟨false,false,false,false,false,false,false,false,false,false,false,false,false,false,false,false,false,none,0,none,0,none,0,[],0,rfl,by simp,by simp,by simp,by simp,by simp,by simp,(by simp),?_⟩;exact HS.out.drew.pick [0,1,2,3,4,5,6,7] (by decide)
def loW (v:Nat):Nat:=v % 2 ^ 64
def hiW (v:Nat):Nat:=v / 2 ^ 64
theorem Zfy (v:Nat):loW v<2 ^ 64:=Nat.mod_lt _ (by omega)
theorem ZlG {v:Nat} (h:v<2 ^ 128):hiW v<2 ^ 64:=Nat.div_lt_of_lt_mul (by rw[← Nat.pow_add];exact h)
theorem Zfz {v s:Nat} (h:s<64):(loW v).testBit s=v.testBit s:=by unfold loW;rw[Nat.testBit_mod_two_pow];simp[h]
theorem ZfJ {v s:Nat} (h:64≤s):(hiW v).testBit (s-64)=v.testBit s:=by unfold hiW;rw[Nat.testBit_div_two_pow];congr 1;omega
theorem ZdG (v s t:Nat):(adj v s).testBit t=(v.testBit t||decide (t=s)):=by rw[ZbT];congr 1;exact decide_eq_decide.2 ⟨Eq.symm,Eq.symm⟩
theorem Zoo {v s:Nat} (h:s<64):loW (adj v s)=adj (loW v) s∧hiW (adj v s)=hiW v:=by
 constructor
 ·refine Nat.eq_of_testBit_eq fun t => ?_
  by_cases ht:t<64
  ·rw[Zfz ht,ZdG,ZdG,Zfz ht]
  have h1:(loW (adj v s)).testBit t=false:=Nat.testBit_lt_two_pow (Nat.lt_of_lt_of_le (Zfy _) (Nat.pow_le_pow_right (by omega) (by omega)));have h2:(loW v).testBit t=false:=Nat.testBit_lt_two_pow (Nat.lt_of_lt_of_le (Zfy _) (Nat.pow_le_pow_right (by omega) (by omega)));rw[h1,ZdG,h2,Bool.false_or];exact(decide_eq_false (by omega)).symm
 refine Nat.eq_of_testBit_eq fun t => ?_
 have e1:=ZfJ (v:=adj v s) (s:=t+64) (by omega);have e2:=ZfJ (v:=v) (s:=t+64) (by omega);rw[Nat.add_sub_cancel] at e1 e2;rw[e1,e2,ZdG,decide_eq_false (show ¬ t+64=s by omega),Bool.or_false]
theorem Zos {v s:Nat} (h:64≤s):loW (adj v s)=loW v∧hiW (adj v s)=adj (hiW v) (s-64):=by
 constructor
 ·refine Nat.eq_of_testBit_eq fun t => ?_
  by_cases ht:t<64
  ·rw[Zfz ht,ZdG,Zfz ht,decide_eq_false (show ¬ t=s by omega),Bool.or_false]
  have h1:(loW (adj v s)).testBit t=false:=Nat.testBit_lt_two_pow (Nat.lt_of_lt_of_le (Zfy _) (Nat.pow_le_pow_right (by omega) (by omega)));have h2:(loW v).testBit t=false:=Nat.testBit_lt_two_pow (Nat.lt_of_lt_of_le (Zfy _) (Nat.pow_le_pow_right (by omega) (by omega)));rw[h1,h2]
 refine Nat.eq_of_testBit_eq fun t => ?_
 have e1:=ZfJ (v:=adj v s) (s:=t+64) (by omega);have e2:=ZfJ (v:=v) (s:=t+64) (by omega);rw[Nat.add_sub_cancel] at e1 e2;rw[e1,ZdG,ZdG,e2];congr 1;exact decide_eq_decide.2 ⟨fun h=>by omega,fun h=>by omega⟩
abbrev setW (v:Nat):Value:=.agg #[.int .u64 (loW v:Int),.int .u64 (hiW v:Int)]
theorem Zim (v s:Nat) (hv:v<2 ^ 64):(bits BinOp.and IntKind.u64 ((v:Int) / 2 ^ s) 1==1)=v.testBit s:=by
 have e:((v:Int) / 2 ^ s)=((v / 2 ^ s:Nat):Int):=by simp
 have hle:v / 2 ^ s≤v:=Nat.div_le_self _ _;rw[e,Nat.testBit_eq_decide_div_mod_eq]
 generalize v / 2 ^ s=q at hle ⊢
 rw[and_one_u64 _ (by omega) (by omega),Bool.eq_iff_iff];simp;omega
theorem ZjL (v s:Nat) (hv:v<2 ^ 64) (hs:s<64):bits BinOp.or IntKind.u64 (v:Int) (IntKind.u64.wrap (2 ^ s))=((adj v s:Nat):Int):=by
 have e:((2:Int) ^ s)=((2 ^ s:Nat):Int):=by simp
 have hle:2 ^ s<2 ^ 64:=Nat.pow_lt_pow_right (by omega) hs;unfold adj
 generalize 2 ^ s=q at hle e ⊢
 rw[e,IntKind.wrap_u64,Int.emod_eq_of_lt (by omega) (by omega),u64_or_nat _ _ (by omega) (by omega)]
theorem ZcL (v s:Nat) (hv:v<2 ^ 128) (hs:s<128) (w:World) (r:Bool) (hr:v.testBit s=r) :
  Calls Tryz.prog 101 #[setW v,.int .i64 s] w fun e w'=>e = .returned (.bool r)∧Below w.heap.size w w':=by
 by_cases h:s<64
 ·have h1:(s:Int) / 64=0:=by omega
  have h2:(s:Int) % 64=s:=by omega
  have h3:s / 64=0:=by omega
  have hb:=Zim (loW v) s (Zfy v);rw[Zfz h,hr] at hb;have Hhr:=qh hr;clear hr;have Hhv:=qh hv;clear hv;replace hb:=qh hb
  go_enter Tryz.func101, Tryz.ntmps101
  go_wp2;go_ret;exact⟨Zdl hb.out,(Below.refl _ _).alloc (Nat.le_refl _) _⟩
 have h1:(s:Int) / 64=1:=by omega
 have h2:(s:Int) % 64=((s-64:Nat):Int):=by omega
 have h3:s / 64=1:=by omega
 have hb:=Zim (hiW v) (s-64) (ZlG hv);rw[ZfJ (by omega),hr] at hb;obtain⟨t,ht⟩:=eI (s-64);rw[← ht] at hb h2;have Hht:=qh ht;clear ht;have Hhr:=qh hr;clear hr;have Hhv:=qh hv;clear hv;replace hb:=qh hb
 go_enter Tryz.func101, Tryz.ntmps101
 go_wp2;go_ret;exact⟨Zdl hb.out,(Below.refl _ _).alloc (Nat.le_refl _) _⟩
theorem Zc0 (v s:Nat) (hv:v<2 ^ 128) (hs:s<128) (w:World) :
  Calls Tryz.prog 134 #[setW v,.int .i64 s] w fun e w'=>e = .returned (setW (adj v s))∧Below w.heap.size w w':=by
 by_cases h:s<64
 ·have h1:(s:Int) / 64=0:=by omega
  have h2:(s:Int) % 64=s:=by omega
  have h3:s / 64=0:=by omega
  have hb:=ZjL (loW v) s (Zfy v) h;obtain⟨e1,e2⟩:=Zoo (v:=v) h;rw[← e1] at hb;obtain⟨L,hL⟩:=eI (loW (adj v s));rw[← hL] at hb;unfold setW;rw[e2,← hL];have Hhv:=qh hv;clear hv;have HhL:=qh hL;clear hL;replace e1:=qh e1;have He2:=qh e2;clear e2
  go_enter Tryz.func134, Tryz.ntmps134
  go_wp2
  go_region
  go_wp2;refine bodyPost_ret (v:=.agg #[.int .u64 (L:Int),.int .u64 (hiW v:Int)]) (by simp[results,Tryz.results134,go_sem]) rfl ⟨rfl,?_⟩;exact((((Below.refl _ _).alloc (Nat.le_refl _) _).alloc (by simp) _).drew)
 have h1:(s:Int) / 64=1:=by omega
 have h3:s / 64=1:=by omega
 obtain⟨t,ht⟩:=eI (s-64);have h2:(s:Int) % 64=(t:Int):=by omega
 have hb:=ZjL (hiW v) t (ZlG hv) (by omega);obtain⟨e1,e2⟩:=Zos (v:=v) (s:=s) (by omega);rw[ht,← e2] at hb;rw[← ht] at hb;obtain⟨L,hL⟩:=eI (hiW (adj v s));rw[← hL] at hb;unfold setW;rw[e1,← hL];have Hhv:=qh hv;clear hv;have HhL:=qh hL;clear hL;replace e1:=qh e1;have He2:=qh e2;clear e2;have Hht:=qh ht;clear ht
 go_enter Tryz.func134, Tryz.ntmps134
 go_wp2
 go_region
 go_wp2;refine bodyPost_ret (v:=.agg #[.int .u64 (loW v:Int),.int .u64 (L:Int)]) (by simp[results,Tryz.results134,go_sem]) rfl ⟨rfl,?_⟩;exact((((Below.refl _ _).alloc (Nat.le_refl _) _).alloc (by simp) _).drew)
end Go.Proofs.YtfikabecgaappaaGreat
