/-
  The walk over the program's sameStates.
  Condition: the automaton is valid and reads as such.
-/
import Derived.Test.YtfanhfcamblghaaPv10Ix
set_option maxHeartbeats 8000000
set_option maxRecDepth 100000
namespace Go.Proofs.Ytfanhfcamblghaa
open Go.RowKit
def Zie (w:World) (b j:Nat):Nat:=match w.cell? ⟨b,j,none⟩ with
 | some v=>(intOf v).toNat
 | none=>0
theorem Zca {w:World} {b j t:Nat} (h:w.cell? ⟨b,j,none⟩=some (.int .i64 ((t:Nat):Int))):Zie w b j=t:=by unfold Zie;rw[h];simp[intOf]
def Zk1 (w:World) (b n:Nat):Nat:=((List.range n).filter fun s=>decide (Zie w b s=s)).length
theorem Zhq {w:World} {b n:Nat} {cl:Nat→Nat} (h:∀ s,s<n→w.cell? ⟨b,s,none⟩=some (.int .i64 ((cl s:Nat):Int))):Zk1 w b n=reps n cl:=by
 unfold Zk1 reps;congr 1;refine List.filter_congr fun s hs => ?_
 rw[Zca (h s (List.mem_range.1 hs))]
def Zdx:Value→Nat
 | .slice (some a) _ _=>a.block
 | _=>0
def Zir:Value→Bool
 | .bool b=>b
 | _=>false
def RCl (d:DfaD) (w:World) (e:Ending) (w':World):Prop:=∃ b c,e = .returned (.slice (some ⟨b,0,none⟩) d.next.length c)∧St w w' [Ent.row 3 1 (.slice (some ⟨b,0,none⟩) d.next.length c) d.next.length (intCells (clsL d.next.length (clD d)))]
theorem ZeB (d:DfaD) (v:Value) (w:World) (hd:Zaf d.next d.ends=true) (h:DfaR 0 w v d) :
  Calls Try.prog 109 #[v] w fun e w'=>RCl d w e w':=by
 have HR:=qh h;obtain⟨b1,o1,cv,b2,o2,cw,rfl,hC⟩:=Zbh hd h;have hnx:∀ s c,s<d.next.length→c<3→nxD d s c<d.next.length:=fun s c hs hc=>hC.lt s c hs hc
 obtain⟨N,hN,hNs,hNo⟩:=Zfh (n:=d.next.length) (nx:=nxD d) (enD d);obtain⟨C,hCC⟩:=eI (clAt d.next.length (nxD d) (enD d));have hfin:∀ s,s<d.next.length→C (N+1) s=clD d s:=fun s hs=>by rw[hCC,hNs s hs];exact(ZhR hnx hN hNs hs).symm
 have hgood:∀ i,GoodC d.next.length (C i):=fun i=>by rw[hCC];exact Zcy (enD d) i
 have hc0:∀ s,s<d.next.length→C 0 s≤s∧enD d (C 0 s)=enD d s∧∀ j,j<C 0 s→enD d j≠enD d s:=fun s hs=>by rw[hCC];exact Zcz hs
 have hcs:∀ i s,s<d.next.length→C (i+1) s≤s∧Za8 (nxD d) (C i) (C (i+1) s) s=true∧∀ j,j<C (i+1) s→Za8 (nxD d) (C i) j s=false:=fun i s hs=>by rw[hCC];exact ZaH hs
 have hsd:∀ i,clsL d.next.length (C (i+1))=clsL d.next.length (C i)↔stays d.next.length (nxD d) (enD d) i:=fun i=>by rw[Zkz,hCC];exact Iff.rfl
 obtain⟨L,hL⟩:=eI (d.next.length);have hl1:=hC.l1;have hl2:=hC.l2;have hS0:=(St.start w).alloc _ rfl #[.slice (some ⟨b1,o1,none⟩) L cv,.slice (some ⟨b2,o2,none⟩) L cw] 45;unfold RCl;rw[← hL] at hl1 hl2 HR hN hgood hc0 hcs hsd hfin;rw[← hL];obtain⟨i0,hi,hz0,hz1,hz2⟩:=info_parts Try.infoInt;have HC:=qh hC;have Hgood:=qh hgood;have Hc0:=qh hc0;have Hcs:=qh hcs;have Hsd:=qh hsd;have Hfin:=qh hfin;have HNo:=qh hNo;have HNs:=qh hNs;replace hS0:=qh hS0;replace hL:=qh hL;replace hCC:=qh hCC;have Hhi:=qh hi;clear hi;have Hhz0:=qh hz0;clear hz0;have Hhz1:=qh hz1;clear hz1;have Hhz2:=qh hz2;clear hz2;clear hC hgood hc0 hcs hsd hfin hNo hNs hnx h
 go_enter Try.func109, Try.ntmps109
 have HD:=qh (show ∀ w1:World,w1.ownsRow (w.alloc (.cells #[.slice (some ⟨b1,o1,none⟩) L cv,.slice (some ⟨b2,o2,none⟩) L cw] 45)).heap.size 3 1 (.slice (some ⟨w.heap.size+1,0,none⟩) L L) L (intCells (padL L 0 (C 0)))→Below (w.alloc (.cells #[.slice (some ⟨b1,o1,none⟩) L cv,.slice (some ⟨b2,o2,none⟩) L cw] 45)).heap.size (w.alloc (.cells #[.slice (some ⟨b1,o1,none⟩) L cv,.slice (some ⟨b2,o2,none⟩) L cw] 45)) w1 →
   St w w1 [Ent.box w.heap.size #[.slice (some ⟨b1,o1,none⟩) L cv,.slice (some ⟨b2,o2,none⟩) L cw] 45,Ent.row 3 1 (.slice (some ⟨w.heap.size+1,0,none⟩) L L) L (intCells (padL L 0 (C 0)))] from fun w1 h1 h2=>hS0.out.made h2 h1)
 go_wp2_with (at_make;refine wpList_make_full _ rfl _ _ 26 rfl _ 3 i0 (.int .i64 0) 1 Try.underlying26 Hhi.out Hhz0.out Hhz1.out .i64 .i64 _ _ L rfl rfl rfl rfl (by rw[Hhz2.out];omega) (by unfold maxLen;omega) (Nat.le_refl _) ?_;intro w1 hown hgrow;have hm:=Zgk (C 0) hown;simp only[World.size_alloc] at hm;have HS1:=qh (HD.out w1 (by simpa only [World.size_alloc] using hm) ((Below.refl _ _).grown hgrow (Nat.le_refl _) (fun _ h=>by cases h)));clear hown hgrow hm)
 go_loopw [14] (fun i wr=>∃ s:Nat,i = .int .i64 s∧s≤L∧St w wr [Ent.box w.heap.size #[.slice (some ⟨b1,o1,none⟩) L cv,.slice (some ⟨b2,o2,none⟩) L cw] 45,Ent.row 3 1 (.slice (some ⟨w.heap.size+1,0,none⟩) L L) L (intCells (padL L s (C 0)))]) (fun i _=>L-(intOf i).toNat)
 case atStart=>exact⟨0,rfl,Nat.zero_le _,HS1.out⟩
 case round =>
  obtain⟨s,rfl,hs,hS⟩:=hrel;by_cases hlt:s<L
  ·have hlt2:(s:Int)<L:=by omega
   have hsn:s<d.next.length:=by have:=hL.out;omega
   have hen:=HC.out.en s hsn;have hci:=Hc0.out s hlt;have hpad:=Zhw (n:=L) (s:=s) (C 0);have hset:=Zhv (n:=L) (s:=s) (C 0) 0 (C 0 s);rw[ZkO (C 0) hlt] at hS;rw[hpad] at hset;have hat:=Zd5 (n:=L) (s:=s) (C 0) 0;have hix:=fun (w':World) (hb:Below w.heap.size w w') (z:Bool) (hz:z=enD d s)=>Zit d.ends z (C 0 s) (.slice (some ⟨b2,o2,none⟩) L cw) w' (by obtain⟨u1,u2,hq,-,h2⟩:=HR.out;simp only[Value.agg.injEq,Array.mk.injEq,List.cons.injEq,and_true] at hq;rw[hq.2];exact h2.below hb) (by have:=HC.out.le;omega) (by rw[hz];exact hci.2.1) (fun j hj=>by rw[hz];exact hci.2.2 j hj)
   obtain⟨z,hz⟩:=eI (enD d s);rw[← hz] at hen;obtain⟨p,hp⟩:=eI (C 0 s);rw[← hp] at hset hix;have Hix:=qh fun (w':World) (hb:Below w.heap.size w w')=>hix w' hb z hz
   have Hen:=qh hen;obtain⟨X0,hX0⟩:=eI (intCells (padT L s (C 0) 0));obtain⟨X1,hX1⟩:=eI (intCells (padL L (s+1) (C 0)));rw[← hX0,← hX1] at hset;rw[← hX0] at hS hat;have HS:=qh hS;have Hhz:=qh hz;clear hz;have Hhp:=qh hp;clear hp;have Hhset:=qh hset;clear hset;have Hhat:=qh hat;clear hat;have HhX0:=qh hX0;clear hX0;have HhX1:=qh hX1;clear hX1;clear hS hix hen hci hpad;go_wp2;refine wp_region_any (by kernel_rfl) ?_
   refine Zak (fun A listed a w'=>∃ (l0 l1 l2 l3 l4 l5 l6 l7 l8 l9 l10 l11:Bool) ,listed=#[l0,l1,l2,l3,l4,l5,l6,l7,l8,l9,l10,l11] ∧
     a=⟨(((((((((((A.tmps.setIfInBounds 17 (if l0=true then .slice (some ⟨w.heap.size+1,0,none⟩) L L else A.tmps.getD 17 undef)).setIfInBounds 18 (if l1=true then .int .i64 (s:Int) else A.tmps.getD 18 undef)).setIfInBounds 19 (if l2=true then .pointer (some ⟨w.heap.size,1,none⟩) else A.tmps.getD 19 undef)).setIfInBounds 20 (if l3=true then .slice (some ⟨b2,o2,none⟩) L cw else A.tmps.getD 20 undef)).setIfInBounds 21 (if l4=true then .pointer (some ⟨w.heap.size,1,none⟩) else A.tmps.getD 21 undef)).setIfInBounds 22 (if l5=true then .slice (some ⟨b2,o2,none⟩) L cw else A.tmps.getD 22 undef)).setIfInBounds 23 (if l6=true then .int .i64 (s:Int) else A.tmps.getD 23 undef)).setIfInBounds 24 (if l7=true then .pointer (some ⟨b2,o2+s,none⟩) else A.tmps.getD 24 undef)).setIfInBounds 25 (if l8=true then .bool z else A.tmps.getD 25 undef)).setIfInBounds 26 (if l9=true then .int .i64 (p:Int) else A.tmps.getD 26 undef)).setIfInBounds 27 (if l10=true then .pointer (some ⟨w.heap.size+1,s,none⟩) else A.tmps.getD 27 undef)),A.defers⟩ ∧
     St w w' [Ent.box w.heap.size #[.slice (some ⟨b1,o1,none⟩) L cv,.slice (some ⟨b2,o2,none⟩) L cw] 45,Ent.row 3 1 (.slice (some ⟨w.heap.size+1,0,none⟩) L L) L (if l11=true then X1 else X0)]) ?_ ?_ ?_
   ·rintro listed a w' ⟨l0,l1,l2,l3,l4,l5,l6,l7,l8,l9,l10,l11,rfl,rfl,hS⟩ i hi;obtain⟨hun,o,ho,hall⟩:=mem_ready.1 hi;have hlt:=(Array.getElem?_eq_some_iff.1 ho).1;refine wpOp_step ho (fun K hK => ?_);clear hi;have HS:=qh hS;clear hS;simp only[w_1,w_2,w_3,w_4,w_5,w_6,w_7,w_8];obtain h|h|h|h|h|h|h|h|h|h|h|h:i=0∨i=1∨i=2∨i=3∨i=4∨i=5∨i=6∨i=7∨i=8∨i=9∨i=10∨i=11:=by simp at hlt;omega
    all_goals subst h
    all_goals simp only[w_5,w_6,w_7,w_9] at ho
    all_goals subst ho
    all_goals simp[Region.binds] at hun hall
    ·subst hun;go_simp;exact hK _ _ ⟨_,_,_,_,_,_,_,_,_,_,_,_,rfl,(by simp),HS.out⟩
    ·subst hun;go_simp;exact hK _ _ ⟨_,_,_,_,_,_,_,_,_,_,_,_,rfl,(by simp),HS.out⟩
    ·subst hun;go_simp;exact hK _ _ ⟨_,_,_,_,_,_,_,_,_,_,_,_,rfl,(by simp),HS.out⟩
    ·obtain rfl:=hall;subst hun;have e0:=HS.out.cell (v:=.slice (some ⟨b2,o2,none⟩) L cw) 0 1 rfl rfl;go_simp;exact hK _ _ ⟨_,_,_,_,_,_,_,_,_,_,_,_,rfl,(by simp),HS.out⟩
    ·subst hun;go_simp;exact hK _ _ ⟨_,_,_,_,_,_,_,_,_,_,_,_,rfl,(by simp),HS.out⟩
    ·obtain rfl:=hall;subst hun;have e0:=HS.out.cell (v:=.slice (some ⟨b2,o2,none⟩) L cw) 0 1 rfl rfl;go_simp;exact hK _ _ ⟨_,_,_,_,_,_,_,_,_,_,_,_,rfl,(by simp),HS.out⟩
    ·subst hun;go_simp;exact hK _ _ ⟨_,_,_,_,_,_,_,_,_,_,_,_,rfl,(by simp),HS.out⟩
    ·obtain⟨rfl,rfl⟩:=hall;subst hun;go_simp;exact hK _ _ ⟨_,_,_,_,_,_,_,_,_,_,_,_,rfl,(by simp),HS.out⟩
    ·obtain rfl:=hall;subst hun;have e0:=(bcell HS.out.bel b2 _ HC.out.hb2).trans Hen.out;go_simp;exact hK _ _ ⟨_,_,_,_,_,_,_,_,_,_,_,_,rfl,(by simp),HS.out⟩
    ·obtain⟨rfl,rfl⟩:=hall;subst hun;go_simp
     go_at_call 145
     refine(Hix.out _ HS.out.bel).mono ?_;rintro e u1 ⟨rfl,hbx⟩;have hS2:=HS.out.call hbx;have HhS2:=qh hS2;clear hS2;go_simp;exact hK _ _ ⟨_,_,_,_,_,_,_,_,_,_,_,_,rfl,(by simp),HhS2.out⟩
    ·obtain⟨rfl,rfl,-,-,rfl,rfl,rfl,rfl,rfl,rfl,rfl,rfl⟩:=hall;subst hun;go_simp;exact hK _ _ ⟨_,_,_,_,_,_,_,_,_,_,_,_,rfl,(by simp only[↓reduceIte,w_1,w_2,w_3]),HS.out⟩
    obtain⟨rfl,rfl,rfl,rfl,rfl,rfl,rfl,rfl,rfl,rfl,rfl,-⟩:=hall;subst hun;have f0:=HS.out.rfr 1 s rfl;have k0:=HS.out.rcell (v:=.int .i64 ((0:Nat):Int)) 1 s rfl (by omega) Hhat.out;have hS2:=HS.out.store 1 rfl s (.int .i64 (p:Int));simp only[w_3,w_2,Bool.false_eq_true,↓reduceIte,Hhset.out] at hS2;go_simp;exact hK _ _ ⟨_,_,_,_,_,_,_,_,_,_,_,_,rfl,(by simp only[↓reduceIte,w_1,w_2,w_3]),hS2⟩
   ·rintro listed a w' ⟨l0,l1,l2,l3,l4,l5,l6,l7,l8,l9,l10,l11,rfl,rfl,hS⟩ hr;obtain⟨rfl,rfl,rfl,rfl,rfl,rfl,rfl,rfl,rfl,rfl,rfl,rfl,-⟩:=zA (ZaJ (by kernel_rfl) rfl hr) rfl;clear hr ;simp only[↓reduceIte] at hS ⊢;simp only[w_1,w_2,w_3];have HS9:=qh hS;clear hS;go_wp2;go_roundw
    case rel =>refine⟨s+1,by go_num,by omega,?_⟩;rw[← HhX1.out];exact HS9.out
    case measure=>simp[intOf];omega
   refine⟨false,false,false,false,false,false,false,false,false,false,false,false,rfl,(by simp),?_⟩;exact HS.out.drew
  obtain rfl:L=s:=by omega
  rw[Zhx] at hS;have HS2:=qh hS;clear hS;go_wp2
  go_loopw [3,5] (fun vc va wr=>∃ (i gc cc:Nat) (ag:Bool),vc = .slice (some ⟨gc,0,none⟩) L cc∧va = .bool ag∧((ag=true∧i≤N)∨(ag=false∧i=N+1)) ∧
    St w wr [Ent.box w.heap.size #[.slice (some ⟨b1,o1,none⟩) L cv,.slice (some ⟨b2,o2,none⟩) L cw] 45,Ent.row 3 1 (.slice (some ⟨gc,0,none⟩) L cc) L (intCells (clsL L (C i)))])
   (fun vc va wr=>if Zir va=true then L+1-Zk1 wr (Zdx vc) L else 0)
  case atStart=>exact⟨0,_,_,true,rfl,rfl,Or.inl ⟨rfl,Nat.zero_le _⟩,HS2.out⟩
  case round =>
   obtain⟨i,gc,cc,ag,rfl,rfl,hag,hS⟩:=hrel;obtain⟨wo,hwo⟩:∃ wo:World,wo=wr:=⟨_,rfl⟩;subst hwo;rcases hag with⟨rfl,hiN⟩|⟨rfl,rfl⟩
   ·have HS3:=qh hS;clear hS;go_wp2_with (at_make;refine wpList_make_full _ rfl _ _ 26 rfl _ 3 i0 (.int .i64 0) 1 Try.underlying26 Hhi.out Hhz0.out Hhz1.out .i64 .i64 _ _ L rfl rfl rfl rfl (by rw[Hhz2.out];omega) (by unfold maxLen;omega) (Nat.le_refl _) ?_;intro w1 hown hgrow;have HS4:=qh (HS3.out.made ((Below.refl _ _).grown hgrow (Nat.le_refl _) (fun _ h=>by cases h)) (Zgk (C (i+1)) hown));clear hown hgrow)
    go_loopw [35] (fun j wi=>∃ s:Nat,j = .int .i64 s∧s≤L∧St w wi [Ent.box w.heap.size #[.slice (some ⟨b1,o1,none⟩) L cv,.slice (some ⟨b2,o2,none⟩) L cw] 45,Ent.row 3 1 (.slice (some ⟨gc,0,none⟩) L cc) L (intCells (clsL L (C i))),Ent.row 3 1 (.slice (some ⟨wo.heap.size,0,none⟩) L L) L (intCells (padL L s (C (i+1))))]) (fun j _=>L-(intOf j).toNat)
    case atStart=>exact⟨0,rfl,Nat.zero_le _,HS4.out⟩
    case round =>
     obtain⟨s,rfl,hs,hS⟩:=hrel;by_cases hlt:s<L
     ·have hlt2:(s:Int)<L:=by omega
      have hsn:s<d.next.length:=by have:=hL.out;omega
      have hci:=Hcs.out i s hlt;have hcis:=hci.1;rw[ZkO _ hlt] at hS;have HS5:=qh hS;have Hci:=qh hci;clear hS hci;go_wp2
      go_loopw [] (fun wi=>∃ t:Nat,t≤C (i+1) s∧(∀ j,j<t→Za8 (nxD d) (C i) j s=false)∧St w wi [Ent.box w.heap.size #[.slice (some ⟨b1,o1,none⟩) L cv,.slice (some ⟨b2,o2,none⟩) L cw] 45,Ent.row 3 1 (.slice (some ⟨gc,0,none⟩) L cc) L (intCells (clsL L (C i))),Ent.row 3 1 (.slice (some ⟨wo.heap.size,0,none⟩) L L) L (intCells (padT L s (C (i+1)) t))]) (fun wi=>L+1-Zie wi wo.heap.size s)
      case atStart=>exact⟨0,Nat.zero_le _,fun j hj=>absurd hj (by omega),HS5.out⟩
      case round =>
       obtain⟨t,ht,hno,hS⟩:=hrel;have htL:t<L:=by omega
       have htL2:(t:Int)<L:=by omega
       have htn:t<d.next.length:=by have:=hL.out;omega
       have c1:=hS.rcell (v:=.int .i64 ((t:Nat):Int)) 2 s rfl (by omega) (Zd5 (C (i+1)) t);have c2:=hS.rcell (v:=.int .i64 ((C i t:Nat):Int)) 1 t rfl (by omega) (ZaK (C i) htL);have c3:=hS.rcell (v:=.int .i64 ((C i s:Nat):Int)) 1 s rfl (by omega) (ZaK (C i) hlt);have f1:=hS.rfr 2 s rfl;have hset:=Zhv (n:=L) (s:=s) (C (i+1)) t (t+1);have hsr:=Zhl d (C i) t s;have Hc1:=qh c1;have HS6:=qh hS;have Hno:=qh hno;have Hset:=qh hset;obtain⟨p,hp⟩:=eI (C i t);obtain⟨q,hq⟩:=eI (C i s);rw[← hp] at c2 hsr;rw[← hq] at c3 hsr;have Hhp:=qh hp;clear hp;have Hhq:=qh hq;clear hq;clear hno hset;by_cases he:p=q
       ·have g1:((p:Int) != (q:Int))=false:=by rw[he];simp
        have g2:((p:Int)=(q:Int))=True:=by simp[he]
        have g3:(!((p:Int)==(q:Int)))=false:=by rw[he];simp
        rw[decide_eq_true he,Bool.true_and] at hsr;have b0:=hS.cell (v:=.slice (some ⟨b1,o1,none⟩) L cv) 0 0 rfl rfl;have b3:=hS.cell (v:=.slice (some ⟨b2,o2,none⟩) L cw) 0 1 rfl rfl
        have hk:=fun (w':World) (hb:Below wr.heap.size wr w')=>(show w'.cell? ⟨wo.heap.size,s,none⟩=some (.int .i64 (t:Nat))∧w'.cell? ⟨gc,t,none⟩=some (.int .i64 (p:Nat))∧w'.cell? ⟨gc,s,none⟩=some (.int .i64 (q:Nat))∧w'.cell? ⟨w.heap.size,0,none⟩=some (.slice (some ⟨b1,o1,none⟩) L cv)∧w'.cell? ⟨w.heap.size,1,none⟩=some (.slice (some ⟨b2,o2,none⟩) L cw) from
         ⟨(bcell hb _ _ (hS.rowlt 2 rfl).2).trans c1,(bcell hb _ _ (hS.rowlt 1 rfl).2).trans c2,(bcell hb _ _ (hS.rowlt 1 rfl).2).trans c3,(bcell hb _ _ (hS.boxlt 0 rfl).2).trans b0,(bcell hb _ _ (hS.boxlt 0 rfl).2).trans b3⟩)
        have Hk:=qh hk;cases hr:ZcQ d (C i) t s 3
        all_goals
         have hsw:=fun (w':World) (hb:Below wr.heap.size wr w')=>ZgO d (C i) t s (.agg #[.slice (some ⟨b1,o1,none⟩) L cv,.slice (some ⟨b2,o2,none⟩) L cw]) (.slice (some ⟨gc,0,none⟩) L cc) w' hd htn hsn (fun x hx=>Nat.lt_of_le_of_lt ((Hgood.out i).le x (by rw[hL.out];exact hx)) hx) (HR.out.below (HS6.out.call hb).bel) (by rw[← hL.out];exact(HS6.out.call hb).intsC 1 rfl) _ hr
         rw[hr] at hsr;have Hsw:=qh hsw;have Hsm:=qh hsr;have Hhr:=qh hr;clear hr;have Hhe:=qh he;clear he;clear hS hk hsw hsr;go_wp2
         go_region_held3 (fun w'=>w'.cell? ⟨wo.heap.size,s,none⟩=some (.int .i64 (t:Nat))∧w'.cell? ⟨gc,t,none⟩=some (.int .i64 (p:Nat))∧w'.cell? ⟨gc,s,none⟩=some (.int .i64 (q:Nat))∧w'.cell? ⟨w.heap.size,0,none⟩=some (.slice (some ⟨b1,o1,none⟩) L cv)∧w'.cell? ⟨w.heap.size,1,none⟩=some (.slice (some ⟨b2,o2,none⟩) L cw))
          (first|go_keep|exact Hk.out _ hq0)
          (first
           | (go_at_call 146;(with_reducible refine(Hsw.out _ (Below.refl _ _).drew).mono ?_);rintro e v3 ⟨rfl,hq0'⟩;have hq0:Below wr.heap.size wr v3:=((Below.refl _ _).drew).trans hq0'))
        ·have HS6:=qh (HS6.out.call hq0);have z1:=HS6.out.rcell (v:=.int .i64 ((t:Nat):Int)) 2 s rfl (by omega) (Zd5 (C (i+1)) t);have z2:=HS6.out.rfr 2 s rfl;clear hq0 hq0' b0 b3 c1 c2 c3 f1;go_wp2;go_roundw
         case rel =>
          refine⟨t+1,?_,?_,?_⟩
          ·rcases Nat.lt_or_ge t (C (i+1) s) with h|h
           ·exact h
           have he:t=C (i+1) s:=Nat.le_antisymm ht h;have h2:=Hci.out.2.1;rw[← he,Hsm.out] at h2;exact absurd h2 (by simp)
          ·intro j hj;by_cases e:j=t
           ·rw[e];exact Hsm.out
           exact Hno.out j (by omega)
          have h:=HS6.out.store 2 rfl s (.int .i64 ((t:Int)+1));rw[show((t:Int)+1)=((t+1:Nat):Int) by omega] at h;simp only[w_3,w_2,Hset.out] at h;exact h
         case measure =>have h:=HS6.out.store 2 rfl s (.int .i64 ((t:Int)+1));rw[show((t:Int)+1)=((t+1:Nat):Int) by omega] at h;simp only[w_3,w_2,Hset.out] at h;rw[show((t:Int)+1)=((t+1:Nat):Int) by omega,Zca (h.rcell (v:=.int .i64 ((t+1:Nat):Int)) 2 s rfl (by omega) (Zd5 (C (i+1)) (t+1))),Zca Hc1.out];omega
        have HS6:=qh (HS6.out.call hq0);clear hq0 hq0' b0 b3 c1 c2 c3 f1;go_wp2;go_roundw
        case rel =>
         refine⟨s+1,by go_num,by omega,?_⟩
         have e:t=C (i+1) s:=by
          rcases Nat.lt_or_ge t (C (i+1) s) with h|h
          ·have h2:=Hci.out.2.2 t h;rw[Hsm.out] at h2;exact absurd h2 (by simp)
          exact Nat.le_antisymm ht h
         have h:=HS6.out;rw[e,Zhw] at h;exact h
        case measure=>simp[intOf];omega
       have g1:((p:Int) != (q:Int))=true:=by simp;omega
       have g2:((p:Int)=(q:Int))=False:=by simp;omega
       have g3:(!((p:Int)==(q:Int)))=true:=by simp;omega
       rw[decide_eq_false he,Bool.false_and] at hsr;have Hsm:=qh hsr;have Hhe:=qh he;clear he;clear hS hsr;go_wp2
       go_quiet (fail)
       have HS6:=qh (HS6.out.drewN nq);go_wp2;go_roundw
       case rel =>
        refine⟨t+1,?_,?_,?_⟩
        ·rcases Nat.lt_or_ge t (C (i+1) s) with h|h
         ·exact h
         have he:t=C (i+1) s:=Nat.le_antisymm ht h;have h2:=Hci.out.2.1;rw[← he,Hsm.out] at h2;exact absurd h2 (by simp)
        ·intro j hj;by_cases e:j=t
         ·rw[e];exact Hsm.out
         exact Hno.out j (by omega)
        have h:=HS6.out.store 2 rfl s (.int .i64 ((t:Int)+1));rw[show((t:Int)+1)=((t+1:Nat):Int) by omega] at h;simp only[w_3,w_2,Hset.out] at h;exact h
       case measure =>have h:=HS6.out.store 2 rfl s (.int .i64 ((t:Int)+1));rw[show((t:Int)+1)=((t+1:Nat):Int) by omega] at h;simp only[w_3,w_2,Hset.out] at h;rw[show((t:Int)+1)=((t+1:Nat):Int) by omega,Zca (h.rcell (v:=.int .i64 ((t+1:Nat):Int)) 2 s rfl (by omega) (Zd5 (C (i+1)) (t+1))),Zca Hc1.out];omega
     obtain rfl:L=s:=by omega
     rw[Zhx] at hS;have HS5:=qh hS;clear hS
     have hreq:∀ (r:Bool),decide (clsL L (C (i+1))=clsL L (C i))=r→Calls Try.prog 147 #[.slice (some ⟨wo.heap.size,0,none⟩) L L,.slice (some ⟨gc,0,none⟩) L cc] wr fun e w'=>e = .returned (.bool r)∧Below wr.heap.size wr w' :=
      fun r hr=>Ziv (clsL L (C (i+1))) (clsL L (C i)) L _ _ wr (Za0 _ _) (Za0 _ _) (HS5.out.intsC 2 rfl) (HS5.out.intsC 1 rfl) r hr
     have hm0:=Zhq (w:=wo) (b:=gc) (n:=L) (cl:=C i) fun x hx=>HS3.out.rcell 1 x rfl (by omega) (ZaK (C i) hx)
     by_cases hiN:i=N
     ·have h1:=hreq true (by rw[decide_eq_true_eq,Hsd.out i,hiN,hL.out];exact HNs.out);have H1:=qh h1;have Hm0:=qh hm0;clear hreq h1 hm0;go_wp2_with fail;refine H1.out.mono ?_;rintro e v3 ⟨rfl,hb3⟩;have HS6:=qh (HS5.out.call hb3);clear hb3;go_wp2;go_roundw
      case rel=>exact⟨i+1,_,_,false,rfl,rfl,Or.inr ⟨rfl,by omega⟩,HS6.out.pick [0,2] (by decide)⟩
      case measure =>have:=ZgS L (C i);simp only[Zir,Zdx,↓reduceIte,Bool.false_eq_true,Hm0.out];omega
     have hns:=HNo.out i (by omega);have h1:=hreq false (by rw[decide_eq_false_iff_not,Hsd.out i,hL.out];exact hns)
     have hmore:reps L (C i)<reps L (C (i+1)):=by
      have hex:∃ x,x<L∧C (i+1) x≠C i x:=by
       apply Classical.byContradiction;intro hc;refine hns fun x hx => ?_
       rw[← hCC.out];apply Classical.byContradiction;intro hcx;exact hc ⟨x,by rw[hL.out];exact hx,hcx⟩
      obtain⟨x,hx,hxne⟩:=hex;have hst:C (i+1)=Zam L (nxD d) (C i):=by rw[hCC.out,hL.out];rfl
      rw[hst] at hxne ⊢;exact Zd3 (Hgood.out i) hx hxne
     have H1:=qh h1;have Hm0:=qh hm0;have Hmore:=qh hmore;have Hhns:=qh hns;clear hns;clear hreq h1 hm0 hmore;go_wp2_with fail;refine H1.out.mono ?_;rintro e v3 ⟨rfl,hb3⟩;have HS6:=qh (HS5.out.call hb3);clear hb3;go_wp2;go_roundw
     case rel=>exact⟨i+1,_,_,true,rfl,rfl,Or.inl ⟨rfl,by omega⟩,HS6.out.pick [0,2] (by decide)⟩
     case measure =>
      have h2:=Zhq (w:=v3) (b:=wo.heap.size) (n:=L) (cl:=C (i+1)) fun x hx=>HS6.out.rcell 2 x rfl (by omega) (ZaK (C (i+1)) hx)
      have h3:=Hmore.out;have h4:=ZgS L (C i);simp only[Zir,Zdx,↓reduceIte,Hm0.out,h2];omega
   have hcl:intCells (clsL L (C (N+1)))=intCells (clsL L (clD d)):=by rw[Zdu Hfin.out]
   rw[hcl] at hS;have HS3:=qh hS;have Hhcl:=qh hcl;clear hcl;clear hS;go_wp2;go_ret;exact⟨gc,cc,rfl,HS3.out.pick [1] (by decide)⟩
def dif (a b:Nat→Nat) (j k:Nat):Bool:=decide (a j=a k) != decide (b j=b k)
def difs (a b:Nat→Nat) (k m:Nat):Bool:=(List.range m).any fun j=>dif a b j k
def difK (a b:Nat→Nat) (k:Nat):Bool:=(List.range k).any fun x=>difs a b x x
theorem ZjA (a b:Nat→Nat) (k m:Nat):difs a b k (m+1)=(difs a b k m||dif a b m k):=by unfold difs;rw[List.range_succ,List.any_append];simp
theorem ZjB (a b:Nat→Nat) (k:Nat):difK a b (k+1)=(difK a b k||difs a b k k):=by unfold difK;rw[List.range_succ,List.any_append];simp
theorem Ziw {a b:Nat→Nat} {n:Nat}:difK a b n=false↔∀ k j,k<n→j<k→(a j=a k↔b j=b k):=by
 constructor
 ·intro h k j hk hj;have h1:difs a b k k=false:=by simpa using List.any_eq_false.1 h k (List.mem_range.2 hk)
  have h2:dif a b j k=false:=by simpa using List.any_eq_false.1 h1 j (List.mem_range.2 hj)
  simpa [dif] using h2
 intro h;refine List.any_eq_false.2 fun k hk => ?_
 simp only[Bool.not_eq_true];refine List.any_eq_false.2 fun j hj => ?_
 simp only[Bool.not_eq_true];have:=h k j (List.mem_range.1 hk) (List.mem_range.1 hj);simpa [dif] using this
def apart (n:Nat) (cl:Nat→Nat):Nat:=((List.range (n*n)).filter fun x=>decide (cl (x / n)≠cl (x % n))).length
theorem ZhX (n:Nat) (cl:Nat→Nat):apart n cl≤n*n:=by have:=List.length_filter_le (fun x=>decide (cl (x / n)≠cl (x % n))) (List.range (n*n));simpa [apart] using this
theorem Ziy {n:Nat} {nx:Nat→Nat→Nat} {cl:Nat→Nat} {j k:Nat} (hj:j<n) (hk:k<n) (h0:cl j=cl k) (h1:Zam n nx cl j≠Zam n nx cl k):apart n cl<apart n (Zam n nx cl):=by
 have hn:0<n:=by omega
 have e1:(k+n*j) / n=j:=by rw[Nat.add_mul_div_left _ _ hn,Nat.div_eq_of_lt hk,Nat.zero_add]
 have e2:(k+n*j) % n=k:=by rw[Nat.add_mul_mod_self_left,Nat.mod_eq_of_lt hk]
 refine Zcw (a:=k+n*j) (by rw[e1,e2];simpa using h0) (by rw[e1,e2];simpa using h1) ?_ fun x hx h => ?_
 ·rw[List.mem_range]
  have:n*j+n≤n*n:=by
   have:=Nat.mul_le_mul_left n (show j+1≤n by omega)
   rwa [Nat.mul_add,Nat.mul_one] at this
  omega
 have hx:=List.mem_range.1 hx;have h2:x / n<n:=(Nat.div_lt_iff_lt_mul hn).2 hx;have h3:x % n<n:=Nat.mod_lt _ hn;simp only[decide_eq_true_eq] at h ⊢;intro he;exact h ((Zap nx).1 ((Zbb h2 h3).1 he)).1
theorem Zhf {n:Nat} {nx:Nat→Nat→Nat} {en:Nat→Bool} (hnx:∀ s c,s<n→c<3→nx s c<n) {i:Nat} (h:¬ stays n nx en i):apart n (clR n nx en i)<apart n (clR n nx en (i+1)):=by
 have hp:=ZeM hnx en i;have hex:∃ k j,k<n∧j<k∧¬ (clR n nx en i j=clR n nx en i k↔clR n nx en (i+1) j=clR n nx en (i+1) k):=by apply Classical.byContradiction;intro hc;refine h (hp.2 fun k j hk hj => ?_);apply Classical.byContradiction;intro hcx;exact hc ⟨k,j,hk,hj,hcx⟩
 obtain⟨k,j,hk,hj,hne⟩:=hex;have hdown:clR n nx en (i+1) j=clR n nx en (i+1) k→clR n nx en i j=clR n nx en i k:=fun he=>((Zap nx).1 ((Zbb (by omega) hk).1 he)).1
 by_cases h0:clR n nx en i j=clR n nx en i k
 ·refine Ziy (j:=j) (k:=k) (by omega) hk h0 fun h1=>hne ⟨fun _=>h1,fun _=>h0⟩
 exact absurd ⟨fun h1=>absurd h1 h0,fun h1=>absurd (hdown h1) h0⟩ hne
def ZjQ (w:World) (b n:Nat):Nat:=((List.range (n*n)).filter fun x=>decide (Zie w b (x / n)≠Zie w b (x % n))).length
theorem ZgH {w:World} {b n:Nat} {cl:Nat→Nat} (h:∀ s,s<n→w.cell? ⟨b,s,none⟩=some (.int .i64 ((cl s:Nat):Int))):ZjQ w b n=apart n cl:=by
 unfold ZjQ apart;congr 1;refine List.filter_congr fun x hx => ?_
 have hx:=List.mem_range.1 hx
 have hn:0<n:=by
  rcases Nat.eq_zero_or_pos n with e|e
  ·rw[e] at hx;simp at hx
  exact e
 rw[Zca (h _ ((Nat.div_lt_iff_lt_mul hn).2 hx)),Zca (h _ (Nat.mod_lt _ hn))]
theorem Zj0 {l:List Value} {k:Nat} {x y:Value} (h:l.length=k):(l++[x]).set k y=l++[y]:=by rw[List.set_append_right _ _ (by omega),show k-l.length=0 by omega];rfl
theorem ZeD (d:DfaD) (v:Value) (w:World) (hd:Zaf d.next d.ends=true) (h:DfaR 0 w v d) :
  Calls Try.prog 121 #[v] w fun e w'=>RCl d w e w':=by
 obtain⟨b1,o1,cv,b2,o2,cw,rfl,hC⟩:=Zbh hd h;have hnx:∀ s c,s<d.next.length→c<3→nxD d s c<d.next.length:=fun s c hs hc=>hC.lt s c hs hc
 obtain⟨N,hN,hNs,hNo⟩:=Zfh (n:=d.next.length) (nx:=nxD d) (enD d);have hap:=fun (i:Nat) (h:¬ stays d.next.length (nxD d) (enD d) i)=>Zhf hnx h
 have hpt:=fun (i:Nat)=>ZeM hnx (enD d) i
 obtain⟨C,hCC⟩:=eI (clR d.next.length (nxD d) (enD d));rw[← hCC] at hap hpt;have hfin:∀ s,s<d.next.length→C (N+1) s=clD d s:=fun s hs=>by rw[hCC,(ZhP hnx (enD d) (N+1)).2 (by omega) s hs,hNs s hs];exact(ZhR hnx hN hNs hs).symm
 have hgood:GoodC d.next.length (C (N+1)):=by rw[hCC];exact ZcS
 have hc0:∀ s,C 0 s=if enD d s=true then 1 else 0:=fun s=>by rw[hCC];rfl
 have hstep:∀ i,C (i+1)=Zam d.next.length (nxD d) (C i):=fun i=>by rw[hCC];rfl
 obtain⟨L,hL⟩:=eI (d.next.length);have hl1:=hC.l1;have hl2:=hC.l2;have hS0:=(((St.start w).alloc _ rfl #[.slice (some ⟨b1,o1,none⟩) L cv,.slice (some ⟨b2,o2,none⟩) L cw] 45).alloc (w.heap.size+1) (by simp) #[] 3).boxrow 1 0 1 [] rfl rfl (Nat.zero_le _);unfold RCl;rw[← hL] at hl1 hl2 hN hgood hfin hap hpt hstep;rw[← hL];obtain⟨i0,hi,hz0,hz1,hz2⟩:=info_parts Try.infoInt;have HC:=qh hC;have Hgood:=qh hgood;have Hc0:=qh hc0;have Hfin:=qh hfin;have HNo:=qh hNo;have HNs:=qh hNs;have Hap:=qh hap;have Hpt:=qh hpt;have Hstep:=qh hstep;replace hS0:=qh hS0;replace hL:=qh hL;replace hCC:=qh hCC;have Hhi:=qh hi;clear hi;have Hhz0:=qh hz0;clear hz0;have Hhz1:=qh hz1;clear hz1;have Hhz2:=qh hz2;clear hz2;clear hC hgood hc0 hfin hNo hNs hnx hap hpt hstep h
 go_enter Try.func121, Try.ntmps121
 go_wp2
 go_loopw [3,4] (fun vc i wr=>∃ (k g c:Nat),i = .int .i64 k∧vc = .slice (some ⟨g,0,none⟩) k c∧k≤L∧St w wr [Ent.box w.heap.size #[.slice (some ⟨b1,o1,none⟩) L cv,.slice (some ⟨b2,o2,none⟩) L cw] 45,Ent.row 3 1 (.slice (some ⟨g,0,none⟩) k c) k (intCells (clsL k (C 0)))]) (fun _ i _=>L-(intOf i).toNat)
 case atStart=>exact⟨0,_,_,rfl,rfl,Nat.zero_le _,hS0.out⟩
 case round =>
  obtain⟨k,g,c,rfl,rfl,hk,hS⟩:=hrel;have e0:=hS.cell (v:=.slice (some ⟨b1,o1,none⟩) L cv) 0 0 rfl rfl;by_cases hlt:k<L
  ·have hlt2:(k:Int)<L:=by omega
   have hkn:k<d.next.length:=by have:=hL.out;omega
   have hen:=HC.out.en k hkn;have hck:=Hc0.out k;have hcs:=Zdd k (C 0);have hil:(intCells (clsL k (C 0))).length=k:=by simp[intCells,Za0]
   obtain⟨z,hz⟩:=eI (enD d k);rw[← hz] at hen hck;have hSa:=hS.alloc_ (.cells #[.int .i64 0] 3);have hR:=hSa.row 1 rfl;have Hen:=qh hen;have HhS:=qh hS;clear hS;have HhSa:=qh hSa;clear hSa;have HhR:=qh hR;clear hR;have Hhz:=qh hz;clear hz;have Hhck:=qh hck;clear hck;have Hhcs:=qh hcs;clear hcs;have Hhil:=qh hil;clear hil;clear hen;cases z
   all_goals go_wp2_with (at_builtin;refine wpList_append_lies _ rfl _ _ _ rfl _ 3 i0 (.int .i64 0) 1 8 Try.underlying26 Hhi.out Hhz0.out Hhz1.out Hhz2.out rfl (by omega) _ k _ rfl HhR.out ⟨wr.heap.size,0,none⟩ 1 1 [.int .i64 0] rfl rfl (World.news_of_block (heap_alloc_new wr _)) ZaV (by omega) (by unfold maxLen;omega) (by omega) HhSa.out.size _ rfl ?_;intro g6 c6 w6 hown6 hgrow6 hat6 hlt6;have HS6:=qh (HhSa.out.app 1 rfl hown6 hgrow6 hat6);have e1:=HS6.out.cell (v:=.slice (some ⟨b2,o2,none⟩) L cw) 0 1 rfl rfl;have e2:=(bcell HS6.out.bel b2 _ HC.out.hb2).trans Hen.out;have f6:=HS6.out.rfr 1 k rfl;have e6:=HS6.out.rcell (v:=.int .i64 0) 1 k rfl (by omega) (by rw[List.getElem?_append_right (by rw[Hhil.out];exact Nat.le_refl _),Hhil.out,Nat.sub_self];rfl);clear hown6 hgrow6 hat6 hlt6)
   ·go_roundw
    case rel =>refine⟨k+1,g6,c6,by go_num,rfl,by omega,?_⟩;have hck:C 0 k=0:=Hhck.out;rw[Hhcs.out,Zan,hck];exact HS6.out
    case measure=>simp[intOf];omega
   go_roundw
   case rel =>refine⟨k+1,g6,c6,by go_num,rfl,by omega,?_⟩;have hck:C 0 k=1:=Hhck.out;have h:=HS6.out.store 1 rfl k (.int .i64 1);rw[Zj0 Hhil.out] at h;rw[Hhcs.out,Zan,hck];exact h
   case measure=>simp[intOf];omega
  obtain rfl:L=k:=by omega
  have HS2:=qh hS;clear hS;go_wp2
  go_loopw [3,5] (fun vc va wr=>∃ (i gc cc:Nat) (ag:Bool),vc = .slice (some ⟨gc,0,none⟩) L cc∧va = .bool ag∧((ag=true∧i≤N)∨(ag=false∧i=N+1)) ∧
    St w wr [Ent.box w.heap.size #[.slice (some ⟨b1,o1,none⟩) L cv,.slice (some ⟨b2,o2,none⟩) L cw] 45,Ent.row 3 1 (.slice (some ⟨gc,0,none⟩) L cc) L (intCells (clsL L (C i)))])
   (fun vc va wr=>if Zir va=true then L*L+1-ZjQ wr (Zdx vc) L else 0)
  case atStart=>exact⟨0,_,_,true,rfl,rfl,Or.inl ⟨rfl,Nat.zero_le _⟩,HS2.out⟩
  case round =>
   obtain⟨i,gc,cc,ag,rfl,rfl,hag,hS⟩:=hrel;obtain⟨wo,hwo⟩:∃ wo:World,wo=wr:=⟨_,rfl⟩;subst hwo;rcases hag with⟨rfl,hiN⟩|⟨rfl,rfl⟩
   ·have hSn:=(hS.alloc _ rfl #[] 3).boxrow 2 0 1 [] rfl rfl (Nat.zero_le _);have HS3:=qh hS;have HS4:=qh hSn;have hcells:∀ (w':World) (_:St w w' [Ent.box w.heap.size #[.slice (some ⟨b1,o1,none⟩) L cv,.slice (some ⟨b2,o2,none⟩) L cw] 45,Ent.row 3 1 (.slice (some ⟨gc,0,none⟩) L cc) L (intCells (clsL L (C i)))]) x,x<L→w'.cell? ⟨gc,x,none⟩=some (.int .i64 ((C i x:Nat):Int)):=fun w' h' x hx=>h'.rcell 1 x rfl (by omega) (ZaK (C i) hx)
    have hm0:=ZgH (w:=wo) (b:=gc) (n:=L) (cl:=C i) (hcells wo hS);have Hcells:=qh hcells;have Hm0:=qh hm0;clear hS hSn hcells hm0;go_wp2
    go_loopw [6,7] (fun vn j wi=>∃ (k gn cn:Nat),j = .int .i64 k∧vn = .slice (some ⟨gn,0,none⟩) k cn∧k≤L∧St w wi [Ent.box w.heap.size #[.slice (some ⟨b1,o1,none⟩) L cv,.slice (some ⟨b2,o2,none⟩) L cw] 45,Ent.row 3 1 (.slice (some ⟨gc,0,none⟩) L cc) L (intCells (clsL L (C i))),Ent.row 3 1 (.slice (some ⟨gn,0,none⟩) k cn) k (intCells (clsL k (C (i+1))))]) (fun _ j _=>L-(intOf j).toNat)
    case atStart=>exact⟨0,_,_,rfl,rfl,Nat.zero_le _,HS4.out⟩
    case round =>
     obtain⟨k,gn,cn,rfl,rfl,hk,hS⟩:=hrel;by_cases hlt:k<L
     ·have HS5:=qh hS;have hlt2:(k:Int)<L:=by omega
      have hkn:k<d.next.length:=by have:=hL.out;omega
      clear hS;go_wp2
      go_loopw [8,9] (fun vs j wj=>∃ (m x:Nat),vs = .int .i64 x∧j = .int .i64 ((m:Int)-1)∧m≤k∧lowK L (nxD d) (C i) k m x∧x≤L∧St w wj [Ent.box w.heap.size #[.slice (some ⟨b1,o1,none⟩) L cv,.slice (some ⟨b2,o2,none⟩) L cw] 45,Ent.row 3 1 (.slice (some ⟨gc,0,none⟩) L cc) L (intCells (clsL L (C i))),Ent.row 3 1 (.slice (some ⟨gn,0,none⟩) k cn) k (intCells (clsL k (C (i+1))))]) (fun _ j _=>(intOf j+1).toNat)
      case atStart=>exact⟨k,k,rfl,rfl,Nat.le_refl _,Zii _ _,by omega,HS5.out⟩
      case round =>
       obtain⟨m,x,rfl,rfl,hm,hlow,hxL,hS⟩:=hrel;obtain⟨wm,hwm⟩:∃ wm:World,wm=wr:=⟨_,rfl⟩;subst hwm;by_cases hm0:0<m
       ·obtain⟨j,rfl⟩:∃ j,m=j+1:=⟨m-1,by omega⟩;rw[show(((j+1:Nat):Int)-1)=(j:Int) by omega];have hjk:j<k:=by omega
        have hjL:j<L:=by omega
        have hj0:(0:Int)≤j:=by omega
        have hjI:(j:Int)<L:=by omega
        have hjkI:(j:Int)<k:=by omega
        have hjn:j<d.next.length:=by omega
        obtain⟨b3,o3,c3,hb3,-,-,r1,r2⟩:=HC.out.row j hjn;obtain⟨b4,o4,c4,hb4,-,-,r3,r4⟩:=HC.out.row k hkn;have c1:=Hcells.out _ (hS.pick [0,1] (by decide)) j hjL;have c2:=Hcells.out _ (hS.pick [0,1] (by decide)) k hlt;obtain⟨z0,hz0⟩:=eI (decide (C i j=C i k));obtain⟨p,hp⟩:=eI (C i j);obtain⟨q,hq⟩:=eI (C i k);rw[← hp] at c1;rw[← hq] at c2;have g1:((p:Int)==(q:Int))=z0:=by rw[hz0,hp,hq,Bool.eq_iff_iff];simp only[beq_iff_eq,decide_eq_true_eq];omega
        have g2:decide ((p:Int)=(q:Int))=z0:=by rw[hz0,hp,hq,decide_eq_decide];omega
        have HS6:=qh hS;have Hlow:=qh hlow;have Hr1:=qh r1;have Hr2:=qh r2;have Hr3:=qh r3;have Hr4:=qh r4;have Hhz0:=qh hz0;clear hz0;have Hhp:=qh hp;clear hp;have Hhq:=qh hq;clear hq;clear hS hlow r1 r2 r3 r4;go_wp2
        go_quiet (fail)
        go_wp2;have HS7:=qh (HS6.out.drewN nq);clear HS6 c1 c2 g1 g2
        go_loopw [10,11] (fun vz ic wc=>∃ c:Nat,ic = .int .i64 c∧c≤3∧vz = .bool (z0&&ZcQ d (C i) j k c)∧St w wc [Ent.box w.heap.size #[.slice (some ⟨b1,o1,none⟩) L cv,.slice (some ⟨b2,o2,none⟩) L cw] 45,Ent.row 3 1 (.slice (some ⟨gc,0,none⟩) L cc) L (intCells (clsL L (C i))),Ent.row 3 1 (.slice (some ⟨gn,0,none⟩) k cn) k (intCells (clsL k (C (i+1))))]) (fun _ ic _=>3-(intOf ic).toNat)
        case atStart=>exact⟨0,rfl,by omega,by simp[ZcQ],HS7.out⟩
        case round =>
         obtain⟨c,rfl,hc,rfl,hS⟩:=hrel;obtain⟨wc,hwc⟩:∃ wc:World,wc=wr:=⟨_,rfl⟩;subst hwc;by_cases hc3:c<3
         ·have hc4:(c:Int)<3:=by omega
          have hsu:=ZeR d (C i) j k c;obtain⟨z,hz⟩:=eI ((z0&&ZcQ d (C i) j k c));rw[← hz];have hnew:(z0&&ZcQ d (C i) j k (c+1))=(z&&decide (C i (nxD d j c)=C i (nxD d k c))):=by rw[hsu,hz,Bool.and_assoc]
          have e0:=hS.cell (v:=.slice (some ⟨b1,o1,none⟩) L cv) 0 0 rfl rfl;have e1:=(bcell hS.bel b1 _ HC.out.hb1).trans Hr1.out;have e2:=(bcell hS.bel b3 _ hb3).trans (Hr2.out c hc3);have e3:=(bcell hS.bel b1 _ HC.out.hb1).trans Hr3.out;have e4:=(bcell hS.bel b4 _ hb4).trans (Hr4.out c hc3);have hy1:=HC.out.lt j c hjn hc3;have hy2:=HC.out.lt k c hkn hc3;rw[← hL.out] at hy1 hy2;obtain⟨y1,hyy1⟩:=eI (nxD d j c);obtain⟨y2,hyy2⟩:=eI (nxD d k c);rw[← hyy1] at e2 hy1 hnew;rw[← hyy2] at e4 hy2 hnew;have e5:=Hcells.out _ (hS.pick [0,1] (by decide)) y1 hy1;have e6:=Hcells.out _ (hS.pick [0,1] (by decide)) y2 hy2;obtain⟨p1,hp1⟩:=eI (C i y1);obtain⟨p2,hp2⟩:=eI (C i y2);rw[← hp1] at e5 hnew;rw[← hp2] at e6 hnew;have hyI1:(y1:Int)<L:=by omega
          have hyI2:(y2:Int)<L:=by omega
          have HS8:=qh hS;have Hhyy1:=qh hyy1;clear hyy1;have Hhyy2:=qh hyy2;clear hyy2;have Hhp1:=qh hp1;clear hp1;have Hhp2:=qh hp2;clear hp2;have Hhz:=qh hz;clear hz;clear hS hsu;cases z
          ·have Hnew:=qh hnew;clear hnew;go_wp2
           go_quiet (fail)
           go_wp2;go_roundw
           case rel=>exact⟨c+1,by go_num,by omega,by rw[Hnew.out];rfl,HS8.out.drewN _⟩
           case measure=>simp[intOf];omega
          by_cases he:p1=p2
          ·have g1:((p1:Int)==(p2:Int))=true:=by rw[he];simp
           have g2:((p1:Int)=(p2:Int))=True:=by simp[he]
           rw[decide_eq_true he] at hnew;have Hnew:=qh hnew;have Hhe:=qh he;clear he;clear hnew;go_wp2
           go_quiet (fail)
           go_wp2;go_roundw
           case rel=>exact⟨c+1,by go_num,by omega,by rw[Hnew.out];rfl,HS8.out.drewN _⟩
           case measure=>simp[intOf];omega
          have g1:((p1:Int)==(p2:Int))=false:=by simp;omega
          have g2:((p1:Int)=(p2:Int))=False:=by simp;omega
          rw[decide_eq_false he] at hnew;have Hnew:=qh hnew;have Hhe:=qh he;clear he;clear hnew;go_wp2
          go_quiet (fail)
          go_wp2;go_roundw
          case rel=>exact⟨c+1,by go_num,by omega,by rw[Hnew.out];rfl,HS8.out.drewN _⟩
          case measure=>simp[intOf];omega
         obtain rfl:c=3:=by omega
         have hsa:Za8 (nxD d) (C i) j k=(z0&&ZcQ d (C i) j k 3):=by rw[Zhl,Hhz0.out]
         obtain⟨z,hz⟩:=eI ((z0&&ZcQ d (C i) j k 3));rw[← hz] at hsa;rw[← hz];have e7:=hS.rcell (v:=.int .i64 ((C (i+1) j:Nat):Int)) 2 j rfl (by omega) (ZaK (C (i+1)) hjk);have hCj:C (i+1) j=Zam L (nxD d) (C i) j:=by rw[Hstep.out i]
         have hCjL:C (i+1) j≤L:=by rw[hCj];have:=(ZaH (nx:=nxD d) (cl:=C i) hjL).1;omega
         obtain⟨u,hu⟩:=eI (C (i+1) j);rw[← hu] at e7 hCj hCjL;have HS8:=qh hS;have Hsa:=qh hsa;have HhCj:=qh hCj;clear hCj;have Hhu:=qh hu;clear hu;have Hhz:=qh hz;clear hz;clear hS hsa;cases z
         ·go_wp2;go_roundw
          case rel=>exact⟨j,x,rfl,by go_num,by omega,Zk9 Hsa.out Hlow.out,hxL,HS8.out⟩
          case measure=>simp[intOf]
         go_wp2;go_roundw
         case rel=>exact⟨j,u,rfl,by go_num,by omega,by rw[HhCj.out];exact Zkf hlt hjL Hsa.out,hCjL,HS8.out⟩
         case measure=>simp[intOf]
       obtain rfl:m=0:=by omega
       have hx:=Zkg hlt hlow;rw[← Hstep.out i] at hx;rw[show(((0:Nat):Int)-1)=(-1:Int) by omega];have hcs:=Zdd k (C (i+1));rw[← hx] at hcs;have hSa:=hS.alloc_ (.cells #[.int .i64 ((x:Nat):Int)] 3);have hR:=hSa.row 2 rfl;have Hhx:=qh hx;clear hx;have Hhcs:=qh hcs;clear hcs;have HhSa:=qh hSa;clear hSa;have HhR:=qh hR;clear hR;clear hS hlow;go_wp2_with (at_builtin;refine wpList_append_lies _ rfl _ _ _ rfl _ 3 i0 (.int .i64 0) 1 8 Try.underlying26 Hhi.out Hhz0.out Hhz1.out Hhz2.out rfl (by omega) _ k _ rfl HhR.out ⟨wm.heap.size,0,none⟩ 1 1 [.int .i64 ((x:Nat):Int)] rfl rfl (World.news_of_block (heap_alloc_new wm _)) ZaV (by omega) (by unfold maxLen;omega) (by omega) HhSa.out.size _ rfl ?_;intro g6 c6 w6 hown6 hgrow6 hat6 hlt6;have HS6:=qh (HhSa.out.app 2 rfl hown6 hgrow6 hat6);clear hown6 hgrow6 hat6 hlt6);go_roundw
       case rel =>refine⟨k+1,g6,c6,by go_num,rfl,by omega,?_⟩;rw[Hhcs.out,Zan];exact HS6.out
       case measure=>simp[intOf];omega
     obtain rfl:L=k:=by omega
     have HS5:=qh hS;clear hS;go_wp2
     go_loopw [5,12] (fun va jk w6=>∃ k:Nat,jk = .int .i64 k∧k≤L∧va = .bool (difK (C i) (C (i+1)) k)∧St w w6 [Ent.box w.heap.size #[.slice (some ⟨b1,o1,none⟩) L cv,.slice (some ⟨b2,o2,none⟩) L cw] 45,Ent.row 3 1 (.slice (some ⟨gc,0,none⟩) L cc) L (intCells (clsL L (C i))),Ent.row 3 1 (.slice (some ⟨gn,0,none⟩) L cn) L (intCells (clsL L (C (i+1))))]) (fun _ jk _=>L-(intOf jk).toNat)
     case atStart=>exact⟨0,rfl,Nat.zero_le _,rfl,HS5.out⟩
     case round =>
      obtain⟨k,rfl,hk,rfl,hS⟩:=hrel;by_cases hlt:k<L
      ·have hlt2:(k:Int)<L:=by omega
       obtain⟨zk,hzk⟩:=eI (difK (C i) (C (i+1)) k);rw[← hzk];have HS6:=qh hS;have Hhzk:=qh hzk;clear hzk;clear hS;go_wp2
       go_loopw [5,13] (fun va jm w7=>∃ m:Nat,jm = .int .i64 m∧m≤k∧va = .bool (zk||difs (C i) (C (i+1)) k m)∧St w w7 [Ent.box w.heap.size #[.slice (some ⟨b1,o1,none⟩) L cv,.slice (some ⟨b2,o2,none⟩) L cw] 45,Ent.row 3 1 (.slice (some ⟨gc,0,none⟩) L cc) L (intCells (clsL L (C i))),Ent.row 3 1 (.slice (some ⟨gn,0,none⟩) L cn) L (intCells (clsL L (C (i+1))))]) (fun _ jm _=>k-(intOf jm).toNat)
       case atStart=>exact⟨0,rfl,Nat.zero_le _,by simp[difs],HS6.out⟩
       case round =>
        obtain⟨m,rfl,hm,rfl,hS⟩:=hrel;by_cases hmk:m<k
        ·have hmI:(m:Int)<k:=by omega
         have hmL:(m:Int)<L:=by omega
         have hsu:=ZjA (C i) (C (i+1)) k m;obtain⟨z,hz⟩:=eI ((zk||difs (C i) (C (i+1)) k m));rw[← hz];have hnew:(zk||difs (C i) (C (i+1)) k (m+1))=(z||dif (C i) (C (i+1)) m k):=by rw[hsu,hz,Bool.or_assoc]
         have e1:=Hcells.out _ (hS.pick [0,1] (by decide)) m (by omega);have e2:=Hcells.out _ (hS.pick [0,1] (by decide)) k hlt;have e3:=hS.rcell (v:=.int .i64 ((C (i+1) m:Nat):Int)) 2 m rfl (by omega) (ZaK (C (i+1)) (by omega));have e4:=hS.rcell (v:=.int .i64 ((C (i+1) k:Nat):Int)) 2 k rfl (by omega) (ZaK (C (i+1)) hlt);unfold dif at hnew;obtain⟨p1,hp1⟩:=eI (C i m);obtain⟨p2,hp2⟩:=eI (C i k);obtain⟨p3,hp3⟩:=eI (C (i+1) m);obtain⟨p4,hp4⟩:=eI (C (i+1) k);rw[← hp1] at e1 hnew;rw[← hp2] at e2 hnew;rw[← hp3] at e3 hnew;rw[← hp4] at e4 hnew;have HS8:=qh hS;have Hhp1:=qh hp1;clear hp1;have Hhp2:=qh hp2;clear hp2;have Hhp3:=qh hp3;clear hp3;have Hhp4:=qh hp4;clear hp4;have Hhz:=qh hz;clear hz;clear hS hsu;cases z
         ·obtain⟨u1,hu1⟩:=eI (decide (p1=p2));obtain⟨u2,hu2⟩:=eI (decide (p3=p4));rw[← hu1,← hu2] at hnew;have g1:((p1:Int)==(p2:Int))=u1:=by rw[hu1,Bool.eq_iff_iff];simp only[beq_iff_eq,decide_eq_true_eq];omega
          have g2:decide ((p1:Int)=(p2:Int))=u1:=by rw[hu1,decide_eq_decide];omega
          have g3:((p3:Int)==(p4:Int))=u2:=by rw[hu2,Bool.eq_iff_iff];simp only[beq_iff_eq,decide_eq_true_eq];omega
          have g4:decide ((p3:Int)=(p4:Int))=u2:=by rw[hu2,decide_eq_decide];omega
          have Hnew:=qh hnew;have Hhu1:=qh hu1;clear hu1;have Hhu2:=qh hu2;clear hu2;clear hnew;cases u1<;>cases u2
          all_goals
           go_wp2
           go_quiet (fail)
           go_wp2;go_roundw
           case rel=>exact⟨m+1,by go_num,by omega,by rw[Hnew.out];rfl,HS8.out.drewN _⟩
           case measure=>simp[intOf];omega
         have Hnew:=qh hnew;clear hnew;go_wp2
         go_quiet (fail)
         go_wp2;go_roundw
         case rel=>exact⟨m+1,by go_num,by omega,by rw[Hnew.out];rfl,HS8.out.drewN _⟩
         case measure=>simp[intOf];omega
        obtain rfl:m=k:=by omega
        have hsu:=ZjB (C i) (C (i+1)) m;rw[← Hhzk.out] at hsu;rw[← hsu];have HS8:=qh hS;have Hhsu:=qh hsu;clear hsu;clear hS;go_wp2;go_roundw
        case rel=>exact⟨m+1,by go_num,by omega,rfl,HS8.out⟩
        case measure=>simp[intOf];omega
      obtain rfl:L=k:=by omega
      have HS6:=qh hS;clear hS;have hdk:difK (C i) (C (i+1)) L=false↔stays L (nxD d) (enD d) i:=Ziw.trans (Hpt.out i).symm;by_cases hiN:i=N
      ·have h0:difK (C i) (C (i+1)) L=false:=by rw[hdk,hiN,hL.out];exact HNs.out
       rw[h0];have Hh0:=qh h0;clear h0 hdk;go_wp2;go_roundw
       case rel=>exact⟨i+1,_,_,false,rfl,rfl,Or.inr ⟨rfl,by omega⟩,HS6.out.pick [0,2] (by decide)⟩
       case measure =>have:=ZhX L (C i);simp only[Zir,Zdx,↓reduceIte,Bool.false_eq_true,Hm0.out];omega
      have hns:¬ stays L (nxD d) (enD d) i:=by rw[hL.out];exact HNo.out i (by omega)
      have h0:difK (C i) (C (i+1)) L=true:=by
       cases h:difK (C i) (C (i+1)) L
       ·exact absurd (hdk.1 h) hns
       rfl
      have hmore:=Hap.out i hns;rw[h0];have Hh0:=qh h0;have Hmore:=qh hmore;have Hhns:=qh hns;clear hns;clear h0 hdk hmore;go_wp2;go_roundw
      case rel=>exact⟨i+1,_,_,true,rfl,rfl,Or.inl ⟨rfl,by omega⟩,HS6.out.pick [0,2] (by decide)⟩
      case measure =>
       have h2:=ZgH (w:=wr) (b:=gn) (n:=L) (cl:=C (i+1)) fun x hx=>HS6.out.rcell 2 x rfl (by omega) (ZaK (C (i+1)) hx)
       have h3:=Hmore.out;have h4:=ZhX L (C (i+1));simp only[Zir,Zdx,↓reduceIte,Hm0.out,h2];omega
   have hcl:intCells (clsL L (C (N+1)))=intCells (clsL L (clD d)):=by rw[Zdu Hfin.out]
   have HS3:=qh hS;have Hhcl:=qh hcl;clear hcl;clear hS;go_wp2;have HSf:=qh ((HS3.out.alloc _ rfl #[] 3).boxrow 2 0 1 [] rfl rfl (Nat.zero_le _))
   go_loopw [14,15] (fun vf jk w8=>∃ (k gf cf:Nat),jk = .int .i64 k∧vf = .slice (some ⟨gf,0,none⟩) k cf∧k≤L∧St w w8 [Ent.box w.heap.size #[.slice (some ⟨b1,o1,none⟩) L cv,.slice (some ⟨b2,o2,none⟩) L cw] 45,Ent.row 3 1 (.slice (some ⟨gc,0,none⟩) L cc) L (intCells (clsL L (C (N+1)))),Ent.row 3 1 (.slice (some ⟨gf,0,none⟩) k cf) k (intCells (clsL k (C (N+1))))]) (fun _ jk _=>L-(intOf jk).toNat)
   case atStart=>exact⟨0,_,_,rfl,rfl,Nat.zero_le _,HSf.out⟩
   case round =>
    obtain⟨k,gf,cf,rfl,rfl,hk,hS⟩:=hrel;by_cases hlt:k<L
    ·have hlt2:(k:Int)<L:=by omega
     have e1:=hS.rcell (v:=.int .i64 ((C (N+1) k:Nat):Int)) 1 k rfl (by omega) (ZaK (C (N+1)) hlt);have hnm:=Zi7 (cl:=C (N+1)) Hgood.out (k:=k) hlt;have hcall:=Ze0 (clsL L (C (N+1))) ((C (N+1) k:Nat):Int) (.slice (some ⟨gc,0,none⟩) L cc) wr (by rw[Za0];omega) (hS.intsC 1 rfl);rw[hnm] at hcall;have hcs:=Zdd k (C (N+1));obtain⟨x,hx⟩:=eI (C (N+1) k);rw[← hx] at hcall hcs e1;have Hcall:=qh hcall;have HS6:=qh hS;have Hhx:=qh hx;clear hx;have Hhnm:=qh hnm;clear hnm;have Hhcs:=qh hcs;clear hcs;clear hcall hS;go_wp2_with fail;refine Hcall.out.mono ?_;rintro e w5 ⟨rfl,hb5⟩;have hSa:=(HS6.out.call hb5).alloc_ (.cells #[.int .i64 ((x:Nat):Int)] 3);have hR:=hSa.row 2 rfl;have HhSa:=qh hSa;clear hSa;have HhR:=qh hR;clear hR;clear hb5 e1 HS6;go_wp2_with (at_builtin;refine wpList_append_lies _ rfl _ _ _ rfl _ 3 i0 (.int .i64 0) 1 8 Try.underlying26 Hhi.out Hhz0.out Hhz1.out Hhz2.out rfl (by omega) _ k _ rfl HhR.out ⟨w5.heap.size,0,none⟩ 1 1 [.int .i64 ((x:Nat):Int)] rfl rfl (World.news_of_block (heap_alloc_new w5 _)) ZaV (by omega) (by unfold maxLen;omega) (by omega) HhSa.out.size _ rfl ?_;intro g6 c6 w6 hown6 hgrow6 hat6 hlt6;have HS6:=qh (HhSa.out.app 2 rfl hown6 hgrow6 hat6);clear hown6 hgrow6 hat6 hlt6);go_roundw
     case rel =>refine⟨k+1,g6,c6,by go_num,rfl,by omega,?_⟩;rw[Hhcs.out,Zan];exact HS6.out
     case measure=>simp[intOf];omega
    obtain rfl:L=k:=by omega
    rw[Hhcl.out] at hS;have HS6:=qh (hS.pick [2] (by decide));clear hS;go_wp2;go_ret;exact⟨gf,cf,rfl,HS6.out⟩
theorem Zc0 (d:DfaD) (v:Value) (w:World) (h:DfaR 0 w v d) (r:Bool) (hr:Zaf d.next d.ends=r) :
  Calls Try.prog 74 #[v] w fun e w'=>e = .returned (.bool r)∧Below w.heap.size w w':=by
 obtain⟨v1,v2,rfl,q1,q2⟩:=h;exact Zbt d.next d.ends v1 v2 w q1 q2 r hr
end Go.Proofs.Ytfanhfcamblghaa
