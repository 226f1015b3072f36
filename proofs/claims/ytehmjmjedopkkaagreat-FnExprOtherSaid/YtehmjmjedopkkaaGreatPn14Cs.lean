/-
  The walk over the reference's l10Classes.
  Condition: the automaton is valid and reads as such.
-/
import Derived.Test.YtehmjmjedopkkaaGreatPn13Ct
set_option maxHeartbeats 8000000
set_option maxRecDepth 100000
namespace Go.Proofs.YtehmjmjedopkkaaGreat
open Go.RowKit
theorem Zgx (d:DfaD) (v:Value) (w:World) (hd:Zaf d.next d.ends=true) (h:DfaR 0 w v d) :
  Calls Tryz.prog 90 #[v] w fun e w'=>RCl d w e w':=by
 obtain⟨b1,o1,cv,b2,o2,cw,rfl,hC⟩:=ZbE hd h;have hnx:∀ s c,s<d.next.length→c<3→nxD d s c<d.next.length:=fun s c hs hc=>hC.lt s c hs hc
 obtain⟨N,hN,hNs,hNo⟩:=Zhk (n:=d.next.length) (nx:=nxD d) (enD d);have hap:=fun (i:Nat) (h:¬ stays d.next.length (nxD d) (enD d) i)=>ZjV hnx h
 have hpt:=fun (i:Nat)=>ZgN hnx (enD d) i
 obtain⟨C,hCC⟩:=eI (clR d.next.length (nxD d) (enD d));rw[← hCC] at hap hpt;have hfin:∀ s,s<d.next.length→C (N+1) s=clD d s:=fun s hs=>by rw[hCC,(ZkF hnx (enD d) (N+1)).2 (by omega) s hs,hNs s hs];exact(ZkH hnx hN hNs hs).symm
 have hgood:GoodC d.next.length (C (N+1)):=by rw[hCC];exact ZdJ
 have hc0:∀ s,C 0 s=if enD d s=true then 1 else 0:=fun s=>by rw[hCC];rfl
 have hstep:∀ i,C (i+1)=Zar d.next.length (nxD d) (C i):=fun i=>by rw[hCC];rfl
 obtain⟨L,hL⟩:=eI (d.next.length);have hl1:=hC.l1;have hl2:=hC.l2;have hS0:=(((St.start w).alloc _ rfl #[.slice (some ⟨b1,o1,none⟩) L cv,.slice (some ⟨b2,o2,none⟩) L cw] 32).alloc (w.heap.size+1) (by simp) #[] 3).boxrow 1 0 1 [] rfl rfl (Nat.zero_le _);unfold RCl;rw[← hL] at hl1 hl2 hN hgood hfin hap hpt hstep;rw[← hL];obtain⟨i0,hi,hz0,hz1,hz2⟩:=info_parts Tryz.infoInt;have HC:=qh hC;have Hgood:=qh hgood;have Hc0:=qh hc0;have Hfin:=qh hfin;have HNo:=qh hNo;have HNs:=qh hNs;have Hap:=qh hap;have Hpt:=qh hpt;have Hstep:=qh hstep;replace hS0:=qh hS0;replace hL:=qh hL;replace hCC:=qh hCC;have Hhi:=qh hi;clear hi;have Hhz0:=qh hz0;clear hz0;have Hhz1:=qh hz1;clear hz1;have Hhz2:=qh hz2;clear hz2;clear hC hgood hc0 hfin hNo hNs hnx hap hpt hstep h
 go_enter Tryz.func90, Tryz.ntmps90
 go_wp2
 go_loopw [3,4] (fun vc i wr=>∃ (k g c:Nat),i = .int .i64 k∧vc = .slice (some ⟨g,0,none⟩) k c∧k≤L∧St w wr [Ent.box w.heap.size #[.slice (some ⟨b1,o1,none⟩) L cv,.slice (some ⟨b2,o2,none⟩) L cw] 32,Ent.row 3 1 (.slice (some ⟨g,0,none⟩) k c) k (intCells (clsL k (C 0)))]) (fun _ i _=>L-(intOf i).toNat)
 case atStart=>exact⟨0,_,_,rfl,rfl,Nat.zero_le _,hS0.out⟩
 case round =>
  obtain⟨k,g,c,rfl,rfl,hk,hS⟩:=hrel;have e0:=hS.cell (v:=.slice (some ⟨b1,o1,none⟩) L cv) 0 0 rfl rfl;by_cases hlt:k<L
  ·have hlt2:(k:Int)<L:=by omega
   have hkn:k<d.next.length:=by have:=hL.out;omega
   have hen:=HC.out.en k hkn;have hck:=Hc0.out k;have hcs:=Zeg k (C 0);have hil:(intCells (clsL k (C 0))).length=k:=by simp[intCells,Zbp]
   obtain⟨z,hz⟩:=eI (enD d k);rw[← hz] at hen hck;have hSa:=hS.alloc_ (.cells #[.int .i64 0] 3);have hR:=hSa.row 1 rfl;have Hen:=qh hen;have HhS:=qh hS;clear hS;have HhSa:=qh hSa;clear hSa;have HhR:=qh hR;clear hR;have Hhz:=qh hz;clear hz;have Hhck:=qh hck;clear hck;have Hhcs:=qh hcs;clear hcs;have Hhil:=qh hil;clear hil;clear hen;cases z
   all_goals go_wp2_with (at_builtin;refine wpList_append_lies _ rfl _ _ _ rfl _ 3 i0 (.int .i64 0) 1 8 Tryz.underlying59 Hhi.out Hhz0.out Hhz1.out Hhz2.out rfl (by omega) _ k _ rfl HhR.out ⟨wr.heap.size,0,none⟩ 1 1 [.int .i64 0] rfl rfl (World.news_of_block (heap_alloc_new wr _)) Zbf (by omega) (by unfold maxLen;omega) (by omega) HhSa.out.size _ rfl ?_;intro g6 c6 w6 hown6 hgrow6 hat6 hlt6;have HS6:=qh (HhSa.out.app 1 rfl hown6 hgrow6 hat6);have e1:=HS6.out.cell (v:=.slice (some ⟨b2,o2,none⟩) L cw) 0 1 rfl rfl;have e2:=(bcell HS6.out.bel b2 _ HC.out.hb2).trans Hen.out;have f6:=HS6.out.rfr 1 k rfl;have e6:=HS6.out.rcell (v:=.int .i64 0) 1 k rfl (by omega) (by rw[List.getElem?_append_right (by rw[Hhil.out];exact Nat.le_refl _),Hhil.out,Nat.sub_self];rfl);clear hown6 hgrow6 hat6 hlt6)
   ·go_roundw
    case rel =>refine⟨k+1,g6,c6,by go_num,rfl,by omega,?_⟩;have hck:C 0 k=0:=Hhck.out;rw[Hhcs.out,Zav,hck];exact HS6.out
    case measure=>simp[intOf];omega
   go_roundw
   case rel =>refine⟨k+1,g6,c6,by go_num,rfl,by omega,?_⟩;have hck:C 0 k=1:=Hhck.out;have h:=HS6.out.store 1 rfl k (.int .i64 1);rw[ZnJ Hhil.out] at h;rw[Hhcs.out,Zav,hck];exact h
   case measure=>simp[intOf];omega
  obtain rfl:L=k:=by omega
  have HS2:=qh hS;clear hS;go_wp2
  go_loopw [3,5] (fun vc va wr=>∃ (i gc cc:Nat) (ag:Bool),vc = .slice (some ⟨gc,0,none⟩) L cc∧va = .bool ag∧((ag=true∧i≤N)∨(ag=false∧i=N+1)) ∧
    St w wr [Ent.box w.heap.size #[.slice (some ⟨b1,o1,none⟩) L cv,.slice (some ⟨b2,o2,none⟩) L cw] 32,Ent.row 3 1 (.slice (some ⟨gc,0,none⟩) L cc) L (intCells (clsL L (C i)))])
   (fun vc va wr=>if Zlm va=true then L*L+1-Znw wr (ZeL vc) L else 0)
  case atStart=>exact⟨0,_,_,true,rfl,rfl,Or.inl ⟨rfl,Nat.zero_le _⟩,HS2.out⟩
  case round =>
   obtain⟨i,gc,cc,ag,rfl,rfl,hag,hS⟩:=hrel;obtain⟨wo,hwo⟩:∃ wo:World,wo=wr:=⟨_,rfl⟩;subst hwo;rcases hag with⟨rfl,hiN⟩|⟨rfl,rfl⟩
   ·have hSn:=(hS.alloc _ rfl #[] 3).boxrow 2 0 1 [] rfl rfl (Nat.zero_le _);have HS3:=qh hS;have HS4:=qh hSn;have hcells:∀ (w':World) (_:St w w' [Ent.box w.heap.size #[.slice (some ⟨b1,o1,none⟩) L cv,.slice (some ⟨b2,o2,none⟩) L cw] 32,Ent.row 3 1 (.slice (some ⟨gc,0,none⟩) L cc) L (intCells (clsL L (C i)))]) x,x<L→w'.cell? ⟨gc,x,none⟩=some (.int .i64 ((C i x:Nat):Int)):=fun w' h' x hx=>h'.rcell 1 x rfl (by omega) (ZaV (C i) hx)
    have hm0:=Zjb (w:=wo) (b:=gc) (n:=L) (cl:=C i) (hcells wo hS);have Hcells:=qh hcells;have Hm0:=qh hm0;clear hS hSn hcells hm0;go_wp2
    go_loopw [6,7] (fun vn j wi=>∃ (k gn cn:Nat),j = .int .i64 k∧vn = .slice (some ⟨gn,0,none⟩) k cn∧k≤L∧St w wi [Ent.box w.heap.size #[.slice (some ⟨b1,o1,none⟩) L cv,.slice (some ⟨b2,o2,none⟩) L cw] 32,Ent.row 3 1 (.slice (some ⟨gc,0,none⟩) L cc) L (intCells (clsL L (C i))),Ent.row 3 1 (.slice (some ⟨gn,0,none⟩) k cn) k (intCells (clsL k (C (i+1))))]) (fun _ j _=>L-(intOf j).toNat)
    case atStart=>exact⟨0,_,_,rfl,rfl,Nat.zero_le _,HS4.out⟩
    case round =>
     obtain⟨k,gn,cn,rfl,rfl,hk,hS⟩:=hrel;by_cases hlt:k<L
     ·have HS5:=qh hS;have hlt2:(k:Int)<L:=by omega
      have hkn:k<d.next.length:=by have:=hL.out;omega
      clear hS;go_wp2
      go_loopw [8,9] (fun vs j wj=>∃ (m x:Nat),vs = .int .i64 x∧j = .int .i64 ((m:Int)-1)∧m≤k∧lowK L (nxD d) (C i) k m x∧x≤L∧St w wj [Ent.box w.heap.size #[.slice (some ⟨b1,o1,none⟩) L cv,.slice (some ⟨b2,o2,none⟩) L cw] 32,Ent.row 3 1 (.slice (some ⟨gc,0,none⟩) L cc) L (intCells (clsL L (C i))),Ent.row 3 1 (.slice (some ⟨gn,0,none⟩) k cn) k (intCells (clsL k (C (i+1))))]) (fun _ j _=>(intOf j+1).toNat)
      case atStart=>exact⟨k,k,rfl,rfl,Nat.le_refl _,Zla _ _,by omega,HS5.out⟩
      case round =>
       obtain⟨m,x,rfl,rfl,hm,hlow,hxL,hS⟩:=hrel;obtain⟨wm,hwm⟩:∃ wm:World,wm=wr:=⟨_,rfl⟩;subst hwm;by_cases hm0:0<m
       ·obtain⟨j,rfl⟩:∃ j,m=j+1:=⟨m-1,by omega⟩;rw[show(((j+1:Nat):Int)-1)=(j:Int) by omega];have hjk:j<k:=by omega
        have hjL:j<L:=by omega
        have hj0:(0:Int)≤j:=by omega
        have hjI:(j:Int)<L:=by omega
        have hjkI:(j:Int)<k:=by omega
        have hjn:j<d.next.length:=by omega
        obtain⟨b3,o3,c3,hb3,-,-,r1,r2⟩:=HC.out.row j hjn;obtain⟨b4,o4,c4,hb4,-,-,r3,r4⟩:=HC.out.row k hkn;have c1:=Hcells.out _ (hS.pick [0,1] (by decide)) j hjL;have c2:=Hcells.out _ (hS.pick [0,1] (by decide)) k hlt;obtain⟨z0,hz0⟩:=eI (decide (C i j=C i k));obtain⟨p,hp⟩:=eI (C i j);obtain⟨q,hq⟩:=eI (C i k);rw[← hp] at c1;rw[← hq] at c2;have g1:((p:Int)==(q:Int))=z0:=by rw[hz0,hp,hq,Bool.eq_iff_iff];simp only[beq_iff_eq,decide_eq_true_eq];omega
        have g2:decide ((p:Int)=(q:Int))=z0:=by rw[hz0,hp,hq,decide_eq_decide];omega
        have HS6:=qh hS;have Hlow:=qh hlow;have Hr1:=qh r1;have Hr2:=qh r2;have Hr3:=qh r3;have Hr4:=qh r4;have Hhz0:=qh hz0;clear hz0;have Hhp:=qh hp;clear hp;have Hhq:=qh hq;clear hq;clear hS hlow r1 r2 r3 r4;go_wp2
        go_quiet (fail)
        go_wp2;have HS7:=qh (HS6.out.drewN nq);clear HS6 c1 c2 g1 g2
        go_loopw [10,11] (fun vz ic wc=>∃ c:Nat,ic = .int .i64 c∧c≤3∧vz = .bool (z0&&ZdI d (C i) j k c)∧St w wc [Ent.box w.heap.size #[.slice (some ⟨b1,o1,none⟩) L cv,.slice (some ⟨b2,o2,none⟩) L cw] 32,Ent.row 3 1 (.slice (some ⟨gc,0,none⟩) L cc) L (intCells (clsL L (C i))),Ent.row 3 1 (.slice (some ⟨gn,0,none⟩) k cn) k (intCells (clsL k (C (i+1))))]) (fun _ ic _=>3-(intOf ic).toNat)
        case atStart=>exact⟨0,rfl,by omega,by simp[ZdI],HS7.out⟩
        case round =>
         obtain⟨c,rfl,hc,rfl,hS⟩:=hrel;obtain⟨wc,hwc⟩:∃ wc:World,wc=wr:=⟨_,rfl⟩;subst hwc;by_cases hc3:c<3
         ·have hc4:(c:Int)<3:=by omega
          have hsu:=ZgS d (C i) j k c;obtain⟨z,hz⟩:=eI ((z0&&ZdI d (C i) j k c));rw[← hz];have hnew:(z0&&ZdI d (C i) j k (c+1))=(z&&decide (C i (nxD d j c)=C i (nxD d k c))):=by rw[hsu,hz,Bool.and_assoc]
          have e0:=hS.cell (v:=.slice (some ⟨b1,o1,none⟩) L cv) 0 0 rfl rfl;have e1:=(bcell hS.bel b1 _ HC.out.hb1).trans Hr1.out;have e2:=(bcell hS.bel b3 _ hb3).trans (Hr2.out c hc3);have e3:=(bcell hS.bel b1 _ HC.out.hb1).trans Hr3.out;have e4:=(bcell hS.bel b4 _ hb4).trans (Hr4.out c hc3);have hy1:=HC.out.lt j c hjn hc3;have hy2:=HC.out.lt k c hkn hc3;rw[← hL.out] at hy1 hy2;obtain⟨y1,hyy1⟩:=eI (nxD d j c);obtain⟨y2,hyy2⟩:=eI (nxD d k c);rw[← hyy1] at e2 hy1 hnew;rw[← hyy2] at e4 hy2 hnew;have e5:=Hcells.out _ (hS.pick [0,1] (by decide)) y1 hy1;have e6:=Hcells.out _ (hS.pick [0,1] (by decide)) y2 hy2;obtain⟨p1,hp1⟩:=eI (C i y1);obtain⟨p2,hp2⟩:=eI (C i y2);rw[← hp1] at e5 hnew;rw[← hp2] at e6 hnew;have hyI1:(y1:Int)<L:=by omega
          have hyI2:(y2:Int)<L:=by omega
          have HS8:=qh hS;have Hhyy1:=qh hyy1;clear hyy1;have Hhyy2:=qh hyy2;clear hyy2;have Hhp1:=qh hp1;clear hp1;have Hhp2:=qh hp2;clear hp2;have Hhz:=qh hz;clear hz;clear hS hsu;cases z
          ·have Hnew:=qh hnew;clear hnew;go_wp2
           go_quiet (fail)
           go_wp2;go_roundw
           case rel=>exact⟨c+1,by go_num,by omega,by rw[Hnew.out];rfl,HS8.out.drewN _⟩
           case measure=>simp[intOf];omega
          by_cases he:p1=p2
          ·have g1:((p1:Int)==(p2:Int))=true:=by rw[he];simp
           have g2:((p1:Int)=(p2:Int))=True:=by simp[he]
           rw[decide_eq_true he] at hnew;have Hnew:=qh hnew;have Hhe:=qh he;clear he;clear hnew;go_wp2
           go_quiet (fail)
           go_wp2;go_roundw
           case rel=>exact⟨c+1,by go_num,by omega,by rw[Hnew.out];rfl,HS8.out.drewN _⟩
           case measure=>simp[intOf];omega
          have g1:((p1:Int)==(p2:Int))=false:=by simp;omega
          have g2:((p1:Int)=(p2:Int))=False:=by simp;omega
          rw[decide_eq_false he] at hnew;have Hnew:=qh hnew;have Hhe:=qh he;clear he;clear hnew;go_wp2
          go_quiet (fail)
          go_wp2;go_roundw
          case rel=>exact⟨c+1,by go_num,by omega,by rw[Hnew.out];rfl,HS8.out.drewN _⟩
          case measure=>simp[intOf];omega
         obtain rfl:c=3:=by omega
         have hsa:Zbw (nxD d) (C i) j k=(z0&&ZdI d (C i) j k 3):=by rw[Zj5,Hhz0.out]
         obtain⟨z,hz⟩:=eI ((z0&&ZdI d (C i) j k 3));rw[← hz] at hsa;rw[← hz];have e7:=hS.rcell (v:=.int .i64 ((C (i+1) j:Nat):Int)) 2 j rfl (by omega) (ZaV (C (i+1)) hjk);have hCj:C (i+1) j=Zar L (nxD d) (C i) j:=by rw[Hstep.out i]
         have hCjL:C (i+1) j≤L:=by rw[hCj];have:=(ZaQ (nx:=nxD d) (cl:=C i) hjL).1;omega
         obtain⟨u,hu⟩:=eI (C (i+1) j);rw[← hu] at e7 hCj hCjL;have HS8:=qh hS;have Hsa:=qh hsa;have HhCj:=qh hCj;clear hCj;have Hhu:=qh hu;clear hu;have Hhz:=qh hz;clear hz;clear hS hsa;cases z
         ·go_wp2;go_roundw
          case rel=>exact⟨j,x,rfl,by go_num,by omega,Zo4 Hsa.out Hlow.out,hxL,HS8.out⟩
          case measure=>simp[intOf]
         go_wp2;go_roundw
         case rel=>exact⟨j,u,rfl,by go_num,by omega,by rw[HhCj.out];exact ZnY hlt hjL Hsa.out,hCjL,HS8.out⟩
         case measure=>simp[intOf]
       obtain rfl:m=0:=by omega
       have hx:=ZnZ hlt hlow;rw[← Hstep.out i] at hx;rw[show(((0:Nat):Int)-1)=(-1:Int) by omega];have hcs:=Zeg k (C (i+1));rw[← hx] at hcs;have hSa:=hS.alloc_ (.cells #[.int .i64 ((x:Nat):Int)] 3);have hR:=hSa.row 2 rfl;have Hhx:=qh hx;clear hx;have Hhcs:=qh hcs;clear hcs;have HhSa:=qh hSa;clear hSa;have HhR:=qh hR;clear hR;clear hS hlow;go_wp2_with (at_builtin;refine wpList_append_lies _ rfl _ _ _ rfl _ 3 i0 (.int .i64 0) 1 8 Tryz.underlying59 Hhi.out Hhz0.out Hhz1.out Hhz2.out rfl (by omega) _ k _ rfl HhR.out ⟨wm.heap.size,0,none⟩ 1 1 [.int .i64 ((x:Nat):Int)] rfl rfl (World.news_of_block (heap_alloc_new wm _)) Zbf (by omega) (by unfold maxLen;omega) (by omega) HhSa.out.size _ rfl ?_;intro g6 c6 w6 hown6 hgrow6 hat6 hlt6;have HS6:=qh (HhSa.out.app 2 rfl hown6 hgrow6 hat6);clear hown6 hgrow6 hat6 hlt6);go_roundw
       case rel =>refine⟨k+1,g6,c6,by go_num,rfl,by omega,?_⟩;rw[Hhcs.out,Zav];exact HS6.out
       case measure=>simp[intOf];omega
     obtain rfl:L=k:=by omega
     have HS5:=qh hS;clear hS;go_wp2
     go_loopw [5,12] (fun va jk w6=>∃ k:Nat,jk = .int .i64 k∧k≤L∧va = .bool (difK (C i) (C (i+1)) k)∧St w w6 [Ent.box w.heap.size #[.slice (some ⟨b1,o1,none⟩) L cv,.slice (some ⟨b2,o2,none⟩) L cw] 32,Ent.row 3 1 (.slice (some ⟨gc,0,none⟩) L cc) L (intCells (clsL L (C i))),Ent.row 3 1 (.slice (some ⟨gn,0,none⟩) L cn) L (intCells (clsL L (C (i+1))))]) (fun _ jk _=>L-(intOf jk).toNat)
     case atStart=>exact⟨0,rfl,Nat.zero_le _,rfl,HS5.out⟩
     case round =>
      obtain⟨k,rfl,hk,rfl,hS⟩:=hrel;by_cases hlt:k<L
      ·have hlt2:(k:Int)<L:=by omega
       obtain⟨zk,hzk⟩:=eI (difK (C i) (C (i+1)) k);rw[← hzk];have HS6:=qh hS;have Hhzk:=qh hzk;clear hzk;clear hS;go_wp2
       go_loopw [5,13] (fun va jm w7=>∃ m:Nat,jm = .int .i64 m∧m≤k∧va = .bool (zk||difs (C i) (C (i+1)) k m)∧St w w7 [Ent.box w.heap.size #[.slice (some ⟨b1,o1,none⟩) L cv,.slice (some ⟨b2,o2,none⟩) L cw] 32,Ent.row 3 1 (.slice (some ⟨gc,0,none⟩) L cc) L (intCells (clsL L (C i))),Ent.row 3 1 (.slice (some ⟨gn,0,none⟩) L cn) L (intCells (clsL L (C (i+1))))]) (fun _ jm _=>k-(intOf jm).toNat)
       case atStart=>exact⟨0,rfl,Nat.zero_le _,by simp[difs],HS6.out⟩
       case round =>
        obtain⟨m,rfl,hm,rfl,hS⟩:=hrel;by_cases hmk:m<k
        ·have hmI:(m:Int)<k:=by omega
         have hmL:(m:Int)<L:=by omega
         have hsu:=Zm5 (C i) (C (i+1)) k m;obtain⟨z,hz⟩:=eI ((zk||difs (C i) (C (i+1)) k m));rw[← hz];have hnew:(zk||difs (C i) (C (i+1)) k (m+1))=(z||dif (C i) (C (i+1)) m k):=by rw[hsu,hz,Bool.or_assoc]
         have e1:=Hcells.out _ (hS.pick [0,1] (by decide)) m (by omega);have e2:=Hcells.out _ (hS.pick [0,1] (by decide)) k hlt;have e3:=hS.rcell (v:=.int .i64 ((C (i+1) m:Nat):Int)) 2 m rfl (by omega) (ZaV (C (i+1)) (by omega));have e4:=hS.rcell (v:=.int .i64 ((C (i+1) k:Nat):Int)) 2 k rfl (by omega) (ZaV (C (i+1)) hlt);unfold dif at hnew;obtain⟨p1,hp1⟩:=eI (C i m);obtain⟨p2,hp2⟩:=eI (C i k);obtain⟨p3,hp3⟩:=eI (C (i+1) m);obtain⟨p4,hp4⟩:=eI (C (i+1) k);rw[← hp1] at e1 hnew;rw[← hp2] at e2 hnew;rw[← hp3] at e3 hnew;rw[← hp4] at e4 hnew;have HS8:=qh hS;have Hhp1:=qh hp1;clear hp1;have Hhp2:=qh hp2;clear hp2;have Hhp3:=qh hp3;clear hp3;have Hhp4:=qh hp4;clear hp4;have Hhz:=qh hz;clear hz;clear hS hsu;cases z
         ·obtain⟨u1,hu1⟩:=eI (decide (p1=p2));obtain⟨u2,hu2⟩:=eI (decide (p3=p4));rw[← hu1,← hu2] at hnew;have g1:((p1:Int)==(p2:Int))=u1:=by rw[hu1,Bool.eq_iff_iff];simp only[beq_iff_eq,decide_eq_true_eq];omega
          have g2:decide ((p1:Int)=(p2:Int))=u1:=by rw[hu1,decide_eq_decide];omega
          have g3:((p3:Int)==(p4:Int))=u2:=by rw[hu2,Bool.eq_iff_iff];simp only[beq_iff_eq,decide_eq_true_eq];omega
          have g4:decide ((p3:Int)=(p4:Int))=u2:=by rw[hu2,decide_eq_decide];omega
          have Hnew:=qh hnew;have Hhu1:=qh hu1;clear hu1;have Hhu2:=qh hu2;clear hu2;clear hnew;cases u1<;>cases u2
          all_goals
           go_wp2
           go_quiet (fail)
           go_wp2;go_roundw
           case rel=>exact⟨m+1,by go_num,by omega,by rw[Hnew.out];rfl,HS8.out.drewN _⟩
           case measure=>simp[intOf];omega
         have Hnew:=qh hnew;clear hnew;go_wp2
         go_quiet (fail)
         go_wp2;go_roundw
         case rel=>exact⟨m+1,by go_num,by omega,by rw[Hnew.out];rfl,HS8.out.drewN _⟩
         case measure=>simp[intOf];omega
        obtain rfl:m=k:=by omega
        have hsu:=Zm6 (C i) (C (i+1)) m;rw[← Hhzk.out] at hsu;rw[← hsu];have HS8:=qh hS;have Hhsu:=qh hsu;clear hsu;clear hS;go_wp2;go_roundw
        case rel=>exact⟨m+1,by go_num,by omega,rfl,HS8.out⟩
        case measure=>simp[intOf];omega
      obtain rfl:L=k:=by omega
      have HS6:=qh hS;clear hS;have hdk:difK (C i) (C (i+1)) L=false↔stays L (nxD d) (enD d) i:=Zlv.trans (Hpt.out i).symm;by_cases hiN:i=N
      ·have h0:difK (C i) (C (i+1)) L=false:=by rw[hdk,hiN,hL.out];exact HNs.out
       rw[h0];have Hh0:=qh h0;clear h0 hdk;go_wp2;go_roundw
       case rel=>exact⟨i+1,_,_,false,rfl,rfl,Or.inr ⟨rfl,by omega⟩,HS6.out.pick [0,2] (by decide)⟩
       case measure =>have:=ZkQ L (C i);simp only[Zlm,ZeL,↓reduceIte,Bool.false_eq_true,Hm0.out];omega
      have hns:¬ stays L (nxD d) (enD d) i:=by rw[hL.out];exact HNo.out i (by omega)
      have h0:difK (C i) (C (i+1)) L=true:=by
       cases h:difK (C i) (C (i+1)) L
       ·exact absurd (hdk.1 h) hns
       rfl
      have hmore:=Hap.out i hns;rw[h0];have Hh0:=qh h0;have Hmore:=qh hmore;have Hhns:=qh hns;clear hns;clear h0 hdk hmore;go_wp2;go_roundw
      case rel=>exact⟨i+1,_,_,true,rfl,rfl,Or.inl ⟨rfl,by omega⟩,HS6.out.pick [0,2] (by decide)⟩
      case measure =>
       have h2:=Zjb (w:=wr) (b:=gn) (n:=L) (cl:=C (i+1)) fun x hx=>HS6.out.rcell 2 x rfl (by omega) (ZaV (C (i+1)) hx)
       have h3:=Hmore.out;have h4:=ZkQ L (C (i+1));simp only[Zlm,ZeL,↓reduceIte,Hm0.out,h2];omega
   have hcl:intCells (clsL L (C (N+1)))=intCells (clsL L (clD d)):=by rw[ZeH Hfin.out]
   have HS3:=qh hS;have Hhcl:=qh hcl;clear hcl;clear hS;go_wp2;have HSf:=qh ((HS3.out.alloc _ rfl #[] 3).boxrow 2 0 1 [] rfl rfl (Nat.zero_le _))
   go_loopw [14,15] (fun vf jk w8=>∃ (k gf cf:Nat),jk = .int .i64 k∧vf = .slice (some ⟨gf,0,none⟩) k cf∧k≤L∧St w w8 [Ent.box w.heap.size #[.slice (some ⟨b1,o1,none⟩) L cv,.slice (some ⟨b2,o2,none⟩) L cw] 32,Ent.row 3 1 (.slice (some ⟨gc,0,none⟩) L cc) L (intCells (clsL L (C (N+1)))),Ent.row 3 1 (.slice (some ⟨gf,0,none⟩) k cf) k (intCells (clsL k (C (N+1))))]) (fun _ jk _=>L-(intOf jk).toNat)
   case atStart=>exact⟨0,_,_,rfl,rfl,Nat.zero_le _,HSf.out⟩
   case round =>
    obtain⟨k,gf,cf,rfl,rfl,hk,hS⟩:=hrel;by_cases hlt:k<L
    ·have hlt2:(k:Int)<L:=by omega
     have e1:=hS.rcell (v:=.int .i64 ((C (N+1) k:Nat):Int)) 1 k rfl (by omega) (ZaV (C (N+1)) hlt);have hnm:=Zms (cl:=C (N+1)) Hgood.out (k:=k) hlt;have hcall:=ZgZ (clsL L (C (N+1))) ((C (N+1) k:Nat):Int) (.slice (some ⟨gc,0,none⟩) L cc) wr (by rw[Zbp];omega) (hS.intsC 1 rfl);rw[hnm] at hcall;have hcs:=Zeg k (C (N+1));obtain⟨x,hx⟩:=eI (C (N+1) k);rw[← hx] at hcall hcs e1;have Hcall:=qh hcall;have HS6:=qh hS;have Hhx:=qh hx;clear hx;have Hhnm:=qh hnm;clear hnm;have Hhcs:=qh hcs;clear hcs;clear hcall hS;go_wp2_with fail;refine Hcall.out.mono ?_;rintro e w5 ⟨rfl,hb5⟩;have hSa:=(HS6.out.call hb5).alloc_ (.cells #[.int .i64 ((x:Nat):Int)] 3);have hR:=hSa.row 2 rfl;have HhSa:=qh hSa;clear hSa;have HhR:=qh hR;clear hR;clear hb5 e1 HS6;go_wp2_with (at_builtin;refine wpList_append_lies _ rfl _ _ _ rfl _ 3 i0 (.int .i64 0) 1 8 Tryz.underlying59 Hhi.out Hhz0.out Hhz1.out Hhz2.out rfl (by omega) _ k _ rfl HhR.out ⟨w5.heap.size,0,none⟩ 1 1 [.int .i64 ((x:Nat):Int)] rfl rfl (World.news_of_block (heap_alloc_new w5 _)) Zbf (by omega) (by unfold maxLen;omega) (by omega) HhSa.out.size _ rfl ?_;intro g6 c6 w6 hown6 hgrow6 hat6 hlt6;have HS6:=qh (HhSa.out.app 2 rfl hown6 hgrow6 hat6);clear hown6 hgrow6 hat6 hlt6);go_roundw
     case rel =>refine⟨k+1,g6,c6,by go_num,rfl,by omega,?_⟩;rw[Hhcs.out,Zav];exact HS6.out
     case measure=>simp[intOf];omega
    obtain rfl:L=k:=by omega
    rw[Hhcl.out] at hS;have HS6:=qh (hS.pick [2] (by decide));clear hS;go_wp2;go_ret;exact⟨gf,cf,rfl,HS6.out⟩
end Go.Proofs.YtehmjmjedopkkaaGreat
