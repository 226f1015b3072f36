/-
  The walk over the reference's l10Classes.
  Condition: the automaton is valid and reads as such.
-/
import Derived.Test.YtncekbbhgipdlaaGreatPs14Ct
set_option maxHeartbeats 8000000
set_option maxRecDepth 100000
namespace Go.Proofs.YtncekbbhgipdlaaGreat
open Go.RowKit
theorem Zg7 (d:DfaD) (v:Value) (w:World) (hd:Zah d.next d.ends=true) (h:DfaR 0 w v d) :
  Calls Tryz.prog 89 #[v] w fun e w'=>RCl d w e w':=by
 obtain⟨b1,o1,cv,b2,o2,cw,rfl,hC⟩:=ZbP hd h;have hnx:∀ s c,s<d.next.length→c<3→nxD d s c<d.next.length:=fun s c hs hc=>hC.lt s c hs hc
 obtain⟨N,hN,hNs,hNo⟩:=ZhS (n:=d.next.length) (nx:=nxD d) (enD d);have hap:=fun (i:Nat) (h:¬ stays d.next.length (nxD d) (enD d) i)=>Zkk hnx h
 have hpt:=fun (i:Nat)=>Zhh hnx (enD d) i
 obtain⟨C,hCC⟩:=eI (clR d.next.length (nxD d) (enD d));rw[← hCC] at hap hpt;have hfin:∀ s,s<d.next.length→C (N+1) s=clD d s:=fun s hs=>by rw[hCC,(Zk3 hnx (enD d) (N+1)).2 (by omega) s hs,hNs s hs];exact(Zk5 hnx hN hNs hs).symm
 have hgood:GoodC d.next.length (C (N+1)):=by rw[hCC];exact Zd0
 have hc0:∀ s,C 0 s=if enD d s=true then 1 else 0:=fun s=>by rw[hCC];rfl
 have hstep:∀ i,C (i+1)=Zan d.next.length (nxD d) (C i):=fun i=>by rw[hCC];rfl
 obtain⟨L,hL⟩:=eI (d.next.length);have hl1:=hC.l1;have hl2:=hC.l2;have hS0:=(((St.start w).alloc _ rfl #[.slice (some ⟨b1,o1,none⟩) L cv,.slice (some ⟨b2,o2,none⟩) L cw] 44).alloc (w.heap.size+1) (by simp) #[] 3).boxrow 1 0 1 [] rfl rfl (Nat.zero_le _);unfold RCl;rw[← hL] at hl1 hl2 hN hgood hfin hap hpt hstep;rw[← hL];obtain⟨i0,hi,hz0,hz1,hz2⟩:=info_parts Tryz.infoInt;have HC:=qh hC;have Hgood:=qh hgood;have Hc0:=qh hc0;have Hfin:=qh hfin;have HNo:=qh hNo;have HNs:=qh hNs;have Hap:=qh hap;have Hpt:=qh hpt;have Hstep:=qh hstep;replace hS0:=qh hS0;replace hL:=qh hL;replace hCC:=qh hCC;have Hhi:=qh hi;clear hi;have Hhz0:=qh hz0;clear hz0;have Hhz1:=qh hz1;clear hz1;have Hhz2:=qh hz2;clear hz2;clear hC hgood hc0 hfin hNo hNs hnx hap hpt hstep h
 go_enter Tryz.func89, Tryz.ntmps89
 go_wp2
 go_loopw [3,4] (fun vc i wr=>∃ (k g c:Nat),i = .int .i64 k∧vc = .slice (some ⟨g,0,none⟩) k c∧k≤L∧St w wr [Ent.box w.heap.size #[.slice (some ⟨b1,o1,none⟩) L cv,.slice (some ⟨b2,o2,none⟩) L cw] 44,Ent.row 3 1 (.slice (some ⟨g,0,none⟩) k c) k (intCells (clsL k (C 0)))]) (fun _ i _=>L-(intOf i).toNat)
 case atStart=>exact⟨0,_,_,rfl,rfl,Nat.zero_le _,hS0.out⟩
 case round =>
  obtain⟨k,g,c,rfl,rfl,hk,hS⟩:=hrel;have e0:=hS.cell (v:=.slice (some ⟨b1,o1,none⟩) L cv) 0 0 rfl rfl;by_cases hlt:k<L
  ·have hlt2:(k:Int)<L:=by omega
   have hkn:k<d.next.length:=by have:=hL.out;omega
   have hen:=HC.out.en k hkn;have hck:=Hc0.out k;have hcs:=ZeC k (C 0);have hil:(intCells (clsL k (C 0))).length=k:=by simp[intCells,Zbw]
   obtain⟨z,hz⟩:=eI (enD d k);rw[← hz] at hen hck;have hSa:=hS.alloc_ (.cells #[.int .i64 0] 3);have hR:=hSa.row 1 rfl;have Hen:=qh hen;have HhS:=qh hS;clear hS;have HhSa:=qh hSa;clear hSa;have HhR:=qh hR;clear hR;have Hhz:=qh hz;clear hz;have Hhck:=qh hck;clear hck;have Hhcs:=qh hcs;clear hcs;have Hhil:=qh hil;clear hil;clear hen;cases z
   all_goals go_wp2_with (at_builtin;refine wpList_append_lies _ rfl _ _ _ rfl _ 3 i0 (.int .i64 0) 1 8 Tryz.underlying38 Hhi.out Hhz0.out Hhz1.out Hhz2.out rfl (by omega) _ k _ rfl HhR.out ⟨wr.heap.size,0,none⟩ 1 1 [.int .i64 0] rfl rfl (World.news_of_block (heap_alloc_new wr _)) ZbB (by omega) (by unfold maxLen;omega) (by omega) HhSa.out.size _ rfl ?_;intro g6 c6 w6 hown6 hgrow6 hat6 hlt6;have HS6:=qh (HhSa.out.app 1 rfl hown6 hgrow6 hat6);have e1:=HS6.out.cell (v:=.slice (some ⟨b2,o2,none⟩) L cw) 0 1 rfl rfl;have e2:=(bcell HS6.out.bel b2 _ HC.out.hb2).trans Hen.out;have f6:=HS6.out.rfr 1 k rfl;have e6:=HS6.out.rcell (v:=.int .i64 0) 1 k rfl (by omega) (by rw[List.getElem?_append_right (by rw[Hhil.out];exact Nat.le_refl _),Hhil.out,Nat.sub_self];rfl);clear hown6 hgrow6 hat6 hlt6)
   ·go_roundw
    case rel =>refine⟨k+1,g6,c6,by go_num,rfl,by omega,?_⟩;have hck:C 0 k=0:=Hhck.out;rw[Hhcs.out,Zav,hck];exact HS6.out
    case measure=>simp[intOf];omega
   go_roundw
   case rel =>refine⟨k+1,g6,c6,by go_num,rfl,by omega,?_⟩;have hck:C 0 k=1:=Hhck.out;have h:=HS6.out.store 1 rfl k (.int .i64 1);rw[ZnX Hhil.out] at h;rw[Hhcs.out,Zav,hck];exact h
   case measure=>simp[intOf];omega
  obtain rfl:L=k:=by omega
  have HS2:=qh hS;clear hS;go_wp2
  go_loopw [3,5] (fun vc va wr=>∃ (i gc cc:Nat) (ag:Bool),vc = .slice (some ⟨gc,0,none⟩) L cc∧va = .bool ag∧((ag=true∧i≤N)∨(ag=false∧i=N+1)) ∧
    St w wr [Ent.box w.heap.size #[.slice (some ⟨b1,o1,none⟩) L cv,.slice (some ⟨b2,o2,none⟩) L cw] 44,Ent.row 3 1 (.slice (some ⟨gc,0,none⟩) L cc) L (intCells (clsL L (C i)))])
   (fun vc va wr=>if ZlH va=true then L*L+1-ZnJ wr (Ze5 vc) L else 0)
  case atStart=>exact⟨0,_,_,true,rfl,rfl,Or.inl ⟨rfl,Nat.zero_le _⟩,HS2.out⟩
  case round =>
   obtain⟨i,gc,cc,ag,rfl,rfl,hag,hS⟩:=hrel;obtain⟨wo,hwo⟩:∃ wo:World,wo=wr:=⟨_,rfl⟩;subst hwo;rcases hag with⟨rfl,hiN⟩|⟨rfl,rfl⟩
   ·have hSn:=(hS.alloc _ rfl #[] 3).boxrow 2 0 1 [] rfl rfl (Nat.zero_le _);have HS3:=qh hS;have HS4:=qh hSn;have hcells:∀ (w':World) (_:St w w' [Ent.box w.heap.size #[.slice (some ⟨b1,o1,none⟩) L cv,.slice (some ⟨b2,o2,none⟩) L cw] 44,Ent.row 3 1 (.slice (some ⟨gc,0,none⟩) L cc) L (intCells (clsL L (C i)))]) x,x<L→w'.cell? ⟨gc,x,none⟩=some (.int .i64 ((C i x:Nat):Int)):=fun w' h' x hx=>h'.rcell 1 x rfl (by omega) (ZaW (C i) hx)
    have hm0:=ZjF (w:=wo) (b:=gc) (n:=L) (cl:=C i) (hcells wo hS);have Hcells:=qh hcells;have Hm0:=qh hm0;clear hS hSn hcells hm0;go_wp2
    go_loopw [6,7] (fun vn j wi=>∃ (k gn cn:Nat),j = .int .i64 k∧vn = .slice (some ⟨gn,0,none⟩) k cn∧k≤L∧St w wi [Ent.box w.heap.size #[.slice (some ⟨b1,o1,none⟩) L cv,.slice (some ⟨b2,o2,none⟩) L cw] 44,Ent.row 3 1 (.slice (some ⟨gc,0,none⟩) L cc) L (intCells (clsL L (C i))),Ent.row 3 1 (.slice (some ⟨gn,0,none⟩) k cn) k (intCells (clsL k (C (i+1))))]) (fun _ j _=>L-(intOf j).toNat)
    case atStart=>exact⟨0,_,_,rfl,rfl,Nat.zero_le _,HS4.out⟩
    case round =>
     obtain⟨k,gn,cn,rfl,rfl,hk,hS⟩:=hrel;by_cases hlt:k<L
     ·have HS5:=qh hS;have hlt2:(k:Int)<L:=by omega
      have hkn:k<d.next.length:=by have:=hL.out;omega
      clear hS;go_wp2
      go_loopw [8,9] (fun vs j wj=>∃ (m x:Nat),vs = .int .i64 x∧j = .int .i64 ((m:Int)-1)∧m≤k∧lowK L (nxD d) (C i) k m x∧x≤L∧St w wj [Ent.box w.heap.size #[.slice (some ⟨b1,o1,none⟩) L cv,.slice (some ⟨b2,o2,none⟩) L cw] 44,Ent.row 3 1 (.slice (some ⟨gc,0,none⟩) L cc) L (intCells (clsL L (C i))),Ent.row 3 1 (.slice (some ⟨gn,0,none⟩) k cn) k (intCells (clsL k (C (i+1))))]) (fun _ j _=>(intOf j+1).toNat)
      case atStart=>exact⟨k,k,rfl,rfl,Nat.le_refl _,Zly _ _,by omega,HS5.out⟩
      case round =>
       obtain⟨m,x,rfl,rfl,hm,hlow,hxL,hS⟩:=hrel;obtain⟨wm,hwm⟩:∃ wm:World,wm=wr:=⟨_,rfl⟩;subst hwm;by_cases hm0:0<m
       ·obtain⟨j,rfl⟩:∃ j,m=j+1:=⟨m-1,by omega⟩;rw[show(((j+1:Nat):Int)-1)=(j:Int) by omega];have hjk:j<k:=by omega
        have hjL:j<L:=by omega
        have hj0:(0:Int)≤j:=by omega
        have hjI:(j:Int)<L:=by omega
        have hjkI:(j:Int)<k:=by omega
        have hjn:j<d.next.length:=by omega
        obtain⟨b3,o3,c3,hb3,-,-,r1,r2⟩:=HC.out.row j hjn;obtain⟨b4,o4,c4,hb4,-,-,r3,r4⟩:=HC.out.row k hkn;have c1:=Hcells.out _ (hS.pick [0,1] (by decide)) j hjL;have c2:=Hcells.out _ (hS.pick [0,1] (by decide)) k hlt;obtain⟨z0,hz0⟩:=eI (decide (C i j=C i k));obtain⟨p,hp⟩:=eI (C i j);obtain⟨q,hq⟩:=eI (C i k);rw[← hp] at c1;rw[← hq] at c2;have g1:((p:Int)==(q:Int))=z0:=by rw[hz0,hp,hq,Bool.eq_iff_iff];simp only[beq_iff_eq,decide_eq_true_eq];omega
        have g2:decide ((p:Int)=(q:Int))=z0:=by rw[hz0,hp,hq,decide_eq_decide];omega
        have HS6:=qh hS;have Hlow:=qh hlow;have Hr1:=qh r1;have Hr2:=qh r2;have Hr3:=qh r3;have Hr4:=qh r4;have Hhz0:=qh hz0;clear hz0;have Hhp:=qh hp;clear hp;have Hhq:=qh hq;clear hq;clear hS hlow r1 r2 r3 r4;go_wp2
        go_quiet (fail)
        go_wp2;have HS7:=qh (HS6.out.drewN nq);clear HS6 c1 c2 g1 g2
        go_loopw [10,11] (fun vz ic wc=>∃ c:Nat,ic = .int .i64 c∧c≤3∧vz = .bool (z0&&ZdZ d (C i) j k c)∧St w wc [Ent.box w.heap.size #[.slice (some ⟨b1,o1,none⟩) L cv,.slice (some ⟨b2,o2,none⟩) L cw] 44,Ent.row 3 1 (.slice (some ⟨gc,0,none⟩) L cc) L (intCells (clsL L (C i))),Ent.row 3 1 (.slice (some ⟨gn,0,none⟩) k cn) k (intCells (clsL k (C (i+1))))]) (fun _ ic _=>3-(intOf ic).toNat)
        case atStart=>exact⟨0,rfl,by omega,by simp[ZdZ],HS7.out⟩
        case round =>
         obtain⟨c,rfl,hc,rfl,hS⟩:=hrel;obtain⟨wc,hwc⟩:∃ wc:World,wc=wr:=⟨_,rfl⟩;subst hwc;by_cases hc3:c<3
         ·have hc4:(c:Int)<3:=by omega
          have hsu:=Zhm d (C i) j k c;obtain⟨z,hz⟩:=eI ((z0&&ZdZ d (C i) j k c));rw[← hz];have hnew:(z0&&ZdZ d (C i) j k (c+1))=(z&&decide (C i (nxD d j c)=C i (nxD d k c))):=by rw[hsu,hz,Bool.and_assoc]
          have e0:=hS.cell (v:=.slice (some ⟨b1,o1,none⟩) L cv) 0 0 rfl rfl;have e1:=(bcell hS.bel b1 _ HC.out.hb1).trans Hr1.out;have e2:=(bcell hS.bel b3 _ hb3).trans (Hr2.out c hc3);have e3:=(bcell hS.bel b1 _ HC.out.hb1).trans Hr3.out;have e4:=(bcell hS.bel b4 _ hb4).trans (Hr4.out c hc3);have hy1:=HC.out.lt j c hjn hc3;have hy2:=HC.out.lt k c hkn hc3;rw[← hL.out] at hy1 hy2;obtain⟨y1,hyy1⟩:=eI (nxD d j c);obtain⟨y2,hyy2⟩:=eI (nxD d k c);rw[← hyy1] at e2 hy1 hnew;rw[← hyy2] at e4 hy2 hnew;have e5:=Hcells.out _ (hS.pick [0,1] (by decide)) y1 hy1;have e6:=Hcells.out _ (hS.pick [0,1] (by decide)) y2 hy2;obtain⟨p1,hp1⟩:=eI (C i y1);obtain⟨p2,hp2⟩:=eI (C i y2);rw[← hp1] at e5 hnew;rw[← hp2] at e6 hnew;have hyI1:(y1:Int)<L:=by omega
          have hyI2:(y2:Int)<L:=by omega
          have HS8:=qh hS;have Hhyy1:=qh hyy1;clear hyy1;have Hhyy2:=qh hyy2;clear hyy2;have Hhp1:=qh hp1;clear hp1;have Hhp2:=qh hp2;clear hp2;have Hhz:=qh hz;clear hz;clear hS hsu;cases z
          ·have Hnew:=qh hnew;clear hnew;go_wp2
           go_quiet (fail)
           go_wp2;go_roundw
           case rel=>exact⟨c+1,by go_num,by omega,by rw[Hnew.out];rfl,HS8.out.drewN _⟩
           case measure=>simp[intOf];omega
          by_cases he:p1=p2
          ·have g1:((p1:Int)==(p2:Int))=true:=by rw[he];simp
           have g2:((p1:Int)=(p2:Int))=True:=by simp[he]
           rw[decide_eq_true he] at hnew;have Hnew:=qh hnew;have Hhe:=qh he;clear he;clear hnew;go_wp2
           go_quiet (fail)
           go_wp2;go_roundw
           case rel=>exact⟨c+1,by go_num,by omega,by rw[Hnew.out];rfl,HS8.out.drewN _⟩
           case measure=>simp[intOf];omega
          have g1:((p1:Int)==(p2:Int))=false:=by simp;omega
          have g2:((p1:Int)=(p2:Int))=False:=by simp;omega
          rw[decide_eq_false he] at hnew;have Hnew:=qh hnew;have Hhe:=qh he;clear he;clear hnew;go_wp2
          go_quiet (fail)
          go_wp2;go_roundw
          case rel=>exact⟨c+1,by go_num,by omega,by rw[Hnew.out];rfl,HS8.out.drewN _⟩
          case measure=>simp[intOf];omega
         obtain rfl:c=3:=by omega
         have hsa:ZbD (nxD d) (C i) j k=(z0&&ZdZ d (C i) j k 3):=by rw[Zku,Hhz0.out]
         obtain⟨z,hz⟩:=eI ((z0&&ZdZ d (C i) j k 3));rw[← hz] at hsa;rw[← hz];have e7:=hS.rcell (v:=.int .i64 ((C (i+1) j:Nat):Int)) 2 j rfl (by omega) (ZaW (C (i+1)) hjk);have hCj:C (i+1) j=Zan L (nxD d) (C i) j:=by rw[Hstep.out i]
         have hCjL:C (i+1) j≤L:=by rw[hCj];have:=(ZaU (nx:=nxD d) (cl:=C i) hjL).1;omega
         obtain⟨u,hu⟩:=eI (C (i+1) j);rw[← hu] at e7 hCj hCjL;have HS8:=qh hS;have Hsa:=qh hsa;have HhCj:=qh hCj;clear hCj;have Hhu:=qh hu;clear hu;have Hhz:=qh hz;clear hz;clear hS hsa;cases z
         ·go_wp2;go_roundw
          case rel=>exact⟨j,x,rfl,by go_num,by omega,Zpr Hsa.out Hlow.out,hxL,HS8.out⟩
          case measure=>simp[intOf]
         go_wp2;go_roundw
         case rel=>exact⟨j,u,rfl,by go_num,by omega,by rw[HhCj.out];exact Zom hlt hjL Hsa.out,hCjL,HS8.out⟩
         case measure=>simp[intOf]
       obtain rfl:m=0:=by omega
       have hx:=Zon hlt hlow;rw[← Hstep.out i] at hx;rw[show(((0:Nat):Int)-1)=(-1:Int) by omega];have hcs:=ZeC k (C (i+1));rw[← hx] at hcs;have hSa:=hS.alloc_ (.cells #[.int .i64 ((x:Nat):Int)] 3);have hR:=hSa.row 2 rfl;have Hhx:=qh hx;clear hx;have Hhcs:=qh hcs;clear hcs;have HhSa:=qh hSa;clear hSa;have HhR:=qh hR;clear hR;clear hS hlow;go_wp2_with (at_builtin;refine wpList_append_lies _ rfl _ _ _ rfl _ 3 i0 (.int .i64 0) 1 8 Tryz.underlying38 Hhi.out Hhz0.out Hhz1.out Hhz2.out rfl (by omega) _ k _ rfl HhR.out ⟨wm.heap.size,0,none⟩ 1 1 [.int .i64 ((x:Nat):Int)] rfl rfl (World.news_of_block (heap_alloc_new wm _)) ZbB (by omega) (by unfold maxLen;omega) (by omega) HhSa.out.size _ rfl ?_;intro g6 c6 w6 hown6 hgrow6 hat6 hlt6;have HS6:=qh (HhSa.out.app 2 rfl hown6 hgrow6 hat6);clear hown6 hgrow6 hat6 hlt6);go_roundw
       case rel =>refine⟨k+1,g6,c6,by go_num,rfl,by omega,?_⟩;rw[Hhcs.out,Zav];exact HS6.out
       case measure=>simp[intOf];omega
     obtain rfl:L=k:=by omega
     have HS5:=qh hS;clear hS;go_wp2
     go_loopw [5,12] (fun va jk w6=>∃ k:Nat,jk = .int .i64 k∧k≤L∧va = .bool (difK (C i) (C (i+1)) k)∧St w w6 [Ent.box w.heap.size #[.slice (some ⟨b1,o1,none⟩) L cv,.slice (some ⟨b2,o2,none⟩) L cw] 44,Ent.row 3 1 (.slice (some ⟨gc,0,none⟩) L cc) L (intCells (clsL L (C i))),Ent.row 3 1 (.slice (some ⟨gn,0,none⟩) L cn) L (intCells (clsL L (C (i+1))))]) (fun _ jk _=>L-(intOf jk).toNat)
     case atStart=>exact⟨0,rfl,Nat.zero_le _,rfl,HS5.out⟩
     case round =>
      obtain⟨k,rfl,hk,rfl,hS⟩:=hrel;by_cases hlt:k<L
      ·have hlt2:(k:Int)<L:=by omega
       obtain⟨zk,hzk⟩:=eI (difK (C i) (C (i+1)) k);rw[← hzk];have HS6:=qh hS;have Hhzk:=qh hzk;clear hzk;clear hS;go_wp2
       go_loopw [5,13] (fun va jm w7=>∃ m:Nat,jm = .int .i64 m∧m≤k∧va = .bool (zk||difs (C i) (C (i+1)) k m)∧St w w7 [Ent.box w.heap.size #[.slice (some ⟨b1,o1,none⟩) L cv,.slice (some ⟨b2,o2,none⟩) L cw] 44,Ent.row 3 1 (.slice (some ⟨gc,0,none⟩) L cc) L (intCells (clsL L (C i))),Ent.row 3 1 (.slice (some ⟨gn,0,none⟩) L cn) L (intCells (clsL L (C (i+1))))]) (fun _ jm _=>k-(intOf jm).toNat)
       case atStart=>exact⟨0,rfl,Nat.zero_le _,by simp[difs],HS6.out⟩
       case round =>
        obtain⟨m,rfl,hm,rfl,hS⟩:=hrel;by_cases hmk:m<k
        ·have hmI:(m:Int)<k:=by omega
         have hmL:(m:Int)<L:=by omega
         have hsu:=Znr (C i) (C (i+1)) k m;obtain⟨z,hz⟩:=eI ((zk||difs (C i) (C (i+1)) k m));rw[← hz];have hnew:(zk||difs (C i) (C (i+1)) k (m+1))=(z||dif (C i) (C (i+1)) m k):=by rw[hsu,hz,Bool.or_assoc]
         have e1:=Hcells.out _ (hS.pick [0,1] (by decide)) m (by omega);have e2:=Hcells.out _ (hS.pick [0,1] (by decide)) k hlt;have e3:=hS.rcell (v:=.int .i64 ((C (i+1) m:Nat):Int)) 2 m rfl (by omega) (ZaW (C (i+1)) (by omega));have e4:=hS.rcell (v:=.int .i64 ((C (i+1) k:Nat):Int)) 2 k rfl (by omega) (ZaW (C (i+1)) hlt);unfold dif at hnew;obtain⟨p1,hp1⟩:=eI (C i m);obtain⟨p2,hp2⟩:=eI (C i k);obtain⟨p3,hp3⟩:=eI (C (i+1) m);obtain⟨p4,hp4⟩:=eI (C (i+1) k);rw[← hp1] at e1 hnew;rw[← hp2] at e2 hnew;rw[← hp3] at e3 hnew;rw[← hp4] at e4 hnew;have HS8:=qh hS;have Hhp1:=qh hp1;clear hp1;have Hhp2:=qh hp2;clear hp2;have Hhp3:=qh hp3;clear hp3;have Hhp4:=qh hp4;clear hp4;have Hhz:=qh hz;clear hz;clear hS hsu;cases z
         ·obtain⟨u1,hu1⟩:=eI (decide (p1=p2));obtain⟨u2,hu2⟩:=eI (decide (p3=p4));rw[← hu1,← hu2] at hnew;have g1:((p1:Int)==(p2:Int))=u1:=by rw[hu1,Bool.eq_iff_iff];simp only[beq_iff_eq,decide_eq_true_eq];omega
          have g2:decide ((p1:Int)=(p2:Int))=u1:=by rw[hu1,decide_eq_decide];omega
          have g3:((p3:Int)==(p4:Int))=u2:=by rw[hu2,Bool.eq_iff_iff];simp only[beq_iff_eq,decide_eq_true_eq];omega
          have g4:decide ((p3:Int)=(p4:Int))=u2:=by rw[hu2,decide_eq_decide];omega
          have Hnew:=qh hnew;have Hhu1:=qh hu1;clear hu1;have Hhu2:=qh hu2;clear hu2;clear hnew;cases u1<;>cases u2
          all_goals
           go_wp2
           go_quiet (fail)
           go_wp2;go_roundw
           case rel=>exact⟨m+1,by go_num,by omega,by rw[Hnew.out];rfl,HS8.out.drewN _⟩
           case measure=>simp[intOf];omega
         have Hnew:=qh hnew;clear hnew;go_wp2
         go_quiet (fail)
         go_wp2;go_roundw
         case rel=>exact⟨m+1,by go_num,by omega,by rw[Hnew.out];rfl,HS8.out.drewN _⟩
         case measure=>simp[intOf];omega
        obtain rfl:m=k:=by omega
        have hsu:=Zns (C i) (C (i+1)) m;rw[← Hhzk.out] at hsu;rw[← hsu];have HS8:=qh hS;have Hhsu:=qh hsu;clear hsu;clear hS;go_wp2;go_roundw
        case rel=>exact⟨m+1,by go_num,by omega,rfl,HS8.out⟩
        case measure=>simp[intOf];omega
      obtain rfl:L=k:=by omega
      have HS6:=qh hS;clear hS;have hdk:difK (C i) (C (i+1)) L=false↔stays L (nxD d) (enD d) i:=ZlP.trans (Hpt.out i).symm;by_cases hiN:i=N
      ·have h0:difK (C i) (C (i+1)) L=false:=by rw[hdk,hiN,hL.out];exact HNs.out
       rw[h0];have Hh0:=qh h0;clear h0 hdk;go_wp2;go_roundw
       case rel=>exact⟨i+1,_,_,false,rfl,rfl,Or.inr ⟨rfl,by omega⟩,HS6.out.pick [0,2] (by decide)⟩
       case measure =>have:=Zle L (C i);simp only[ZlH,Ze5,↓reduceIte,Bool.false_eq_true,Hm0.out];omega
      have hns:¬ stays L (nxD d) (enD d) i:=by rw[hL.out];exact HNo.out i (by omega)
      have h0:difK (C i) (C (i+1)) L=true:=by
       cases h:difK (C i) (C (i+1)) L
       ·exact absurd (hdk.1 h) hns
       rfl
      have hmore:=Hap.out i hns;rw[h0];have Hh0:=qh h0;have Hmore:=qh hmore;have Hhns:=qh hns;clear hns;clear h0 hdk hmore;go_wp2;go_roundw
      case rel=>exact⟨i+1,_,_,true,rfl,rfl,Or.inl ⟨rfl,by omega⟩,HS6.out.pick [0,2] (by decide)⟩
      case measure =>
       have h2:=ZjF (w:=wr) (b:=gn) (n:=L) (cl:=C (i+1)) fun x hx=>HS6.out.rcell 2 x rfl (by omega) (ZaW (C (i+1)) hx)
       have h3:=Hmore.out;have h4:=Zle L (C (i+1));simp only[ZlH,Ze5,↓reduceIte,Hm0.out,h2];omega
   have hcl:intCells (clsL L (C (N+1)))=intCells (clsL L (clD d)):=by rw[Ze2 Hfin.out]
   have HS3:=qh hS;have Hhcl:=qh hcl;clear hcl;clear hS;go_wp2;have HSf:=qh ((HS3.out.alloc _ rfl #[] 3).boxrow 2 0 1 [] rfl rfl (Nat.zero_le _))
   go_loopw [14,15] (fun vf jk w8=>∃ (k gf cf:Nat),jk = .int .i64 k∧vf = .slice (some ⟨gf,0,none⟩) k cf∧k≤L∧St w w8 [Ent.box w.heap.size #[.slice (some ⟨b1,o1,none⟩) L cv,.slice (some ⟨b2,o2,none⟩) L cw] 44,Ent.row 3 1 (.slice (some ⟨gc,0,none⟩) L cc) L (intCells (clsL L (C (N+1)))),Ent.row 3 1 (.slice (some ⟨gf,0,none⟩) k cf) k (intCells (clsL k (C (N+1))))]) (fun _ jk _=>L-(intOf jk).toNat)
   case atStart=>exact⟨0,_,_,rfl,rfl,Nat.zero_le _,HSf.out⟩
   case round =>
    obtain⟨k,gf,cf,rfl,rfl,hk,hS⟩:=hrel;by_cases hlt:k<L
    ·have hlt2:(k:Int)<L:=by omega
     have e1:=hS.rcell (v:=.int .i64 ((C (N+1) k:Nat):Int)) 1 k rfl (by omega) (ZaW (C (N+1)) hlt);have hnm:=ZmN (cl:=C (N+1)) Hgood.out (k:=k) hlt;have hcall:=Zhw (clsL L (C (N+1))) ((C (N+1) k:Nat):Int) (.slice (some ⟨gc,0,none⟩) L cc) wr (by rw[Zbw];omega) (hS.intsC 1 rfl);rw[hnm] at hcall;have hcs:=ZeC k (C (N+1));obtain⟨x,hx⟩:=eI (C (N+1) k);rw[← hx] at hcall hcs e1;have Hcall:=qh hcall;have HS6:=qh hS;have Hhx:=qh hx;clear hx;have Hhnm:=qh hnm;clear hnm;have Hhcs:=qh hcs;clear hcs;clear hcall hS;go_wp2_with fail;refine Hcall.out.mono ?_;rintro e w5 ⟨rfl,hb5⟩;have hSa:=(HS6.out.call hb5).alloc_ (.cells #[.int .i64 ((x:Nat):Int)] 3);have hR:=hSa.row 2 rfl;have HhSa:=qh hSa;clear hSa;have HhR:=qh hR;clear hR;clear hb5 e1 HS6;go_wp2_with (at_builtin;refine wpList_append_lies _ rfl _ _ _ rfl _ 3 i0 (.int .i64 0) 1 8 Tryz.underlying38 Hhi.out Hhz0.out Hhz1.out Hhz2.out rfl (by omega) _ k _ rfl HhR.out ⟨w5.heap.size,0,none⟩ 1 1 [.int .i64 ((x:Nat):Int)] rfl rfl (World.news_of_block (heap_alloc_new w5 _)) ZbB (by omega) (by unfold maxLen;omega) (by omega) HhSa.out.size _ rfl ?_;intro g6 c6 w6 hown6 hgrow6 hat6 hlt6;have HS6:=qh (HhSa.out.app 2 rfl hown6 hgrow6 hat6);clear hown6 hgrow6 hat6 hlt6);go_roundw
     case rel =>refine⟨k+1,g6,c6,by go_num,rfl,by omega,?_⟩;rw[Hhcs.out,Zav];exact HS6.out
     case measure=>simp[intOf];omega
    obtain rfl:L=k:=by omega
    rw[Hhcl.out] at hS;have HS6:=qh (hS.pick [2] (by decide));clear hS;go_wp2;go_ret;exact⟨gf,cf,rfl,HS6.out⟩
theorem Zef (d:DfaD) (v:Value) (w:World) (h:DfaR 0 w v d) (r:Bool) (hr:Zah d.next d.ends=r) :
  Calls Tryz.prog 46 #[v] w fun e w'=>e = .returned (.bool r)∧Below w.heap.size w w':=by
 obtain⟨v1,v2,rfl,q1,q2⟩:=h;exact Zbu d.next d.ends v1 v2 w q1 q2 r hr
theorem ZnN {d:DfaD} {F:List Int} {k x:Nat} (hx:F.getD k 0=(x:Int)) (hk:k<F.length) (hn:∀ c,c<3→dnx d (x:Int) c=(nxD d x c:Nat)) (hm:∀ c,c<3→((nxD d x c:Nat):Int)∈F) :
  (F.take (k+1)).map (Zaf (dnx d) F)=(F.take k).map (Zaf (dnx d) F)++[(List.range 3).map fun c=>ZcS F (nxD d x c:Nat)]∧(F.take (k+1)).map (den d)=(F.take k).map (den d)++[enD d x]:=by
 have e:F[k]=(x:Int):=by simpa [hk] using hx
 rw[List.take_succ_eq_append_getElem hk,e,List.map_append,List.map_append];refine⟨?_,by simp[den,enD]⟩;congr 1;simp only[List.map_cons,List.map_nil,Zaf];congr 1;refine List.map_congr_left fun c hc => ?_
 have hc:c<3:=List.mem_range.1 hc;rw[hn c hc,Zlv (hm c hc)]
theorem ZjU {α:Type} (f:Nat→α) (c:Nat):(List.range (c+1)).map f=(List.range c).map f++[f c]:=by rw[List.range_succ,List.map_append];rfl
theorem Zfb (d:DfaD) (v:Value) (w:World) (hd:Zah d.next d.ends=true) (h:DfaR 0 w v d) :
  Calls Tryz.prog 88 #[v] w fun e w'=>RD (Zbc d) w e w':=by
 have HR:=qh h;obtain⟨b1,o1,cv,b2,o2,cw,rfl,hC⟩:=ZbP hd h;obtain⟨F,hF⟩:=eI ((bat (dnx d) 0 d.next.length).met);have hpos:0<F.length:=by rw[hF];exact ZdE _
 have hFl:=(Zb7 (ZaJ hd) d.next.length).2;rw[← hF] at hFl;have hnat:=fun (k:Nat) (hk:k<F.length)=>Zpq hd (k:=k) (by rw[← hF];exact hk)
 rw[← hF] at hnat;have htr:Zbc d=⟨F.map (Zaf (dnx d) F),F.map (den d)⟩:=by unfold Zbc;rw[← hF];rfl
 rw[htr];obtain⟨L,hL⟩:=eI (d.next.length);have hl2:=hC.l2;rw[← hL] at hl2 hFl;have hS0:=((St.start w).alloc _ rfl #[.slice (some ⟨b1,o1,none⟩) L cv,.slice (some ⟨b2,o2,none⟩) L cw] 44).alloc (w.heap.size+1) (by simp) #[.slice none 0 0,.slice none 0 0] 44;rw[← hL] at HR;rw[← hL];obtain⟨i0,hi,hz0,hz1,hz2⟩:=info_parts Tryz.infoBool;obtain⟨j0,hj,hy0,hy1,hy2⟩:=info_parts Tryz.infoInt;obtain⟨k0,hk,hx0,hx1,hx2⟩:=info_parts Tryz.infoInts;have HC:=qh hC;have Hnat:=qh hnat;replace hF:=qh hF;have Hhd:=qh hd;clear hd;have HhL:=qh hL;clear hL;have HhS0:=qh hS0;clear hS0;have Hhtr:=qh htr;clear htr;have Hhi:=qh hi;clear hi;have Hhz0:=qh hz0;clear hz0;have Hhz1:=qh hz1;clear hz1;have Hhz2:=qh hz2;clear hz2;have Hhj:=qh hj;clear hj;have Hhy0:=qh hy0;clear hy0;have Hhy1:=qh hy1;clear hy1;have Hhy2:=qh hy2;clear hy2;have Hhk:=qh hk;clear hk;have Hhx0:=qh hx0;clear hx0;have Hhx1:=qh hx1;clear hx1;have Hhx2:=qh hx2;clear hx2;clear hC hnat h
 go_enter Tryz.func88, Tryz.ntmps88
 go_wp2_with fail;refine(Zef d _ _ (HR.out.below HhS0.out.bel) true Hhd.out).mono ?_;rintro e w1 ⟨rfl,hb1⟩;have hS1:=HhS0.out.call hb1;have c0:=hS1.cell (v:=.slice (some ⟨b1,o1,none⟩) L cv) 0 0 rfl rfl;have c1:=hS1.cell (v:=.slice (some ⟨b2,o2,none⟩) L cw) 0 1 rfl rfl;have HhS1:=qh hS1;clear hS1;clear hb1;go_wp2_with fail;refine(Zj5 d _ _ Hhd.out (HR.out.below HhS1.out.bel) F (by rw[hF.out])).mono ?_;rintro e w2 ⟨a,c,rfl,hS'⟩;have hS2:=HhS1.out.cat hS';obtain⟨g,cg,hv⟩:=hS2.rowform 2 rfl hpos;simp only[Value.slice.injEq,true_and] at hv;obtain⟨rfl,rfl⟩:=hv;have hS3:=(((hS2.alloc _ rfl #[.slice none 0 0,.slice none 0 0] 44).nilRow 38 1).norows 4 rfl 3).nilRow 4 1;have HhS3:=qh hS3;clear hS3;clear hS2 hS' c0 c1;go_wp2
 go_loopw [5] (fun i wr=>∃ (k:Nat) (a1 a2:Option Addr) (c1 c2:Nat) (vs:List Value),i = .int .i64 k∧k≤F.length ∧
   St w wr [Ent.box w.heap.size #[.slice (some ⟨b1,o1,none⟩) L cv,.slice (some ⟨b2,o2,none⟩) L cw] 44,Ent.box (w.heap.size+1) #[.slice none 0 0,.slice none 0 0] 44,
    Ent.row 3 1 (.slice (some ⟨g,0,none⟩) F.length c) F.length (intCells F),Ent.box w2.heap.size #[.slice a1 k c1,.slice a2 k c2] 44,
    Ent.rows 38 3 (.slice a1 k c1) vs (((F.take k).map (Zaf (dnx d) F)).map intCells),Ent.row 4 1 (.slice a2 k c2) k (boolCells ((F.take k).map (den d)))])
  (fun i _=>F.length-(intOf i).toNat)
 case atStart=>exact⟨0,none,none,0,0,[],rfl,Nat.zero_le _,HhS3.out⟩
 case round =>
  obtain⟨k,a1,a2,c1,c2,vs,rfl,hk,hS⟩:=hrel;by_cases hlt:k<F.length
  ·have hlt2:(k:Int)<F.length:=by omega
   obtain⟨x,hx,hxL,hxm⟩:=Hnat.out k hlt;have htk:=ZnN (d:=d) hx hlt (fun c hc=>HC.out.dx x c hxL hc) hxm;obtain⟨b3,o3,c3,hb3,hc3,hc3',hks,hcs3⟩:=HC.out.row x hxL;have hen:=HC.out.en x hxL;have hxI:(x:Int)<L:=by have:=HhL.out;omega
   have hSe:=(hS.alloc _ rfl #[] 3).boxrow 6 0 1 [] rfl rfl (Nat.zero_le _);obtain⟨R,hR⟩:=eI ((List.range 3).map fun c=>ZcS F (nxD d x c:Nat));rw[← hR] at htk;have htk1:=htk.1;have htk2:=htk.2;have hRs:∀ c,c<3→R.take (c+1)=R.take c++[ZcS F (nxD d x c:Nat)]:=fun c hc=>by rw[hR,List.take_succ_eq_append_getElem (by simp;omega)];simp
   have hR3:R.take 3=R:=List.take_of_length_le (by rw[hR];simp);have Hcs3:=qh hcs3;have Hen:=qh hen;have HhS:=qh hS;clear hS;have Hhx:=qh hx;clear hx;have Hhxm:=qh hxm;clear hxm;have Hhks:=qh hks;clear hks;have HhSe:=qh hSe;clear hSe;have Hhtk1:=qh htk1;clear htk1;have Hhtk2:=qh htk2;clear htk2;have HhRs:=qh hRs;clear hRs;have HhR3:=qh hR3;clear hR3;have HhR:=qh hR;clear hR;clear hcs3 hen htk;go_wp2
   go_loopw [6,7] (fun rv i wi=>∃ (n:Nat) (b4 c4:Nat),i = .int .i64 n∧rv = .slice (some ⟨b4,0,none⟩) n c4∧n≤3 ∧
     St w wi [Ent.box w.heap.size #[.slice (some ⟨b1,o1,none⟩) L cv,.slice (some ⟨b2,o2,none⟩) L cw] 44,Ent.box (w.heap.size+1) #[.slice none 0 0,.slice none 0 0] 44,
      Ent.row 3 1 (.slice (some ⟨g,0,none⟩) F.length c) F.length (intCells F),Ent.box w2.heap.size #[.slice a1 k c1,.slice a2 k c2] 44,
      Ent.rows 38 3 (.slice a1 k c1) vs (((F.take k).map (Zaf (dnx d) F)).map intCells),Ent.row 4 1 (.slice a2 k c2) k (boolCells ((F.take k).map (den d))),
      Ent.row 3 1 (.slice (some ⟨b4,0,none⟩) n c4) n (intCells (R.take n))])
    (fun _ i _=>3-(intOf i).toNat)
   case atStart=>exact⟨0,_,_,rfl,rfl,by omega,HhSe.out⟩
   case round =>
    obtain⟨n,b4,c4,rfl,rfl,hn3,hSi⟩:=hrel;obtain⟨wo,hwo⟩:∃ wo:World,wo=wr:=⟨_,rfl⟩;subst hwo;by_cases hn:n<3
    ·have hn2:(n:Int)<3:=by omega
     have e0:=hSi.cell (v:=.slice (some ⟨b1,o1,none⟩) L cv) 0 0 rfl rfl;have e1:=hSi.rcell (v:=.int .i64 (x:Int)) 2 k rfl (by omega) (by rw[← Hhx.out];simp[intCells,hlt]);have e2:=(bcell hSi.bel b1 _ HC.out.hb1).trans Hhks.out;have e3:=(bcell hSi.bel b3 _ hb3).trans (Hcs3.out n hn);have hname:=fun (w':World) (hb:Below w.heap.size w w') (h2:Ints 0 w' (.slice (some ⟨g,0,none⟩) F.length c) F)=>Zhw F (nxD d x n:Nat) (.slice (some ⟨g,0,none⟩) F.length c) w' (by omega) h2
     have hrs:=HhRs.out n hn;obtain⟨y,hy⟩:=eI (nxD d x n);rw[← hy] at e3 hname hrs;obtain⟨z,hz⟩:=eI (ZcS F (y:Nat));rw[← hz] at hname hrs;have Hname:=qh hname;have HhSi:=qh hSi;clear hSi;have Hhy:=qh hy;clear hy;have Hhz:=qh hz;clear hz;have Hhrs:=qh hrs;clear hrs;clear hname;go_wp2
     go_region_law (first
      | (go_simp;go_at_call 128;refine(Hname.out _ HhSi.out.drew.bel (HhSi.out.drew.intsR 2 rfl)).mono ?_;rintro e u ⟨rfl,hq0⟩;have HSu:=qh ((HhSi.out.drew.call hq0).alloc_ (.cells #[.int .i64 z] 3));clear hq0)
      | (refine step_append_lies _ (by rfl) _ _ _ (by rfl) w.heap.size 3 j0 (.int .i64 0) 1 8 Tryz.underlying38 Hhj.out Hhy0.out Hhy1.out Hhy2.out (by rfl) (by omega) (.slice (some ⟨b4,0,none⟩) n c4) n (intCells (R.take n)) (by rfl) (HSu.out.row 6 rfl) ⟨u.heap.size,0,none⟩ 1 1 [.int .i64 z] (by rfl) (by rfl) (World.news_of_block (heap_alloc_new u _)) ZbB (by omega) (by unfold maxLen;omega) (by omega) HSu.out.size (u.heap.size+1) (by simp) ?_;intro g7 c7 w7 hown7 hgrow7 hat7 hlt7;have HS7:=qh (HSu.out.app 6 rfl hown7 hgrow7 (by rw[World.size_alloc];exact hat7));clear hown7 hgrow7 hat7))
     all_goals
      go_wp2;go_roundw
      case rel =>refine⟨n+1,g7,c7,by go_num,rfl,by omega,?_⟩;rw[Hhrs.out,Zav];exact HS7.out
      case measure=>simp[intOf];omega
    obtain rfl:n=3:=by omega
    rw[HhR3.out] at hSi;have hlm:(((F.take k).map (Zaf (dnx d) F)).map intCells).length=k:=by rw[Zcj,List.length_take];omega
    have hSa:=hSi.alloc_ (.cells #[.slice (some ⟨b4,0,none⟩) 3 c4] 38);have hRw:=(hSa.rows 4 rfl).1;rw[hlm] at hRw;have e0:=hSi.cell (v:=.slice a1 k c1) 3 0 rfl rfl;have Hhlm:=qh hlm;clear hlm;have HhSi:=qh hSi;clear hSi;have HhSa:=qh hSa;clear hSa;have HhRw:=qh hRw;clear hRw;go_wp2_with (at_builtin;refine wpList_append_lies _ rfl _ _ _ rfl _ 38 k0 (.slice none 0 0) 1 24 Tryz.underlying41 Hhk.out Hhx0.out Hhx1.out Hhx2.out rfl (by omega) _ k _ rfl HhRw.out ⟨wo.heap.size,0,none⟩ 1 1 [.slice (some ⟨b4,0,none⟩) 3 c4] rfl rfl (World.news_of_block (heap_alloc_new wo _)) Zcw (by omega) (by unfold maxLen;omega) (by omega) HhSa.out.size _ rfl ?_;intro g6 c6 w6 hown6 hgrow6 hat6 hlt6;have HS6:=qh (HhSa.out.snoc 4 6 (by decide) rfl rfl (by decide) hgrow6 (by rw[Hhlm.out];exact hown6) (Zfh hat6));have y1:=HS6.out.cell (v:=.slice a1 k c1) 3 0 rfl rfl;have y2:=HS6.out.fr 3 0 rfl;clear hown6 hgrow6 hat6 hlt6);have hSq:=(HS6.out.set 3 rfl 0 (.slice (some ⟨g6,0,none⟩) (k+1) c6)).pick [0,1,2,3,4,5] (by decide);obtain⟨wq,hwq⟩:=eI (w6.setCell ⟨w2.heap.size,0,none⟩ (.slice (some ⟨g6,0,none⟩) (k+1) c6));rw[← hwq] at hSq
    have hSq':St w wq [Ent.box w.heap.size #[.slice (some ⟨b1,o1,none⟩) L cv,.slice (some ⟨b2,o2,none⟩) L cw] 44,Ent.box (w.heap.size+1) #[.slice none 0 0,.slice none 0 0] 44,
      Ent.row 3 1 (.slice (some ⟨g,0,none⟩) F.length c) F.length (intCells F),Ent.box w2.heap.size #[.slice (some ⟨g6,0,none⟩) (k+1) c6,.slice a2 k c2] 44,
      Ent.rows 38 3 (.slice (some ⟨g6,0,none⟩) (k+1) c6) (vs++[.slice (some ⟨b4,0,none⟩) 3 c4]) (((F.take (k+1)).map (Zaf (dnx d) F)).map intCells),Ent.row 4 1 (.slice a2 k c2) k (boolCells ((F.take k).map (den d)))]:=by
     rw[Hhtk1.out,List.map_append];exact hSq
    rw[← hwq];have q0:=hSq'.cell (v:=.slice (some ⟨b2,o2,none⟩) L cw) 0 1 rfl rfl;have q1:=hSq'.rcell (v:=.int .i64 (x:Int)) 2 k rfl (by omega) (by rw[← Hhx.out];simp[intCells,hlt]);have q2:=(bcell hSq'.bel b2 _ HC.out.hb2).trans Hen.out;have q3:=hSq'.cell (v:=.slice a2 k c2) 3 1 rfl rfl;obtain⟨r,hr⟩:=eI (enD d x);rw[← hr] at q2;have hxk:(intCells F)[k]? = some (.int .i64 (x:Int)):=by rw[← Hhx.out];simp[intCells,hlt]
    have hr2:w.cell? ⟨b2,o2+x,none⟩=some (.bool r):=by rw[hr];exact Hen.out
    have HSq:=qh hSq';have Hhwq:=qh hwq;clear hwq;have Hhr:=qh hr;clear hr;have Hhxk:=qh hxk;clear hxk;have Hhr2:=qh hr2;clear hr2;clear hSq hSq' y1 y2 e0 HS6 q0 q1 q2 q3;refine wp_region_any (by kernel_rfl) ?_
    refine Zar (fun A listed a w'=>∃ (l0 l1 l2 l3 l4 l5 l6 l7 l8 l9 l10 l11 l12 l13:Bool) (g7:Nat) (c7:Nat) (bn:Nat),listed=#[l0,l1,l2,l3,l4,l5,l6,l7,l8,l9,l10,l11,l12,l13]∧(l11=true→l1=true∧l10=true)∧(l13=true→l11=true∧l1=true) ∧
      a=⟨(((((((((((((A.tmps.setIfInBounds 48 (if l0=true then .pointer (some ⟨w2.heap.size,1,none⟩) else A.tmps.getD 48 undef)).setIfInBounds 49 (if l1=true then .slice a2 k c2 else A.tmps.getD 49 undef)).setIfInBounds 50 (if l2=true then .pointer (some ⟨w.heap.size,1,none⟩) else A.tmps.getD 50 undef)).setIfInBounds 51 (if l3=true then .slice (some ⟨b2,o2,none⟩) L cw else A.tmps.getD 51 undef)).setIfInBounds 52 (if l4=true then .slice (some ⟨g,0,none⟩) F.length c else A.tmps.getD 52 undef)).setIfInBounds 53 (if l5=true then .int .i64 (k:Int) else A.tmps.getD 53 undef)).setIfInBounds 54 (if l6=true then .pointer (some ⟨g,k,none⟩) else A.tmps.getD 54 undef)).setIfInBounds 55 (if l7=true then .int .i64 (x:Int) else A.tmps.getD 55 undef)).setIfInBounds 56 (if l8=true then .pointer (some ⟨b2,o2+x,none⟩) else A.tmps.getD 56 undef)).setIfInBounds 57 (if l9=true then .bool r else A.tmps.getD 57 undef)).setIfInBounds 58 (if l10=true then .slice (some ⟨bn,0,none⟩) 1 1 else A.tmps.getD 58 undef)).setIfInBounds 59 (if l11=true then .slice (some ⟨g7,0,none⟩) (k+1) c7 else A.tmps.getD 59 undef)).setIfInBounds 60 (if l12=true then .pointer (some ⟨w2.heap.size,1,none⟩) else A.tmps.getD 60 undef)),A.defers⟩ ∧
      St w w' [Ent.box w.heap.size #[.slice (some ⟨b1,o1,none⟩) L cv,.slice (some ⟨b2,o2,none⟩) L cw] 44,Ent.box (w.heap.size+1) #[.slice none 0 0,.slice none 0 0] 44,Ent.row 3 1 (.slice (some ⟨g,0,none⟩) F.length c) F.length (intCells F),Ent.box w2.heap.size #[.slice (some ⟨g6,0,none⟩) (k+1) c6,(if l13=true then .slice (some ⟨g7,0,none⟩) (k+1) c7 else .slice a2 k c2)] 44,Ent.rows 38 3 (.slice (some ⟨g6,0,none⟩) (k+1) c6) (vs++[.slice (some ⟨b4,0,none⟩) 3 c4]) (((F.take (k+1)).map (Zaf (dnx d) F)).map intCells),(if l11=true then Ent.row 4 1 (.slice (some ⟨g7,0,none⟩) (k+1) c7) (k+1) ((boolCells ((F.take k).map (den d)))++[.bool r]) else Ent.row 4 1 (.slice a2 k c2) k (boolCells ((F.take k).map (den d)))),(if l10=true then Ent.box bn #[.bool r] 4 else Ent.nil)]) ?_ ?_ ?_
    ·rintro listed a w' ⟨l0,l1,l2,l3,l4,l5,l6,l7,l8,l9,l10,l11,l12,l13,g7,c7,bn,rfl,hd11,hd13,rfl,hS⟩ i hi;obtain⟨hun,o,ho,hall⟩:=mem_ready.1 hi;have hlt:=(Array.getElem?_eq_some_iff.1 ho).1;refine wpOp_step ho (fun K hK => ?_);clear hi;have HS:=qh hS;clear hS;simp only[w_1,w_2,w_3,w_4,w_5,w_6,w_7,w_8];obtain h|h|h|h|h|h|h|h|h|h|h|h|h|h:i=0∨i=1∨i=2∨i=3∨i=4∨i=5∨i=6∨i=7∨i=8∨i=9∨i=10∨i=11∨i=12∨i=13:=by simp at hlt;omega
     all_goals subst h
     all_goals simp only[w_5,w_6,w_7,w_9] at ho
     all_goals subst ho
     all_goals simp[Region.binds] at hun hall
     ·subst hun;go_simp;exact hK _ _ ⟨_,_,_,_,_,_,_,_,_,_,_,_,_,_,g7,c7,bn,rfl,hd11,hd13,(by simp),HS.out⟩
     ·obtain rfl:=hall;subst hun;obtain rfl:l11=false:=offL hd11 rfl;obtain rfl:l13=false:=offL hd13 rfl;have e0:=HS.out.cell (v:=.slice a2 k c2) 3 1 rfl rfl;go_simp;exact hK _ _ ⟨_,_,_,_,_,_,_,_,_,_,_,_,_,_,g7,c7,bn,rfl,by simp,by simp,(by simp),HS.out⟩
     ·subst hun;go_simp;exact hK _ _ ⟨_,_,_,_,_,_,_,_,_,_,_,_,_,_,g7,c7,bn,rfl,hd11,hd13,(by simp),HS.out⟩
     ·obtain rfl:=hall;subst hun;have e0:=HS.out.cell (v:=.slice (some ⟨b2,o2,none⟩) L cw) 0 1 rfl rfl;go_simp;exact hK _ _ ⟨_,_,_,_,_,_,_,_,_,_,_,_,_,_,g7,c7,bn,rfl,hd11,hd13,(by simp),HS.out⟩
     ·subst hun;go_simp;exact hK _ _ ⟨_,_,_,_,_,_,_,_,_,_,_,_,_,_,g7,c7,bn,rfl,hd11,hd13,(by simp),HS.out⟩
     ·subst hun;go_simp;exact hK _ _ ⟨_,_,_,_,_,_,_,_,_,_,_,_,_,_,g7,c7,bn,rfl,hd11,hd13,(by simp),HS.out⟩
     ·obtain⟨rfl,rfl⟩:=hall;subst hun;go_simp;exact hK _ _ ⟨_,_,_,_,_,_,_,_,_,_,_,_,_,_,g7,c7,bn,rfl,hd11,hd13,(by simp),HS.out⟩
     ·obtain rfl:=hall;subst hun;have e0:=HS.out.rcell (v:=.int .i64 (x:Int)) 2 k rfl (by omega) Hhxk.out;go_simp;exact hK _ _ ⟨_,_,_,_,_,_,_,_,_,_,_,_,_,_,g7,c7,bn,rfl,hd11,hd13,(by simp),HS.out⟩
     ·obtain⟨rfl,rfl⟩:=hall;subst hun;go_simp;exact hK _ _ ⟨_,_,_,_,_,_,_,_,_,_,_,_,_,_,g7,c7,bn,rfl,hd11,hd13,(by simp),HS.out⟩
     ·obtain rfl:=hall;subst hun;have e0:=(bcell HS.out.bel b2 _ HC.out.hb2).trans Hhr2.out;go_simp;exact hK _ _ ⟨_,_,_,_,_,_,_,_,_,_,_,_,_,_,g7,c7,bn,rfl,hd11,hd13,(by simp),HS.out⟩
     ·obtain rfl:=hall;subst hun;obtain rfl:l11=false:=offR hd11 rfl;obtain rfl:l13=false:=offL hd13 rfl;have hS2:=(HS.out.alloc _ rfl #[.bool r] 4).pick [0,1,2,3,4,5,7] (by decide);have HhS2:=qh hS2;clear hS2;go_simp;exact hK _ _ ⟨_,_,_,_,_,_,_,_,_,_,_,_,_,_,g7,c7,_,rfl,by simp,by simp,(by simp),HhS2.out⟩
     ·obtain⟨rfl,rfl⟩:=hall;subst hun;obtain rfl:l13=false:=offL hd13 rfl;refine step_append_lies (a:=⟨_,_⟩) _ (by rfl) _ _ _ (by rfl) w.heap.size 4 i0 (.bool false) 1 1 Tryz.underlying42 Hhi.out Hhz0.out Hhz1.out Hhz2.out (by rfl) (by omega) (.slice a2 k c2) k (boolCells ((F.take k).map (den d))) (by rfl) (HS.out.row 5 rfl) ⟨bn,0,none⟩ 1 1 [.bool r] (by rfl) (by rfl) (World.news_of_block (HS.out.box 6 rfl)) Zbb (by omega) (by unfold maxLen;omega) (by omega) HS.out.size _ rfl ?_;intro g8 c8 w8 hown8 hgrow8 hat8 hlt8;have HS8:=qh (HS.out.app 5 rfl hown8 hgrow8 hat8);clear hown8 hgrow8 hat8;go_simp;exact hK _ _ ⟨_,_,_,_,_,_,_,_,_,_,_,_,_,_,g8,c8,bn,rfl,by simp,by simp,(by simp),HS8.out⟩
     ·obtain⟨rfl,rfl,rfl,rfl,rfl,rfl,rfl,rfl,rfl,rfl,rfl,rfl⟩:=hall;subst hun;go_simp;exact hK _ _ ⟨_,_,_,_,_,_,_,_,_,_,_,_,_,_,g7,c7,bn,rfl,by simp,hd13,(by simp only[↓reduceIte,w_1,w_2,w_3]),HS.out⟩
     obtain⟨rfl,rfl,rfl,rfl,rfl,rfl,rfl,rfl,rfl,rfl,rfl,rfl,rfl,-⟩:=hall;subst hun;have f0:=HS.out.fr 3 1 rfl;have k0:=HS.out.cell (v:=.slice a2 k c2) 3 1 rfl rfl;go_simp;exact hK _ _ ⟨_,_,_,_,_,_,_,_,_,_,_,_,_,_,g7,c7,bn,rfl,by simp,by simp,(by simp only[↓reduceIte,w_1,w_2,w_3]),(HS.out.set 3 rfl 1 (.slice (some ⟨g7,0,none⟩) (k+1) c7))⟩
    ·rintro listed a w' ⟨l0,l1,l2,l3,l4,l5,l6,l7,l8,l9,l10,l11,l12,l13,g7,c7,bn,rfl,hd11,hd13,rfl,hS⟩ hr;obtain⟨rfl,rfl,rfl,rfl,rfl,rfl,rfl,rfl,rfl,rfl,rfl,rfl,rfl,rfl,-⟩:=zA (Zbo (by kernel_rfl) rfl hr) rfl;clear hr hd11 hd13;simp only[↓reduceIte] at hS ⊢;simp only[w_1,w_2,w_3];have hS9:=hS.pick [0,1,2,3,4,5] (by decide);have HhS9:=qh hS9;clear hS9;clear hS;go_wp2;go_roundw
     case rel =>refine⟨k+1,some ⟨g6,0,none⟩,some ⟨g7,0,none⟩,c6,c7,vs++[.slice (some ⟨b4,0,none⟩) 3 c4],by go_num,by omega,?_⟩;rw[Hhtk2.out,Zbs,← Hhr.out];exact HhS9.out
     case measure=>simp[intOf];omega
    refine⟨false,false,false,false,false,false,false,false,false,false,false,false,false,false,0,0,0,rfl,by simp,by simp,(by simp),?_⟩;exact HSq.out.drew.pick [0,1,2,3,4,5,6] (by decide)
  obtain rfl:k=F.length:=by omega
  rw[List.take_length] at hS;have d0:=hS.cell (v:=.slice a1 F.length c1) 3 0 rfl rfl;have d1:=hS.cell (v:=.slice a2 F.length c2) 3 1 rfl rfl;have f0:=hS.fr 1 0 rfl;have f1:=hS.fr 1 1 rfl;have k0:=hS.cell (v:=.slice none 0 0) 1 0 rfl rfl;have k1:=hS.cell (v:=.slice none 0 0) 1 1 rfl rfl;have HhS:=qh hS;clear hS;go_wp2;have hq:=(HhS.out.set 1 rfl 0 (.slice a1 F.length c1)).set 1 rfl 1 (.slice a2 F.length c2);have q0:=hq.cell (v:=.slice a1 F.length c1) 1 0 rfl rfl;have q1:=hq.cell (v:=.slice a2 F.length c2) 1 1 rfl rfl;refine bodyPost_ret (v:=.agg #[.slice a1 F.length c1,.slice a2 F.length c2]) (by simp[results,Tryz.results88,go_sem,q0,q1]) rfl ?_;refine⟨a1,c1,a2,c2,by simp only[List.length_map],⟨.slice a1 F.length c1,.slice a2 F.length c2,by simp only[List.length_map],(hq.intSS 4 rfl).intSS,?_⟩,hq.bel⟩;exact ZaX (hq.row 5 rfl)
theorem Zbd (d:DfaD) (v:Value) (w:World) (hd:Zah d.next d.ends=true) (h:DfaR 0 w v d) :
  Calls Tryz.prog 47 #[v] w fun e w'=>RD (Zak d) w e w':=by
 have HR:=qh h;obtain⟨v1,v2,rfl,-,-⟩:=h;obtain⟨X,hX⟩:=eI (Zbc d);have hXo:=(ZjI hd).1;rw[← hX] at hXo;have hsm:Zak d=Zbc (ZcM X):=by unfold Zak;rw[hX]
 rw[hsm];have hfo:=Znj hXo;have hS0:=((St.start w).alloc _ rfl #[v1,v2] 44).alloc (w.heap.size+1) (by simp) #[.slice none 0 0,.slice none 0 0] 44;obtain⟨i0,hi,hz0,hz1,hz2⟩:=info_parts Tryz.infoBool;obtain⟨j0,hj,hy0,hy1,hy2⟩:=info_parts Tryz.infoInt;obtain⟨k0,hk,hx0,hx1,hx2⟩:=info_parts Tryz.infoInts;obtain⟨fr,hfr⟩:∃ fr:Nat→List Int,fr=fun k=>(List.range 3).map fun c=>((clD X (nxD X k c):Nat):Int):=⟨_,rfl⟩
 have hfd:ZcM X=⟨(List.range X.next.length).map fr,X.ends⟩:=by unfold ZcM;rw[hfr]
 have hfT:∀ k c,c<3→(fr k).take (c+1)=(fr k).take c++[((clD X (nxD X k c):Nat):Int)]:=fun k c hc=>by rw[hfr,List.take_succ_eq_append_getElem (by simp;omega)];simp
 have hf3:∀ k,(fr k).take 3=fr k:=fun k=>List.take_of_length_le (by rw[hfr];simp)
 have HfT:=qh hfT;have Hf3:=qh hf3;replace hd:=qh hd;replace hX:=qh hX;have Hhsm:=qh hsm;clear hsm;have Hhfo:=qh hfo;clear hfo;have Hhfr:=qh hfr;clear hfr;have Hhfd:=qh hfd;clear hfd;replace hS0:=qh hS0;have Hhi:=qh hi;clear hi;have Hhz0:=qh hz0;clear hz0;have Hhz1:=qh hz1;clear hz1;have Hhz2:=qh hz2;clear hz2;have Hhj:=qh hj;clear hj;have Hhy0:=qh hy0;clear hy0;have Hhy1:=qh hy1;clear hy1;have Hhy2:=qh hy2;clear hy2;have Hhk:=qh hk;clear hk;have Hhx0:=qh hx0;clear hx0;have Hhx1:=qh hx1;clear hx1;have Hhx2:=qh hx2;clear hx2;clear hfT hf3
 go_enter Tryz.func47, Tryz.ntmps47
 have e0:=hS0.out.cell (v:=v1) 0 0 rfl rfl;have e1:=hS0.out.cell (v:=v2) 0 1 rfl rfl;go_wp2_with fail;refine(Zfb d _ _ hd.out (HR.out.below hS0.out.bel)).mono ?_;rintro e w1 ⟨a1,c1,a2,c2,rfl,hDR,hb1⟩;replace hDR:=hDR.mono (Nat.zero_le _);rw[← hX.out] at hDR;rw[← hX.out];obtain⟨b1,o1,cv,b2,o2,cw,hv,hC⟩:=ZbP hXo hDR;rw[hv] at hDR;rw[hv];have hSr:=hS0.out.call hb1;obtain⟨L,hL⟩:=eI (X.next.length);have hl1:=hC.l1;have hl2:=hC.l2;rw[← hL] at hDR hl1 hl2;rw[← hL];have hS1:=(St.start w1).alloc _ rfl #[.slice (some ⟨b1,o1,none⟩) L cv,.slice (some ⟨b2,o2,none⟩) L cw] 44;have HDR:=qh hDR;have HC:=qh hC;have HSr:=qh hSr;have HS1:=qh hS1;replace hL:=qh hL;have HhXo:=qh hXo;clear hXo;have d0:=hS1.cell (v:=.slice (some ⟨b1,o1,none⟩) L cv) 0 0 rfl rfl;have d1:=hS1.cell (v:=.slice (some ⟨b2,o2,none⟩) L cw) 0 1 rfl rfl;clear hSr hS1 hDR hC hv hb1 e0 e1;go_wp2_with fail;refine(Zg7 X _ _ HhXo.out (HDR.out.below HS1.out.bel)).mono ?_;unfold RCl;rw[← hL.out];rintro e w2 ⟨g,cg,rfl,hS'⟩;have hS2:=HS1.out.cat hS';have hS3:=(((hS2.alloc _ rfl #[.slice none 0 0,.slice none 0 0] 44).nilRow 38 1).norows 3 rfl 3).nilRow 4 1;have HS3:=qh hS3;clear hS2 hS3 hS' d0 d1;go_wp2
 go_loopw [6] (fun i wr=>∃ (k:Nat) (a1 a2:Option Addr) (c1 c2:Nat) (vs:List Value),i = .int .i64 k∧k≤L ∧
   St w1 wr [Ent.box w1.heap.size #[.slice (some ⟨b1,o1,none⟩) L cv,.slice (some ⟨b2,o2,none⟩) L cw] 44,Ent.row 3 1 (.slice (some ⟨g,0,none⟩) L cg) L (intCells (clsL L (clD X))),Ent.box w2.heap.size #[.slice a1 k c1,.slice a2 k c2] 44,
    Ent.rows 38 3 (.slice a1 k c1) vs (((List.range k).map fr).map intCells),Ent.row 4 1 (.slice a2 k c2) k (boolCells (X.ends.take k))])
  (fun i _=>L-(intOf i).toNat)
 case atStart=>exact⟨0,none,none,0,0,[],rfl,Nat.zero_le _,HS3.out⟩
 case round =>
  obtain⟨k,a1,a2,c1,c2,vs,rfl,hk,hS⟩:=hrel;have d0:=hS.cell (v:=.slice (some ⟨b1,o1,none⟩) L cv) 0 0 rfl rfl;by_cases hlt:k<L
  ·have hlt2:(k:Int)<L:=by omega
   have hkn:k<X.next.length:=by have:=hL.out;omega
   obtain⟨b3,o3,c3,hb3,hc3,hc3',hks,hcs3⟩:=HC.out.row k hkn;have hen:=HC.out.en k hkn;have hSe:=(hS.alloc _ rfl #[] 3).boxrow 5 0 1 [] rfl rfl (Nat.zero_le _);have htk1:=ZjU fr k;have htk2:X.ends.take (k+1)=X.ends.take k++[enD X k]:=by rw[List.take_succ_eq_append_getElem (by have:=HC.out.le;omega)];simp[enD,show k<X.ends.length by have:=HC.out.le;omega]
   have Hcs3:=qh hcs3;have Hen:=qh hen;have HhS:=qh hS;clear hS;have Hhks:=qh hks;clear hks;have HhSe:=qh hSe;clear hSe;have Hhtk1:=qh htk1;clear htk1;have Hhtk2:=qh htk2;clear htk2;clear hcs3 hen;go_wp2
   go_loopw [7,8] (fun rv i wi=>∃ (n:Nat) (b4 c4:Nat),i = .int .i64 n∧rv = .slice (some ⟨b4,0,none⟩) n c4∧n≤3 ∧
     St w1 wi [Ent.box w1.heap.size #[.slice (some ⟨b1,o1,none⟩) L cv,.slice (some ⟨b2,o2,none⟩) L cw] 44,Ent.row 3 1 (.slice (some ⟨g,0,none⟩) L cg) L (intCells (clsL L (clD X))),Ent.box w2.heap.size #[.slice a1 k c1,.slice a2 k c2] 44,
      Ent.rows 38 3 (.slice a1 k c1) vs (((List.range k).map fr).map intCells),Ent.row 4 1 (.slice a2 k c2) k (boolCells (X.ends.take k)),
      Ent.row 3 1 (.slice (some ⟨b4,0,none⟩) n c4) n (intCells ((fr k).take n))])
    (fun _ i _=>3-(intOf i).toNat)
   case atStart=>exact⟨0,_,_,rfl,rfl,by omega,HhSe.out⟩
   case round =>
    obtain⟨n,b4,c4,rfl,rfl,hn3,hSi⟩:=hrel;obtain⟨wo,hwo⟩:∃ wo:World,wo=wr:=⟨_,rfl⟩;subst hwo;by_cases hn:n<3
    ·have hn2:(n:Int)<3:=by omega
     have e0:=hSi.cell (v:=.slice (some ⟨b1,o1,none⟩) L cv) 0 0 rfl rfl;have e2:=(bcell hSi.bel b1 _ HC.out.hb1).trans Hhks.out;have e3:=(bcell hSi.bel b3 _ hb3).trans (Hcs3.out n hn);have hyl:=HC.out.lt k n hkn hn;rw[← hL.out] at hyl;have hT:=HfT.out k n hn;obtain⟨y,hy⟩:=eI (nxD X k n);rw[← hy] at e3 hyl hT;have e4:=hSi.rcell (v:=.int .i64 ((clD X y:Nat):Int)) 1 y rfl (by omega) (ZaW (clD X) hyl);obtain⟨z,hz⟩:=eI (clD X y);rw[← hz] at e4 hT;have hyI:(y:Int)<L:=by omega
     have hSa:=hSi.alloc_ (.cells #[.int .i64 ((z:Nat):Int)] 3);have hR:=hSa.row 5 rfl;have HhSi:=qh hSi;clear hSi;have HhSa:=qh hSa;clear hSa;have HhR:=qh hR;clear hR;have Hhy:=qh hy;clear hy;have Hhz:=qh hz;clear hz;have HhT:=qh hT;clear hT;go_wp2_with (at_builtin;refine wpList_append_lies _ rfl _ _ _ rfl _ 3 j0 (.int .i64 0) 1 8 Tryz.underlying38 Hhj.out Hhy0.out Hhy1.out Hhy2.out rfl (by omega) _ n _ rfl HhR.out ⟨wo.heap.size,0,none⟩ 1 1 [.int .i64 ((z:Nat):Int)] rfl rfl (World.news_of_block (heap_alloc_new wo _)) ZbB (by omega) (by unfold maxLen;omega) (by omega) HhSa.out.size _ rfl ?_;intro g7 c7 w7 hown7 hgrow7 hat7 hlt7;have HS7:=qh (HhSa.out.app 5 rfl hown7 hgrow7 hat7);clear hown7 hgrow7 hat7 hlt7);go_roundw
     case rel =>refine⟨n+1,g7,c7,by go_num,rfl,by omega,?_⟩;rw[HhT.out,Zav];exact HS7.out
     case measure=>simp[intOf];omega
    obtain rfl:n=3:=by omega
    rw[Hf3.out] at hSi;have hlm:(((List.range k).map fr).map intCells).length=k:=by simp
    have hSa:=hSi.alloc_ (.cells #[.slice (some ⟨b4,0,none⟩) 3 c4] 38);have hRw:=(hSa.rows 3 rfl).1;rw[hlm] at hRw;have e0:=hSi.cell (v:=.slice a1 k c1) 2 0 rfl rfl;have Hhlm:=qh hlm;clear hlm;have HhSi:=qh hSi;clear hSi;have HhSa:=qh hSa;clear hSa;have HhRw:=qh hRw;clear hRw;go_wp2_with (at_builtin;refine wpList_append_lies _ rfl _ _ _ rfl _ 38 k0 (.slice none 0 0) 1 24 Tryz.underlying41 Hhk.out Hhx0.out Hhx1.out Hhx2.out rfl (by omega) _ k _ rfl HhRw.out ⟨wo.heap.size,0,none⟩ 1 1 [.slice (some ⟨b4,0,none⟩) 3 c4] rfl rfl (World.news_of_block (heap_alloc_new wo _)) Zcw (by omega) (by unfold maxLen;omega) (by omega) HhSa.out.size _ rfl ?_;intro g6 c6 w6 hown6 hgrow6 hat6 hlt6;have HS6:=qh (HhSa.out.snoc 3 5 (by decide) rfl rfl (by decide) hgrow6 (by rw[Hhlm.out];exact hown6) (Zfh hat6));have y1:=HS6.out.cell (v:=.slice a1 k c1) 2 0 rfl rfl;have y2:=HS6.out.fr 2 0 rfl;clear hown6 hgrow6 hat6 hlt6);have hSq:=(HS6.out.set 2 rfl 0 (.slice (some ⟨g6,0,none⟩) (k+1) c6)).pick [0,1,2,3,4] (by decide);obtain⟨wq,hwq⟩:=eI (w6.setCell ⟨w2.heap.size,0,none⟩ (.slice (some ⟨g6,0,none⟩) (k+1) c6));rw[← hwq] at hSq
    have hSq':St w1 wq [Ent.box w1.heap.size #[.slice (some ⟨b1,o1,none⟩) L cv,.slice (some ⟨b2,o2,none⟩) L cw] 44,Ent.row 3 1 (.slice (some ⟨g,0,none⟩) L cg) L (intCells (clsL L (clD X))),Ent.box w2.heap.size #[.slice (some ⟨g6,0,none⟩) (k+1) c6,.slice a2 k c2] 44,
      Ent.rows 38 3 (.slice (some ⟨g6,0,none⟩) (k+1) c6) (vs++[.slice (some ⟨b4,0,none⟩) 3 c4]) (((List.range (k+1)).map fr).map intCells),Ent.row 4 1 (.slice a2 k c2) k (boolCells (X.ends.take k))]:=by
     rw[Hhtk1.out,List.map_append];exact hSq
    rw[← hwq];obtain⟨r,hr⟩:=eI (enD X k);have hr2:w1.cell? ⟨b2,o2+k,none⟩=some (.bool r):=by rw[hr];exact Hen.out
    have HSq:=qh hSq';have Hhwq:=qh hwq;clear hwq;have Hhr:=qh hr;clear hr;have Hhr2:=qh hr2;clear hr2;clear hSq hSq' y1 y2 e0 HS6;refine wp_region_any (by kernel_rfl) ?_
    refine Zar (fun A listed a w'=>∃ (l0 l1 l2 l3 l4 l5 l6 l7 l8 l9 l10:Bool) (g7:Nat) (c7:Nat) (bn:Nat),listed=#[l0,l1,l2,l3,l4,l5,l6,l7,l8,l9,l10]∧(l8=true→l1=true∧l7=true)∧(l10=true→l8=true∧l1=true) ∧
      a=⟨((((((((((A.tmps.setIfInBounds 46 (if l0=true then .pointer (some ⟨w2.heap.size,1,none⟩) else A.tmps.getD 46 undef)).setIfInBounds 47 (if l1=true then .slice a2 k c2 else A.tmps.getD 47 undef)).setIfInBounds 48 (if l2=true then .pointer (some ⟨w1.heap.size,1,none⟩) else A.tmps.getD 48 undef)).setIfInBounds 49 (if l3=true then .slice (some ⟨b2,o2,none⟩) L cw else A.tmps.getD 49 undef)).setIfInBounds 50 (if l4=true then .int .i64 (k:Int) else A.tmps.getD 50 undef)).setIfInBounds 51 (if l5=true then .pointer (some ⟨b2,o2+k,none⟩) else A.tmps.getD 51 undef)).setIfInBounds 52 (if l6=true then .bool r else A.tmps.getD 52 undef)).setIfInBounds 53 (if l7=true then .slice (some ⟨bn,0,none⟩) 1 1 else A.tmps.getD 53 undef)).setIfInBounds 54 (if l8=true then .slice (some ⟨g7,0,none⟩) (k+1) c7 else A.tmps.getD 54 undef)).setIfInBounds 55 (if l9=true then .pointer (some ⟨w2.heap.size,1,none⟩) else A.tmps.getD 55 undef)),A.defers⟩ ∧
      St w1 w' [Ent.box w1.heap.size #[.slice (some ⟨b1,o1,none⟩) L cv,.slice (some ⟨b2,o2,none⟩) L cw] 44,Ent.row 3 1 (.slice (some ⟨g,0,none⟩) L cg) L (intCells (clsL L (clD X))),Ent.box w2.heap.size #[.slice (some ⟨g6,0,none⟩) (k+1) c6,(if l10=true then .slice (some ⟨g7,0,none⟩) (k+1) c7 else .slice a2 k c2)] 44,Ent.rows 38 3 (.slice (some ⟨g6,0,none⟩) (k+1) c6) (vs++[.slice (some ⟨b4,0,none⟩) 3 c4]) (((List.range (k+1)).map fr).map intCells),(if l8=true then Ent.row 4 1 (.slice (some ⟨g7,0,none⟩) (k+1) c7) (k+1) ((boolCells (X.ends.take k))++[.bool r]) else Ent.row 4 1 (.slice a2 k c2) k (boolCells (X.ends.take k))),(if l7=true then Ent.box bn #[.bool r] 4 else Ent.nil)]) ?_ ?_ ?_
    ·rintro listed a w' ⟨l0,l1,l2,l3,l4,l5,l6,l7,l8,l9,l10,g7,c7,bn,rfl,hd8,hd10,rfl,hS⟩ i hi;obtain⟨hun,o,ho,hall⟩:=mem_ready.1 hi;have hlt:=(Array.getElem?_eq_some_iff.1 ho).1;refine wpOp_step ho (fun K hK => ?_);clear hi;have HS:=qh hS;clear hS;simp only[w_1,w_2,w_3,w_4,w_5,w_6,w_7,w_8];obtain h|h|h|h|h|h|h|h|h|h|h:i=0∨i=1∨i=2∨i=3∨i=4∨i=5∨i=6∨i=7∨i=8∨i=9∨i=10:=by simp at hlt;omega
     all_goals subst h
     all_goals simp only[w_5,w_6,w_7,w_9] at ho
     all_goals subst ho
     all_goals simp[Region.binds] at hun hall
     ·subst hun;go_simp;exact hK _ _ ⟨_,_,_,_,_,_,_,_,_,_,_,g7,c7,bn,rfl,hd8,hd10,(by simp),HS.out⟩
     ·obtain rfl:=hall;subst hun;obtain rfl:l8=false:=offL hd8 rfl;obtain rfl:l10=false:=offL hd10 rfl;have e0:=HS.out.cell (v:=.slice a2 k c2) 2 1 rfl rfl;go_simp;exact hK _ _ ⟨_,_,_,_,_,_,_,_,_,_,_,g7,c7,bn,rfl,by simp,by simp,(by simp),HS.out⟩
     ·subst hun;go_simp;exact hK _ _ ⟨_,_,_,_,_,_,_,_,_,_,_,g7,c7,bn,rfl,hd8,hd10,(by simp),HS.out⟩
     ·obtain rfl:=hall;subst hun;have e0:=HS.out.cell (v:=.slice (some ⟨b2,o2,none⟩) L cw) 0 1 rfl rfl;go_simp;exact hK _ _ ⟨_,_,_,_,_,_,_,_,_,_,_,g7,c7,bn,rfl,hd8,hd10,(by simp),HS.out⟩
     ·subst hun;go_simp;exact hK _ _ ⟨_,_,_,_,_,_,_,_,_,_,_,g7,c7,bn,rfl,hd8,hd10,(by simp),HS.out⟩
     ·obtain⟨rfl,rfl⟩:=hall;subst hun;go_simp;exact hK _ _ ⟨_,_,_,_,_,_,_,_,_,_,_,g7,c7,bn,rfl,hd8,hd10,(by simp),HS.out⟩
     ·obtain rfl:=hall;subst hun;have e0:=(bcell HS.out.bel b2 _ HC.out.hb2).trans Hhr2.out;go_simp;exact hK _ _ ⟨_,_,_,_,_,_,_,_,_,_,_,g7,c7,bn,rfl,hd8,hd10,(by simp),HS.out⟩
     ·obtain rfl:=hall;subst hun;obtain rfl:l8=false:=offR hd8 rfl;obtain rfl:l10=false:=offL hd10 rfl;have hS2:=(HS.out.alloc _ rfl #[.bool r] 4).pick [0,1,2,3,4,6] (by decide);have HhS2:=qh hS2;clear hS2;go_simp;exact hK _ _ ⟨_,_,_,_,_,_,_,_,_,_,_,g7,c7,_,rfl,by simp,by simp,(by simp),HhS2.out⟩
     ·obtain⟨rfl,rfl⟩:=hall;subst hun;obtain rfl:l10=false:=offL hd10 rfl;refine step_append_lies (a:=⟨_,_⟩) _ (by rfl) _ _ _ (by rfl) w1.heap.size 4 i0 (.bool false) 1 1 Tryz.underlying42 Hhi.out Hhz0.out Hhz1.out Hhz2.out (by rfl) (by omega) (.slice a2 k c2) k (boolCells (X.ends.take k)) (by rfl) (HS.out.row 4 rfl) ⟨bn,0,none⟩ 1 1 [.bool r] (by rfl) (by rfl) (World.news_of_block (HS.out.box 5 rfl)) Zbb (by omega) (by unfold maxLen;omega) (by omega) HS.out.size _ rfl ?_;intro g8 c8 w8 hown8 hgrow8 hat8 hlt8;have HS8:=qh (HS.out.app 4 rfl hown8 hgrow8 hat8);clear hown8 hgrow8 hat8;go_simp;exact hK _ _ ⟨_,_,_,_,_,_,_,_,_,_,_,g8,c8,bn,rfl,by simp,by simp,(by simp),HS8.out⟩
     ·obtain⟨rfl,rfl,rfl,rfl,rfl,rfl,rfl,rfl,rfl⟩:=hall;subst hun;go_simp;exact hK _ _ ⟨_,_,_,_,_,_,_,_,_,_,_,g7,c7,bn,rfl,by simp,hd10,(by simp only[↓reduceIte,w_1,w_2,w_3]),HS.out⟩
     obtain⟨rfl,rfl,rfl,rfl,rfl,rfl,rfl,rfl,rfl,rfl,-⟩:=hall;subst hun;have f0:=HS.out.fr 2 1 rfl;have k0:=HS.out.cell (v:=.slice a2 k c2) 2 1 rfl rfl;go_simp;exact hK _ _ ⟨_,_,_,_,_,_,_,_,_,_,_,g7,c7,bn,rfl,by simp,by simp,(by simp only[↓reduceIte,w_1,w_2,w_3]),(HS.out.set 2 rfl 1 (.slice (some ⟨g7,0,none⟩) (k+1) c7))⟩
    ·rintro listed a w' ⟨l0,l1,l2,l3,l4,l5,l6,l7,l8,l9,l10,g7,c7,bn,rfl,hd8,hd10,rfl,hS⟩ hr;obtain⟨rfl,rfl,rfl,rfl,rfl,rfl,rfl,rfl,rfl,rfl,rfl,-⟩:=zA (Zbo (by kernel_rfl) rfl hr) rfl;clear hr hd8 hd10;simp only[↓reduceIte] at hS ⊢;simp only[w_1,w_2,w_3];have hS9:=hS.pick [0,1,2,3,4] (by decide);have HhS9:=qh hS9;clear hS9;clear hS;go_wp2;go_roundw
     case rel =>refine⟨k+1,some ⟨g6,0,none⟩,some ⟨g7,0,none⟩,c6,c7,vs++[.slice (some ⟨b4,0,none⟩) 3 c4],by go_num,by omega,?_⟩;rw[Hhtk2.out,Zbs,← Hhr.out];exact HhS9.out
     case measure=>simp[intOf];omega
    refine⟨false,false,false,false,false,false,false,false,false,false,false,0,0,0,rfl,by simp,by simp,(by simp),?_⟩;exact HSq.out.drew.pick [0,1,2,3,4,5] (by decide)
  obtain rfl:L=k:=by omega
  have hel:X.ends.take L=X.ends:=List.take_of_length_le (by have:=HC.out.le;have:=hL.out;omega);rw[hel] at hS
  have hDF:DfaR 0 wr (.agg #[.slice a1 L c1,.slice a2 L c2]) (ZcM X):=by
   rw[Hhfd.out,← hL.out];refine⟨.slice a1 L c1,.slice a2 L c2,rfl,(hS.intSS 3 rfl).intSS.mono (Nat.zero_le _),?_⟩;have hb:=hS.row 4 rfl;have he:L=X.ends.length:=by have:=HC.out.le;have:=hL.out;omega
   have hb2:wr.ownsRow w1.heap.size 4 1 (.slice a2 L c2) X.ends.length (boolCells X.ends):=by rw[← he];exact hb
   exact(ZaX hb2).mono (Nat.zero_le _)
  have z0:=hS.cell (v:=.slice a1 L c1) 2 0 rfl rfl;have z1:=hS.cell (v:=.slice a2 L c2) 2 1 rfl rfl;have HDF:=qh hDF;have HS8:=qh hS;have Hhel:=qh hel;clear hel;clear hS hDF;go_wp2_with fail;refine(Zfb (ZcM X) _ _ Hhfo.out HDF.out).mono ?_;rintro e w9 ⟨a3,c3,a4,c4,rfl,hDR,hb9⟩;have hS9:=HSr.out.call (HS8.out.bel.trans (hb9.mono HS8.out.bel.size));have f0:=hS9.fr 1 0 rfl;have f1:=hS9.fr 1 1 rfl;have k0:=hS9.cell (v:=.slice none 0 0) 1 0 rfl rfl;have k1:=hS9.cell (v:=.slice none 0 0) 1 1 rfl rfl;have hB1:=(hS9.boxlt 1 rfl).2;have hB2:=(HSr.out.boxlt 1 rfl).2;have HS9:=qh hS9;have HDR9:=qh hDR;have Hb9:=qh hb9;obtain⟨M,hM⟩:=eI (Zbc (ZcM X));rw[← hM] at HDR9;rw[← hM];have HhM:=qh hM;clear hM;clear hS9 hDR hb9 z0 z1;go_wp2;have hq:=(HS9.out.set 1 rfl 0 (.slice a3 M.next.length c3)).set 1 rfl 1 (.slice a4 M.ends.length c4);have q0:=hq.cell (v:=.slice a3 M.next.length c3) 1 0 rfl rfl;have q1:=hq.cell (v:=.slice a4 M.ends.length c4) 1 1 rfl rfl;refine bodyPost_ret (v:=.agg #[.slice a3 M.next.length c3,.slice a4 M.ends.length c4]) (by simp[results,Tryz.results47,go_sem,q0,q1]) rfl ?_;rw[← HhM.out];have hle:=HS8.out.bel.size;have hle1:=HSr.out.bel.size;exact⟨a3,c3,a4,c4,rfl,((HDR9.out.far (by omega) 0 _).far (by omega) 1 _).mono (by omega),hq.bel⟩
end Go.Proofs.YtncekbbhgipdlaaGreat
