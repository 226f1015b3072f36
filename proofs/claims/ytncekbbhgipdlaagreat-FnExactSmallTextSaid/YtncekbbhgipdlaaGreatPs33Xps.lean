/-
  The walk over the reference's ExprOf.
  Condition: the automaton reads as such.
-/
import Derived.Test.YtncekbbhgipdlaaGreatPs15Ds
import Derived.Test.YtncekbbhgipdlaaGreatPs32Lop
set_option maxHeartbeats 32000000
set_option maxRecDepth 100000
namespace Go.Proofs.YtncekbbhgipdlaaGreat
open Go.RowKit
theorem Zg1 (d:DfaD) (L:List (Int × Int)) (b:Bool) (hA:Zgv d L b) (v:Value) (w:World) (h:DfaR 0 w v d) :
  Calls Tryz.prog 21 #[v] w fun e w'=>RPe L b w e w':=by
 have H:=qh h;obtain⟨v1,v2,rfl,g1,g2⟩:=h;have hS0:=(St.start w).alloc _ rfl #[v1,v2] 44;have e0:=hS0.cell (v:=v1) 0 0 rfl rfl;have e1:=hS0.cell (v:=v2) 0 1 rfl rfl;have HA:=qh hA;replace hS0:=qh hS0;cases hok:Zah d.next d.ends
 ·obtain⟨rfl,rfl⟩:=HA.out.2 (fun h=>by have:=h.1;rw[hok] at this;exact absurd this (by decide));have hv:=fun u hu=>Zbu d.next d.ends v1 v2 u (g1.below hu) (g2.below hu) false hok
  have HV:=qh hv;clear g1 g2 hv hA
  go_enter Tryz.func21, Tryz.ntmps21
  go_wp2_with fail;refine(HV.out _ hS0.out.bel).mono ?_;rintro e w1 ⟨rfl,hb1⟩;have HS1:=qh (hS0.out.call hb1);have HS2:=qh (HS1.out.alloc_ (.cells #[] 62));clear hb1 e0 e1;go_wp2
  go_ret2
  exact⟨_,0,rfl,ZcQ,HS2.out.bel⟩
 have hmo:=Zi5 hok;have hsm:=Zct (ZaJ hok);have hv:=fun u hu=>Zbu d.next d.ends v1 v2 u (g1.below hu) (g2.below hu) true hok
 have HV:=qh hv;have hA2:∀ x:DfaD,x=minD d→(kleP x→b=true∧L=(kleE x x.next.length).post)∧(¬ kleP x→b=false∧L=[]):=fun x hx=>by subst hx;exact⟨fun h=>hA.1 ⟨hok,h⟩,fun h=>hA.2 fun h'=>h h'.2⟩
 obtain⟨x,hx⟩:=eI (minD d);have hA3:=hA2 x hx;rw[← hx] at hmo hsm;clear g1 g2 hv hA hA2 HA hx;have HA:=qh hA3;have Hhok:=qh hok;clear hok;have Hhsm:=qh hsm;clear hsm;clear hA3
 go_enter Tryz.func21, Tryz.ntmps21
 go_wp2_with fail;refine(HV.out _ hS0.out.bel).mono ?_;rintro e w1 ⟨rfl,hb1⟩;have HS1:=qh (hS0.out.call hb1);clear hb1 e0 e1;have e0:=HS1.out.cell (v:=v1) 0 0 rfl rfl;have e1:=HS1.out.cell (v:=v2) 0 1 rfl rfl;go_wp2_with fail;refine(Zbd d _ _ Hhok.out (H.out.below HS1.out.bel)).mono ?_;rintro e y ⟨x1,y1,x2,y2,rfl,hdo,hb2⟩;have HS1y:=qh (HS1.out.call hb2);rw[Hhsm.out] at hdo ⊢;have hr:DfaR 0 y _ x:=hdo.mono (Nat.zero_le _);clear hb2 hdo e0 e1 HS1;obtain⟨v1',v2',hve,g1,g2⟩:=hr;have hve1:v1' = .slice x1 x.next.length y1:=by injection hve with h;injection h with h;injection h with h1 h2;exact h1.symm
 have hve2:v2' = .slice x2 x.ends.length y2:=by injection hve with h;injection h with h;injection h with h1 h2;injection h2 with h2 h3;exact h2.symm
 subst hve1 hve2;have hlen:=Zaj hmo;have hf:=ZaJ hmo;have hN0:0<x.next.length:=hf.1;obtain⟨b1,o1,c1,hs1,hc1,hc2,hb1,hrow⟩:=Zit g1 hmo;obtain⟨b2,o2,c2,hs2,hd1,hd2,hb2,hend⟩:=Zk9 g2 hmo;rw[hs1,hs2];have hkE:=fun m hK h=>Zid (x:=x) hK h m
 obtain⟨N,hN⟩:=eI (x.next.length);have hen:x.ends.length=N:=by omega
 rw[← hN] at hc1 hN0 hend hrow hkE;rw[hen] at hd1;rw[hen,← hN];have hN40:N≤40:=by omega
 have hKP:kleP x↔kleK x N N∧(kleE x N).post.length≤60:=by rw[hN];exact Iff.rfl
 have hEN:(kleE x x.next.length).post=(kleE x N).post:=by rw[hN]
 have hCl:=fun i j c=>ZfU x i j c
 obtain⟨k0,hk,hx0,hx1,hx2⟩:=info_parts Tryz.infoS2;obtain⟨s0,hs,hsz0,hsz1,hsz2⟩:=info_parts Tryz.infoS1;obtain⟨TT,hTT⟩:∃ T:Nat→Nat→Nat→List (Int × Int),T=fun k a b=>(kleT x k a b).post:=⟨_,rfl⟩
 have Hd:=qh hmo;have Hend:=qh hend;have Hrow:=qh hrow;have HkE:=qh hkE;have HCl:=qh hCl;replace hKP:=qh hKP;replace hEN:=qh hEN;have HhN:=qh hN;clear hN;have HhTT:=qh hTT;clear hTT;have Hhs:=qh hs;clear hs;have Hhsz0:=qh hsz0;clear hsz0;have Hhsz1:=qh hsz1;clear hsz1;have Hhsz2:=qh hsz2;clear hsz2;have Hhk:=qh hk;clear hk;have Hhx0:=qh hx0;clear hx0;have Hhx1:=qh hx1;clear hx1;have Hhx2:=qh hx2;clear hx2;clear g1 g2 hve hs1 hs2 hmo hend hrow hkE hCl hf hlen hen
 go_upto_region 4 with fail
 have HS2:Hid (St y _ [BxD y.heap.size b1 o1 N c1 b2 o2 c2]):=qh ((St.start y).alloc _ rfl #[.slice (some ⟨b1,o1,none⟩) N c1,.slice (some ⟨b2,o2,none⟩) N c2] 44);have e0:=HS2.out.cell (v:=.slice (some ⟨b1,o1,none⟩) N c1) 0 0 rfl rfl
 go_upto_region 5 with fail
 clear e0;obtain⟨bz,hbz⟩:∃ b,y.heap.size+1=b:=⟨_,rfl⟩;have hS3:=((HS2.out.alloc bz (by simp[← hbz]) #[.int .i64 1,.int .i64 0] 62).boxrow 1 1 2 [.int .i64 1,.int .i64 0] rfl rfl (by unfold maxLen;omega)).knowAll (A:=[_]) (P:=fun u=>Pairs 0 u (.slice (some ⟨bz,0,none⟩) 1 1) [(1,0)]) fun u h=>Zbp (xs:=[(1,0)]) (ZbZ h 0 rfl)
 have HS3:=qh hS3;obtain⟨NB,hNB⟩:∃ B:World→Prop,B=fun u=>Pairs 0 u (.slice (some ⟨bz,0,none⟩) 1 1) [(1,0)]:=⟨_,rfl⟩
 have HNB:Hid (∀ u,NB u→Pairs 0 u (.slice (some ⟨bz,0,none⟩) 1 1) [(1,0)]):=qh (by rw[hNB];exact fun u h=>h);rw[← hNB] at HS3;have HS4:Hid (St y _ [BxD y.heap.size b1 o1 N c1 b2 o2 c2,Ent.know (Ent.all [Ent.row 62 2 (.slice (some ⟨bz,0,none⟩) 1 1) 1 [.int .i64 1,.int .i64 0]]) (NB),Ent.row 70 1 (.slice (some ⟨bz+1,0,none⟩) 0 0) 0 []]):=qh ((HS3.out.alloc (bz+1) (by simp[← hbz]) #[] 70).boxrow 2 0 1 [] rfl rfl (Nat.zero_le _));clear hS3 HS2 hNB;go_wp2_with fail
 go_loopw [7,8] (fun tv iv wr=>∃ (i c:Nat) (a:Option Addr) (zs:List Value) (css:List (List Value)) (F:Ent),iv = .int .i64 (i:Int)∧i≤N∧tv = .slice a i c∧css.length=i∧zs.length=i∧St y wr [BxD y.heap.size b1 o1 N c1 b2 o2 c2,Ent.row 70 1 (.slice a i c) i zs,Ent.know F (fun u=>NB u∧TabI u i N zs css (TT 0))]) (fun _ iv _=>N-(intOf iv).toNat)
 case atStart =>have h9:=((HS4.out.pick [0,2,1] (by decide)).knowMore (P:=fun u=>NB u∧TabI u 0 N [] [] (TT 0)) 2 rfl fun u h=>⟨h,fun q hq=>absurd hq (Nat.not_lt_zero q)⟩);exact⟨0,0,_,[],[],_,rfl,Nat.zero_le _,rfl,rfl,rfl,h9⟩
 case round =>
  obtain⟨i,c,a,zs,css,F,rfl,hiN,rfl,hcss,hzs,hS⟩:=hrel;have HS5:=qh hS;have Hhcss:=qh hcss;clear hcss;have Hhzs:=qh hzs;clear hzs;clear hS HS4 HS3;by_cases hi:i<N
  ·have hiI:(i:Int)<(N:Int):=by omega
   have hwi:IntKind.i64.wrap ((i:Int)+1)=(i:Int)+1:=IntWalk.i64_in _ (by omega);obtain⟨q,t0,s3,hq,hs1,hs2,hqb,hcs⟩:=Hrow.out i hi;have Hcs:=qh hcs;have Hq:=qh hq;have HS6:Hid (St y _ [BxD y.heap.size b1 o1 N c1 b2 o2 c2,Ent.row 70 1 (.slice a i c) i zs,Ent.row 28 1 (.slice (some ⟨wr.heap.size,0,none⟩) 0 0) 0 [],Ent.know F (fun u=>NB u∧GrowP u i N 0 zs css [] (TT 0))]):=qh (((HS5.out.newRow0 28 1).pick [0,1,3,2] (by decide)).knowMore (P:=fun u=>NB u∧GrowP u i N 0 zs css [] (TT 0)) 3 rfl fun u h=>⟨h.1,h.2,fun q hq=>absurd hq (Nat.not_lt_zero q)⟩);clear hq hcs;go_wp2_with fail
   go_loopw [9,10] (fun rv jv wr=>∃ (j cj:Nat) (ga:Option Addr) (cs:List Value) (G:Ent),jv = .int .i64 (j:Int)∧j≤N∧rv = .slice ga j cj∧cs.length=j∧St y wr [BxD y.heap.size b1 o1 N c1 b2 o2 c2,Ent.row 70 1 (.slice a i c) i zs,Ent.row 28 1 (.slice ga j cj) j cs,Ent.know G (fun u=>NB u∧GrowP u i N j zs css cs (TT 0))]) (fun _ jv _=>N-(intOf jv).toNat)
   case atStart=>exact⟨0,0,_,[],F,rfl,Nat.zero_le _,rfl,rfl,HS6.out⟩
   case round =>
    obtain⟨j,cj,ga,cs,G,rfl,hjN,rfl,hcl,hS⟩:=hrel;have HS7:=qh hS;have Hhcl:=qh hcl;clear hcl;clear hS HS6 HS5;by_cases hj:j<N
    ·have hjI:(j:Int)<(N:Int):=by omega
     have hwj:IntKind.i64.wrap ((j:Int)+1)=(j:Int)+1:=IntWalk.i64_in _ (by omega);obtain⟨R,hR⟩:∃ R:World→Prop,R=fun u=>NB u∧GrowP u i N j zs css cs (TT 0):=⟨_,rfl⟩
     have HR:Hid (∀ u,R u→NB u∧GrowP u i N j zs css cs (TT 0)):=qh (by rw[hR];exact fun u h=>h);have hS8:=HS7.out;rw[← hR] at hS8;have HS8:Hid (St y wr [BxD y.heap.size b1 o1 N c1 b2 o2 c2,Ent.row 70 1 (.slice a i c) i zs,Ent.row 28 1 (.slice ga j cj) j cs,Ent.know G (fun u=>R u∧Pairs 0 u (.slice (some ⟨bz,0,none⟩) 1 1) [(1,0)])]):=qh (hS8.knowMore (P:=fun u=>R u∧Pairs 0 u (.slice (some ⟨bz,0,none⟩) 1 1) [(1,0)]) 3 rfl fun u h=>⟨h,HNB.out u (HR.out u h).1⟩);clear hS8 hR HS7;go_wp2_with fail
     go_loopw [11,12] (fun ev lv wr=>∃ (l k:Nat) (g:Option Addr) (F:Ent),lv = .int .i64 (l:Int)∧l≤3∧ev = .slice g (dirC x i j l).post.length k∧St y wr [BxD y.heap.size b1 o1 N c1 b2 o2 c2,Ent.row 70 1 (.slice a i c) i zs,Ent.row 28 1 (.slice ga j cj) j cs,Ent.know F (fun u=>R u∧Pairs 0 u (.slice g (dirC x i j l).post.length k) (dirC x i j l).post)]) (fun _ lv _=>3-(intOf lv).toNat)
     case atStart=>exact⟨0,1,some ⟨bz,0,none⟩,G,rfl,by omega,rfl,HS8.out⟩
     case round =>
      obtain⟨l,k,g,F,rfl,hl3,rfl,hS⟩:=hrel;have HS9:=qh hS;clear hS HS8;have hl:=HCl.out i j l;by_cases hlc:l<3
      ·have hcI:(l:Int)<3:=by omega
       have hwc:IntKind.i64.wrap ((l:Int)+1)=(l:Int)+1:=IntWalk.i64_in _ (by omega);have e0:=HS9.out.cell (v:=.slice (some ⟨b1,o1,none⟩) N c1) 0 0 rfl rfl;have r0:=(bcell HS9.out.bel b1 _ hb1).trans Hq.out;have r1:=(bcell HS9.out.bel q _ hqb).trans (Hcs.out l hlc);by_cases hz:nxD x i l=j
       ·as_aux_lemma =>
        have hst:=Zjt hz;rw[ZkE hlc] at hst;obtain⟨E,hE⟩:=eI ((dirC x i j l).post);obtain⟨G,hG⟩:=eI ((dirC x i j (l+1)).post);rw[← hE,← hG] at hst;rw[← hE] at hl HS9;rw[← hE];rw[hz] at r1;have HSL:=qh ((HS9.out.alloc wr.heap.size rfl #[.int .i64 3,.int .i64 (l:Int)] 62).boxrow 4 1 2 [.int .i64 3,.int .i64 (l:Int)] rfl rfl (by unfold maxLen;omega));have HX:=qh (HSL.out.know 3 rfl).2;have HY:=qh (Zbp (xs:=[(3,(l:Int))]) (Za4 (HSL.out.row 4 rfl) (Nat.zero_le _)));have Hhst:=qh hst;clear hst;have HhE:=qh hE;clear hE;have HhG:=qh hG;clear hG;have Hhz:=qh hz;clear hz;go_wp2_with fail;refine(ZfN E [(3,(l:Int))] G Hhst.out _ _ _ (by omega) (by simp) HX.out HY.out).mono ?_;rintro e w6 ⟨g6,k6,F6,rfl,hS6⟩;have hSN:=((HSL.out.cat hS6).pick [0,1,2,3,5] (by decide)).knowAll (A:=[_,_,_]) (P:=fun u=>R u∧Pairs 0 u (.slice g6 G.length k6) G) fun u h=>⟨(Zap h 0 rfl).1,Zb0 h 1 rfl trivial⟩
        have HSN:=qh hSN;clear hS6 hSN;go_wp2_with fail;go_roundw
        case rel =>have h9:=HSN.out;rw[HhG.out] at h9;exact⟨l+1,k6,g6,_,by go_num,by omega,by rw[HhG.out],h9⟩
        case measure=>simp[intOf];omega
       as_aux_lemma =>
       have hzI:¬ ((nxD x i l:Nat):Int)=(j:Int):=by omega
       have hst:=Zju hz;have Hhst:=qh hst;clear hst;have Hhz:=qh hz;clear hz;go_wp2_with fail;go_roundw
       case rel =>have h9:=HS9.out;rw[← Hhst.out] at h9;exact⟨l+1,k,g,F,by go_num,by omega,by rw[Hhst.out],h9⟩
       case measure=>simp[intOf];omega
      have hcI:¬ (l:Int)<3:=by omega
      have hl9:dirC x i j l=dirC x i j 3:=by rw[show l=3 by omega]
      rw[hl9] at hl HS9 ⊢;clear hl9
      go_upto_if 68 with fail
      generalize hz:((i:Int)==(j:Int))=z
      go_cut [11] from 69 to 72 (fun ev wc=>∃ (k:Nat) (g:Option Addr) (F:Ent),ev = .slice g (dirE x i j).post.length k∧St y wc [BxD y.heap.size b1 o1 N c1 b2 o2 c2,Ent.row 70 1 (.slice a i c) i zs,Ent.row 28 1 (.slice ga j cj) j cs,Ent.know F (fun u=>R u∧Pairs 0 u (.slice g (dirE x i j).post.length k) (dirE x i j).post)])
      case first =>
       cases z with
       | true =>
        as_aux_lemma =>
        have hij:i=j:=by have:=eq_of_beq hz;omega
        clear hz;have hst:mkL 5 0 (dirC x i j 3).post Ex.one.post=(dirE x i j).post:=by rw[Zd6,dirE,if_pos hij]
        clear hij;obtain⟨E,hE⟩:=eI ((dirC x i j 3).post);obtain⟨G,hG⟩:=eI ((dirE x i j).post);rw[← hE,← hG] at hst;rw[← hE] at hl HS9;rw[← hE];have HSL:=qh ((HS9.out.alloc wr.heap.size rfl #[.int .i64 2,.int .i64 0] 62).boxrow 4 1 2 [.int .i64 2,.int .i64 0] rfl rfl (by unfold maxLen;omega));have HX:=qh (HSL.out.know 3 rfl).2;have HY:=qh (Zbp (xs:=[(2,0)]) (Za4 (HSL.out.row 4 rfl) (Nat.zero_le _)));have Hhst:=qh hst;clear hst;have HhE:=qh hE;clear hE;have HhG:=qh hG;clear hG;go_wp2_with fail;refine(ZfN E [(2,0)] G Hhst.out _ _ _ (by omega) (by simp) HX.out HY.out).mono ?_;rintro e w6 ⟨g6,k6,F6,rfl,hS6⟩;have hSN:=((HSL.out.cat hS6).pick [0,1,2,3,5] (by decide)).knowAll (A:=[_,_,_]) (P:=fun u=>R u∧Pairs 0 u (.slice g6 G.length k6) G) fun u h=>⟨(Zap h 0 rfl).1,Zb0 h 1 rfl trivial⟩
        have HSN:=qh hSN;clear hS6 hSN;go_wp2_with fail;go_meet;have h9:=HSN.out;rw[HhG.out] at h9;exact⟨k6,g6,_,by rw[HhG.out],h9⟩
       | false =>
        as_aux_lemma =>
        have hij:¬ i=j:=by have:=ne_of_beq_false hz;omega
        have hst:dirE x i j=dirC x i j 3:=by rw[dirE,if_neg hij]
        clear hz hij;have Hhst:=qh hst;clear hst;go_wp2_with fail;go_meet;have h9:=HS9.out;rw[← Hhst.out] at h9;exact⟨k,g,F,by rw[Hhst.out],h9⟩
      case rest =>
       obtain⟨k,g,F,rfl,hS⟩:=hcut;obtain⟨D,hD⟩:=eJ ((dirE x i j).post);have hDT:TT 0 i j=D:=by rw[← hD,HhTT.out];rfl
       rw[hD] at hS ⊢;have HSA:=qh hS;have HSa:=qh (HSA.out.alloc_ (.cells #[.slice g D.length k] 28));have HRw:=qh (HSa.out.row 2 rfl);obtain⟨wq,hwq⟩:∃ wq:World,wq=wc:=⟨_,rfl⟩;subst hwq;replace hD:=qh hD;have HhDT:=qh hDT;clear hDT;clear hS HS9;go_wp2_with (at_builtin;refine wpList_append_lies _ rfl _ _ _ rfl _ 28 s0 (.slice none 0 0) 1 24 Tryz.underlying70 Hhs.out Hhsz0.out Hhsz1.out Hhsz2.out rfl (by omega) _ j _ rfl HRw.out ⟨wq.heap.size,0,none⟩ 1 1 [.slice g D.length k] rfl rfl (World.news_of_block (heap_alloc_new wq _)) ZeQ (by omega) (by unfold maxLen;omega) (by omega) HSa.out.size _ rfl ?_;intro g6 c6 w6 hown6 hgrow6 hat6 hlt6;have HS6:=qh (HSa.out.app 2 rfl hown6 hgrow6 hat6);clear hown6 hgrow6 hat6);go_roundw
       case rel =>
        have h9:=(HS6.out.pick [0,1,2,3] (by decide)).knowMore (P:=fun u=>NB u∧GrowP u i N (j+1) zs css (cs++[.slice g D.length k]) (TT 0)) 3 rfl fun u h=>⟨(HR.out u h.1).1,(HR.out u h.1).2.more Hhcl.out (fun _ _=>rfl) (by rw[HhDT.out];exact h.2)⟩
        exact⟨j+1,c6,_,_,_,by go_num,by omega,rfl,by rw[List.length_append,Hhcl.out];rfl,h9⟩
       case measure=>simp[intOf];omega
    have hjI:¬ (j:Int)<(N:Int):=by omega
    have hjN2:N=j:=by omega
    subst hjN2;have HSa:=qh (HS7.out.alloc_ (.cells #[.slice ga N cj] 70));have HRw:=qh (HSa.out.row 1 rfl);obtain⟨wq,hwq⟩:∃ wq:World,wq=wr:=⟨_,rfl⟩;subst hwq;go_wp2_with (at_builtin;refine wpList_append_lies _ rfl _ _ _ rfl _ 70 k0 (.slice none 0 0) 1 24 Tryz.underlying69 Hhk.out Hhx0.out Hhx1.out Hhx2.out rfl (by omega) _ i _ rfl HRw.out ⟨wq.heap.size,0,none⟩ 1 1 [.slice ga N cj] rfl rfl (World.news_of_block (heap_alloc_new wq _)) ZeQ (by omega) (by unfold maxLen;omega) (by omega) HSa.out.size _ rfl ?_;intro g6 c6 w6 hown6 hgrow6 hat6 hlt6;have HS6:=qh (HSa.out.app 1 rfl hown6 hgrow6 hat6);clear hown6 hgrow6 hat6);go_roundw
    case rel =>
     have h9:=(HS6.out.pick [0,1,2,3] (by decide)).knowAll (A:=[_,_]) (P:=fun u=>NB u∧TabI u (i+1) N (zs++[.slice ga N cj]) (css++[cs]) (TT 0)) fun u h=>⟨(Zap h 1 rfl).1,(Zap h 1 rfl).2.snoc (ZbZ h 0 rfl) (by omega) Hhcss.out Hhzs.out⟩
     exact⟨i+1,c6,_,_,_,_,by go_num,by omega,rfl,by rw[List.length_append,Hhcss.out];rfl,by rw[List.length_append,Hhzs.out];rfl,h9⟩
    case measure=>simp[intOf];omega
  have hiI:¬ (i:Int)<(N:Int):=by omega
  have hiN2:N=i:=by omega
  subst hiN2;have h9:=HS5.out.knowAll (A:=[_]) (P:=fun u=>NB u∧TabX u (.slice a N c) N zs css (TT 0)) fun u h=>⟨(Zap h 1 rfl).1,ZhP (ZbZ h 0 rfl) (by omega) (Zap h 1 rfl).2⟩
  obtain⟨bw,cw,he⟩:=(h9.know 1 rfl).2.form;simp only[Value.slice.injEq,true_and] at he;obtain⟨rfl,rfl⟩:=he;have HS6:=qh h9;clear h9 HS5;go_wp2_with fail
  go_loopw [7,13] (fun tv kv wr=>∃ (k bw cw:Nat) (zs:List Value) (css:List (List Value)) (F:Ent),kv = .int .i64 (k:Int)∧k≤N∧kleK x N k∧tv = .slice (some ⟨bw,0,none⟩) N cw∧St y wr [BxD y.heap.size b1 o1 N c1 b2 o2 c2,Ent.know F (fun u=>NB u∧TabX u (.slice (some ⟨bw,0,none⟩) N cw) N zs css (TT k))]) (fun _ kv _=>N-(intOf kv).toNat)
  case atStart=>exact⟨0,bw,c,zs,css,_,rfl,Nat.zero_le _,Zjf x N,rfl,HS6.out⟩
  case round =>
   clear HS6 Hhzs Hhcss;obtain⟨k,bw,cw,zs,css,F,rfl,hkN,hK,rfl,hS⟩:=hrel;obtain⟨BX,hBX⟩:∃ B:World→Prop,B=fun u=>NB u∧TabX u (.slice (some ⟨bw,0,none⟩) N cw) N zs css (TT k):=⟨_,rfl⟩
   rw[← hBX] at hS;have HTX:Hid (∀ u,BX u→NB u∧TabX u (.slice (some ⟨bw,0,none⟩) N cw) N zs css (TT k)):=qh (by rw[hBX];exact fun u h=>h);have HS2:=qh hS;have HhK:=qh hK;clear hK;clear hS hBX;by_cases hk:k<N
   ·have hkI:(k:Int)<(N:Int):=by omega
    have hwk:IntKind.i64.wrap ((k:Int)+1)=(k:Int)+1:=IntWalk.i64_in _ (by omega);have HS3:Hid (St y _ [BxD y.heap.size b1 o1 N c1 b2 o2 c2,Ent.row 70 1 (.slice (some ⟨wr.heap.size,0,none⟩) 0 0) 0 [],Ent.know F (fun u=>BX u∧TabI u 0 N [] [] (TT (k+1)))]):=qh (((HS2.out.newRow0 70 1).pick [0,2,1] (by decide)).knowMore (P:=fun u=>BX u∧TabI u 0 N [] [] (TT (k+1))) 2 rfl fun u h=>⟨h,fun q hq=>absurd hq (Nat.not_lt_zero q)⟩);clear HS2;go_wp2_with fail
    go_loopw [14,15] (fun tv iv wr=>∃ (i c:Nat) (az:Option Addr) (zs:List Value) (css:List (List Value)) (F:Ent),iv = .int .i64 (i:Int)∧i≤N∧tv = .slice az i c∧css.length=i∧zs.length=i∧(∀ q,q<i→∀ z,z<N→kleB x k q z)∧St y wr [BxD y.heap.size b1 o1 N c1 b2 o2 c2,Ent.row 70 1 (.slice az i c) i zs,Ent.know F (fun u=>BX u∧TabI u i N zs css (TT (k+1)))]) (fun _ iv _=>N-(intOf iv).toNat)
    case atStart=>exact⟨0,0,_,[],[],_,rfl,Nat.zero_le _,rfl,rfl,rfl,fun q hq=>absurd hq (Nat.not_lt_zero q),HS3.out⟩
    case round =>
     obtain⟨i,c,az,zs,css,F,rfl,hiN,rfl,hcss,hzs,hbi,hS⟩:=hrel;have HS5:=qh hS;have Hhcss:=qh hcss;clear hcss;have Hhzs:=qh hzs;clear hzs;have Hhbi:=qh hbi;clear hbi;clear hS HS3;by_cases hi:i<N
     ·have hiI:(i:Int)<(N:Int):=by omega
      have hwi:IntKind.i64.wrap ((i:Int)+1)=(i:Int)+1:=IntWalk.i64_in _ (by omega);have HS6:Hid (St y _ [BxD y.heap.size b1 o1 N c1 b2 o2 c2,Ent.row 70 1 (.slice az i c) i zs,Ent.row 28 1 (.slice (some ⟨wr.heap.size,0,none⟩) 0 0) 0 [],Ent.know F (fun u=>BX u∧GrowP u i N 0 zs css [] (TT (k+1)))]):=qh (((HS5.out.newRow0 28 1).pick [0,1,3,2] (by decide)).knowMore (P:=fun u=>BX u∧GrowP u i N 0 zs css [] (TT (k+1))) 3 rfl fun u h=>⟨h.1,h.2,fun q hq=>absurd hq (Nat.not_lt_zero q)⟩);go_wp2_with fail
      go_loopw [16,17] (fun rv jv wr=>∃ (j cj:Nat) (ga:Option Addr) (cs:List Value) (G:Ent),jv = .int .i64 (j:Int)∧j≤N∧rv = .slice ga j cj∧cs.length=j∧(∀ z,z<j→kleB x k i z)∧St y wr [BxD y.heap.size b1 o1 N c1 b2 o2 c2,Ent.row 70 1 (.slice az i c) i zs,Ent.row 28 1 (.slice ga j cj) j cs,Ent.know G (fun u=>BX u∧GrowP u i N j zs css cs (TT (k+1)))]) (fun _ jv _=>N-(intOf jv).toNat)
      case atStart=>exact⟨0,0,_,[],F,rfl,Nat.zero_le _,rfl,rfl,fun q hq=>absurd hq (Nat.not_lt_zero q),HS6.out⟩
      case round =>
       obtain⟨j,cj,ga,cs,G,rfl,hjN,rfl,hcl,hbb,hS⟩:=hrel;have HS7:=qh hS;have Hhcl:=qh hcl;clear hcl;have Hhbb:=qh hbb;clear hbb;clear hS HS6 HS5;by_cases hj:j<N
       ·have hjI:(j:Int)<(N:Int):=by omega
        have hwj:IntKind.i64.wrap ((j:Int)+1)=(j:Int)+1:=IntWalk.i64_in _ (by omega);have hX:=(HTX.out _ (HS7.out.know 3 rfl).1).2;obtain⟨ri,ci,hri⟩:=hX.rowf hi;obtain⟨rk,ck,hrk⟩:=hX.rowf hk;obtain⟨g0,d0,hg0⟩:=hX.cellf hk hk;obtain⟨g1,d1,hg1⟩:=hX.cellf hi hk;obtain⟨g2,d2,hg2⟩:=hX.cellf hk hj;obtain⟨g3,d3,hg3⟩:=hX.cellf hi hj;have hRi:=fun u h=>(HTX.out u h).2.row hi hri
        have hRk:=fun u h=>(HTX.out u h).2.row hk hrk
        have hC0:=fun u h=>(HTX.out u h).2.cell hk hk hrk hg0
        have hC1:=fun u h=>(HTX.out u h).2.cell hi hk hri hg1
        have hC2:=fun u h=>(HTX.out u h).2.cell hk hj hrk hg2
        have hC3:=fun u h=>(HTX.out u h).2.cell hi hj hri hg3
        obtain⟨S,J,W,hS,hJ,hW,hE,hWe,hl1,hl2,hl3,hl4,hl5⟩:=Zje x k i j;have hA0:=ZbN HhK.out hk hk;have hA1:=ZbN HhK.out hi hk;have hA2:=ZbN HhK.out hk hj;have hB:=ZbN HhK.out hi hj;have hTk:∀ a b,TT k a b=(kleT x k a b).post:=fun a b=>by rw[HhTT.out]
        have hTs:(kleT x (k+1) i j).post=TT (k+1) i j:=by rw[HhTT.out]
        simp only[hTk] at hC0 hC1 hC2 hC3;obtain⟨A0,hA0e⟩:∃ l,(kleT x k k k).post=l:=⟨_,rfl⟩;obtain⟨A1,hA1e⟩:∃ l,(kleT x k i k).post=l:=⟨_,rfl⟩;obtain⟨A2,hA2e⟩:∃ l,(kleT x k k j).post=l:=⟨_,rfl⟩;obtain⟨B,hBe⟩:∃ l,(kleT x k i j).post=l:=⟨_,rfl⟩;obtain⟨E,hEe⟩:∃ l,(kleT x (k+1) i j).post=l:=⟨_,rfl⟩;rw[hA0e] at hC0 hS hl1 hl5 hA0;rw[hA1e] at hC1 hJ hl2 hA1;rw[hA2e] at hC2 hW hl3 hA2;rw[hBe] at hC3 hE hl4 hB;rw[hEe] at hE hl4 hTs;have hEt:=hTs;have HRi:=qh hRi;have HRk:=qh hRk;have HC0:=qh hC0;have HC1:=qh hC1;have HC2:=qh hC2;have HC3:=qh hC3;have HSz:=qh (HS7.out.alloc_ (.cells #[] 62));have q0:=hRk _ (HS7.out.know 3 rfl).1;have q1:=(hC0 _ (HS7.out.know 3 rfl).1).1;have HhS:=qh hS;clear hS;have HhJ:=qh hJ;clear hJ;have HhW:=qh hW;clear hW;have HhE:=qh hE;clear hE;have HhWe:=qh hWe;clear hWe;have HhEe:=qh hEe;clear hEe;have HhEt:=qh hEt;clear hEt;clear hX hRi hRk hC0 hC1 hC2 hC3 hri hrk hg0 hg1 hg2 hg3 hTk hTs hA0e hA1e hA2e hBe;go_wp2_with fail;refine(Zgt 8 A0 [] S HhS.out _ _ _ (by omega) (by simp) (fun _=>by omega) (HC0.out _ (HSz.out.know 3 rfl).1).2 ZcQ).mono ?_;rintro e w5 ⟨gS,dS,F5,rfl,hS5⟩
        obtain⟨FS,hS6⟩:∃ FS,St y w5 [BxD y.heap.size b1 o1 N c1 b2 o2 c2,Ent.row 70 1 (.slice az i c) i zs,Ent.row 28 1 (.slice ga j cj) j cs,Ent.know FS (fun u=>(BX u∧GrowP u i N j zs css cs (TT (k+1)))∧Pairs 0 u (.slice gS S.length dS) S)]:=⟨_,(HSz.out.cat hS5).knowAll (A:=[_,_,_]) (P:=fun u=>(BX u∧GrowP u i N j zs css cs (TT (k+1)))∧Pairs 0 u (.slice gS S.length dS) S) fun u h=>⟨Zap h 0 rfl,Zb0 h 1 rfl trivial⟩⟩;have HS4:=qh hS6;clear hS5 hS6 q0 q1 HSz HS7
        go_upto_region 36 with fail
        refine wp_region_any (by kernel_rfl) ?_
        refine Zar (fun A listed a w'=>∃ (l0 l1 l2 l3 l4 l5 l6 l7 l8 l9 l10 l11 l12 l13 l14 l15 l16 l17:Bool) (gJ:Option Addr) (dJ:Nat) (FJ:Ent) (gW:Option Addr) (dW:Nat) (FW:Ent),listed=#[l0,l1,l2,l3,l4,l5,l6,l7,l8,l9,l10,l11,l12,l13,l14,l15,l16,l17]∧(l17=true→l16=true) ∧
          a=⟨((((((((((((((((((A.tmps.setIfInBounds 107 (if l0=true then .slice (some ⟨bw,0,none⟩) N cw else A.tmps.getD 107 undef)).setIfInBounds 108 (if l1=true then .int .i64 (i:Int) else A.tmps.getD 108 undef)).setIfInBounds 109 (if l2=true then .pointer (some ⟨bw,i,none⟩) else A.tmps.getD 109 undef)).setIfInBounds 110 (if l3=true then .slice (some ⟨ri,0,none⟩) N ci else A.tmps.getD 110 undef)).setIfInBounds 111 (if l4=true then .int .i64 (k:Int) else A.tmps.getD 111 undef)).setIfInBounds 112 (if l5=true then .pointer (some ⟨ri,k,none⟩) else A.tmps.getD 112 undef)).setIfInBounds 113 (if l6=true then .slice g1 A1.length d1 else A.tmps.getD 113 undef)).setIfInBounds 114 (if l7=true then .slice gS S.length dS else A.tmps.getD 114 undef)).setIfInBounds 115 (if l8=true then .slice gJ J.length dJ else A.tmps.getD 115 undef)).setIfInBounds 116 (if l9=true then .slice (some ⟨bw,0,none⟩) N cw else A.tmps.getD 116 undef)).setIfInBounds 117 (if l10=true then .int .i64 (k:Int) else A.tmps.getD 117 undef)).setIfInBounds 118 (if l11=true then .pointer (some ⟨bw,k,none⟩) else A.tmps.getD 118 undef)).setIfInBounds 119 (if l12=true then .slice (some ⟨rk,0,none⟩) N ck else A.tmps.getD 119 undef)).setIfInBounds 120 (if l13=true then .int .i64 (j:Int) else A.tmps.getD 120 undef)).setIfInBounds 121 (if l14=true then .pointer (some ⟨rk,j,none⟩) else A.tmps.getD 121 undef)).setIfInBounds 122 (if l15=true then .slice g2 A2.length d2 else A.tmps.getD 122 undef)).setIfInBounds 123 (if l16=true then .slice gW W.length dW else A.tmps.getD 123 undef)).setIfInBounds 19 (if l17=true then .slice gW W.length dW else A.tmps.getD 19 undef)),A.defers⟩ ∧
          St y w' [BxD y.heap.size b1 o1 N c1 b2 o2 c2,Ent.row 70 1 (.slice az i c) i (zs),Ent.row 28 1 (.slice ga j cj) j (cs),Ent.know FS (fun u=>(BX u∧GrowP u i N j zs css cs (TT (k+1)))∧Pairs 0 u (.slice gS S.length dS) S),(if l8=true then Ent.mkQ (fun _=>True) FJ (.slice gJ J.length dJ) J else Ent.nil),(if l16=true then Ent.mkQ (fun _=>True) FW (.slice gW W.length dW) W else Ent.nil)]) ?_ ?_ ?_
        ·rintro listed a w' ⟨l0,l1,l2,l3,l4,l5,l6,l7,l8,l9,l10,l11,l12,l13,l14,l15,l16,l17,gJ,dJ,FJ,gW,dW,FW,rfl,hd17,rfl,hS⟩ i hi;obtain⟨hun,o,ho,hall⟩:=mem_ready.1 hi;have hlt:=(Array.getElem?_eq_some_iff.1 ho).1;refine wpOp_step ho (fun K hK => ?_);clear hi;have HS:=qh hS;clear hS;simp only[w_1,w_2,w_3,w_4,w_5,w_6,w_7,w_8];obtain h|h|h|h|h|h|h|h|h|h|h|h|h|h|h|h|h|h:i=0∨i=1∨i=2∨i=3∨i=4∨i=5∨i=6∨i=7∨i=8∨i=9∨i=10∨i=11∨i=12∨i=13∨i=14∨i=15∨i=16∨i=17:=by simp at hlt;omega
         all_goals subst h
         all_goals simp only[w_5,w_6,w_7,w_9] at ho
         all_goals subst ho
         all_goals simp[Region.binds] at hun hall
         ·subst hun;go_simp;exact hK _ _ ⟨_,_,_,_,_,_,_,_,_,_,_,_,_,_,_,_,_,_,gJ,dJ,FJ,gW,dW,FW,rfl,hd17,(by simp),HS.out⟩
         ·subst hun;go_simp;exact hK _ _ ⟨_,_,_,_,_,_,_,_,_,_,_,_,_,_,_,_,_,_,gJ,dJ,FJ,gW,dW,FW,rfl,hd17,(by simp),HS.out⟩
         ·obtain⟨rfl,rfl⟩:=hall;subst hun;go_simp;exact hK _ _ ⟨_,_,_,_,_,_,_,_,_,_,_,_,_,_,_,_,_,_,gJ,dJ,FJ,gW,dW,FW,rfl,hd17,(by simp),HS.out⟩
         ·obtain rfl:=hall;subst hun;have e0:=HRi.out _ (HS.out.know 3 rfl).1.1;go_simp;exact hK _ _ ⟨_,_,_,_,_,_,_,_,_,_,_,_,_,_,_,_,_,_,gJ,dJ,FJ,gW,dW,FW,rfl,hd17,(by simp),HS.out⟩
         ·subst hun;go_simp;exact hK _ _ ⟨_,_,_,_,_,_,_,_,_,_,_,_,_,_,_,_,_,_,gJ,dJ,FJ,gW,dW,FW,rfl,hd17,(by simp),HS.out⟩
         ·obtain⟨rfl,rfl⟩:=hall;subst hun;go_simp;exact hK _ _ ⟨_,_,_,_,_,_,_,_,_,_,_,_,_,_,_,_,_,_,gJ,dJ,FJ,gW,dW,FW,rfl,hd17,(by simp),HS.out⟩
         ·obtain rfl:=hall;subst hun;have e0:=(HC1.out _ (HS.out.know 3 rfl).1.1).1;go_simp;exact hK _ _ ⟨_,_,_,_,_,_,_,_,_,_,_,_,_,_,_,_,_,_,gJ,dJ,FJ,gW,dW,FW,rfl,hd17,(by simp),HS.out⟩
         ·subst hun;go_simp;exact hK _ _ ⟨_,_,_,_,_,_,_,_,_,_,_,_,_,_,_,_,_,_,gJ,dJ,FJ,gW,dW,FW,rfl,hd17,(by simp),HS.out⟩
         ·obtain⟨rfl,rfl⟩:=hall;subst hun;go_simp
          go_at_call 48
          refine(ZkK A1 S J HhJ.out _ _ _ (by omega) (by omega) (HC1.out _ (HS.out.know 3 rfl).1.1).2 (HS.out.know 3 rfl).2).mono ?_;rintro e u1 ⟨a8,d8,F8,rfl,hS8⟩;have hS2:=(HS.out.cat hS8).pick [0,1,2,3,6,5] (by decide);have HhS2:=qh hS2;clear hS2;go_simp;exact hK _ _ ⟨_,_,_,_,_,_,_,_,_,_,_,_,_,_,_,_,_,_,a8,d8,F8,gW,dW,FW,rfl,hd17,(by simp),HhS2.out⟩
         ·subst hun;go_simp;exact hK _ _ ⟨_,_,_,_,_,_,_,_,_,_,_,_,_,_,_,_,_,_,gJ,dJ,FJ,gW,dW,FW,rfl,hd17,(by simp),HS.out⟩
         ·subst hun;go_simp;exact hK _ _ ⟨_,_,_,_,_,_,_,_,_,_,_,_,_,_,_,_,_,_,gJ,dJ,FJ,gW,dW,FW,rfl,hd17,(by simp),HS.out⟩
         ·obtain⟨rfl,rfl⟩:=hall;subst hun;go_simp;exact hK _ _ ⟨_,_,_,_,_,_,_,_,_,_,_,_,_,_,_,_,_,_,gJ,dJ,FJ,gW,dW,FW,rfl,hd17,(by simp),HS.out⟩
         ·obtain rfl:=hall;subst hun;have e0:=HRk.out _ (HS.out.know 3 rfl).1.1;go_simp;exact hK _ _ ⟨_,_,_,_,_,_,_,_,_,_,_,_,_,_,_,_,_,_,gJ,dJ,FJ,gW,dW,FW,rfl,hd17,(by simp),HS.out⟩
         ·subst hun;go_simp;exact hK _ _ ⟨_,_,_,_,_,_,_,_,_,_,_,_,_,_,_,_,_,_,gJ,dJ,FJ,gW,dW,FW,rfl,hd17,(by simp),HS.out⟩
         ·obtain⟨rfl,rfl⟩:=hall;subst hun;go_simp;exact hK _ _ ⟨_,_,_,_,_,_,_,_,_,_,_,_,_,_,_,_,_,_,gJ,dJ,FJ,gW,dW,FW,rfl,hd17,(by simp),HS.out⟩
         ·obtain rfl:=hall;subst hun;have e0:=(HC2.out _ (HS.out.know 3 rfl).1.1).1;go_simp;exact hK _ _ ⟨_,_,_,_,_,_,_,_,_,_,_,_,_,_,_,_,_,_,gJ,dJ,FJ,gW,dW,FW,rfl,hd17,(by simp),HS.out⟩
         ·obtain⟨rfl,rfl,-⟩:=hall;subst hun;obtain rfl:l17=false:=by cases l17 with|false=>rfl|true=>simpa using hd17 rfl
          go_simp
          go_at_call 48
          refine(ZkK J A2 W HhW.out _ _ _ (by omega) (by omega) (HS.out.mkQ 4 rfl trivial) (HC2.out _ (HS.out.know 3 rfl).1.1).2).mono ?_;rintro e u1 ⟨a8,d8,F8,rfl,hS8⟩;have hS2:=(HS.out.cat hS8).pick [0,1,2,3,4,6] (by decide);have HhS2:=qh hS2;clear hS2;go_simp;exact hK _ _ ⟨_,_,_,_,_,_,_,_,_,_,_,_,_,_,_,_,_,_,gJ,dJ,FJ,a8,d8,F8,rfl,by simp,(by simp),HhS2.out⟩
         obtain⟨rfl,rfl,rfl,rfl,rfl,rfl,rfl,rfl,rfl,rfl,rfl,rfl,rfl,rfl,rfl,rfl,rfl,-⟩:=hall;subst hun;go_simp;exact hK _ _ ⟨_,_,_,_,_,_,_,_,_,_,_,_,_,_,_,_,_,_,gJ,dJ,FJ,gW,dW,FW,rfl,by simp,(by simp),HS.out⟩
        ·rintro listed a w' ⟨l0,l1,l2,l3,l4,l5,l6,l7,l8,l9,l10,l11,l12,l13,l14,l15,l16,l17,gJ,dJ,FJ,gW,dW,FW,rfl,hd17,rfl,hS⟩ hr;obtain⟨rfl,rfl,rfl,rfl,rfl,rfl,rfl,rfl,rfl,rfl,rfl,rfl,rfl,rfl,rfl,rfl,rfl,rfl,-⟩:=zA (ZaK (by kernel_rfl) rfl hr) rfl;clear hr hd17;simp only[↓reduceIte] at hS ⊢;simp only[w_1,w_2,w_3];have hS5:=(hS.pick [0,1,2,3,5] (by decide)).knowAll (A:=[_,_,_]) (P:=fun u=>(BX u∧GrowP u i N j zs css cs (TT (k+1)))∧Pairs 0 u (.slice gW W.length dW) W) fun u h=>⟨(Zap h 0 rfl).1,Zb0 h 1 rfl trivial⟩
         have HS5:=qh hS5;clear hS hS5 HS4;have q0:=HRi.out _ (HS5.out.know 3 rfl).1.1;have q1:=(HC3.out _ (HS5.out.know 3 rfl).1.1).1;go_wp2_with fail;refine(ZfN B W E HhE.out _ _ _ (by omega) (by omega) (HC3.out _ (HS5.out.know 3 rfl).1.1).2 (HS5.out.know 3 rfl).2).mono ?_;rintro e w6 ⟨gE,dE,FE,rfl,hS6⟩;have hS7:=(HS5.out.cat hS6).knowAll (A:=[_,_,_]) (P:=fun u=>(BX u∧GrowP u i N j zs css cs (TT (k+1)))∧Pairs 0 u (.slice gE E.length dE) E) fun u h=>⟨(Zap h 0 rfl).1,Zb0 h 1 rfl trivial⟩
         have HS7:=qh hS7;clear hS6 hS7 q0 q1 HS5;by_cases hEl:60<E.length
         ·have hEI:(60:Int)<(E.length:Int):=by omega
          have hbad:¬ kleP x:=fun hp=>by have h1:=(((hKP.out).1 hp).1 k hk i hi j hj).2;rw[HhEe.out] at h1;omega
          obtain⟨rfl,rfl⟩:=HA.out.2 hbad;have HSz:=qh (HS7.out.alloc_ (.cells #[] 62));clear hbad;go_wp2
          go_ret2
          exact⟨_,0,rfl,ZcQ,(HS1y.out.cat HSz.out).bel⟩
         have hEI:¬ (60:Int)<(E.length:Int):=by omega
         by_cases hWl:60<W.length
         ·have hWI:(60:Int)<(W.length:Int):=by omega
          have hbad:¬ kleP x:=fun hp=>by have h1:=(((hKP.out).1 hp).1 k hk i hi j hj).1;rw[← HhWe.out] at h1;omega
          obtain⟨rfl,rfl⟩:=HA.out.2 hbad;have HSz:=qh (HS7.out.alloc_ (.cells #[] 62));clear hbad;go_wp2
          go_ret2
          exact⟨_,0,rfl,ZcQ,(HS1y.out.cat HSz.out).bel⟩
         have hWI:¬ (60:Int)<(W.length:Int):=by omega
         have hgood:kleB x k i j:=⟨by rw[← HhWe.out];omega,by rw[HhEe.out];omega⟩;have Hhgood:=qh hgood;clear hgood;have HSa:=qh (HS7.out.alloc_ (.cells #[.slice gE E.length dE] 28));have HRw:=qh (HSa.out.row 2 rfl);go_wp2_with (at_builtin;refine wpList_append_lies _ rfl _ _ _ rfl _ 28 s0 (.slice none 0 0) 1 24 Tryz.underlying70 Hhs.out Hhsz0.out Hhsz1.out Hhsz2.out rfl (by omega) _ j _ rfl HRw.out ⟨w6.heap.size,0,none⟩ 1 1 [.slice gE E.length dE] rfl rfl (World.news_of_block (heap_alloc_new w6 _)) ZeQ (by omega) (by unfold maxLen;omega) (by omega) HSa.out.size _ rfl ?_;intro g6 c6 w9 hown6 hgrow6 hat6 hlt6;have HS6:=qh (HSa.out.app 2 rfl hown6 hgrow6 hat6);clear hown6 hgrow6 hat6);go_roundw
         case rel =>
          have h9:=(HS6.out.pick [0,1,2,3] (by decide)).knowMore (P:=fun u=>BX u∧GrowP u i N (j+1) zs css (cs++[.slice gE E.length dE]) (TT (k+1))) 3 rfl fun u h=>⟨h.1.1,h.1.2.more Hhcl.out (fun _ _=>rfl) (by rw[← HhEt.out];exact h.2)⟩
          refine⟨j+1,c6,_,_,_,by go_num,by omega,rfl,by rw[List.length_append,Hhcl.out];rfl,fun z hz => ?_,h9⟩;by_cases hzj:z=j
          ·rw[hzj];exact Hhgood.out
          exact Hhbb.out z (by omega)
         case measure=>simp[intOf];omega
        refine⟨false,false,false,false,false,false,false,false,false,false,false,false,false,false,false,false,false,false,none,0,Ent.nil,none,0,Ent.nil,rfl,by simp,(by simp),?_⟩;exact HS4.out.drew.pick [0,1,2,3,4,5] (by decide)
       have hjI:¬ (j:Int)<(N:Int):=by omega
       have hjN2:N=j:=by omega
       subst hjN2;have HSa:=qh (HS7.out.alloc_ (.cells #[.slice ga N cj] 70));have HRw:=qh (HSa.out.row 1 rfl);obtain⟨wq,hwq⟩:∃ wq:World,wq=wr:=⟨_,rfl⟩;subst hwq;go_wp2_with (at_builtin;refine wpList_append_lies _ rfl _ _ _ rfl _ 70 k0 (.slice none 0 0) 1 24 Tryz.underlying69 Hhk.out Hhx0.out Hhx1.out Hhx2.out rfl (by omega) _ i _ rfl HRw.out ⟨wq.heap.size,0,none⟩ 1 1 [.slice ga N cj] rfl rfl (World.news_of_block (heap_alloc_new wq _)) ZeQ (by omega) (by unfold maxLen;omega) (by omega) HSa.out.size _ rfl ?_;intro g6 c6 w6 hown6 hgrow6 hat6 hlt6;have HS6:=qh (HSa.out.app 1 rfl hown6 hgrow6 hat6);clear hown6 hgrow6 hat6);go_roundw
       case rel =>
        have h9:=(HS6.out.pick [0,1,2,3] (by decide)).knowAll (A:=[_,_]) (P:=fun u=>BX u∧TabI u (i+1) N (zs++[.slice ga N cj]) (css++[cs]) (TT (k+1))) fun u h=>⟨(Zap h 1 rfl).1,(Zap h 1 rfl).2.snoc (ZbZ h 0 rfl) (by omega) Hhcss.out Hhzs.out⟩
        refine⟨i+1,c6,_,_,_,_,by go_num,by omega,rfl,by rw[List.length_append,Hhcss.out];rfl,by rw[List.length_append,Hhzs.out];rfl,fun q hq z hz => ?_,h9⟩;by_cases hqi:q=i
        ·rw[hqi];exact Hhbb.out z hz
        exact Hhbi.out q (by omega) z hz
       case measure=>simp[intOf];omega
     have hiI:¬ (i:Int)<(N:Int):=by omega
     have hiN2:N=i:=by omega
     subst hiN2;have h9:=HS5.out.knowAll (A:=[_]) (P:=fun u=>NB u∧TabX u (.slice az N c) N zs css (TT (k+1))) fun u h=>⟨(HTX.out u (Zap h 1 rfl).1).1,ZhP (ZbZ h 0 rfl) (by omega) (Zap h 1 rfl).2⟩
     obtain⟨bv,cv,he⟩:=(h9.know 1 rfl).2.form;simp only[Value.slice.injEq,true_and] at he;obtain⟨rfl,rfl⟩:=he;have HS6:=qh h9;clear h9;go_wp2;go_roundw
     case rel =>
      refine⟨k+1,bv,_,zs,css,_,by go_num,by omega,fun q hq a ha b hb => ?_,rfl,HS6.out⟩;by_cases hqk:q=k
      ·rw[hqk];exact Hhbi.out a ha b hb
      exact HhK.out q (by omega) a ha b hb
     case measure=>simp[intOf];omega
   have hkI:¬ (k:Int)<(N:Int):=by omega
   have hkN2:N=k:=by omega
   subst hkN2;have HS3:Hid (St y wr [BxD y.heap.size b1 o1 N c1 b2 o2 c2,Ent.know F (fun u=>BX u∧Pairs 0 u (.slice (some ⟨bz,0,none⟩) 1 1) [(1,0)])]):=qh (HS2.out.knowMore (P:=fun u=>BX u∧Pairs 0 u (.slice (some ⟨bz,0,none⟩) 1 1) [(1,0)]) 1 rfl fun u h=>⟨h,HNB.out u (HTX.out u h).1⟩);clear HS2;go_wp2_with fail
   go_loopw [21,22] (fun ev jv wr=>∃ (j c:Nat) (g:Option Addr) (F:Ent),jv = .int .i64 (j:Int)∧j≤N∧ev = .slice g (kleE x j).post.length c∧St y wr [BxD y.heap.size b1 o1 N c1 b2 o2 c2,Ent.know F (fun u=>BX u∧Pairs 0 u (.slice g (kleE x j).post.length c) (kleE x j).post)]) (fun _ jv _=>N-(intOf jv).toNat)
   case atStart=>exact⟨0,1,_,_,rfl,Nat.zero_le _,rfl,HS3.out⟩
   case round =>
    obtain⟨j,c,g,F,rfl,hjN,rfl,hS⟩:=hrel;have HS4:=qh hS;clear hS HS3;have hl:=HkE.out j HhK.out hN0 (by omega);by_cases hj:j<N
    ·have hjI:(j:Int)<(N:Int):=by omega
     have hN0I:(0:Int)<(N:Int):=by omega
     have hwj:IntKind.i64.wrap ((j:Int)+1)=(j:Int)+1:=IntWalk.i64_in _ (by omega);obtain⟨z,hz⟩:=eJ (enD x j);have e0:=HS4.out.cell (v:=.slice (some ⟨b2,o2,none⟩) N c2) 0 1 rfl rfl;have r0:=(bcell HS4.out.bel b2 _ hb2).trans (Hend.out j hj);rw[hz] at r0;cases z with
     | false =>
      as_aux_lemma =>
      have hst:=Zjh hz;have Hhst:=qh hst;clear hst;have Hhz:=qh hz;clear hz;go_wp2_with fail;go_roundw
      case rel =>have h9:=HS4.out;rw[← Hhst.out] at h9;exact⟨j+1,c,g,F,by go_num,by omega,by rw[Hhst.out],h9⟩
      case measure=>simp[intOf];omega
     | true =>
      as_aux_lemma =>
      have hst:=Zjg HhN.out hz;have hX:=(HTX.out _ (HS4.out.know 1 rfl).1).2;obtain⟨ri,ci,hri⟩:=hX.rowf hN0;obtain⟨g3,d3,hg3⟩:=hX.cellf hN0 hj;have hRi:=fun u h=>(HTX.out u h).2.row hN0 hri
      have hC3:=fun u h=>(HTX.out u h).2.cell hN0 hj hri hg3
      have hB:=ZbN HhK.out hN0 hj;have hTk:∀ a b,TT N a b=(kleT x N a b).post:=fun a b=>by rw[HhTT.out]
      simp only[hTk] at hC3;obtain⟨B,hBe⟩:∃ l,(kleT x N 0 j).post=l:=⟨_,rfl⟩;obtain⟨D,hD⟩:∃ l,(kleE x j).post=l:=⟨_,rfl⟩;obtain⟨E,hE⟩:∃ l,(kleE x (j+1)).post=l:=⟨_,rfl⟩;rw[hBe] at hC3 hB hst;rw[hD] at hl HS4 hst ⊢;rw[hE] at hst;have HRi:=qh hRi;have HC3:=qh hC3;have Hhst:=qh hst;clear hst;have Hhz:=qh hz;clear hz;have HhE:=qh hE;clear hE;replace hD:=qh hD;clear hX hRi hC3 hri hg3 hTk hBe;have q0:=HRi.out _ (HS4.out.know 1 rfl).1;have q1:=(HC3.out _ (HS4.out.know 1 rfl).1).1;go_wp2_with fail;refine(ZfN D B E Hhst.out _ _ _ (by omega) (by omega) (HS4.out.know 1 rfl).2 (HC3.out _ (HS4.out.know 1 rfl).1).2).mono ?_;rintro e w6 ⟨gE,dE,FE,rfl,hS6⟩;have hS7:=(HS4.out.cat hS6).knowAll (A:=[_]) (P:=fun u=>BX u∧Pairs 0 u (.slice gE E.length dE) E) fun u h=>⟨(Zap h 0 rfl).1,Zb0 h 1 rfl trivial⟩
      have HS7:=qh hS7;clear hS6 hS7 q0 q1 r0 e0;go_wp2_with fail;go_roundw
      case rel =>have h9:=HS7.out;rw[← HhE.out] at h9;exact⟨j+1,dE,gE,_,by go_num,by omega,by rw[HhE.out],h9⟩
      case measure=>simp[intOf];omega
    have hjI:¬ (j:Int)<(N:Int):=by omega
    have hjN2:N=j:=by omega
    subst hjN2;obtain⟨D,hD⟩:∃ l,(kleE x N).post=l:=⟨_,rfl⟩;rw[hD] at hl HS4 ⊢;have hkp:=hKP.out;have hen:=hEN.out;rw[hD] at hkp hen;have HP:=qh (HS4.out.know 1 rfl).2;by_cases h60:D.length≤60
    ·have h60I:¬ (60:Int)<(D.length:Int):=by omega
     have hp:kleP x:=hkp.2 ⟨HhK.out,h60⟩;obtain⟨rfl,hL⟩:=HA.out.1 hp;rw[hen] at hL;subst hL;clear hkp hp hen;go_wp2
     go_ret2
     exact⟨g,c,rfl,HP.out,(HS1y.out.cat HS4.out).bel⟩
    have h60I:(60:Int)<(D.length:Int):=by omega
    have hp:¬ kleP x:=fun h=>h60 (hkp.1 h).2
    obtain⟨rfl,rfl⟩:=HA.out.2 hp;have HSz:=qh (HS4.out.alloc_ (.cells #[] 62));clear hkp hp hen;go_wp2
    go_ret2
    exact⟨_,0,rfl,ZcQ,(HS1y.out.cat HSz.out).bel⟩
end Go.Proofs.YtncekbbhgipdlaaGreat
