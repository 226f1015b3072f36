/-
  The walk over the reference's l3Table.
  Conditions: the list of parts is a valid expression and reads as such; the text is a word.
-/
import Derived.Test.YtehmjmjedopkkaaGreatPd15Tbp
set_option maxHeartbeats 16000000
set_option maxRecDepth 2000000
namespace Go.Proofs.YtehmjmjedopkkaaGreat
open Go.RowKit
theorem Tryz.infoBS:(Tryz.prog.info? 30).map (fun i=>(i.zero,i.size,i.bytes))=some (some (.slice none 0 0),1,24):=by kernel_rfl
theorem Tryz.infoBSS:(Tryz.prog.info? 113).map (fun i=>(i.zero,i.size,i.bytes))=some (some (.slice none 0 0),1,24):=by kernel_rfl
theorem Tryz.infoB1:(Tryz.prog.info? 4).map (fun i=>(i.zero,i.size,i.bytes))=some (some (.bool false),1,1):=by kernel_rfl
theorem Zpb {a:Option Addr} {l c:Nat}:∀ u∈[Value.slice a l c],u.oneCell'=true:=by intro u hu;rw[List.mem_singleton] at hu;subst hu;rfl
def subT (t:Ex) (n:Nat) (l:List Nat) (q:Nat):Nat→Nat→Bool:=ZbH n (tabE n (lsT l) ((subs t).getD q .zero))
def Zh9 (F:Nat→Nat→Bool) (i j a b:Nat):Bool:=if i<a∨(a=i∧b<j) then F a b else false
theorem Zjf (t:Ex) (es:List (Int × Int)) (l:List Nat) (n M:Nat) (v:Value) (w:World) (hes:t.post=es) (hM:es.length=M) (hok:exOk es=true) (h:Pairs 0 w v es) (ht:isT l) (hwd:wdOk l=true) (hln:l.length=n) :
  Calls Tryz.prog 94 #[v,.string (txB l)] w fun e w'=>∃ (a:Option Addr) (c:Nat) (vs:List Value) (X:Ent),e = .returned (.slice a M c)∧vs.length=M∧(∀ q,q<M→TbH X (vs.getD q undef) (n+1) (subT t n l q))∧St w w' [Ent.row 113 1 (.slice a M c) M vs,X]:=by
 obtain⟨hall,hd1,hn1,hn60⟩:=ZaH hok;obtain⟨av,cv,rfl,hc1,hc2,hrd⟩:=h.form;obtain⟨hn8,h97⟩:=ZcF hwd;rw[hln] at hn8;have hpairs:=h;rw[hM] at hc1 hrd hall hd1 hn1 hn60 hpairs;rw[hM];obtain⟨N,hN⟩:=eI (n+1);obtain⟨i0,hi,hz0,hz1,hz2⟩:=info_parts Tryz.infoBS;obtain⟨j0,hj,hy0,hy1,hy2⟩:=info_parts Tryz.infoBSS;obtain⟨k0,hk,hx0,hx1,hx2⟩:=info_parts Tryz.infoB1;have hmk:∀ (i:Nat) (u:World),(Instr.makeSlice 30 (.int .i64 (N:Int)) (.int .i64 (N:Int))).run Tryz.prog u = .ok (.slice (some ⟨u.heap.size,0,none⟩) N N) (u.alloc (.cells (rowA N (fun _ _=>false) i) 4)):=fun i u=>by have:=run_makeSlice (P:=Tryz.prog) (w:=u) 30 4 k0 (.bool false) Tryz.underlying30 hk hx0 .i64 .i64 (N:Int) (N:Int) (by omega) (Int.le_refl _) (by rw[hx1,Int.toNat_natCast];omega) (by rw[hx2];omega) (by omega);rw[this,hx1,Int.toNat_natCast,Nat.mul_one,Zkz,← ZkJ];rfl
 have hsub:∀ k,k<M→SubAt es (subs t) k:=fun k hk=>by have:=Zbw t k;rw[hes,hM] at this;exact this hk
 have HS0:=qh (((St.start w).newRow0 113 1).add (Below.refl _ _) Ent.nil trivial fun k hk=>hk.elim);have hsz:=ZbL l;rw[hln] at hsz;have hn1':(n:Int)+1=(N:Int):=by omega
 have hwN:IntKind.i64.wrap (N:Int)=(N:Int):=IntWalk.i64_in _ (by omega);have Hrd:=qh hrd;have Hall:=qh hall;have Hsub:=qh hsub;have Ht:=qh ht;have H97:=qh h97;have Hpairs:=qh hpairs;have Hmk:=qh hmk;replace hi:=qh hi;have Hhz0:=qh hz0;clear hz0;have Hhz1:=qh hz1;clear hz1;have Hhz2:=qh hz2;clear hz2;have Hhj:=qh hj;clear hj;have Hhy0:=qh hy0;clear hy0;have Hhy1:=qh hy1;clear hy1;have Hhy2:=qh hy2;clear hy2;replace hN:=qh hN;have Hhd1:=qh hd1;clear hd1;have Hhwd:=qh hwd;clear hwd;have Hhln:=qh hln;clear hln;have Hhes:=qh hes;clear hes;replace hM:=qh hM;clear h hrd hall hok ht hk hx0 hx1 hx2 hpairs hsub hmk h97
 go_enter Tryz.func94, Tryz.ntmps94
 go_wp2
 go_loopw [6,7] (fun tv kv wr=>∃ (k c:Nat) (a:Option Addr) (vs:List Value) (X:Ent),kv = .int .i64 (k:Int)∧tv = .slice a k c∧k≤M∧vs.length=k∧(∀ q,q<k→TbH X (vs.getD q undef) N (subT t n l q))∧St w wr [Ent.row 113 1 (.slice a k c) k vs,X]) (fun _ kv _=>M-(intOf kv).toNat)
 case atStart=>exact⟨0,0,_,[],Ent.nil,rfl,rfl,Nat.zero_le _,rfl,fun q hq=>absurd hq (by omega),HS0.out⟩
 case round =>
  obtain⟨k,c,a,vs,X,rfl,rfl,hkM,hvs,hTb,hS⟩:=hrel;by_cases hlt:k<M
  ·have hlt2:(k:Int)<M:=by omega
   obtain⟨b,oo,rfl,-,hbl,hcs⟩:=Hrd.out (by omega);obtain⟨g1,g2⟩:=hcs k hlt;have k1:=(bcell hS.bel b _ hbl).trans g1;have k2:=(bcell hS.bel b _ hbl).trans g2;have hw1:IntKind.i64.wrap ((k:Int)-1)=(k:Int)-1:=IntWalk.i64_in _ (by omega);have hw2:IntKind.i64.wrap ((k:Int)+1)=(k:Int)+1:=IntWalk.i64_in _ (by omega);obtain⟨hp0,hpm⟩:=Hall.out k hlt;have hsk:=Hsub.out k hlt;obtain⟨p,hp⟩:=eI (es.getD k (0,0));unfold SubAt at hsk;rw[← hp] at k1 k2 hp0 hpm hsk g1 g2;obtain⟨p1,p2⟩:=p;simp only at k1 k2;have hpo:=ZcI hp0;have G1:=qh (show w.cell? ⟨b,oo+k*2,none⟩=some (.int .i64 p1) from g1);have G2:=qh (show w.cell? ⟨b,oo+k*2+1,none⟩=some (.int .i64 p2) from g2);obtain⟨r,hr⟩:=eJ (Zab (p1,p2));rw[hr] at hsk;have HS:=qh hS;have HTb:=qh hTb;have Hsk:=qh hsk;have Hhp:=qh hp;clear hp;have Hhr:=qh hr;clear hr;have Hhpo:=qh hpo;clear hpo;clear hS hTb hsk hcs g1 g2 hp0 hpm;go_wp2_with fail;refine(Zbc p1 p2 _ r Hhr.out).mono ?_;rintro e w1 ⟨rfl,hb1⟩;have HS1:=qh (HS.out.call hb1);clear hb1 HS k1 k2
   go_upto_if 33 with fail
   go_cut [8,9] from 20 to 231 (fun av bv wc=>∃ (x y:Int),av = .int .i64 x∧bv = .int .i64 y∧(r=1→∃ q:Nat,x=(q:Int)∧k=q+1∧(subs t).getD k .zero=mkE (p1,p2) ((subs t).getD q .zero) ((subs t).getD q .zero))∧(r=2→∃ q z:Nat,x=(z:Int)∧y=(q:Int)∧k=q+1∧z+1≤q∧(subs t).getD k .zero=mkE (p1,p2) ((subs t).getD z .zero) ((subs t).getD q .zero))∧St w wc [Ent.row 113 1 (.slice a k c) k vs,X])
   case first =>
    rcases Hsk.out with⟨rfl,hsk⟩|⟨rfl,q,hkq,hsk⟩|⟨rfl,q,z,hkq,hzq,hbg,hsk⟩
    ·as_aux_lemma =>
     go_wp2;go_meet;exact⟨_,_,rfl,rfl,fun h=>absurd h (by decide),fun h=>absurd h (by decide),HS1.out⟩
    ·as_aux_lemma =>
     go_wp2;go_meet;exact⟨_,_,rfl,rfl,fun _=>⟨q,by omega,hkq,hsk⟩,fun h=>absurd h (by decide),HS1.out⟩
    as_aux_lemma =>
    have hkq2:(k:Int)-1=(q:Int):=by omega
    have hwq:IntKind.i64.wrap (q:Int)=(q:Int):=IntWalk.i64_in _ (by omega);rw[hkq2] at hw1;have hls:=Zf0 es q (z+1) _ w1 (by rw[hM.out];omega) (by rw[hM.out];omega) (Hpairs.out.below HS1.out.bel) hbg;obtain⟨z1,hz1⟩:∃ z1:Nat,z1=z+1:=⟨_,rfl⟩;rw[← hz1] at hls;have hwz:IntKind.i64.wrap ((z1:Int)-1)=(z1:Int)-1:=IntWalk.i64_in _ (by omega);have Hls:=qh hls;have Hhsk:=qh hsk;clear hsk;have Hhz1:=qh hz1;clear hz1;clear hls hbg;go_wp2_with fail;refine Hls.out.mono ?_;rintro e w2 ⟨rfl,hb2⟩;have HS2:=qh (HS1.out.call hb2);clear hb2 Hls
    dsimp only
    go_wp2;go_meet;exact⟨_,_,rfl,rfl,fun h=>absurd h (by decide),fun _=>⟨q,z,by have:=Hhz1.out;omega,by omega,hkq,hzq,Hhsk.out⟩,HS2.out⟩
   case rest =>
    as_aux_lemma =>
    obtain⟨x,y,rfl,rfl,hone,htwo,hS2⟩:=hcut;have HS2:=qh ((hS2.newRow0 30 1).bxsNil N (fun _ _=>false));have Hone:=qh hone;have Htwo:=qh htwo;clear hS2 hone htwo HS1;go_wp2
    go_loopw [10,11] (fun rv iv wr=>∃ (i c2 B:Nat) (R:Nat→Nat),iv = .int .i64 (i:Int)∧rv = .slice (some ⟨B,0,none⟩) i c2∧i≤N∧St w wr [Ent.row 113 1 (.slice a k c) k vs,X,Ent.row 30 1 (.slice (some ⟨B,0,none⟩) i c2) i (rowV R N i),Ent.bxs R i N (fun _ _=>false)]) (fun _ iv _=>N-(intOf iv).toNat)
    case atStart=>exact⟨0,0,_,fun _=>0,rfl,rfl,Nat.zero_le _,HS2.out⟩
    case round =>
     obtain⟨i,c2,B,R,rfl,rfl,hiN,hS⟩:=hrel;have HS:=qh hS;clear hS HS2;by_cases hin:i<N
     ·as_aux_lemma =>
      have hin2:(i:Int)≤(n:Int):=by omega
      have hwi:IntKind.i64.wrap ((i:Int)+1)=(i:Int)+1:=IntWalk.i64_in _ (by omega);obtain⟨wo,hwo⟩:∃ wo:World,wo=wr:=⟨_,rfl⟩;subst hwo;have hmk:=Hmk.out i wo;have HSa:=qh ((HS.out.alloc wo.heap.size rfl (rowA N (fun _ _=>false) i) 4).alloc (wo.heap.size+1) (by simp) #[.slice (some ⟨wo.heap.size,0,none⟩) N N] 30);have HR:=qh (HSa.out.row 2 rfl);go_wp2_with (at_builtin;go_loud (refine wpList_append_lies _ rfl _ _ _ rfl _ 30 i0 (.slice none 0 0) 1 24 Tryz.underlying113 hi.out Hhz0.out Hhz1.out Hhz2.out rfl (by omega) _ i _ rfl HR.out ⟨wo.heap.size+1,0,none⟩ 1 1 [.slice (some ⟨wo.heap.size,0,none⟩) N N] rfl rfl (World.news_of_block (HSa.out.box 5 rfl)) Zpb (by omega) (by unfold maxLen;omega) (by omega) HSa.out.size _ rfl ?_;intro g7 c7 w7 hown7 hgrow7 hat7 hlt7;have HS7:=qh ((HSa.out.app 2 rfl hown7 hgrow7 hat7).bxsAdd 3 4 (by decide) rfl rfl);clear hown7 hgrow7 hat7 hlt7));go_roundw
      case rel =>refine⟨i+1,c7,g7,upR R i wo.heap.size,by go_num,rfl,by omega,?_⟩;rw[← Zls];exact HS7.out.pick [0,1,2,3] (by decide)
      case measure=>simp[intOf]<;>omega
     obtain rfl:i=N:=by omega
     have hin2:¬ (i:Int)≤(n:Int):=by omega
     obtain⟨N,hNN⟩:=eI i;subst hNN;obtain⟨F,hF⟩:=eI (subT t n l k);have hF0:∀ x y,y<x→F x y=false:=fun x y hxy=>by rw[hF];unfold subT ZbH;rw[decide_eq_false (by omega)];rfl
     have HS3:=qh (HS.out.bxsTo 3 rfl (fun x y=>if N≤x then F x y else false) fun x y hx _=>(if_neg (by omega)).symm);have HF0:=qh hF0;replace hF:=qh hF;clear HS hF0;go_wp2
     go_loopw [12] (fun iv wr=>∃ (z:Int) (i':Nat),iv = .int .i64 z∧z+1=(i':Int)∧i'≤N∧St w wr [Ent.row 113 1 (.slice a k c) k vs,X,Ent.row 30 1 (.slice (some ⟨B,0,none⟩) N c2) N (rowV R N N),Ent.bxs R N N (fun x y=>if i'≤x then F x y else false)]) (fun iv _=>(intOf iv+1).toNat)
     case atStart=>exact⟨_,N,rfl,by omega,Nat.le_refl _,HS3.out⟩
     case round =>
      obtain⟨z,i',rfl,hz,hi',hS⟩:=hrel;have HS:=qh hS;clear hS HS3;cases i' with
      | zero =>
       as_aux_lemma =>
       have hz2:¬ (0:Int)≤z:=by omega
       obtain⟨wo,hwo⟩:∃ wo:World,wo=wr:=⟨_,rfl⟩;subst hwo;have HS5:=qh ((HS.out.bxsTo 3 rfl F fun x y _ _=>if_pos (Nat.zero_le _)).alloc wo.heap.size rfl #[.slice (some ⟨B,0,none⟩) N c2] 113);have HR:=qh (HS5.out.row 0 rfl);clear HS;go_wp2_with (at_builtin;refine wpList_append_lies _ rfl _ _ _ rfl _ 113 j0 (.slice none 0 0) 1 24 Tryz.underlying114 Hhj.out Hhy0.out Hhy1.out Hhy2.out rfl (by omega) _ k _ rfl HR.out ⟨wo.heap.size,0,none⟩ 1 1 [.slice (some ⟨B,0,none⟩) N c2] rfl rfl (World.news_of_block (HS5.out.box 4 rfl)) Zpb (by omega) (by unfold maxLen;omega) (by omega) HS5.out.size _ rfl ?_;intro g7 c7 w7 hown7 hgrow7 hat7 hlt7;have HS7:=qh ((HS5.out.app 0 rfl hown7 hgrow7 hat7).pick [0,1,2,3] (by decide));clear hown7 hgrow7 hat7 hlt7);go_roundw
       case rel =>
        have hS8:St w w7 [Ent.row 113 1 (.slice (some ⟨g7,0,none⟩) (k+1) c7) (k+1) (vs++[Value.slice (some ⟨B,0,none⟩) N c2]),X,Ent.row 30 1 (.slice (some ⟨B,0,none⟩) N c2) N (rowV R N N),Ent.bxs R N N F]:=HS7.out;have hS9:=St.pack (A:=[Ent.row 113 1 (.slice (some ⟨g7,0,none⟩) (k+1) c7) (k+1) (vs++[Value.slice (some ⟨B,0,none⟩) N c2])]) (R:=[X,Ent.all [Ent.row 30 1 (.slice (some ⟨B,0,none⟩) N c2) N (rowV R N N),Ent.bxs R N N F]]) (St.pack (A:=[Ent.row 113 1 (.slice (some ⟨g7,0,none⟩) (k+1) c7) (k+1) (vs++[Value.slice (some ⟨B,0,none⟩) N c2]),X]) (R:=[Ent.row 30 1 (.slice (some ⟨B,0,none⟩) N c2) N (rowV R N N),Ent.bxs R N N F]) hS8);refine⟨k+1,c7,some ⟨g7,0,none⟩,vs++[Value.slice (some ⟨B,0,none⟩) N c2],Ent.all [X,Ent.all [Ent.row 30 1 (.slice (some ⟨B,0,none⟩) N c2) N (rowV R N N),Ent.bxs R N N F]],by go_num,rfl,by omega,by rw[List.length_append,hvs];rfl,fun q hq => ?_,hS9⟩;by_cases hqk:q<k
        ·rw[show(vs++[Value.slice (some ⟨B,0,none⟩) N c2]).getD q undef=vs.getD q undef from by rw[List.getD_eq_getElem?_getD,List.getElem?_append_left (by omega),← List.getD_eq_getElem?_getD]];exact(HTb.out q hqk).left
        obtain rfl:q=k:=by omega
        rw[show(vs++[Value.slice (some ⟨B,0,none⟩) N c2]).getD q undef=Value.slice (some ⟨B,0,none⟩) N c2 from by rw[List.getD_eq_getElem?_getD,List.getElem?_append_right (by omega),hvs,Nat.sub_self];rfl,← hF.out];exact(TbH.made B c2 N R F).right
       case measure=>simp[intOf]<;>omega
      | succ i =>
       as_aux_lemma =>
       obtain rfl:z=(i:Int):=by omega
       clear hz;have hz2:(0:Int)≤(i:Int):=by omega
       have hwi:IntKind.i64.wrap ((i:Int)-1)=(i:Int)-1:=IntWalk.i64_in _ (by omega);obtain⟨wo,hwo⟩:∃ wo:World,wo=wr:=⟨_,rfl⟩;subst hwo
       have HS4:=qh (HS.out.bxsTo 3 rfl (Zh9 F i i) fun x y hx _=>by
        unfold Zh9;by_cases hix:i<x
        ·rw[if_pos (by omega),if_pos (.inl hix)]
        rw[if_neg (by omega)];by_cases hg:x=i∧y<i
        ·rw[if_pos (.inr hg),hg.1,HF0.out i y hg.2]
        rw[if_neg (fun g=>g.elim hix hg)])
       clear HS;go_wp2
       go_loopw [13] (fun jv wr=>∃ j:Nat,jv = .int .i64 (j:Int)∧i≤j∧j≤N∧St w wr [Ent.row 113 1 (.slice a k c) k vs,X,Ent.row 30 1 (.slice (some ⟨B,0,none⟩) N c2) N (rowV R N N),Ent.bxs R N N (Zh9 F i j)]) (fun jv _=>N-(intOf jv).toNat)
       case atStart=>exact⟨i,rfl,Nat.le_refl _,by omega,HS4.out⟩
       case round =>
        obtain⟨j,rfl,hij,hj,hS⟩:=hrel;have HS:=qh hS;clear hS HS4;by_cases hjn:j<N
        ·as_aux_lemma =>
         have hj2:(j:Int)≤(n:Int):=by omega
         have hwj:IntKind.i64.wrap ((j:Int)+1)=(j:Int)+1:=IntWalk.i64_in _ (by omega);obtain⟨wq,hwq⟩:∃ wq:World,wq=wr:=⟨_,rfl⟩;subst hwq;have k1:=(bcell HS.out.bel b _ hbl).trans G1.out;have k2:=(bcell HS.out.bel b _ hbl).trans G2.out;have hin8:n+1=N:=hN.out.symm;have hbq:b<wq.heap.size:=Nat.lt_of_lt_of_le hbl HS.out.bel.size;have hiN:i<N:=by omega
         have hjn2:j≤n:=by omega
         have hwi1:IntKind.i64.wrap ((i:Int)+1)=(i:Int)+1:=IntWalk.i64_in _ (by omega);have Hhin8:=qh hin8;clear hin8
         go_upto_block 8 with fail
         go_cut [14,15,16] from 69 to 221 (fun yv _ _ wd=>yv = .bool (F i j)∧St w wd [Ent.row 113 1 (.slice a k c) k vs,X,Ent.row 30 1 (.slice (some ⟨B,0,none⟩) N c2) N (rowV R N N),Ent.bxs R N N (Zh9 F i j)])
         case first =>
          have hFE:F i j=tabE n (lsT l) ((subs t).getD k .zero) i j:=by rw[hF.out];exact ZcR hij hjn2
          obtain⟨z0,hz0⟩:=eJ (F i j);rw[hz0] at hFE;have HFE:=qh hFE;have hjI:(j:Int)≤(n:Int):=by omega
          clear hFE;have Hhz0:=qh hz0;clear hz0;rcases kinds Hhr.out Hhpo.out with⟨rfl,rfl⟩|⟨rfl,rfl⟩|⟨rfl,rfl,hp20,hp22⟩|⟨rfl,rfl⟩|⟨rfl,rfl⟩|⟨rfl,rfl⟩|⟨rfl,rfl⟩|⟨rfl,rfl⟩
          ·as_aux_lemma =>
           have hs:=Zol Hsk.out;obtain rfl:z0=false:=HFE.out.trans (by rw[hs];rfl);have Hhs:=qh hs;clear hs;go_wp2;go_meet;exact⟨by rw[Hhz0.out],HS.out⟩
          ·as_aux_lemma =>
           have hs:=Zol Hsk.out;have hz:z0=decide (i=j):=HFE.out.trans (by rw[hs];rfl);have Hhs:=qh hs;clear hs;by_cases e:i=j
           ·obtain rfl:z0=true:=hz.trans (decide_eq_true e);obtain⟨q1,q2,q3⟩:=yesI (show(i:Int)=(j:Int) by omega);replace e:=qh e;clear hz;go_wp2;go_meet;exact⟨by first|(rw[Hhz0.out];done)|rw[Hhz0.out,q1],HS.out⟩
           obtain rfl:z0=false:=hz.trans (decide_eq_false e);obtain⟨q1,q2,q3,q4⟩:=Zaj (show(i:Int)≠(j:Int) by omega);replace e:=qh e;clear hz;go_wp2;go_meet;exact⟨by first|(rw[Hhz0.out];done)|rw[Hhz0.out,q1],HS.out⟩
          ·as_aux_lemma =>
           have hs:=Zol Hsk.out;by_cases e:j=i+1
           ·have hil:i<l.length:=by rw[Hhln.out];omega
            have hz:z0=(((l.getD i 0-97:Nat):Int)==p2):=HFE.out.trans (by rw[hs,Zob hp20 hp22 hil,decide_eq_true e,Bool.true_and]);obtain⟨q1,q2,q3⟩:=yesI (show(j:Int)=(i:Int)+1 by omega);have hrun:=Zc9 hil Ht.out;obtain⟨h97a,h97b⟩:=H97.out i hil;obtain⟨cc,hcc⟩:=eI (l.getD i 0-97);have hc2':((l.getD i 0:Nat):Int)=97+(cc:Int):=by omega
            rw[hc2'] at hrun;rw[← hcc] at hz
            have hw8:IntKind.u8.wrap (97+(cc:Int)-97)=(cc:Int):=by
             have:97+(cc:Int)-97=(cc:Int):=by omega
             rw[this];exact IntWalk.u8_in _ (by omega)
            have hw9:IntKind.i64.wrap (cc:Int)=(cc:Int):=IntWalk.i64_in _ (by omega);have hbq:((cc:Int)==p2)=z0:=hz.symm;have hiI:(i:Int)<(n:Int):=by omega
            replace e:=qh e;have Hhcc:=qh hcc;clear hcc;have Hhs:=qh hs;clear hs;clear hz hc2' h97a h97b;go_wp2
            go_quiet (fail)
            go_wp2;go_meet;exact⟨by first|(rw[Hhz0.out];done)|(rw[Hhz0.out,hbq]),HS.out.drewN _⟩
           obtain rfl:z0=false:=HFE.out.trans (by rw[hs];exact ZmO e _ _);obtain⟨q1,q2,q3,q4⟩:=Zaj (show(j:Int)≠(i:Int)+1 by omega);replace e:=qh e;have Hhs:=qh hs;clear hs;go_wp2
           go_quiet (fail)
           go_wp2;go_meet;exact⟨by rw[Hhz0.out],HS.out.drewN _⟩
          all_goals
           obtain⟨g,cap,hg⟩:=HS.out.rowform 0 rfl (show 0<k by first|(obtain⟨q,-,h,-⟩:=Hone.out rfl;omega)|(obtain⟨q,z,-,-,h,-,-⟩:=Htwo.out rfl;omega));simp only[Value.slice.injEq] at hg;obtain⟨rfl,-,rfl⟩:=hg;have HSQ:=qh HS.out
          ·as_aux_lemma =>
           obtain⟨q,z,rfl,rfl,hkq,hzq,hs⟩:=Htwo.out rfl;obtain⟨BA,cA,RA,t1,t2,t3⟩:=HS.out.tab 0 1 (q:=z) rfl rfl hvs (by omega) (HTb.out z (by omega));obtain⟨BB,cB,RB,u1,u2,u3⟩:=HS.out.tab 0 1 (q:=q) rfl rfl hvs (by omega) (HTb.out q (by omega));have hz:z0=anyU (fun m=>subT t n l z i m&&subT t n l q m j) i (j+1-i):=HFE.out.trans (by rw[hs];exact ZmP (lsT l) _ _ hn8 hij hjn2);obtain⟨f,hf⟩:=eI (fun m=>subT t n l z i m&&subT t n l q m j);rw[← hf] at hz;have hzk:(z:Int)<(k:Int):=by omega
           have hqk:(q:Int)<(k:Int):=by omega
           have hiI:(i:Int)<(N:Int):=by omega
           have hjNI:(j:Int)<(N:Int):=by omega
           have v2:=t2 i hiN;have T3:=qh t3;have U2:=qh u2;have U3:=qh u3;have Hhs:=qh hs;clear hs;have Hhz:=qh hz;clear hz;have Hhf:=qh hf;clear hf;have Hhkq:=qh hkq;clear hkq;clear t2 t3 u2 u3;go_wp2
           go_loopw [14,15] (fun yv mv wd=>∃ m d:Nat,mv = .int .i64 (m:Int)∧m=i+d∧yv = .bool (anyU f i d)∧d≤j+1-i∧wd=wq) (fun _ mv _=>j+1-(intOf mv).toNat)
           case atStart=>exact⟨i,0,rfl,rfl,rfl,Nat.zero_le _,rfl⟩
           case round =>
            obtain⟨m,d,rfl,hmd,rfl,hd,rfl⟩:=hrel;by_cases hle:m≤j
            ·as_aux_lemma =>
             have hmI:(m:Int)≤(j:Int):=by omega
             have hmN:(m:Int)<(N:Int):=by omega
             have hwm:IntKind.i64.wrap ((m:Int)+1)=(m:Int)+1:=IntWalk.i64_in _ (by omega);obtain⟨y,hy⟩:=eJ (anyU f i d);obtain⟨fa,hfa⟩:∃ x,subT t n l z i m=x:=⟨_,rfl⟩;obtain⟨ga,hga⟩:∃ x,subT t n l q m j=x:=⟨_,rfl⟩;have v3:=T3.out i m hiN (by omega);have w2:=U2.out m (by omega);have w3:=U3.out m j (by omega) hjn;rw[hfa] at v3;rw[hga] at w3;have hst:anyU f i (d+1)=(y||(fa&&ga)):=by rw[anyU,hy,← hmd,Hhf.out];show(y||(subT t n l z i m&&subT t n l q m j))=_;rw[hfa,hga]
             rw[hy];have Hhst:=qh hst;clear hst;have Hhy:=qh hy;clear hy;have Hhfa:=qh hfa;clear hfa;have Hhga:=qh hga;clear hga;have Hhmd:=qh hmd;clear hmd;cases y
             ·cases fa
              ·go_wp2;go_roundw
               case rel=>exact⟨m+1,d+1,by go_num,by have:=Hhmd.out;omega,by rw[Hhst.out];rfl,by have:=Hhmd.out;omega,trivial⟩
               case measure=>simp[intOf]<;>omega
              go_wp2;go_roundw
              case rel=>exact⟨m+1,d+1,by go_num,by have:=Hhmd.out;omega,by rw[Hhst.out];cases ga<;>rfl,by have:=Hhmd.out;omega,trivial⟩
              case measure=>simp[intOf]<;>omega
             go_wp2;go_roundw
             case rel=>exact⟨m+1,d+1,by go_num,by have:=Hhmd.out;omega,by rw[Hhst.out];rfl,by have:=Hhmd.out;omega,trivial⟩
             case measure=>simp[intOf]<;>omega
            as_aux_lemma =>
            have hmI:¬ (m:Int)≤(j:Int):=by omega
            have hde:d=j+1-i:=by omega
            have hze:anyU f i d=z0:=by rw[hde];exact Hhz.out.symm
            have Hhde:=qh hde;clear hde;have Hhze:=qh hze;clear hze;have Hhmd:=qh hmd;clear hmd;go_wp2;go_meet;exact⟨by rw[Hhz0.out,Hhze.out],HSQ.out⟩
          ·as_aux_lemma =>
           obtain⟨q,z,rfl,rfl,hkq,hzq,hs⟩:=Htwo.out rfl;obtain⟨BA,cA,RA,t1,t2,t3⟩:=HS.out.tab 0 1 (q:=z) rfl rfl hvs (by omega) (HTb.out z (by omega));obtain⟨BB,cB,RB,u1,u2,u3⟩:=HS.out.tab 0 1 (q:=q) rfl rfl hvs (by omega) (HTb.out q (by omega));have hz:z0=(subT t n l z i j||subT t n l q i j):=HFE.out.trans (by rw[hs];rfl);have v2:=t2 i hiN;have v3:=t3 i j hiN hjn;have w2:=u2 i hiN;have w3:=u3 i j hiN hjn;have hzk:(z:Int)<(k:Int):=by omega
           have hqk:(q:Int)<(k:Int):=by omega
           have hiI:(i:Int)<(N:Int):=by omega
           have hjNI:(j:Int)<(N:Int):=by omega
           obtain⟨fa,hfa⟩:∃ x,subT t n l z i j=x:=⟨_,rfl⟩;obtain⟨ga,hga⟩:∃ x,subT t n l q i j=x:=⟨_,rfl⟩;rw[hfa] at v3 hz;rw[hga] at w3 hz;have Hhs:=qh hs;clear hs;have Hhz:=qh hz;clear hz;have Hhfa:=qh hfa;clear hfa;have Hhga:=qh hga;clear hga;have Hhkq:=qh hkq;clear hkq;clear t2 t3 u2 u3;cases fa
           ·go_wp2;go_meet;exact⟨by rw[Hhz0.out,Hhz.out];rfl,HSQ.out⟩
           go_wp2;go_meet;exact⟨by rw[Hhz0.out,Hhz.out];rfl,HSQ.out⟩
          ·as_aux_lemma =>
           obtain⟨q,z,rfl,rfl,hkq,hzq,hs⟩:=Htwo.out rfl;obtain⟨BA,cA,RA,t1,t2,t3⟩:=HS.out.tab 0 1 (q:=z) rfl rfl hvs (by omega) (HTb.out z (by omega));obtain⟨BB,cB,RB,u1,u2,u3⟩:=HS.out.tab 0 1 (q:=q) rfl rfl hvs (by omega) (HTb.out q (by omega));have hz:z0=(subT t n l z i j&&subT t n l q i j):=HFE.out.trans (by rw[hs];rfl);have v2:=t2 i hiN;have v3:=t3 i j hiN hjn;have w2:=u2 i hiN;have w3:=u3 i j hiN hjn;have hzk:(z:Int)<(k:Int):=by omega
           have hqk:(q:Int)<(k:Int):=by omega
           have hiI:(i:Int)<(N:Int):=by omega
           have hjNI:(j:Int)<(N:Int):=by omega
           obtain⟨fa,hfa⟩:∃ x,subT t n l z i j=x:=⟨_,rfl⟩;obtain⟨ga,hga⟩:∃ x,subT t n l q i j=x:=⟨_,rfl⟩;rw[hfa] at v3 hz;rw[hga] at w3 hz;have Hhs:=qh hs;clear hs;have Hhz:=qh hz;clear hz;have Hhfa:=qh hfa;clear hfa;have Hhga:=qh hga;clear hga;have Hhkq:=qh hkq;clear hkq;clear t2 t3 u2 u3;cases fa
           ·go_wp2;go_meet;exact⟨by rw[Hhz0.out,Hhz.out];rfl,HSQ.out⟩
           go_wp2;go_meet;exact⟨by rw[Hhz0.out,Hhz.out];rfl,HSQ.out⟩
          ·as_aux_lemma =>
           obtain⟨q,rfl,hkq,hs⟩:=Hone.out rfl;obtain⟨BA,cA,RA,t1,t2,t3⟩:=HS.out.tab 0 1 (q:=q) rfl rfl hvs (by omega) (HTb.out q (by omega));have hz:z0 = !subT t n l q i j:=HFE.out.trans (by rw[hs];rfl);have v2:=t2 i hiN;have v3:=t3 i j hiN hjn;have hqk:(q:Int)<(k:Int):=by omega
           have hiI:(i:Int)<(N:Int):=by omega
           have hjNI:(j:Int)<(N:Int):=by omega
           obtain⟨fa,hfa⟩:∃ x,subT t n l q i j=x:=⟨_,rfl⟩;rw[hfa] at v3 hz;have Hhs:=qh hs;clear hs;have Hhz:=qh hz;clear hz;have Hhfa:=qh hfa;clear hfa;have Hhkq:=qh hkq;clear hkq;clear t2 t3;go_wp2;go_meet;exact⟨by rw[Hhz0.out,Hhz.out],HSQ.out⟩
          as_aux_lemma =>
          obtain⟨q,rfl,hkq,hs⟩:=Hone.out rfl;obtain⟨BA,cA,RA,t1,t2,t3⟩:=HS.out.tab 0 1 (q:=q) rfl rfl hvs (by omega) (HTb.out q (by omega))
          have hz:z0=(decide (i=j)||anyU (fun m=>subT t n l q i m&&F m j) (i+1) (j-i)):=HFE.out.trans (by
           rw[hs];have e1:∀ m,F m j=ZbH n (tabE n (lsT l) (mkE (8,p2) ((subs t).getD q .zero) ((subs t).getD q .zero))) m j:=fun m=>by rw[hF.out,← hs];rfl
           simp only[e1];exact ZmN (by rw[Zow];exact Hhln.out) _ hn8 hij hjn2)
          obtain⟨f,hf⟩:=eI (fun m=>subT t n l q i m&&F m j);rw[← hf] at hz
          obtain⟨e0,he0,hbeq⟩:∃ e0,decide (i=j)=e0∧((i:Int)==(j:Int))=e0:=by
           by_cases e:i=j
           ·exact⟨true,decide_eq_true e,(yesI (by omega)).1⟩
           exact⟨false,decide_eq_false e,(Zaj (by omega)).1⟩
          rw[he0] at hz;have hqk:(q:Int)<(k:Int):=by omega
          have hiI:(i:Int)<(N:Int):=by omega
          have hjNI:(j:Int)<(N:Int):=by omega
          have v2:=t2 i hiN;have T3:=qh t3;have Hhs:=qh hs;clear hs;have Hhz:=qh hz;clear hz;have Hhf:=qh hf;clear hf;have Hhkq:=qh hkq;clear hkq;have Hhe0:=qh he0;clear he0;clear t2 t3;go_wp2
          go_loopw [14,16] (fun yv mv wd=>∃ m d:Nat,mv = .int .i64 (m:Int)∧m=i+1+d∧yv = .bool (e0||anyU f (i+1) d)∧d≤j-i∧wd=wq) (fun _ mv _=>j+1-(intOf mv).toNat)
          case atStart=>exact⟨i+1,0,by go_num,rfl,by first|(rw[hbeq];cases e0<;>rfl)|(cases e0<;>rfl),Nat.zero_le _,rfl⟩
          case round =>
           obtain⟨m,d,rfl,hmd,rfl,hd,rfl⟩:=hrel;by_cases hle:m≤j
           ·as_aux_lemma =>
            have hmI:(m:Int)≤(j:Int):=by omega
            have hmN:(m:Int)<(N:Int):=by omega
            have hwm:IntKind.i64.wrap ((m:Int)+1)=(m:Int)+1:=IntWalk.i64_in _ (by omega);obtain⟨y,hy⟩:=eJ ((e0||anyU f (i+1) d));obtain⟨fa,hfa⟩:∃ x,subT t n l q i m=x:=⟨_,rfl⟩;obtain⟨ga,hga⟩:∃ x,F m j=x:=⟨_,rfl⟩;have v3:=T3.out i m hiN (by omega);have w2:=HSQ.out.rcell 2 m rfl (by omega) (Zi5 R N (show m<N by omega));have w3:=(HSQ.out.bxsCell 3 rfl (show m<N by omega) hjn).1;rw[show Zh9 F i j m j=ga from by unfold Zh9;rw[if_pos (.inl (by omega)),hga]] at w3;rw[hfa] at v3;have hst:(e0||anyU f (i+1) (d+1))=(y||(fa&&ga)):=by rw[anyU,← Bool.or_assoc,hy,← hmd,Hhf.out];show(y||(subT t n l q i m&&F m j))=_;rw[hfa,hga]
            rw[hy];have Hhst:=qh hst;clear hst;have Hhy:=qh hy;clear hy;have Hhfa:=qh hfa;clear hfa;have Hhga:=qh hga;clear hga;have Hhmd:=qh hmd;clear hmd;cases y
            ·cases fa
             ·go_wp2;go_roundw
              case rel=>exact⟨m+1,d+1,by go_num,by have:=Hhmd.out;omega,by rw[Hhst.out];rfl,by have:=Hhmd.out;omega,trivial⟩
              case measure=>simp[intOf]<;>omega
             go_wp2;go_roundw
             case rel=>exact⟨m+1,d+1,by go_num,by have:=Hhmd.out;omega,by rw[Hhst.out];cases ga<;>rfl,by have:=Hhmd.out;omega,trivial⟩
             case measure=>simp[intOf]<;>omega
            go_wp2;go_roundw
            case rel=>exact⟨m+1,d+1,by go_num,by have:=Hhmd.out;omega,by rw[Hhst.out];rfl,by have:=Hhmd.out;omega,trivial⟩
            case measure=>simp[intOf]<;>omega
           as_aux_lemma =>
           have hmI:¬ (m:Int)≤(j:Int):=by omega
           have hde:d=j-i:=by omega
           have hze:(e0||anyU f (i+1) d)=z0:=by rw[hde];exact Hhz.out.symm
           have Hhde:=qh hde;clear hde;have Hhze:=qh hze;clear hze;have Hhmd:=qh hmd;clear hmd;go_wp2;go_meet;exact⟨by rw[Hhz0.out,Hhze.out],HSQ.out⟩
         case rest =>
          as_aux_lemma =>
           obtain⟨rfl,hSd⟩:=hcut;have HSd:=qh hSd;clear HS hSd;have hiI:(i:Int)<(N:Int):=by omega
           have hjNI:(j:Int)<(N:Int):=by omega
           have r1:=HSd.out.rcell 2 i rfl (by omega) (Zi5 R N hiN);obtain⟨r2,r3⟩:=HSd.out.bxsCell 3 rfl hiN hjn;go_wp2;go_roundw
           case rel =>
            refine⟨j+1,by go_num,by omega,by omega,HSd.out.bxsSet 3 rfl hiN hjn (F i j) fun x y hx hy => ?_⟩;unfold Zh9;by_cases h1:x=i∧y=j
            ·rw[if_pos h1,if_pos (.inr (by omega)),h1.1,h1.2]
            rw[if_neg h1];by_cases h2:i<x∨(x=i∧y<j)
            ·rw[if_pos (by omega),if_pos h2]
            rw[if_neg (by omega),if_neg h2]
           case measure=>simp[intOf]<;>omega
        obtain rfl:j=N:=by omega
        have hj2:¬ (j:Int)≤(n:Int):=by omega
        go_wp2;go_roundw
        case rel =>
         refine⟨_,i,rfl,by omega,by omega,HS.out.bxsTo 3 rfl _ fun x y hx hy => ?_⟩;unfold Zh9;by_cases hix:i≤x
         ·rw[if_pos hix,if_pos (by omega)]
         rw[if_neg hix,if_neg (by omega)]
        case measure=>simp[intOf]<;>omega
  as_aux_lemma =>
  obtain rfl:k=M:=by omega
  have hlt2:¬ (k:Int)<(k:Int):=by omega
  have HS:=qh hS;have HTb:=qh hTb;clear hS hTb;go_wp2;go_ret;refine⟨a,c,rfl,vs,hvs,X,fun q hq => ?_,HS.out⟩;rw[← hN.out];exact HTb.out q hq
end Go.Proofs.YtehmjmjedopkkaaGreat
