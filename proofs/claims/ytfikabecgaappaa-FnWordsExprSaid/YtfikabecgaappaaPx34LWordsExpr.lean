/-
  The walk over the law FnWordsExpr.
  Condition: the argument reads as bytes.
-/
import Derived.Test.YtfikabecgaappaaPx27Rdx
import Derived.Test.YtfikabecgaappaaPx28Jy
import Derived.Test.YtfikabecgaappaaPx31Cmx
import Derived.Test.YtfikabecgaappaaPx33Lb
set_option maxHeartbeats 16000000
set_option maxRecDepth 100000
namespace Go.Proofs.Ytfikabecgaappaa
open Go.RowKit
theorem ZmB {l:List Nat} (hw:wdOk l=true) (t:Ex):accX l t=true↔memE t (lets l):=by
 have h8:(lsT l).length≤8:=by rw[ZkR];exact(ZaP hw).1
 have:=ZlM h8 t;rw[ZkR] at this;exact this
theorem ZnI {a b:List Nat} (ha:isT a) (hb:isT b):((txB a).toList==(txB b).toList)=decide (a=b):=by
 by_cases h:a=b
 ·rw[h,beq_self_eq_true,decide_eq_true rfl]
 rw[ZmU ha hb h,decide_eq_false h]
theorem ZjT {K:Nat} (hK:K=40) {ls:List (List Nat)} (hok:wsOk ls=true) {o:Option DfaD} (ho:Zno K (wsR ls) o):exOk (wsR ls)=true∧(∀ k,k<ls.length→AccO (wsR ls) (ls.getD k []) true)∧∀ D,o=some D→Zaf D.next D.ends=true∧Zef D 9=difW ls ls.length:=by
 have hwd:=fun k hk=>(Zf4 hok (k:=k) hk).1
 have hpo:=Zix hwd ls.length (Nat.le_refl _);have hR:wsR ls=wsP ls ls.length:=if_pos hok
 have h60:(wsP ls ls.length).length≤60:=by
  cases hn:ls.length with
  | zero=>show(1:Nat)≤60;omega
  | succ n=>exact(Zf4 hok (k:=n) (by omega)).2
 rw[← hpo] at h60 hR;have hex:=Zkp (wsT ls ls.length) h60;rw[hR] at ho ⊢;refine⟨hex,fun k hk => ?_,fun D hD => ?_⟩
 ·refine .inl ⟨hex,hwd k hk,wsT ls ls.length,rfl,?_⟩;rw[ZmB (hwd k hk),ZhK hwd _ (Nat.le_refl _)];exact⟨k,hk,rfl⟩
 rcases ho with⟨-,t,ht,hc⟩|⟨h,-⟩
 ·obtain rfl:=ZlU ht;rw[hD] at hc;exact⟨ZbV hK _ hc,ZhM hK hwd hc⟩
 rw[hex] at h;cases h
theorem Zfn (bs:List Nat) (v:Value) (w:World) (hb:Bytes 0 w v bs) :
  Calls Try.prog 4 #[v] w fun e w'=>e = .returned (.bool true)∧Below w.heap.size w w':=by
 have HB:=qh hb;obtain⟨av,cv,rfl,hcv1,hcv2,-⟩:=hb.form;clear hb;by_cases hlen:1048576<bs.length
 ·have hl2:(1048576:Int)<bs.length:=by omega
  go_enter Try.func4, Try.ntmps4
  go_wp2;go_ret;exact⟨rfl,Below.refl _ _⟩
 have hl2:¬ (1048576:Int)<bs.length:=by omega
 go_enter Try.func4, Try.ntmps4
 go_wp2_with fail;refine(ZdY bs _ _ HB.out (by omega)).mono ?_;rintro e w1 ⟨ls,vl,hok,rfl,hT,hb1⟩;have HW1:=qh hb1;have HT:=qh hT;obtain⟨aL,cL,rfl,hcL1,hcL2,hrL⟩:=hT.form;have hn10:=hok.1
 have hE60:(wsR ls).length≤100:=by
  unfold wsR
  split
  ·rename_i h;cases hn:ls.length with
   | zero=>show(1:Nat)≤100;omega
   | succ n=>exact Nat.le_trans (Zf4 h (k:=n) (by omega)).2 (by omega)
  exact Nat.zero_le _
 obtain⟨N,hN⟩:=eI (ls.length);obtain⟨E,hE⟩:=eI (wsR ls);obtain⟨ok,hokk⟩:=eI (wsOk ls);have hwi:=fun (u:World) (h:Below w1.heap.size w1 u)=>ZdU ls (.slice aL ls.length cL) u hok (hT.below h)
 have hws:=fun (u:World) (h:Below w1.heap.size w1 u)=>ZdH ls (.slice aL ls.length cL) u hok (hT.below h)
 unfold RWs at hwi hws;have h0E:ok=false→E.length=0:=fun h=>by rw[hE];unfold wsR;rw[← hokk,h];rfl
 rw[← hN] at hwi hws HT hrL hcL1 hn10 ⊢;rw[← hE] at hwi hws hE60;rw[← hokk] at hwi hws;have Hwi:=qh hwi;have Hws:=qh hws;have HrL:=qh hrL;have Hok:=qh hok;replace hN:=qh hN;replace hE:=qh hE;have Hhokk:=qh hokk;clear hokk;replace h0E:=qh h0E;clear hb1 hwi hws hrL hok hT;go_wp2_with fail;refine(Hwi.out _ (Below.refl _ _)).mono ?_;rintro e w2 ⟨aE,cE,rfl,hS⟩;have HQ:=qh (Za9 (hS.row 0 rfl));have HS2:=qh ((St.start w1).call hS.bel);clear hS;go_wp2_with fail;refine(Hws.out _ HS2.out.bel).mono ?_;rintro e w3 ⟨aU,cU,rfl,hS⟩;have HU:=qh (Za9 (hS.row 0 rfl));have HQ3:=qh (HQ.out.below hS.bel);have HS3:=qh (HS2.out.call hS.bel);clear hS;go_wp2_with fail;refine(Zgd E _ _ _ (by omega) HQ3.out HU.out).mono ?_;rintro e w4 ⟨rfl,hb⟩;have HQ4:=qh (HQ3.out.below hb);have HS4:=qh (HS3.out.call hb);have hkk:(ok != ok)=false:=by simp
 clear hb HQ HQ3 HU HS2 HS3;cases hc:ok with
 | false =>
  have hz:=h0E.out hc;have hzI:(E.length:Int)=0:=by omega
  subst hc
  as_aux_lemma =>
  go_wp2_with (go_at_call 13;refine(ZlC _).mono ?_;rintro e w' ⟨rfl,rfl⟩);go_ret;exact⟨rfl,((St.start w).call HW1.out).bel.trans (HS4.out.bel.mono HW1.out.size)⟩
 | true =>
  subst hc;obtain⟨K,hK⟩:∃ K,K=40:=⟨40,rfl⟩;obtain⟨o,ho⟩:=Zmt K E;obtain⟨hex,hac,hmd⟩:=ZjT hK Hhokk.out.symm (o:=o) (hE.out ▸ ho);rw[← hE.out] at hex hac;obtain⟨D,hD⟩:=eJ (o.getD zeD);obtain⟨g,hg⟩:=eJ (o.isSome);have hC:=fun (v:Value) (w:World) h=>Zc6 K hK E o ho v w h
  rw[hD,hg] at hC
  have hmd2:g=true→Zaf D.next D.ends=true∧Zef D 9=difW ls ls.length:=fun h=>by
   obtain⟨x,q⟩:=Option.isSome_iff_exists.1 (hg.trans h);obtain rfl:x=D:=by rw[← hD,q];rfl
   exact hmd x q
  have HC:=qh hC;have Hac:=qh hac;have Hmd:=qh hmd2;have Hhex:=qh hex;clear hex;have HhK:=qh hK;clear hK;clear ho hD hg hC hac hmd hmd2;go_wp2
  go_loopw [8,9] (fun dv kv wr=>∃ k:Nat,kv = .int .i64 (k:Int)∧dv = .int .i64 ((difW ls k:Nat):Int)∧k≤N∧St w4 wr []) (fun _ kv _=>N-(intOf kv).toNat)
  case atStart=>exact⟨0,rfl,rfl,Nat.zero_le _,St.start _⟩
  case round =>
   obtain⟨k,rfl,rfl,hk,hS⟩:=hrel;have HSk:=qh hS;have hdl:=Zlc ls k;obtain⟨d,hd⟩:=eI (difW ls k);rw[← hd] at hdl ⊢;have Hhd:=qh hd;clear hd;clear hS;by_cases hkn:k<N
   ·have hkI:(k:Int)<(N:Int):=by omega
    have hwk:IntKind.i64.wrap ((k:Int)+1)=(k:Int)+1:=IntWalk.i64_in _ (by omega);go_wp2
    go_loopw [10,11] (fun fv jv wr=>∃ j:Nat,jv = .int .i64 (j:Int)∧fv = .int .i64 (if newW ls k j=true then 1 else 0)∧j≤k∧St w4 wr []) (fun _ jv _=>k-(intOf jv).toNat)
    case atStart=>exact⟨0,rfl,rfl,Nat.zero_le _,HSk.out⟩
    case round =>
     obtain⟨j,rfl,rfl,hj,hS⟩:=hrel;have HSj:=qh hS;obtain⟨b1,o1,rfl,hbl1,hcs1⟩:=HrL.out (by omega);have hbw4:=HS4.out.size;have k1:=(bcell HSj.out.bel b1 _ (by omega)).trans ((bcell HS4.out.bel b1 _ hbl1).trans (hcs1 k hkn));have hxk:=Hok.out.2 _ (memT (show k<ls.length by have:=hN.out;omega));obtain⟨y,hy⟩:=eJ (newW ls k j);rw[hy];clear hS;by_cases hjk:j<k
     ·have hjI:(j:Int)<(k:Int):=by omega
      have hjn:j<N:=by omega
      have hjI2:(j:Int)<(N:Int):=by omega
      have hwj:IntKind.i64.wrap ((j:Int)+1)=(j:Int)+1:=IntWalk.i64_in _ (by omega);have k2:=(bcell HSj.out.bel b1 _ (by omega)).trans ((bcell HS4.out.bel b1 _ hbl1).trans (hcs1 j hjn));have hxj:=Hok.out.2 _ (memT (show j<ls.length by have:=hN.out;omega));have hns:=ZkE ls k j;rw[hy] at hns;have hq:=ZnI hxj.1 hxk.1;obtain⟨z,hz⟩:=eJ (decide (ls.getD j []=ls.getD k []));rw[hz] at hq hns;obtain⟨lj,hlj⟩:∃ l,l=ls.getD j []:=⟨_,rfl⟩;obtain⟨lk,hlk⟩:∃ l,l=ls.getD k []:=⟨_,rfl⟩;rw[← hlj] at k2 hq;rw[← hlk] at k1 hq;have Hns:=qh hns;have Hhz:=qh hz;clear hz;have Hhy:=qh hy;clear hy;have Hhlj:=qh hlj;clear hlj;have Hhlk:=qh hlk;clear hlk;have Hhxj:=qh hxj;clear hxj;have Hhxk:=qh hxk;clear hxk;clear hns hcs1;obtain⟨f,hf⟩:∃ f:Int,f=(if y=true then 1 else 0):=⟨_,rfl⟩;rw[← hf];have Hhf:=qh hf;clear hf;cases z with
      | true =>
       as_aux_lemma =>
       go_wp2
       go_region
       go_wp2;go_roundw
       case rel=>exact⟨j+1,by go_num,by rw[Hns.out];simp,by omega,HSj.out.drewN _⟩
       case measure=>simp[intOf]<;>omega
      | false =>
       as_aux_lemma =>
       go_wp2
       go_region
       go_wp2;go_roundw
       case rel=>exact⟨j+1,by go_num,by rw[Hns.out,Bool.not_false,Bool.and_true,Hhf.out],by omega,HSj.out.drewN _⟩
       case measure=>simp[intOf]<;>omega
     obtain rfl:j=k:=by omega
     have hjI:¬ (j:Int)<(j:Int):=by omega
     have hds:difW ls (j+1)=d+(if y=true then 1 else 0):=by rw[Hhd.out,← hy];rfl
     have hac:=fun (u:World) (h:Pairs 0 u (.slice aE E.length cE) E)=>Zc5 E (ls.getD j []) (.slice aE E.length cE) u true (Hac.out j (by have:=hN.out;omega)) h hxk.1 (by omega)
     obtain⟨lk,hlk⟩:∃ l,l=ls.getD j []:=⟨_,rfl⟩;rw[← hlk] at k1 hac;have Hacc:=qh hac;have hwd1:IntKind.i64.wrap ((d:Int)+1)=(d:Int)+1:=IntWalk.i64_in _ (by omega);have hwd0:IntKind.i64.wrap ((d:Int)+0)=(d:Int):=IntWalk.i64_in _ (by omega);have Hhds:=qh hds;clear hds;have Hhlk:=qh hlk;clear hlk;have Hhxk:=qh hxk;clear hxk;have Hhy:=qh hy;clear hy;clear hac hcs1;cases y with
     | true =>
      as_aux_lemma =>
      go_wp2_with (go_at_call 17;refine(Hacc.out _ (HQ4.out.below HSj.out.bel)).mono ?_;rintro e w6 ⟨rfl,hb6⟩;have HS6:=qh (HSj.out.call hb6);clear hb6);go_roundw
      case rel=>exact⟨j+1,by go_num,by rw[Hhds.out];simp,by omega,HS6.out⟩
      case measure=>simp[intOf]<;>omega
     | false =>
      as_aux_lemma =>
      go_wp2_with (go_at_call 17;refine(Hacc.out _ (HQ4.out.below HSj.out.bel)).mono ?_;rintro e w6 ⟨rfl,hb6⟩;have HS6:=qh (HSj.out.call hb6);clear hb6);go_roundw
      case rel=>exact⟨j+1,by go_num,by rw[Hhds.out];simp,by omega,HS6.out⟩
      case measure=>simp[intOf]<;>omega
   obtain rfl:k=N:=by omega
   have hkI:¬ (k:Int)<(k:Int):=by omega
   go_wp2_with fail;refine(HC.out _ _ (HQ4.out.below HSk.out.bel)).mono ?_;rintro e w5 ⟨⟨r1a,s1a,r2a,s2a,rfl,hx⟩,hb⟩;have hb5:=(Below.refl w5.heap.size w5).alloc (Nat.le_refl _) (.cells #[.slice r1a D.next.length s1a,.slice r2a D.ends.length s2a] 30);have HS5:=qh ((HSk.out.call hb).alloc _ rfl #[.slice r1a D.next.length s1a,.slice r2a D.ends.length s2a] 30);have HX5:=qh (((hx.r).mono (Nat.zero_le _)).below hb5);have HQ5:=qh ((HQ4.out.below HSk.out.bel).below (hb.trans (hb5.mono hb.size)));clear hx hb hb5;cases g with
   | false =>
    as_aux_lemma =>
    go_wp2
    go_loopw [15] (fun nv wr=>nv = .int .i64 0∧wr=(w5.alloc (.cells #[.slice r1a D.next.length s1a,.slice r2a D.ends.length s2a] 30))) (fun nv _=>1-(intOf nv).toNat)
    case atStart=>exact⟨rfl,rfl⟩
    case round =>obtain⟨rfl,rfl⟩:=hrel;go_wp2_with (go_at_call 19;refine(ZaD E _ _ HQ5.out true Hhex.out).mono ?_;rintro e w6 ⟨rfl,hb6⟩;have HB6:=qh hb6;clear hb6);go_ret;exact⟨rfl,(((St.start w).call HW1.out).bel.trans (HS4.out.bel.mono HW1.out.size)).trans ((HS5.out.bel.trans (HB6.out.mono HS5.out.bel.size)).mono (Nat.le_trans HW1.out.size HS4.out.bel.size))⟩
   | true =>
    obtain⟨hdo,hmn⟩:=Hmd.out rfl;have hmn2:Zef D 9=d:=by rw[hmn,Hhd.out,hN.out]
    have hcn:=fun (n:Nat) (u:World) (h:n≤8) (hx:DfaR 0 u (.agg #[.slice r1a D.next.length s1a,.slice r2a D.ends.length s2a]) D)=>Zdt D (n:Int) (.agg #[.slice r1a D.next.length s1a,.slice r2a D.ends.length s2a]) u hx ((cntD D n 0:Nat):Int) (by unfold cwA;rw[if_pos ⟨hdo,by omega,by omega⟩,Int.toNat_natCast])
    have Hcn:=qh hcn;have Hhmn2:=qh hmn2;clear hmn2;clear hcn hmn hdo;go_wp2
    go_loopw [14,15] (fun mv nv wr=>∃ n:Nat,nv = .int .i64 (n:Int)∧mv = .int .i64 ((Zef D n:Nat):Int)∧n≤9∧St w4 wr [Ent.box w5.heap.size #[.slice r1a D.next.length s1a,.slice r2a D.ends.length s2a] 30]∧Below (w5.alloc (.cells #[.slice r1a D.next.length s1a,.slice r2a D.ends.length s2a] 30)).heap.size (w5.alloc (.cells #[.slice r1a D.next.length s1a,.slice r2a D.ends.length s2a] 30)) wr) (fun _ nv _=>9-(intOf nv).toNat)
    case atStart=>exact⟨0,rfl,rfl,by omega,HS5.out,Below.refl _ _⟩
    case round =>
     obtain⟨n,rfl,rfl,hn,hS,hbn⟩:=hrel;have HSn:=qh hS;have HBn:=qh hbn;have hml:=ZiS D n (by omega);obtain⟨M,hM⟩:=eI (Zef D n);rw[← hM] at hml ⊢;clear hS hbn;by_cases hn8:n≤8
     ·have hnI:(n:Int)≤8:=by omega
      have hwn:IntKind.i64.wrap ((n:Int)+1)=(n:Int)+1:=IntWalk.i64_in _ (by omega);have hcl:=Zip D n 0;have h3:3 ^ n≤3 ^ 8:=Nat.pow_le_pow_right (by omega) hn8;have h4:3 ^ 8=6561:=by decide
      have hms:Zef D (n+1)=M+cntD D n 0:=by rw[hM];rfl
      have hcc:=fun u hx=>Hcn.out n u hn8 hx
      obtain⟨c,hc⟩:=eI (cntD D n 0);rw[← hc] at hms hcl hcc;have hwm:IntKind.i64.wrap ((M:Int)+(c:Int))=(M:Int)+(c:Int):=IntWalk.i64_in _ (by omega);have e0:=HSn.out.cell (v:=.slice r1a D.next.length s1a) 0 0 rfl rfl;have e1:=HSn.out.cell (v:=.slice r2a D.ends.length s2a) 0 1 rfl rfl;have Hcc:=qh hcc;have Hhms:=qh hms;clear hms;have HhM:=qh hM;clear hM;have Hhc:=qh hc;clear hc;clear hcc h3 h4
      as_aux_lemma =>
      go_wp2_with (go_at_call 18;refine(Hcc.out _ (HX5.out.below HBn.out)).mono ?_;rintro e w6 ⟨rfl,hb6⟩;have HS6:=qh (HSn.out.call hb6);have HB6:=qh (HBn.out.trans (hb6.mono HBn.out.size));clear hb6);go_roundw
      case rel=>exact⟨n+1,by go_num,by rw[Hhms.out];rfl,by omega,HS6.out,HB6.out⟩
      case measure=>simp[intOf]<;>omega
     obtain rfl:n=9:=by omega
     have hnI:¬ (((9:Nat):Int))≤8:=by decide
     have hMd:M=d:=by rw[hM,Hhmn2.out]
     subst hMd;clear hM
     as_aux_lemma =>
     go_wp2_with (go_at_call 19;refine(ZaD E _ _ (HQ5.out.below HBn.out) true Hhex.out).mono ?_;rintro e w6 ⟨rfl,hb6⟩;have HB6:=qh (HSn.out.call hb6);clear hb6);go_ret;exact⟨rfl,(((St.start w).call HW1.out).bel.trans (HS4.out.bel.mono HW1.out.size)).trans (HB6.out.bel.mono (Nat.le_trans HW1.out.size HS4.out.bel.size))⟩
end Go.Proofs.Ytfikabecgaappaa
