/-
  The walk over the law FnRewriteBack.
  Conditions: the arguments read as bytes.
-/
import Derived.Test.YtfanhfcamblghaaPv24Rwi
import Derived.Test.YtfanhfcamblghaaPv26Rwk
import Derived.Test.YtfanhfcamblghaaPv27Sd
set_option maxHeartbeats 16000000
set_option maxRecDepth 100000
namespace Go.Proofs.Ytfanhfcamblghaa
open Go.RowKit
theorem Zk2:okRw cpR:=by
 refine⟨fun k => ?_,⟨by decide,fun l hl => ?_⟩⟩
 ·cases k with
  | zero=>exact⟨by decide,fun l hl=>by have hl:l∈[[97],[98],[99]]:=hl;simp only[List.mem_cons,List.not_mem_nil,or_false] at hl;rcases hl with rfl|rfl|rfl<;>exact⟨fun b hb=>by simp at hb;omega,by decide⟩⟩
  | succ k=>exact⟨Nat.zero_le _,fun l hl=>by cases k<;>cases hl⟩
 have hl:l∈[([]:List Nat)]:=hl;obtain rfl:=List.mem_singleton.1 hl;exact⟨fun b hb=>(List.not_mem_nil hb).elim,Nat.zero_le _⟩
theorem Zla (r:RwD) (l:List Nat):isT (rwT r l):=by
 unfold rwT;by_cases h:rwOk r=true∧txM 30 l=true
 ·rw[if_pos h];intro b hb;have:=ZkL h.1 (ZfY h.2) b hb;omega
 rw[if_neg h];exact fun b hb=>(List.not_mem_nil hb).elim
theorem Zlq {K:Nat} (hK:K=40) {r:RwD} {d x:DfaD} (hx:rwB K r d=some x):Zaf x.next x.ends=true:=by
 unfold rwB at hx;by_cases h:rwOk r=true∧Zaf d.next d.ends=true∧(bat (stpW r d) (0,0) K).met.length≤K
 ·rw[if_pos h] at hx;obtain rfl:=Option.some.inj hx;exact Zls (Zgd hK h.2.2)
 rw[if_neg h] at hx;cases hx
structure CpQ where
 v1:Value
 v2:Value
 v3:Value
 F:Ent
theorem Zdt (w:World):Calls Try.prog 25 #[] w fun e w'=>∃ v1 v2 v3 F,e = .returned (.agg #[v1,v2,v3])∧St w w' [Ent.know F (fun u=>RwR u (.agg #[v1,v2,v3]) cpR)]:=by
 obtain⟨B,hB⟩:=eJ (w.heap.size);have hS:=((((((St.start w).alloc B hB #[.slice (some ⟨B+1+1,0,none⟩) 1 1,.slice (some ⟨B+1+1+1+1,0,none⟩) 1 1,.slice (some ⟨B+1+1+1+1+1,0,none⟩) 1 1] 54).alloc (B+1) (by simp[hB]) #[.int .i64 0,.int .i64 0,.int .i64 0] 3).alloc (B+1+1) (by simp[hB]) #[.slice (some ⟨B+1,0,none⟩) 3 3] 26).alloc (B+1+1+1) (by simp[hB]) #[.string ⟨#[97]⟩,.string ⟨#[98]⟩,.string ⟨#[99]⟩] 9).alloc (B+1+1+1+1) (by simp[hB]) #[.slice (some ⟨B+1+1+1,0,none⟩) 3 3] 52).alloc (B+1+1+1+1+1) (by simp[hB]) #[.string ⟨#[]⟩] 9;have HS:=qh hS;have Hrow:=qh (fun (u:World) (h:u.heap.size=B+1)=>ZiN 0 (B+1) u h);clear hS
 go_enter Try.func25, Try.ntmps25
 go_wp2_with (go_at_call 79;refine(Hrow.out _ (by simp[hB])).mono ?_;rintro e w' ⟨rfl,rfl⟩);have hq:=HS.out;have q0:=hq.cell (v:=.slice (some ⟨B+1+1,0,none⟩) 1 1) 0 0 rfl rfl;have q1:=hq.cell (v:=.slice (some ⟨B+1+1+1+1,0,none⟩) 1 1) 0 1 rfl rfl;have q2:=hq.cell (v:=.slice (some ⟨B+1+1+1+1+1,0,none⟩) 1 1) 0 2 rfl rfl;refine bodyPost_ret (v:=.agg #[.slice (some ⟨B+1+1,0,none⟩) 1 1,.slice (some ⟨B+1+1+1+1,0,none⟩) 1 1,.slice (some ⟨B+1+1+1+1+1,0,none⟩) 1 1]) (by simp[results,Try.results25,go_sem,q0,q1,q2]) rfl ?_;have hR:=((((hq.boxrow 1 3 1 [.int .i64 0,.int .i64 0,.int .i64 0] rfl rfl (by unfold maxLen;omega)).boxrow 2 1 1 [.slice (some ⟨B+1,0,none⟩) 3 3] rfl rfl (by unfold maxLen;omega)).boxrow 3 3 1 [.string ⟨#[97]⟩,.string ⟨#[98]⟩,.string ⟨#[99]⟩] rfl rfl (by unfold maxLen;omega)).boxrow 4 1 1 [.slice (some ⟨B+1+1+1,0,none⟩) 3 3] rfl rfl (by unfold maxLen;omega)).boxrow 5 1 1 [.string ⟨#[]⟩] rfl rfl (by unfold maxLen;omega);refine⟨_,_,_,_,rfl,(St.knowAll (A:=[]) (P:=fun u=>RwR u (.agg #[.slice (some ⟨B+1+1,0,none⟩) 1 1,.slice (some ⟨B+1+1+1+1,0,none⟩) 1 1,.slice (some ⟨B+1+1+1+1+1,0,none⟩) 1 1]) cpR) hR fun u h => ?_)⟩;refine⟨_,_,_,rfl,⟨[.slice (some ⟨B+1,0,none⟩) 3 3],Zf4 (ZaC h 2 rfl) (by omega),fun i hi => ?_⟩,⟨[.slice (some ⟨B+1+1+1,0,none⟩) 3 3],Zf4 (ZaC h 4 rfl) (by omega),fun i hi => ?_⟩,Zf4 (ZaC h 5 rfl) (by omega)⟩
 ·obtain rfl:i=0:=by have hi:i<1:=hi;omega
  exact Zf4 (ZaC h 1 rfl) (by omega)
 obtain rfl:i=0:=by have hi:i<1:=hi;omega
 exact Zf4 (ZaC h 3 rfl) (by omega)
theorem ZdL (bs cs:List Nat) (v u:Value) (w:World) (hb:Bytes 0 w v bs) (hc:Bytes 0 w u cs) :
  Calls Try.prog 5 #[v,u] w fun e w'=>e = .returned (.bool true)∧Below w.heap.size w w':=by
 have HB:=qh hb;have HC:=qh hc;obtain⟨av,cv,rfl,hcv1,hcv2,-⟩:=hb.form;obtain⟨au,cu,rfl,hcu1,hcu2,-⟩:=hc.form;clear hb hc;by_cases hlen:1048576<bs.length
 ·have hl2:(1048576:Int)<bs.length:=by omega
  go_enter Try.func5, Try.ntmps5
  go_wp2;go_ret;exact⟨rfl,Below.refl _ _⟩
 have hl2:¬ (1048576:Int)<bs.length:=by omega
 by_cases hlen2:1048576<cs.length
 ·have hl3:(1048576:Int)<cs.length:=by omega
  go_enter Try.func5, Try.ntmps5
  go_wp2;go_ret;exact⟨rfl,Below.refl _ _⟩
 have hl3:¬ (1048576:Int)<cs.length:=by omega
 go_enter Try.func5, Try.ntmps5
 go_wp2_with fail;refine(ZcX bs _ _ HB.out (by omega)).mono ?_;rintro e w1 ⟨r,d,v1,v2,v3,a1,a2,c1,c2,hok,hsm,rfl,hr,hd,hb1⟩;obtain⟨x1,x2,x3,n1,m1,n2,m2,n3,m3,rfl,rfl,rfl⟩:=ZkF hr;have hbA:=((Below.refl w1.heap.size w1).alloc (Nat.le_refl _) (.cells #[.slice x1 n1 m1,.slice x2 n2 m2,.slice x3 n3 m3] 54)).alloc (by simp) (.cells #[.slice a1 d.next.length c1,.slice a2 d.ends.length c2] 45);have HS1:=qh ((((St.start w).call hb1).alloc w1.heap.size rfl #[.slice x1 n1 m1,.slice x2 n2 m2,.slice x3 n3 m3] 54).alloc (w1.heap.size+1) (by simp) #[.slice a1 d.next.length c1,.slice a2 d.ends.length c2] 45);have HR:=qh (hr.below hbA);have HD:=qh (hd.below hbA);clear hb1 hr hd hbA;obtain⟨K,hK⟩:∃ K,K=40:=⟨40,rfl⟩;obtain⟨o,ho⟩:=eJ (rwB K r d);have hwi:=fun (v u:Value) (t:World) h h'=>ZbE K hK r d v u t hok h h'
 have hws:=fun (v u:Value) (t:World) h h'=>ZcP K hK r d v u t hok h h'
 rw[ho] at hwi hws;unfold RO at hwi hws;obtain⟨E,hE⟩:∃ D,o.getD ZaX=D:=⟨_,rfl⟩;obtain⟨g,hg⟩:=eJ (o.isSome);rw[hE,hg] at hwi hws;have hoE:g=true→rwB K r d=some E:=fun h=>by obtain⟨q1,q2⟩:=Option.isSome_iff_exists.1 (hg.trans h);rw[ho,q2,← hE,q2];rfl
 have hoN:g=false→(E.next.length:Int)=0:=fun h=>by
  have:o=none:=by
   cases o with
   | none=>rfl
   | some x=>rw[h] at hg;cases hg
  rw[← hE,this];rfl
 have hff:(g != g)=false:=by simp
 have hcp:=fun (h:g=true) (v u:Value) (t:World) h1 h2=>(ZiJ hK (hoE h)).2 ▸ ZbE K hK cpR d v u t Zk2 h1 h2
 have hdok:=fun (h:g=true)=>(ZiJ hK (hoE h)).1
 have hEok:=fun (h:g=true)=>Zlq hK (hoE h)
 have hlaw:=fun (h:g=true) (l:List Nat) h1 h2=>Zlp hK (hoE h) (s:=l) h1 h2
 have Hwi:=qh hwi;have Hws:=qh hws;have HoN:=qh hoN;have Hcp:=qh hcp;have Hdok:=qh hdok;have HEok:=qh hEok;have Hlaw:=qh hlaw;have Hok:=qh hok;clear hwi hws hoN hoE hE hg ho hK hcp hdok hEok hlaw hok hsm;have e0:=HS1.out.cell (v:=.slice x1 n1 m1) 0 0 rfl rfl;have e1:=HS1.out.cell (v:=.slice x2 n2 m2) 0 1 rfl rfl;have e2:=HS1.out.cell (v:=.slice x3 n3 m3) 0 2 rfl rfl;have e3:=HS1.out.cell (v:=.slice a1 d.next.length c1) 1 0 rfl rfl;have e4:=HS1.out.cell (v:=.slice a2 d.ends.length c2) 1 1 rfl rfl;go_wp2_with fail;refine(Hwi.out _ _ _ HR.out HD.out).mono ?_;rintro e w2 ⟨z1,y1,z2,y2,rfl,hx,hb⟩;have HS2:Hid (St w _ [Ent.box w1.heap.size #[.slice x1 n1 m1,.slice x2 n2 m2,.slice x3 n3 m3] 54,Ent.box (w1.heap.size+1) #[.slice a1 d.next.length c1,.slice a2 d.ends.length c2] 45,Ent.box w2.heap.size #[.slice z1 E.next.length y1,.slice z2 E.ends.length y2] 45]):=qh ((HS1.out.call hb).alloc w2.heap.size rfl #[.slice z1 E.next.length y1,.slice z2 E.ends.length y2] 45);have hbA:=(Below.refl w2.heap.size w2).alloc (Nat.le_refl _) (.cells #[.slice z1 E.next.length y1,.slice z2 E.ends.length y2] 45);have HX:=qh ((hx.mono (Nat.zero_le _)).below hbA);have HR2:=qh ((HR.out.below hb).below hbA);have HD2:=qh ((HD.out.below hb).below hbA);clear hx hb hbA e0 e1 e2 e3 e4 HS1 HR HD Hwi;have e0:=HS2.out.cell (v:=.slice x1 n1 m1) 0 0 rfl rfl;have e1:=HS2.out.cell (v:=.slice x2 n2 m2) 0 1 rfl rfl
 have e2:=HS2.out.cell (v:=.slice x3 n3 m3) 0 2 rfl rfl;have e3:=HS2.out.cell (v:=.slice a1 d.next.length c1) 1 0 rfl rfl;have e4:=HS2.out.cell (v:=.slice a2 d.ends.length c2) 1 1 rfl rfl;go_wp2_with fail;refine(Hws.out _ _ _ HR2.out HD2.out).mono ?_;rintro e w3 ⟨z3,y3,z4,y4,rfl,hx,hb⟩;have HS3:Hid (St w _ [Ent.box w1.heap.size #[.slice x1 n1 m1,.slice x2 n2 m2,.slice x3 n3 m3] 54,Ent.box (w1.heap.size+1) #[.slice a1 d.next.length c1,.slice a2 d.ends.length c2] 45,Ent.box w2.heap.size #[.slice z1 E.next.length y1,.slice z2 E.ends.length y2] 45,Ent.box w3.heap.size #[.slice z3 E.next.length y3,.slice z4 E.ends.length y4] 45]):=qh ((HS2.out.call hb).alloc w3.heap.size rfl #[.slice z3 E.next.length y3,.slice z4 E.ends.length y4] 45);have hbA:=(Below.refl w3.heap.size w3).alloc (Nat.le_refl _) (.cells #[.slice z3 E.next.length y3,.slice z4 E.ends.length y4] 45);have HY:=qh ((hx.mono (Nat.zero_le _)).below hbA);have HX3:=qh ((HX.out.below hb).below hbA);have HR3:=qh ((HR2.out.below hb).below hbA);have HD3:=qh ((HD2.out.below hb).below hbA);clear hx hb hbA e0 e1 e2 e3 e4 HS2 HR2 HD2 HX Hws;have e3:=HS3.out.cell (v:=.slice z1 E.next.length y1) 2 0 rfl rfl;have e4:=HS3.out.cell (v:=.slice z2 E.ends.length y2) 2 1 rfl rfl;have f0:=HS3.out.cell (v:=.slice z3 E.next.length y3) 3 0 rfl rfl;have f1:=HS3.out.cell (v:=.slice z4 E.ends.length y4) 3 1 rfl rfl;go_wp2_with fail;refine(Zb8 E _ _ _ HX3.out HY.out).mono ?_
 rintro e w4 ⟨rfl,hb⟩;have HS4:=qh (HS3.out.call hb);have HX4:=qh (HX3.out.below hb);have HR4:=qh (HR3.out.below hb);have HD4:=qh (HD3.out.below hb);clear hb e3 e4 f0 f1 HS3 HX3 HR3 HD3 HY;cases g with
 | false =>have hL0:=HoN.out rfl;have e0:=HS4.out.cell (v:=.slice z1 E.next.length y1) 2 0 rfl rfl;go_wp2_with (go_at_call 10;refine(ZjR _).mono ?_;rintro e w' ⟨rfl,rfl⟩);go_ret;exact⟨rfl,HS4.out.bel⟩
 | true =>
  have hcp:=Hcp.out rfl;obtain⟨M,hM⟩:=eJ (minQ d);rw[hM] at hcp;unfold RO at hcp;simp only[w_8,Option.isSome_some] at hcp;have Hcq:=qh hcp;have Hmi:=qh (fun (v:Value) (u:World) h=>ZdM d M hM v u h);have Hdk:=qh (Hdok.out rfl);have Hek:=qh (HEok.out rfl);have Hlw:=qh (Hlaw.out rfl);clear hcp hM Hcp Hdok HEok Hlaw HoN;go_wp2_with fail;refine(Zgx cs _ _ (HC.out.below HS4.out.bel) (by omega)).mono ?_;rintro e w5 ⟨l,ht,hl8,rfl,hb⟩;have HS5:=qh (HS4.out.call hb);have HX5:=qh (HX4.out.below hb);have HR5:=qh (HR4.out.below hb);have HD5:=qh (HD4.out.below hb);replace ht:=qh ht;clear hb HS4 HX4 HR4 HD4;have e0:=HS5.out.cell (v:=.slice x1 n1 m1) 0 0 rfl rfl;have e1:=HS5.out.cell (v:=.slice x2 n2 m2) 0 1 rfl rfl;have e2:=HS5.out.cell (v:=.slice x3 n3 m3) 0 2 rfl rfl;go_wp2_with fail;refine(ZcW r l _ _ Hok.out HR5.out ht.out (by omega)).mono ?_;rintro e w8 ⟨rfl,hb⟩;have HS8:Hid (St w w8 [Ent.box w1.heap.size #[.slice x1 n1 m1,.slice x2 n2 m2,.slice x3 n3 m3] 54,Ent.box (w1.heap.size+1) #[.slice a1 d.next.length c1,.slice a2 d.ends.length c2] 45,Ent.box w2.heap.size #[.slice z1 E.next.length y1,.slice z2 E.ends.length y2] 45,Ent.box w3.heap.size #[.slice z3 E.next.length y3,.slice z4 E.ends.length y4] 45]):=qh (HS5.out.call hb);have HX8:=qh (HX5.out.below hb);have HD8:=qh (HD5.out.below hb);have hTt:=Zla r l;have hlw:=Hlw.out l;obtain⟨T,hT⟩:=eJ (rwT r l);rw[hT] at hTt hlw ⊢;have hszT:=Zba T;have HTt:=qh hTt;have Hlw2:=qh hlw
  have D0:=qh (HS8.out.cell (v:=.slice a1 d.next.length c1) 1 0 rfl rfl);have D1:=qh (HS8.out.cell (v:=.slice a2 d.ends.length c2) 1 1 rfl rfl);have HltD:=qh (HS8.out.boxlt 1 rfl).2;have E0:=qh (HS8.out.cell (v:=.slice z1 E.next.length y1) 2 0 rfl rfl);have E1:=qh (HS8.out.cell (v:=.slice z2 E.ends.length y2) 2 1 rfl rfl);have HltE:=qh (HS8.out.boxlt 2 rfl).2;have HSq:=qh ((((St.start w8).add (Below.refl _ _) Ent.nil trivial (fun _ hk=>hk.elim)).add (Below.refl _ _) Ent.nil trivial (fun _ hk=>hk.elim)).add (Below.refl _ _) Ent.nil trivial (fun _ hk=>hk.elim));clear hb HS5 HX5 HR5 HD5 hTt hlw hT e0 e1 e2 Hlw
  go_upto_region 12 with fail
  refine wp_region_any (by kernel_rfl) ?_
  refine Zak (fun A listed a w'=>∃ (l0 l1 l2 l3 l4 l5 l6 l7 l8:Bool) (z:CpQ) (ax1:Option Addr) (cx1:Nat) (ax2:Option Addr) (cx2:Nat) (vb:Nat) (vh:Nat) (bn0:Nat),listed=#[l0,l1,l2,l3,l4,l5,l6,l7,l8]∧(l2=true→l0=true)∧(l3=true→l2=true)∧(l4=true→l2=true)∧(l7=true→l2=true∧l6=true) ∧
    a=⟨((((((((A.tmps.setIfInBounds 64 (if l0=true then .agg #[z.v1,z.v2,z.v3] else A.tmps.getD 64 undef)).setIfInBounds 65 (if l1=true then .agg #[.slice a1 d.next.length c1,.slice a2 d.ends.length c2] else A.tmps.getD 65 undef)).setIfInBounds 66 (if l2=true then .tuple #[.agg #[.slice ax1 M.next.length cx1,.slice ax2 M.ends.length cx2],.bool true] else A.tmps.getD 66 undef)).setIfInBounds 63 (if l3=true then .tuple #[.agg #[.slice ax1 M.next.length cx1,.slice ax2 M.ends.length cx2],.bool true] else A.tmps.getD 63 undef)).setIfInBounds 67 (if l4=true then .agg #[.slice ax1 M.next.length cx1,.slice ax2 M.ends.length cx2] else A.tmps.getD 67 undef)).setIfInBounds 68 (if l5=true then .bool true else A.tmps.getD 68 undef)).setIfInBounds 13 (if l6=true then .pointer (some ⟨bn0,0,none⟩) else A.tmps.getD 13 undef)).setIfInBounds 14 (if l8=true then .bool true else A.tmps.getD 14 undef)),A.defers⟩ ∧
    St w8 w' [(if l0=true then Ent.know z.F (fun u=>RwR u (.agg #[z.v1,z.v2,z.v3]) cpR) else Ent.nil),(if l2=true then DfaV vb vh (.slice ax1 M.next.length cx1) (.slice ax2 M.ends.length cx2) M else Ent.nil),(if l7=true then Ent.box bn0 #[.slice ax1 M.next.length cx1,.slice ax2 M.ends.length cx2] 45 else(if l6=true then Ent.box bn0 #[.slice none 0 0,.slice none 0 0] 45 else Ent.nil))]) ?_ ?_ ?_
  ·rintro listed a w' ⟨l0,l1,l2,l3,l4,l5,l6,l7,l8,z,ax1,cx1,ax2,cx2,vb,vh,bn0,rfl,hd2,hd3,hd4,hd7,rfl,hS⟩ i hi;obtain⟨hun,o,ho,hall⟩:=mem_ready.1 hi;have hlt:=(Array.getElem?_eq_some_iff.1 ho).1;refine wpOp_step ho (fun K hK => ?_);clear hi;have HS:=qh hS;clear hS;simp only[w_1,w_2,w_3,w_4,w_5,w_6,w_7,w_8];obtain h|h|h|h|h|h|h|h|h:i=0∨i=1∨i=2∨i=3∨i=4∨i=5∨i=6∨i=7∨i=8:=by simp at hlt;omega
   all_goals subst h
   all_goals simp only[w_5,w_6,w_7,w_9] at ho
   all_goals subst ho
   all_goals simp[Region.binds] at hun hall
   ·subst hun;obtain rfl:l2=false:=by cases l2 with|false=>rfl|true=>simpa using hd2 rfl
    obtain rfl:l3=false:=by cases l3 with|false=>rfl|true=>simpa using hd3 rfl
    obtain rfl:l4=false:=by cases l4 with|false=>rfl|true=>simpa using hd4 rfl
    obtain rfl:l7=false:=offL hd7 rfl;go_simp
    go_at_call 25
    refine(Zdt _).mono ?_;rintro e u1 ⟨k1,k2,k3,kF,rfl,hz⟩;have hS2:=(HS.out.cat hz).pick [3,1,2] (by decide);replace hS2:=qh hS2;go_simp;exact hK _ _ ⟨_,_,_,_,_,_,_,_,_,⟨k1,k2,k3,kF⟩,ax1,cx1,ax2,cx2,vb,vh,bn0,rfl,by simp,by simp,by simp,by simp,(by simp),hS2.out⟩
   ·subst hun;have e0:=(bcell HS.out.bel _ _ HltD.out).trans D0.out;have e1:=(bcell HS.out.bel _ _ HltD.out).trans D1.out;go_simp;exact hK _ _ ⟨_,_,_,_,_,_,_,_,_,z,ax1,cx1,ax2,cx2,vb,vh,bn0,rfl,hd2,hd3,hd4,hd7,(by simp),HS.out⟩
   ·obtain⟨rfl,rfl,-⟩:=hall;subst hun;obtain rfl:l3=false:=by cases l3 with|false=>rfl|true=>simpa using hd3 rfl
    obtain rfl:l4=false:=by cases l4 with|false=>rfl|true=>simpa using hd4 rfl
    obtain rfl:l7=false:=offL hd7 rfl;go_simp
    go_at_call 22
    refine(Hcq.out _ _ _ (HS.out.know 0 rfl) (HD8.out.below HS.out.bel)).mono ?_;rintro e u1 ⟨q1,q2,q3,q4,rfl,hr,hb⟩;have hS2:=(HS.out.dfaV hb hr).pick [0,3,2] (by decide);replace hS2:=qh hS2;go_simp;exact hK _ _ ⟨_,_,_,_,_,_,_,_,_,z,q1,q2,q3,q4,w'.heap.size,u1.heap.size,bn0,rfl,by simp,by simp,by simp,by simp,(by simp),hS2.out⟩
   ·obtain rfl:=hall;subst hun;obtain rfl:=hd2 rfl;go_simp;exact hK _ _ ⟨_,_,_,_,_,_,_,_,_,z,ax1,cx1,ax2,cx2,vb,vh,bn0,rfl,by simp,by simp,hd4,hd7,(by simp),HS.out⟩
   ·obtain rfl:=hall;subst hun;obtain rfl:=hd3 rfl;obtain rfl:=hd2 rfl;go_simp;exact hK _ _ ⟨_,_,_,_,_,_,_,_,_,z,ax1,cx1,ax2,cx2,vb,vh,bn0,rfl,by simp,by simp,by simp,hd7,(by simp),HS.out⟩
   ·obtain rfl:=hall;subst hun;obtain rfl:=hd3 rfl;obtain rfl:=hd2 rfl;go_simp;exact hK _ _ ⟨_,_,_,_,_,_,_,_,_,z,ax1,cx1,ax2,cx2,vb,vh,bn0,rfl,by simp,by simp,hd4,hd7,(by simp),HS.out⟩
   ·subst hun;obtain rfl:l7=false:=offR hd7 rfl;have hS2:=(HS.out.alloc _ rfl #[.slice none 0 0,.slice none 0 0] 45).pick [0,1,3] (by decide);replace hS2:=qh hS2;go_simp;exact hK _ _ ⟨_,_,_,_,_,_,_,_,_,z,ax1,cx1,ax2,cx2,vb,vh,_,rfl,hd2,hd3,hd4,by simp,(by simp),hS2.out⟩
   ·obtain⟨rfl,rfl,rfl,rfl,rfl,-,rfl,-⟩:=hall;subst hun;have f0:=HS.out.fr 2 0 rfl;have k0:=HS.out.cell (v:=.slice none 0 0) 2 0 rfl rfl;have f1:=HS.out.fr 2 1 rfl;have k1:=HS.out.cell (v:=.slice none 0 0) 2 1 rfl rfl;go_simp;exact hK _ _ ⟨_,_,_,_,_,_,_,_,_,z,ax1,cx1,ax2,cx2,vb,vh,bn0,rfl,by simp,by simp,by simp,by simp,(by simp),((HS.out.set 2 rfl 0 (.slice ax1 M.next.length cx1)).set 2 rfl 1 (.slice ax2 M.ends.length cx2))⟩
   obtain⟨rfl,rfl,rfl,rfl,rfl,rfl,rfl,-,rfl,-⟩:=hall;subst hun;go_simp;exact hK _ _ ⟨_,_,_,_,_,_,_,_,_,z,ax1,cx1,ax2,cx2,vb,vh,bn0,rfl,by simp,by simp,by simp,by simp,(by simp),HS.out⟩
  ·rintro listed a w' ⟨l0,l1,l2,l3,l4,l5,l6,l7,l8,z,ax1,cx1,ax2,cx2,vb,vh,bn0,rfl,hd2,hd3,hd4,hd7,rfl,hS⟩ hr;obtain⟨rfl,rfl,rfl,rfl,rfl,rfl,rfl,rfl,rfl,-⟩:=zA (Zay (by kernel_rfl) rfl hr) rfl;clear hr hd2 hd3 hd4 hd7;simp only[↓reduceIte] at hS ⊢;simp only[w_1,w_2,w_3];obtain⟨w9,hw9⟩:∃ w9:World,w9=w':=⟨_,rfl⟩;subst hw9;have hC:=hS;have C0:=qh (hC.cell (v:=.slice ax1 M.next.length cx1) 2 0 rfl rfl);have C1:=qh (hC.cell (v:=.slice ax2 M.ends.length cx2) 2 1 rfl rfl);have HltC:=qh (hC.boxlt 2 rfl).2;have HXC:=qh (hC.dfaVr 1 rfl);have D0':=qh ((bcell hC.bel _ _ HltD.out).trans D0.out);have D1':=qh ((bcell hC.bel _ _ HltD.out).trans D1.out);have E0':=qh ((bcell hC.bel _ _ HltE.out).trans E0.out);have E1':=qh ((bcell hC.bel _ _ HltE.out).trans E1.out);have HltD':=qh (Nat.lt_of_lt_of_le HltD.out hC.bel.size);have HltE':=qh (Nat.lt_of_lt_of_le HltE.out hC.bel.size);have HX9:=qh (HX8.out.below hC.bel);have HD9:=qh (HD8.out.below hC.bel);have HSL:=qh (((St.start w).call HS8.out.bel).call hC.bel);clear hS hC D0 D1 E0 E1 HltD HltE HX8 HD8 HS8 HSq;cases hwd:wdOk l with
   | false =>
    have Hwd:=qh hwd;clear hwd
    go_upto_region 13 with fail
    refine wp_region_any (by kernel_rfl) ?_
    refine Zak (fun A listed a w'=>∃ (l0 l1 l2 l3 l4 l5 l6 l7 l8 l9 l10 l11 l12 l13 l14 l15 l16 l17 l18 l19 l20 l21 l22 l23:Bool) (bx1:Option Addr) (dx1:Nat) (bx2:Option Addr) (dx2:Nat) (vb:Nat) (vh:Nat),listed=#[l0,l1,l2,l3,l4,l5,l6,l7,l8,l9,l10,l11,l12,l13,l14,l15,l16,l17,l18,l19,l20,l21,l22,l23] ∧
      a=⟨((((((((((((((A.tmps.setIfInBounds 69 (if l0=true then .string (txB l) else A.tmps.getD 69 undef)).setIfInBounds 70 (if l1=true then .bool false else A.tmps.getD 70 undef)).setIfInBounds 71 (if l2=true then .bool true else A.tmps.getD 71 undef)).setIfInBounds 72 (if l3=true then .bool true else A.tmps.getD 72 undef)).setIfInBounds 76 (if l7=true then .bool true else A.tmps.getD 76 undef)).setIfInBounds 77 (if l8=true then .bool true else A.tmps.getD 77 undef)).setIfInBounds 85 (if l16=true then .bool true else A.tmps.getD 85 undef)).setIfInBounds 86 (if l17=true then .bool true else A.tmps.getD 86 undef)).setIfInBounds 87 (if l18=true then .agg #[.slice ax1 M.next.length cx1,.slice ax2 M.ends.length cx2] else A.tmps.getD 87 undef)).setIfInBounds 88 (if l19=true then .agg #[.slice a1 d.next.length c1,.slice a2 d.ends.length c2] else A.tmps.getD 88 undef)).setIfInBounds 89 (if l20=true then .agg #[.slice bx1 M.next.length dx1,.slice bx2 M.ends.length dx2] else A.tmps.getD 89 undef)).setIfInBounds 90 (if l21=true then .bool true else A.tmps.getD 90 undef)).setIfInBounds 91 (if l22=true then .bool true else A.tmps.getD 91 undef)).setIfInBounds 4 (.bool l23)),A.defers⟩ ∧
      St w9 w' [(if l20=true then DfaV vb vh (.slice bx1 M.next.length dx1) (.slice bx2 M.ends.length dx2) M else Ent.nil)]) ?_ ?_ ?_
    ·rintro listed a w' ⟨l0,l1,l2,l3,l4,l5,l6,l7,l8,l9,l10,l11,l12,l13,l14,l15,l16,l17,l18,l19,l20,l21,l22,l23,bx1,dx1,bx2,dx2,vb,vh,rfl,rfl,hS⟩ i hi;obtain⟨hun,o,ho,hall⟩:=mem_ready.1 hi;have hlt:=(Array.getElem?_eq_some_iff.1 ho).1;refine wpOp_step ho (fun K hK => ?_);clear hi;have HS:=qh hS;clear hS;simp only[w_1,w_2,w_3,w_4,w_5,w_6,w_7,w_8];obtain h|h|h|h|h|h|h|h|h|h|h|h|h|h|h|h|h|h|h|h|h|h|h|h:i=0∨i=1∨i=2∨i=3∨i=4∨i=5∨i=6∨i=7∨i=8∨i=9∨i=10∨i=11∨i=12∨i=13∨i=14∨i=15∨i=16∨i=17∨i=18∨i=19∨i=20∨i=21∨i=22∨i=23:=by simp at hlt;omega
     all_goals subst h
     all_goals simp only[w_5,w_6,w_7,w_9] at ho
     all_goals subst ho
     all_goals simp[Region.binds] at hun hall
     ·subst hun;go_simp;exact hK _ _ ⟨_,_,_,_,_,_,_,_,_,_,_,_,_,_,_,_,_,_,_,_,_,_,_,_,bx1,dx1,bx2,dx2,vb,vh,rfl,(by simp),HS.out⟩
     ·obtain rfl:=hall;subst hun;go_simp
      go_at_call 26
      refine(Zbi l _ ht.out (by omega) false Hwd.out).mono ?_;rintro e u1 ⟨rfl,rfl⟩;have hS2:=HS.out;replace hS2:=qh hS2;go_simp;exact hK _ _ ⟨_,_,_,_,_,_,_,_,_,_,_,_,_,_,_,_,_,_,_,_,_,_,_,_,bx1,dx1,bx2,dx2,vb,vh,rfl,(by simp),hS2.out⟩
     ·obtain rfl:=hall;subst hun;go_simp;exact hK _ _ ⟨_,_,_,_,_,_,_,_,_,_,_,_,_,_,_,_,_,_,_,_,_,_,_,_,bx1,dx1,bx2,dx2,vb,vh,rfl,(by simp),HS.out⟩
     ·obtain⟨rfl,rfl⟩:=hall;subst hun;go_simp;exact hK _ _ ⟨_,_,_,_,_,_,_,_,_,_,_,_,_,_,_,_,_,_,_,_,_,_,_,_,bx1,dx1,bx2,dx2,vb,vh,rfl,(by simp),HS.out⟩
     ·obtain rfl:=hall;subst hun;go_simp;exact hK _ _ ⟨_,_,_,_,_,_,_,_,_,_,_,_,_,_,_,_,_,_,_,_,_,_,_,_,bx1,dx1,bx2,dx2,vb,vh,rfl,(by simp),HS.out⟩
     ·obtain⟨rfl,rfl⟩:=hall;subst hun;go_simp;exact hK _ _ ⟨_,_,_,_,_,_,_,_,_,_,_,_,_,_,_,_,_,_,_,_,_,_,_,_,bx1,dx1,bx2,dx2,vb,vh,rfl,(by simp),HS.out⟩
     ·obtain⟨rfl,rfl⟩:=hall;subst hun;go_simp;exact hK _ _ ⟨_,_,_,_,_,_,_,_,_,_,_,_,_,_,_,_,_,_,_,_,_,_,_,_,bx1,dx1,bx2,dx2,vb,vh,rfl,(by simp),HS.out⟩
     ·obtain⟨rfl,rfl⟩:=hall;subst hun;go_simp;exact hK _ _ ⟨_,_,_,_,_,_,_,_,_,_,_,_,_,_,_,_,_,_,_,_,_,_,_,_,bx1,dx1,bx2,dx2,vb,vh,rfl,(by simp),HS.out⟩
     ·obtain⟨rfl,rfl⟩:=hall;subst hun;go_simp;exact hK _ _ ⟨_,_,_,_,_,_,_,_,_,_,_,_,_,_,_,_,_,_,_,_,_,_,_,_,bx1,dx1,bx2,dx2,vb,vh,rfl,(by simp),HS.out⟩
     ·obtain rfl:=hall;subst hun;go_simp;exact hK _ _ ⟨_,_,_,_,_,_,_,_,_,_,_,_,_,_,_,_,_,_,_,_,_,_,_,_,bx1,dx1,bx2,dx2,vb,vh,rfl,(by simp),HS.out⟩
     ·obtain rfl:=hall;subst hun;go_simp;exact hK _ _ ⟨_,_,_,_,_,_,_,_,_,_,_,_,_,_,_,_,_,_,_,_,_,_,_,_,bx1,dx1,bx2,dx2,vb,vh,rfl,(by simp),HS.out⟩
     ·obtain⟨rfl,rfl,rfl⟩:=hall;subst hun;go_simp;exact hK _ _ ⟨_,_,_,_,_,_,_,_,_,_,_,_,_,_,_,_,_,_,_,_,_,_,_,_,bx1,dx1,bx2,dx2,vb,vh,rfl,(by simp),HS.out⟩
     ·obtain rfl:=hall;subst hun;go_simp;exact hK _ _ ⟨_,_,_,_,_,_,_,_,_,_,_,_,_,_,_,_,_,_,_,_,_,_,_,_,bx1,dx1,bx2,dx2,vb,vh,rfl,(by simp),HS.out⟩
     ·obtain rfl:=hall;subst hun;go_simp;exact hK _ _ ⟨_,_,_,_,_,_,_,_,_,_,_,_,_,_,_,_,_,_,_,_,_,_,_,_,bx1,dx1,bx2,dx2,vb,vh,rfl,(by simp),HS.out⟩
     ·obtain⟨rfl,rfl,rfl,rfl⟩:=hall;subst hun;go_simp;exact hK _ _ ⟨_,_,_,_,_,_,_,_,_,_,_,_,_,_,_,_,_,_,_,_,_,_,_,_,bx1,dx1,bx2,dx2,vb,vh,rfl,(by simp),HS.out⟩
     ·obtain⟨rfl,rfl,rfl⟩:=hall;subst hun;go_simp;exact hK _ _ ⟨_,_,_,_,_,_,_,_,_,_,_,_,_,_,_,_,_,_,_,_,_,_,_,_,bx1,dx1,bx2,dx2,vb,vh,rfl,(by simp),HS.out⟩
     ·obtain⟨rfl,rfl⟩:=hall;subst hun;go_simp;exact hK _ _ ⟨_,_,_,_,_,_,_,_,_,_,_,_,_,_,_,_,_,_,_,_,_,_,_,_,bx1,dx1,bx2,dx2,vb,vh,rfl,(by simp),HS.out⟩
     ·obtain⟨rfl,rfl⟩:=hall;subst hun;go_simp;exact hK _ _ ⟨_,_,_,_,_,_,_,_,_,_,_,_,_,_,_,_,_,_,_,_,_,_,_,_,bx1,dx1,bx2,dx2,vb,vh,rfl,(by simp),HS.out⟩
     ·obtain rfl:=hall;subst hun;have e0:=(bcell HS.out.bel (bn0) (0) HltC.out).trans C0.out;have e1:=(bcell HS.out.bel (bn0) (1) HltC.out).trans C1.out;go_simp;exact hK _ _ ⟨_,_,_,_,_,_,_,_,_,_,_,_,_,_,_,_,_,_,_,_,_,_,_,_,bx1,dx1,bx2,dx2,vb,vh,rfl,(by simp),HS.out⟩
     ·obtain rfl:=hall;subst hun;have e0:=(bcell HS.out.bel ((w1.heap.size+1)) (0) HltD'.out).trans D0'.out;have e1:=(bcell HS.out.bel ((w1.heap.size+1)) (1) HltD'.out).trans D1'.out;go_simp;exact hK _ _ ⟨_,_,_,_,_,_,_,_,_,_,_,_,_,_,_,_,_,_,_,_,_,_,_,_,bx1,dx1,bx2,dx2,vb,vh,rfl,(by simp),HS.out⟩
     ·obtain⟨rfl,rfl⟩:=hall;subst hun;go_simp
      go_at_call 20
      refine(Hmi.out _ _ (HD9.out.below HS.out.bel)).mono ?_;rintro e u1 ⟨q1,q2,q3,q4,rfl,hr,hb⟩;have hS2:=(HS.out.dfaV hb hr).pick [1] (by decide);replace hS2:=qh hS2;go_simp;exact hK _ _ ⟨_,_,_,_,_,_,_,_,_,_,_,_,_,_,_,_,_,_,_,_,_,_,_,_,q1,q2,q3,q4,w'.heap.size,u1.heap.size,rfl,(by simp),hS2.out⟩
     ·obtain⟨rfl,rfl,rfl⟩:=hall;subst hun;go_simp
      go_at_call 19
      refine(Zb8 M _ _ _ (HXC.out.below HS.out.bel) (HS.out.dfaVr 0 rfl)).mono ?_;rintro e u1 ⟨rfl,hb⟩;have hS2:=HS.out.call hb;replace hS2:=qh hS2;go_simp;exact hK _ _ ⟨_,_,_,_,_,_,_,_,_,_,_,_,_,_,_,_,_,_,_,_,_,_,_,_,bx1,dx1,bx2,dx2,vb,vh,rfl,(by simp),hS2.out⟩
     ·obtain⟨rfl,rfl⟩:=hall;subst hun;go_simp;exact hK _ _ ⟨_,_,_,_,_,_,_,_,_,_,_,_,_,_,_,_,_,_,_,_,_,_,_,_,bx1,dx1,bx2,dx2,vb,vh,rfl,(by simp),HS.out⟩
     obtain⟨rfl,rfl,rfl,rfl,rfl,rfl,rfl,rfl,rfl,rfl,rfl,rfl,rfl,rfl,rfl,rfl,rfl,rfl,rfl,rfl,rfl,rfl,rfl,-⟩:=hall;subst hun;go_simp;exact hK _ _ ⟨_,_,_,_,_,_,_,_,_,_,_,_,_,_,_,_,_,_,_,_,_,_,_,_,bx1,dx1,bx2,dx2,vb,vh,rfl,(by simp),HS.out⟩
    ·rintro listed a w' ⟨l0,l1,l2,l3,l4,l5,l6,l7,l8,l9,l10,l11,l12,l13,l14,l15,l16,l17,l18,l19,l20,l21,l22,l23,bx1,dx1,bx2,dx2,vb,vh,rfl,rfl,hS⟩ hr;obtain⟨rfl,rfl,rfl,rfl,rfl,rfl,rfl,rfl,rfl,rfl,rfl,rfl,rfl,rfl,rfl,rfl,rfl,rfl,rfl,rfl,rfl,rfl,rfl,rfl,-⟩:=zA (Zay (by kernel_rfl) rfl hr) rfl;clear hr ;simp only[↓reduceIte] at hS ⊢;simp only[w_1,w_2,w_3];have HSf:=qh hS;clear hS;go_wp2;go_ret;exact⟨rfl,HSL.out.bel.trans (HSf.out.bel.mono HSL.out.bel.size)⟩
    refine⟨false,false,false,false,false,false,false,false,false,false,false,false,false,false,false,false,false,false,false,false,false,false,false,false,none,0,none,0,0,0,rfl,(by simp),?_⟩;exact((St.start w9).add (Below.refl _ _) Ent.nil trivial (fun _ hk=>hk.elim)).drew.pick [0] (by decide)
   | true =>
    have hl2:=Hlw2.out hwd;have Hwd:=qh hwd;clear hwd;by_cases h8:8<T.length
    ·have h8I:(8:Int)<(T.length:Int):=by omega
     clear hl2
     go_upto_region 13 with fail
     refine wp_region_any (by kernel_rfl) ?_
     refine Zak (fun A listed a w'=>∃ (l0 l1 l2 l3 l4 l5 l6 l7 l8 l9 l10 l11 l12 l13 l14 l15 l16 l17 l18 l19 l20 l21 l22 l23:Bool) (bx1:Option Addr) (dx1:Nat) (bx2:Option Addr) (dx2:Nat) (vb:Nat) (vh:Nat),listed=#[l0,l1,l2,l3,l4,l5,l6,l7,l8,l9,l10,l11,l12,l13,l14,l15,l16,l17,l18,l19,l20,l21,l22,l23] ∧
       a=⟨(((((((((((((((((A.tmps.setIfInBounds 69 (if l0=true then .string (txB l) else A.tmps.getD 69 undef)).setIfInBounds 70 (if l1=true then .bool true else A.tmps.getD 70 undef)).setIfInBounds 71 (if l2=true then .bool false else A.tmps.getD 71 undef)).setIfInBounds 72 (if l3=true then .bool false else A.tmps.getD 72 undef)).setIfInBounds 73 (if l4=true then .string (txB T) else A.tmps.getD 73 undef)).setIfInBounds 74 (if l5=true then .int .i64 (T.length:Int) else A.tmps.getD 74 undef)).setIfInBounds 75 (if l6=true then .bool true else A.tmps.getD 75 undef)).setIfInBounds 76 (if l7=true then .bool true else A.tmps.getD 76 undef)).setIfInBounds 77 (if l8=true then .bool true else A.tmps.getD 77 undef)).setIfInBounds 85 (if l16=true then .bool true else A.tmps.getD 85 undef)).setIfInBounds 86 (if l17=true then .bool true else A.tmps.getD 86 undef)).setIfInBounds 87 (if l18=true then .agg #[.slice ax1 M.next.length cx1,.slice ax2 M.ends.length cx2] else A.tmps.getD 87 undef)).setIfInBounds 88 (if l19=true then .agg #[.slice a1 d.next.length c1,.slice a2 d.ends.length c2] else A.tmps.getD 88 undef)).setIfInBounds 89 (if l20=true then .agg #[.slice bx1 M.next.length dx1,.slice bx2 M.ends.length dx2] else A.tmps.getD 89 undef)).setIfInBounds 90 (if l21=true then .bool true else A.tmps.getD 90 undef)).setIfInBounds 91 (if l22=true then .bool true else A.tmps.getD 91 undef)).setIfInBounds 4 (.bool l23)),A.defers⟩ ∧
       St w9 w' [(if l20=true then DfaV vb vh (.slice bx1 M.next.length dx1) (.slice bx2 M.ends.length dx2) M else Ent.nil)]) ?_ ?_ ?_
     ·rintro listed a w' ⟨l0,l1,l2,l3,l4,l5,l6,l7,l8,l9,l10,l11,l12,l13,l14,l15,l16,l17,l18,l19,l20,l21,l22,l23,bx1,dx1,bx2,dx2,vb,vh,rfl,rfl,hS⟩ i hi;obtain⟨hun,o,ho,hall⟩:=mem_ready.1 hi;have hlt:=(Array.getElem?_eq_some_iff.1 ho).1;refine wpOp_step ho (fun K hK => ?_);clear hi;have HS:=qh hS;clear hS;simp only[w_1,w_2,w_3,w_4,w_5,w_6,w_7,w_8];obtain h|h|h|h|h|h|h|h|h|h|h|h|h|h|h|h|h|h|h|h|h|h|h|h:i=0∨i=1∨i=2∨i=3∨i=4∨i=5∨i=6∨i=7∨i=8∨i=9∨i=10∨i=11∨i=12∨i=13∨i=14∨i=15∨i=16∨i=17∨i=18∨i=19∨i=20∨i=21∨i=22∨i=23:=by simp at hlt;omega
      all_goals subst h
      all_goals simp only[w_5,w_6,w_7,w_9] at ho
      all_goals subst ho
      all_goals simp[Region.binds] at hun hall
      ·subst hun;go_simp;exact hK _ _ ⟨_,_,_,_,_,_,_,_,_,_,_,_,_,_,_,_,_,_,_,_,_,_,_,_,bx1,dx1,bx2,dx2,vb,vh,rfl,(by simp),HS.out⟩
      ·obtain rfl:=hall;subst hun;go_simp
       go_at_call 26
       refine(Zbi l _ ht.out (by omega) true Hwd.out).mono ?_;rintro e u1 ⟨rfl,rfl⟩;have hS2:=HS.out;replace hS2:=qh hS2;go_simp;exact hK _ _ ⟨_,_,_,_,_,_,_,_,_,_,_,_,_,_,_,_,_,_,_,_,_,_,_,_,bx1,dx1,bx2,dx2,vb,vh,rfl,(by simp),hS2.out⟩
      ·obtain rfl:=hall;subst hun;go_simp;exact hK _ _ ⟨_,_,_,_,_,_,_,_,_,_,_,_,_,_,_,_,_,_,_,_,_,_,_,_,bx1,dx1,bx2,dx2,vb,vh,rfl,(by simp),HS.out⟩
      ·obtain⟨rfl,rfl⟩:=hall;subst hun;go_simp;exact hK _ _ ⟨_,_,_,_,_,_,_,_,_,_,_,_,_,_,_,_,_,_,_,_,_,_,_,_,bx1,dx1,bx2,dx2,vb,vh,rfl,(by simp),HS.out⟩
      ·obtain rfl:=hall;subst hun;go_simp;exact hK _ _ ⟨_,_,_,_,_,_,_,_,_,_,_,_,_,_,_,_,_,_,_,_,_,_,_,_,bx1,dx1,bx2,dx2,vb,vh,rfl,(by simp),HS.out⟩
      ·obtain⟨rfl,rfl⟩:=hall;subst hun;go_simp;exact hK _ _ ⟨_,_,_,_,_,_,_,_,_,_,_,_,_,_,_,_,_,_,_,_,_,_,_,_,bx1,dx1,bx2,dx2,vb,vh,rfl,(by simp),HS.out⟩
      ·obtain⟨rfl,rfl⟩:=hall;subst hun;go_simp;exact hK _ _ ⟨_,_,_,_,_,_,_,_,_,_,_,_,_,_,_,_,_,_,_,_,_,_,_,_,bx1,dx1,bx2,dx2,vb,vh,rfl,(by simp),HS.out⟩
      ·obtain⟨rfl,rfl⟩:=hall;subst hun;go_simp;exact hK _ _ ⟨_,_,_,_,_,_,_,_,_,_,_,_,_,_,_,_,_,_,_,_,_,_,_,_,bx1,dx1,bx2,dx2,vb,vh,rfl,(by simp),HS.out⟩
      ·obtain⟨rfl,rfl⟩:=hall;subst hun;go_simp;exact hK _ _ ⟨_,_,_,_,_,_,_,_,_,_,_,_,_,_,_,_,_,_,_,_,_,_,_,_,bx1,dx1,bx2,dx2,vb,vh,rfl,(by simp),HS.out⟩
      ·obtain rfl:=hall;subst hun;go_simp;exact hK _ _ ⟨_,_,_,_,_,_,_,_,_,_,_,_,_,_,_,_,_,_,_,_,_,_,_,_,bx1,dx1,bx2,dx2,vb,vh,rfl,(by simp),HS.out⟩
      ·obtain rfl:=hall;subst hun;go_simp;exact hK _ _ ⟨_,_,_,_,_,_,_,_,_,_,_,_,_,_,_,_,_,_,_,_,_,_,_,_,bx1,dx1,bx2,dx2,vb,vh,rfl,(by simp),HS.out⟩
      ·obtain⟨rfl,rfl,rfl⟩:=hall;subst hun;go_simp;exact hK _ _ ⟨_,_,_,_,_,_,_,_,_,_,_,_,_,_,_,_,_,_,_,_,_,_,_,_,bx1,dx1,bx2,dx2,vb,vh,rfl,(by simp),HS.out⟩
      ·obtain rfl:=hall;subst hun;go_simp;exact hK _ _ ⟨_,_,_,_,_,_,_,_,_,_,_,_,_,_,_,_,_,_,_,_,_,_,_,_,bx1,dx1,bx2,dx2,vb,vh,rfl,(by simp),HS.out⟩
      ·obtain rfl:=hall;subst hun;go_simp;exact hK _ _ ⟨_,_,_,_,_,_,_,_,_,_,_,_,_,_,_,_,_,_,_,_,_,_,_,_,bx1,dx1,bx2,dx2,vb,vh,rfl,(by simp),HS.out⟩
      ·obtain⟨rfl,rfl,rfl,rfl⟩:=hall;subst hun;go_simp;exact hK _ _ ⟨_,_,_,_,_,_,_,_,_,_,_,_,_,_,_,_,_,_,_,_,_,_,_,_,bx1,dx1,bx2,dx2,vb,vh,rfl,(by simp),HS.out⟩
      ·obtain⟨rfl,rfl,rfl⟩:=hall;subst hun;go_simp;exact hK _ _ ⟨_,_,_,_,_,_,_,_,_,_,_,_,_,_,_,_,_,_,_,_,_,_,_,_,bx1,dx1,bx2,dx2,vb,vh,rfl,(by simp),HS.out⟩
      ·obtain⟨rfl,rfl⟩:=hall;subst hun;go_simp;exact hK _ _ ⟨_,_,_,_,_,_,_,_,_,_,_,_,_,_,_,_,_,_,_,_,_,_,_,_,bx1,dx1,bx2,dx2,vb,vh,rfl,(by simp),HS.out⟩
      ·obtain⟨rfl,rfl⟩:=hall;subst hun;go_simp;exact hK _ _ ⟨_,_,_,_,_,_,_,_,_,_,_,_,_,_,_,_,_,_,_,_,_,_,_,_,bx1,dx1,bx2,dx2,vb,vh,rfl,(by simp),HS.out⟩
      ·obtain rfl:=hall;subst hun;have e0:=(bcell HS.out.bel (bn0) (0) HltC.out).trans C0.out;have e1:=(bcell HS.out.bel (bn0) (1) HltC.out).trans C1.out;go_simp;exact hK _ _ ⟨_,_,_,_,_,_,_,_,_,_,_,_,_,_,_,_,_,_,_,_,_,_,_,_,bx1,dx1,bx2,dx2,vb,vh,rfl,(by simp),HS.out⟩
      ·obtain rfl:=hall;subst hun;have e0:=(bcell HS.out.bel ((w1.heap.size+1)) (0) HltD'.out).trans D0'.out;have e1:=(bcell HS.out.bel ((w1.heap.size+1)) (1) HltD'.out).trans D1'.out;go_simp;exact hK _ _ ⟨_,_,_,_,_,_,_,_,_,_,_,_,_,_,_,_,_,_,_,_,_,_,_,_,bx1,dx1,bx2,dx2,vb,vh,rfl,(by simp),HS.out⟩
      ·obtain⟨rfl,rfl⟩:=hall;subst hun;go_simp
       go_at_call 20
       refine(Hmi.out _ _ (HD9.out.below HS.out.bel)).mono ?_;rintro e u1 ⟨q1,q2,q3,q4,rfl,hr,hb⟩;have hS2:=(HS.out.dfaV hb hr).pick [1] (by decide);replace hS2:=qh hS2;go_simp;exact hK _ _ ⟨_,_,_,_,_,_,_,_,_,_,_,_,_,_,_,_,_,_,_,_,_,_,_,_,q1,q2,q3,q4,w'.heap.size,u1.heap.size,rfl,(by simp),hS2.out⟩
      ·obtain⟨rfl,rfl,rfl⟩:=hall;subst hun;go_simp
       go_at_call 19
       refine(Zb8 M _ _ _ (HXC.out.below HS.out.bel) (HS.out.dfaVr 0 rfl)).mono ?_;rintro e u1 ⟨rfl,hb⟩;have hS2:=HS.out.call hb;replace hS2:=qh hS2;go_simp;exact hK _ _ ⟨_,_,_,_,_,_,_,_,_,_,_,_,_,_,_,_,_,_,_,_,_,_,_,_,bx1,dx1,bx2,dx2,vb,vh,rfl,(by simp),hS2.out⟩
      ·obtain⟨rfl,rfl⟩:=hall;subst hun;go_simp;exact hK _ _ ⟨_,_,_,_,_,_,_,_,_,_,_,_,_,_,_,_,_,_,_,_,_,_,_,_,bx1,dx1,bx2,dx2,vb,vh,rfl,(by simp),HS.out⟩
      obtain⟨rfl,rfl,rfl,rfl,rfl,rfl,rfl,rfl,rfl,rfl,rfl,rfl,rfl,rfl,rfl,rfl,rfl,rfl,rfl,rfl,rfl,rfl,rfl,-⟩:=hall;subst hun;go_simp;exact hK _ _ ⟨_,_,_,_,_,_,_,_,_,_,_,_,_,_,_,_,_,_,_,_,_,_,_,_,bx1,dx1,bx2,dx2,vb,vh,rfl,(by simp),HS.out⟩
     ·rintro listed a w' ⟨l0,l1,l2,l3,l4,l5,l6,l7,l8,l9,l10,l11,l12,l13,l14,l15,l16,l17,l18,l19,l20,l21,l22,l23,bx1,dx1,bx2,dx2,vb,vh,rfl,rfl,hS⟩ hr;obtain⟨rfl,rfl,rfl,rfl,rfl,rfl,rfl,rfl,rfl,rfl,rfl,rfl,rfl,rfl,rfl,rfl,rfl,rfl,rfl,rfl,rfl,rfl,rfl,rfl,-⟩:=zA (Zay (by kernel_rfl) rfl hr) rfl;clear hr ;simp only[↓reduceIte] at hS ⊢;simp only[w_1,w_2,w_3];have HSf:=qh hS;clear hS;go_wp2;go_ret;exact⟨rfl,HSL.out.bel.trans (HSf.out.bel.mono HSL.out.bel.size)⟩
     refine⟨false,false,false,false,false,false,false,false,false,false,false,false,false,false,false,false,false,false,false,false,false,false,false,false,none,0,none,0,0,0,rfl,(by simp),?_⟩;exact((St.start w9).add (Below.refl _ _) Ent.nil trivial (fun _ hk=>hk.elim)).drew.pick [0] (by decide)
    have h8I:¬ (8:Int)<(T.length:Int):=by omega
    have hl3:=hl2 (by omega);obtain⟨q,hq⟩:=eJ ((wdOk T&&accD d (lets T)));rw[hq] at hl3;have Hq1:=qh hl3;have Hq2:=qh hq;have hqq:(q==q)=true:=by simp
    clear hl2 hl3 hq
    go_upto_region 13 with fail
    refine wp_region_any (by kernel_rfl) ?_
    refine Zak (fun A listed a w'=>∃ (l0 l1 l2 l3 l4 l5 l6 l7 l8 l9 l10 l11 l12 l13 l14 l15 l16 l17 l18 l19 l20 l21 l22 l23:Bool) (bx1:Option Addr) (dx1:Nat) (bx2:Option Addr) (dx2:Nat) (vb:Nat) (vh:Nat),listed=#[l0,l1,l2,l3,l4,l5,l6,l7,l8,l9,l10,l11,l12,l13,l14,l15,l16,l17,l18,l19,l20,l21,l22,l23] ∧
      a=⟨((((((((((((((((((((((((A.tmps.setIfInBounds 69 (if l0=true then .string (txB l) else A.tmps.getD 69 undef)).setIfInBounds 70 (if l1=true then .bool true else A.tmps.getD 70 undef)).setIfInBounds 71 (if l2=true then .bool false else A.tmps.getD 71 undef)).setIfInBounds 72 (if l3=true then .bool false else A.tmps.getD 72 undef)).setIfInBounds 73 (if l4=true then .string (txB T) else A.tmps.getD 73 undef)).setIfInBounds 74 (if l5=true then .int .i64 (T.length:Int) else A.tmps.getD 74 undef)).setIfInBounds 75 (if l6=true then .bool false else A.tmps.getD 75 undef)).setIfInBounds 76 (if l7=true then .bool false else A.tmps.getD 76 undef)).setIfInBounds 77 (if l8=true then .bool false else A.tmps.getD 77 undef)).setIfInBounds 78 (if l9=true then .agg #[.slice z1 E.next.length y1,.slice z2 E.ends.length y2] else A.tmps.getD 78 undef)).setIfInBounds 79 (if l10=true then .string (txB l) else A.tmps.getD 79 undef)).setIfInBounds 80 (if l11=true then .bool q else A.tmps.getD 80 undef)).setIfInBounds 81 (if l12=true then .agg #[.slice a1 d.next.length c1,.slice a2 d.ends.length c2] else A.tmps.getD 81 undef)).setIfInBounds 82 (if l13=true then .string (txB T) else A.tmps.getD 82 undef)).setIfInBounds 83 (if l14=true then .bool q else A.tmps.getD 83 undef)).setIfInBounds 84 (if l15=true then .bool true else A.tmps.getD 84 undef)).setIfInBounds 85 (if l16=true then .bool true else A.tmps.getD 85 undef)).setIfInBounds 86 (if l17=true then .bool true else A.tmps.getD 86 undef)).setIfInBounds 87 (if l18=true then .agg #[.slice ax1 M.next.length cx1,.slice ax2 M.ends.length cx2] else A.tmps.getD 87 undef)).setIfInBounds 88 (if l19=true then .agg #[.slice a1 d.next.length c1,.slice a2 d.ends.length c2] else A.tmps.getD 88 undef)).setIfInBounds 89 (if l20=true then .agg #[.slice bx1 M.next.length dx1,.slice bx2 M.ends.length dx2] else A.tmps.getD 89 undef)).setIfInBounds 90 (if l21=true then .bool true else A.tmps.getD 90 undef)).setIfInBounds 91 (if l22=true then .bool true else A.tmps.getD 91 undef)).setIfInBounds 4 (.bool l23)),A.defers⟩ ∧
      St w9 w' [(if l20=true then DfaV vb vh (.slice bx1 M.next.length dx1) (.slice bx2 M.ends.length dx2) M else Ent.nil)]) ?_ ?_ ?_
    ·rintro listed a w' ⟨l0,l1,l2,l3,l4,l5,l6,l7,l8,l9,l10,l11,l12,l13,l14,l15,l16,l17,l18,l19,l20,l21,l22,l23,bx1,dx1,bx2,dx2,vb,vh,rfl,rfl,hS⟩ i hi;obtain⟨hun,o,ho,hall⟩:=mem_ready.1 hi;have hlt:=(Array.getElem?_eq_some_iff.1 ho).1;refine wpOp_step ho (fun K hK => ?_);clear hi;have HS:=qh hS;clear hS;simp only[w_1,w_2,w_3,w_4,w_5,w_6,w_7,w_8];obtain h|h|h|h|h|h|h|h|h|h|h|h|h|h|h|h|h|h|h|h|h|h|h|h:i=0∨i=1∨i=2∨i=3∨i=4∨i=5∨i=6∨i=7∨i=8∨i=9∨i=10∨i=11∨i=12∨i=13∨i=14∨i=15∨i=16∨i=17∨i=18∨i=19∨i=20∨i=21∨i=22∨i=23:=by simp at hlt;omega
     all_goals subst h
     all_goals simp only[w_5,w_6,w_7,w_9] at ho
     all_goals subst ho
     all_goals simp[Region.binds] at hun hall
     ·subst hun;go_simp;exact hK _ _ ⟨_,_,_,_,_,_,_,_,_,_,_,_,_,_,_,_,_,_,_,_,_,_,_,_,bx1,dx1,bx2,dx2,vb,vh,rfl,(by simp),HS.out⟩
     ·obtain rfl:=hall;subst hun;go_simp
      go_at_call 26
      refine(Zbi l _ ht.out (by omega) true Hwd.out).mono ?_;rintro e u1 ⟨rfl,rfl⟩;have hS2:=HS.out;replace hS2:=qh hS2;go_simp;exact hK _ _ ⟨_,_,_,_,_,_,_,_,_,_,_,_,_,_,_,_,_,_,_,_,_,_,_,_,bx1,dx1,bx2,dx2,vb,vh,rfl,(by simp),hS2.out⟩
     ·obtain rfl:=hall;subst hun;go_simp;exact hK _ _ ⟨_,_,_,_,_,_,_,_,_,_,_,_,_,_,_,_,_,_,_,_,_,_,_,_,bx1,dx1,bx2,dx2,vb,vh,rfl,(by simp),HS.out⟩
     ·obtain⟨rfl,rfl⟩:=hall;subst hun;go_simp;exact hK _ _ ⟨_,_,_,_,_,_,_,_,_,_,_,_,_,_,_,_,_,_,_,_,_,_,_,_,bx1,dx1,bx2,dx2,vb,vh,rfl,(by simp),HS.out⟩
     ·obtain rfl:=hall;subst hun;go_simp;exact hK _ _ ⟨_,_,_,_,_,_,_,_,_,_,_,_,_,_,_,_,_,_,_,_,_,_,_,_,bx1,dx1,bx2,dx2,vb,vh,rfl,(by simp),HS.out⟩
     ·obtain⟨rfl,rfl⟩:=hall;subst hun;go_simp;exact hK _ _ ⟨_,_,_,_,_,_,_,_,_,_,_,_,_,_,_,_,_,_,_,_,_,_,_,_,bx1,dx1,bx2,dx2,vb,vh,rfl,(by simp),HS.out⟩
     ·obtain⟨rfl,rfl⟩:=hall;subst hun;go_simp;exact hK _ _ ⟨_,_,_,_,_,_,_,_,_,_,_,_,_,_,_,_,_,_,_,_,_,_,_,_,bx1,dx1,bx2,dx2,vb,vh,rfl,(by simp),HS.out⟩
     ·obtain⟨rfl,rfl⟩:=hall;subst hun;go_simp;exact hK _ _ ⟨_,_,_,_,_,_,_,_,_,_,_,_,_,_,_,_,_,_,_,_,_,_,_,_,bx1,dx1,bx2,dx2,vb,vh,rfl,(by simp),HS.out⟩
     ·obtain⟨rfl,rfl⟩:=hall;subst hun;go_simp;exact hK _ _ ⟨_,_,_,_,_,_,_,_,_,_,_,_,_,_,_,_,_,_,_,_,_,_,_,_,bx1,dx1,bx2,dx2,vb,vh,rfl,(by simp),HS.out⟩
     ·obtain rfl:=hall;subst hun;have e0:=(bcell HS.out.bel (w2.heap.size) (0) HltE'.out).trans E0'.out;have e1:=(bcell HS.out.bel (w2.heap.size) (1) HltE'.out).trans E1'.out;go_simp;exact hK _ _ ⟨_,_,_,_,_,_,_,_,_,_,_,_,_,_,_,_,_,_,_,_,_,_,_,_,bx1,dx1,bx2,dx2,vb,vh,rfl,(by simp),HS.out⟩
     ·obtain rfl:=hall;subst hun;go_simp;exact hK _ _ ⟨_,_,_,_,_,_,_,_,_,_,_,_,_,_,_,_,_,_,_,_,_,_,_,_,bx1,dx1,bx2,dx2,vb,vh,rfl,(by simp),HS.out⟩
     ·obtain⟨rfl,rfl,rfl⟩:=hall;subst hun;go_simp
      go_at_call 27
      refine(Zet E l _ _ ht.out (by omega) (HX9.out.below HS.out.bel) Hek.out q Hq1.out).mono ?_;rintro e u1 ⟨rfl,hb⟩;have hS2:=HS.out.call hb;replace hS2:=qh hS2;go_simp;exact hK _ _ ⟨_,_,_,_,_,_,_,_,_,_,_,_,_,_,_,_,_,_,_,_,_,_,_,_,bx1,dx1,bx2,dx2,vb,vh,rfl,(by simp),hS2.out⟩
     ·obtain rfl:=hall;subst hun;have e0:=(bcell HS.out.bel ((w1.heap.size+1)) (0) HltD'.out).trans D0'.out;have e1:=(bcell HS.out.bel ((w1.heap.size+1)) (1) HltD'.out).trans D1'.out;go_simp;exact hK _ _ ⟨_,_,_,_,_,_,_,_,_,_,_,_,_,_,_,_,_,_,_,_,_,_,_,_,bx1,dx1,bx2,dx2,vb,vh,rfl,(by simp),HS.out⟩
     ·obtain rfl:=hall;subst hun;go_simp;exact hK _ _ ⟨_,_,_,_,_,_,_,_,_,_,_,_,_,_,_,_,_,_,_,_,_,_,_,_,bx1,dx1,bx2,dx2,vb,vh,rfl,(by simp),HS.out⟩
     ·obtain⟨rfl,rfl,rfl,rfl⟩:=hall;subst hun;go_simp
      go_at_call 27
      refine(Zet d T _ _ HTt.out (by omega) (HD9.out.below HS.out.bel) Hdk.out q Hq2.out).mono ?_;rintro e u1 ⟨rfl,hb⟩;have hS2:=HS.out.call hb;replace hS2:=qh hS2;go_simp;exact hK _ _ ⟨_,_,_,_,_,_,_,_,_,_,_,_,_,_,_,_,_,_,_,_,_,_,_,_,bx1,dx1,bx2,dx2,vb,vh,rfl,(by simp),hS2.out⟩
     ·obtain⟨rfl,rfl,rfl⟩:=hall;subst hun;go_simp;exact hK _ _ ⟨_,_,_,_,_,_,_,_,_,_,_,_,_,_,_,_,_,_,_,_,_,_,_,_,bx1,dx1,bx2,dx2,vb,vh,rfl,(by simp),HS.out⟩
     ·obtain⟨rfl,rfl⟩:=hall;subst hun;go_simp;exact hK _ _ ⟨_,_,_,_,_,_,_,_,_,_,_,_,_,_,_,_,_,_,_,_,_,_,_,_,bx1,dx1,bx2,dx2,vb,vh,rfl,(by simp),HS.out⟩
     ·obtain⟨rfl,rfl⟩:=hall;subst hun;go_simp;exact hK _ _ ⟨_,_,_,_,_,_,_,_,_,_,_,_,_,_,_,_,_,_,_,_,_,_,_,_,bx1,dx1,bx2,dx2,vb,vh,rfl,(by simp),HS.out⟩
     ·obtain rfl:=hall;subst hun;have e0:=(bcell HS.out.bel (bn0) (0) HltC.out).trans C0.out;have e1:=(bcell HS.out.bel (bn0) (1) HltC.out).trans C1.out;go_simp;exact hK _ _ ⟨_,_,_,_,_,_,_,_,_,_,_,_,_,_,_,_,_,_,_,_,_,_,_,_,bx1,dx1,bx2,dx2,vb,vh,rfl,(by simp),HS.out⟩
     ·obtain rfl:=hall;subst hun;have e0:=(bcell HS.out.bel ((w1.heap.size+1)) (0) HltD'.out).trans D0'.out;have e1:=(bcell HS.out.bel ((w1.heap.size+1)) (1) HltD'.out).trans D1'.out;go_simp;exact hK _ _ ⟨_,_,_,_,_,_,_,_,_,_,_,_,_,_,_,_,_,_,_,_,_,_,_,_,bx1,dx1,bx2,dx2,vb,vh,rfl,(by simp),HS.out⟩
     ·obtain⟨rfl,rfl⟩:=hall;subst hun;go_simp
      go_at_call 20
      refine(Hmi.out _ _ (HD9.out.below HS.out.bel)).mono ?_;rintro e u1 ⟨q1,q2,q3,q4,rfl,hr,hb⟩;have hS2:=(HS.out.dfaV hb hr).pick [1] (by decide);replace hS2:=qh hS2;go_simp;exact hK _ _ ⟨_,_,_,_,_,_,_,_,_,_,_,_,_,_,_,_,_,_,_,_,_,_,_,_,q1,q2,q3,q4,w'.heap.size,u1.heap.size,rfl,(by simp),hS2.out⟩
     ·obtain⟨rfl,rfl,rfl⟩:=hall;subst hun;go_simp
      go_at_call 19
      refine(Zb8 M _ _ _ (HXC.out.below HS.out.bel) (HS.out.dfaVr 0 rfl)).mono ?_;rintro e u1 ⟨rfl,hb⟩;have hS2:=HS.out.call hb;replace hS2:=qh hS2;go_simp;exact hK _ _ ⟨_,_,_,_,_,_,_,_,_,_,_,_,_,_,_,_,_,_,_,_,_,_,_,_,bx1,dx1,bx2,dx2,vb,vh,rfl,(by simp),hS2.out⟩
     ·obtain⟨rfl,rfl⟩:=hall;subst hun;go_simp;exact hK _ _ ⟨_,_,_,_,_,_,_,_,_,_,_,_,_,_,_,_,_,_,_,_,_,_,_,_,bx1,dx1,bx2,dx2,vb,vh,rfl,(by simp),HS.out⟩
     obtain⟨rfl,rfl,rfl,rfl,rfl,rfl,rfl,rfl,rfl,rfl,rfl,rfl,rfl,rfl,rfl,rfl,rfl,rfl,rfl,rfl,rfl,rfl,rfl,-⟩:=hall;subst hun;go_simp;exact hK _ _ ⟨_,_,_,_,_,_,_,_,_,_,_,_,_,_,_,_,_,_,_,_,_,_,_,_,bx1,dx1,bx2,dx2,vb,vh,rfl,(by simp),HS.out⟩
    ·rintro listed a w' ⟨l0,l1,l2,l3,l4,l5,l6,l7,l8,l9,l10,l11,l12,l13,l14,l15,l16,l17,l18,l19,l20,l21,l22,l23,bx1,dx1,bx2,dx2,vb,vh,rfl,rfl,hS⟩ hr;obtain⟨rfl,rfl,rfl,rfl,rfl,rfl,rfl,rfl,rfl,rfl,rfl,rfl,rfl,rfl,rfl,rfl,rfl,rfl,rfl,rfl,rfl,rfl,rfl,rfl,-⟩:=zA (Zay (by kernel_rfl) rfl hr) rfl;clear hr ;simp only[↓reduceIte] at hS ⊢;simp only[w_1,w_2,w_3];have HSf:=qh hS;clear hS;go_wp2;go_ret;exact⟨rfl,HSL.out.bel.trans (HSf.out.bel.mono HSL.out.bel.size)⟩
    refine⟨false,false,false,false,false,false,false,false,false,false,false,false,false,false,false,false,false,false,false,false,false,false,false,false,none,0,none,0,0,0,rfl,(by simp),?_⟩;exact((St.start w9).add (Below.refl _ _) Ent.nil trivial (fun _ hk=>hk.elim)).drew.pick [0] (by decide)
  refine⟨false,false,false,false,false,false,false,false,false,⟨undef,undef,undef,Ent.nil⟩,none,0,none,0,0,0,0,rfl,by simp,by simp,by simp,by simp,(by simp),?_⟩;exact HSq.out.drew.pick [0,1,2] (by decide)
end Go.Proofs.Ytfanhfcamblghaa
