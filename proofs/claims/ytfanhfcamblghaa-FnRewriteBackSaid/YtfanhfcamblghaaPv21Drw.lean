/-
  The walk over the reference's DrawRewriteBack.
  Condition: the argument reads as bytes.
-/
import Derived.Test.YtfanhfcamblghaaPv16Jg
import Derived.Test.YtfanhfcamblghaaPv20Rwg
set_option maxHeartbeats 16000000
set_option maxRecDepth 100000
namespace Go.Proofs.Ytfanhfcamblghaa
open Go.RowKit
theorem ZkF {u:World} {v1 v2 v3:Value} {r:RwD} (h:RwR u (.agg #[v1,v2,v3]) r):∃ (a1 a2 a3:Option Addr) (n1 c1 n2 c2 n3 c3:Nat),v1 = .slice a1 n1 c1∧v2 = .slice a2 n2 c2∧v3 = .slice a3 n3 c3:=by obtain⟨x1,x2,x3,hv,h1,h2,h3⟩:=h;simp only[Value.agg.injEq,Array.mk.injEq,List.cons.injEq,and_true] at hv;obtain⟨rfl,rfl,rfl⟩:=hv;obtain⟨a1,c1,e1,-⟩:=h1.formI;obtain⟨a2,c2,e2,-⟩:=h2.form;obtain⟨a3,c3,e3,-⟩:=h3.form;exact⟨a1,a2,a3,_,c1,_,c2,_,c3,e1,e2,e3⟩
structure DrQ where
 D:DfaD
 a1:Option Addr
 a2:Option Addr
 c1:Nat
 c2:Nat
 vs:List Value
 E:Ent
 p:Nat
 sm:SmallD D
 h:DfaH E (.slice a1 D.next.length c1) (.slice a2 D.ends.length c2) vs D
def drQ0:DrQ:=⟨⟨[],[]⟩,none,none,0,0,[],Ent.nil,0,⟨Nat.zero_le _,Nat.zero_le _,fun x hx=>by cases hx⟩,Zgy⟩
theorem ZcX (bs:List Nat) (v:Value) (w:World) (hb:Bytes 0 w v bs) (hlen:bs.length≤100000000) :
  Calls Try.prog 21 #[v] w fun e w'=>∃ (r:RwD) (D:DfaD) (v1 v2 v3:Value) (a1 a2:Option Addr) (c1 c2:Nat),okRw r∧SmallD D ∧
   e = .returned (.tuple #[.agg #[v1,v2,v3],.agg #[.slice a1 D.next.length c1,.slice a2 D.ends.length c2]])∧RwR w' (.agg #[v1,v2,v3]) r∧DfaR 0 w' (.agg #[.slice a1 D.next.length c1,.slice a2 D.ends.length c2]) D∧Below w.heap.size w w':=by
 have hS0:=((St.start w).alloc w.heap.size rfl #[.slice none 0 0,.slice none 0 0,.slice none 0 0] 54).alloc (w.heap.size+1) (by simp) #[.slice none 0 0,.slice none 0 0] 45;have Hb:=qh hb;replace hS0:=qh hS0;clear hb
 go_enter Try.func21, Try.ntmps21
 go_wp2_with fail;refine(Zi0 bs v _ (Hb.out.below hS0.out.bel) hlen).mono ?_;rintro e w1 ⟨vb,bs',hl',hB,rfl,hS'⟩;obtain⟨b,hbb⟩:=eI (((w.alloc (.cells #[.slice none 0 0,.slice none 0 0,.slice none 0 0] 54)).alloc (.cells #[.slice none 0 0,.slice none 0 0] 45)).heap.size);rw[← hbb] at hS';rw[← hbb];have hB1:=hB w Hb.out;have HB:=qh hB1;have HS1:=qh ((hS0.out.cat hS').pick [2,0,1] (by decide));have Hhbb:=qh hbb;clear hbb;clear hS' hB hB1;go_wp2_with fail;refine(Zed bs' vb b 0 14 w w1 _ HB.out hl' (by omega) (by omega) (St.pack (A:=[RdE b vb 0]) (R:=[Ent.box w.heap.size #[.slice none 0 0,.slice none 0 0,.slice none 0 0] 54,Ent.box (w.heap.size+1) #[.slice none 0 0,.slice none 0 0] 45]) HS1.out)).mono ?_;rintro e w2 ⟨r,pn,v1,v2,v3,F,hpn,hok,rfl,hSp⟩;have hS2:=St.unpack (A:=[RdE b vb 0]) (A':=[RdE b vb pn,Ent.know F (fun u=>RwR u (.agg #[v1,v2,v3]) r)]) (R:=[Ent.box w.heap.size #[.slice none 0 0,.slice none 0 0,.slice none 0 0] 54,Ent.box (w.heap.size+1) #[.slice none 0 0,.slice none 0 0] 45]) HS1.out (hSp.pick [0,2,1] (by decide));obtain⟨x1,x2,x3,n1,m1,n2,m2,n3,m3,rfl,rfl,rfl⟩:=ZkF (hS2.know 1 rfl);have HS3:=qh ((hS2.alloc w2.heap.size rfl #[.slice x1 n1 m1,.slice x2 n2 m2,.slice x3 n3 m3] 54).add (Below.refl _ _) Ent.nil trivial fun _ hk=>hk.elim);have Hok:=qh hok;clear hSp hS2 hok HS1
 go_upto_region 3 with fail
 refine wp_region_any (by kernel_rfl) ?_
 refine Zak (fun A listed a w'=>∃ (l0 l1 l2 l3 l4:Bool) (z9:DrQ),listed=#[l0,l1,l2,l3,l4]∧(l3=true→l0=true∧l2=true)∧(l4=true→l2=true) ∧
   a=⟨(((A.tmps.setIfInBounds 10 (if l0=true then .agg #[.slice x1 n1 m1,.slice x2 n2 m2,.slice x3 n3 m3] else A.tmps.getD 10 undef)).setIfInBounds 11 (if l1=true then .pointer (some ⟨b,0,none⟩) else A.tmps.getD 11 undef)).setIfInBounds 12 (if l2=true then .agg #[.slice z9.a1 z9.D.next.length z9.c1,.slice z9.a2 z9.D.ends.length z9.c2] else A.tmps.getD 12 undef)),A.defers⟩ ∧
   St w w' [RdE b vb (if l2=true then z9.p else pn),Ent.know F (fun u=>RwR u (.agg #[.slice x1 n1 m1,.slice x2 n2 m2,.slice x3 n3 m3]) r),(if l3=true then Ent.box w.heap.size #[.slice x1 n1 m1,.slice x2 n2 m2,.slice x3 n3 m3] 54 else Ent.box w.heap.size #[.slice none 0 0,.slice none 0 0,.slice none 0 0] 54),(if l4=true then Ent.box ((w.heap.size+1)) #[.slice z9.a1 z9.D.next.length z9.c1,.slice z9.a2 z9.D.ends.length z9.c2] 45 else Ent.box ((w.heap.size+1)) #[.slice none 0 0,.slice none 0 0] 45),Ent.box w2.heap.size #[.slice x1 n1 m1,.slice x2 n2 m2,.slice x3 n3 m3] 54,(if l2=true then z9.E else Ent.nil)]) ?_ ?_ ?_
 ·rintro listed a w' ⟨l0,l1,l2,l3,l4,z9,rfl,hd3,hd4,rfl,hS⟩ i hi;obtain⟨hun,o,ho,hall⟩:=mem_ready.1 hi;have hlt:=(Array.getElem?_eq_some_iff.1 ho).1;refine wpOp_step ho (fun K hK => ?_);clear hi;have HS:=qh hS;clear hS;simp only[w_1,w_2,w_3,w_4,w_5,w_6,w_7,w_8];obtain h|h|h|h|h:i=0∨i=1∨i=2∨i=3∨i=4:=by simp at hlt;omega
  all_goals subst h
  all_goals simp only[w_5,w_6,w_7,w_9] at ho
  all_goals subst ho
  all_goals simp[Region.binds] at hun hall
  ·subst hun;obtain rfl:l3=false:=offL hd3 rfl;have e0:=HS.out.cell (v:=.slice x1 n1 m1) 4 0 rfl rfl;have e1:=HS.out.cell (v:=.slice x2 n2 m2) 4 1 rfl rfl;have e2:=HS.out.cell (v:=.slice x3 n3 m3) 4 2 rfl rfl;go_simp;exact hK _ _ ⟨_,_,_,_,_,z9,rfl,by simp,hd4,(by simp),HS.out⟩
  ·subst hun;go_simp;exact hK _ _ ⟨_,_,_,_,_,z9,rfl,hd3,hd4,(by simp),HS.out⟩
  ·obtain rfl:=hall;subst hun;obtain rfl:l3=false:=offR hd3 rfl;obtain rfl:l4=false:=by cases l4 with|false=>rfl|true=>simpa using hd4 rfl
   go_simp
   go_at_call 67
   refine(Zin bs' vb b pn 14 w _ _ HB.out hl' (by omega) (by omega) (St.pack (A:=[RdE b vb pn]) (R:=[Ent.know F (fun u=>RwR u (.agg #[.slice x1 n1 m1,.slice x2 n2 m2,.slice x3 n3 m3]) r),Ent.box w.heap.size #[.slice none 0 0,.slice none 0 0,.slice none 0 0] 54,Ent.box (w.heap.size+1) #[.slice none 0 0,.slice none 0 0] 45,Ent.box w2.heap.size #[.slice x1 n1 m1,.slice x2 n2 m2,.slice x3 n3 m3] 54,Ent.nil]) HS.out)).mono ?_;rintro e u1 ⟨Dx,px,ax1,ax2,cx1,cx2,vsx,Ex,hpx,hsx,rfl,hhx,hSp⟩;have hS2:=(St.unpack (A:=[RdE b vb pn]) (A':=[RdE b vb px,Ex]) (R:=[Ent.know F (fun u=>RwR u (.agg #[.slice x1 n1 m1,.slice x2 n2 m2,.slice x3 n3 m3]) r),Ent.box w.heap.size #[.slice none 0 0,.slice none 0 0,.slice none 0 0] 54,Ent.box (w.heap.size+1) #[.slice none 0 0,.slice none 0 0] 45,Ent.box w2.heap.size #[.slice x1 n1 m1,.slice x2 n2 m2,.slice x3 n3 m3] 54,Ent.nil]) HS.out (hSp.pick [0,2,1] (by decide))).pick [0,2,3,4,5,1] (by decide);have HhS2:=qh hS2;clear hS2;go_simp;exact hK _ _ ⟨_,_,_,_,_,⟨Dx,ax1,ax2,cx1,cx2,vsx,Ex,px,hsx,hhx⟩,rfl,by simp,by simp,(by simp),HhS2.out⟩
  ·obtain⟨rfl,rfl,-⟩:=hall;subst hun;have f0:=HS.out.fr 2 0 rfl;have k0:=HS.out.cell (v:=.slice none 0 0) 2 0 rfl rfl;have f1:=HS.out.fr 2 1 rfl;have k1:=HS.out.cell (v:=.slice none 0 0) 2 1 rfl rfl;have f2:=HS.out.fr 2 2 rfl;have k2:=HS.out.cell (v:=.slice none 0 0) 2 2 rfl rfl;go_simp;exact hK _ _ ⟨_,_,_,_,_,z9,rfl,by simp,hd4,(by simp),(((HS.out.set 2 rfl 0 (.slice x1 n1 m1)).set 2 rfl 1 (.slice x2 n2 m2)).set 2 rfl 2 (.slice x3 n3 m3))⟩
  obtain⟨rfl,rfl,rfl,rfl,-⟩:=hall;subst hun;have f0:=HS.out.fr 3 0 rfl;have k0:=HS.out.cell (v:=.slice none 0 0) 3 0 rfl rfl;have f1:=HS.out.fr 3 1 rfl;have k1:=HS.out.cell (v:=.slice none 0 0) 3 1 rfl rfl;go_simp;exact hK _ _ ⟨_,_,_,_,_,z9,rfl,by simp,by simp,(by simp),((HS.out.set 3 rfl 0 (.slice z9.a1 z9.D.next.length z9.c1)).set 3 rfl 1 (.slice z9.a2 z9.D.ends.length z9.c2))⟩
 ·rintro listed a w' ⟨l0,l1,l2,l3,l4,z9,rfl,hd3,hd4,rfl,hS⟩ hr;obtain⟨rfl,rfl,rfl,rfl,rfl,-⟩:=zA (Zay (by kernel_rfl) rfl hr) rfl;clear hr hd3 hd4;simp only[↓reduceIte] at hS ⊢;simp only[w_1,w_2,w_3];have HSf:=qh hS;clear hS;have q0:=HSf.out.cell (v:=.slice x1 n1 m1) 2 0 rfl rfl;have q1:=HSf.out.cell (v:=.slice x2 n2 m2) 2 1 rfl rfl;have q2:=HSf.out.cell (v:=.slice x3 n3 m3) 2 2 rfl rfl;have q3:=HSf.out.cell (v:=.slice z9.a1 z9.D.next.length z9.c1) 3 0 rfl rfl;have q4:=HSf.out.cell (v:=.slice z9.a2 z9.D.ends.length z9.c2) 3 1 rfl rfl;go_wp2;refine bodyPost_ret (v:=.tuple #[.agg #[.slice x1 n1 m1,.slice x2 n2 m2,.slice x3 n3 m3],.agg #[.slice z9.a1 z9.D.next.length z9.c1,.slice z9.a2 z9.D.ends.length z9.c2]]) (by simp[results,Try.results21,go_sem,q0,q1,q2,q3,q4]) rfl ?_;exact⟨r,z9.D,_,_,_,z9.a1,z9.a2,z9.c1,z9.c2,Hok.out,z9.sm,rfl,HSf.out.know 1 rfl,z9.h.r HSf.out 5 rfl,HSf.out.bel⟩
 refine⟨false,false,false,false,false,drQ0,rfl,by simp,by simp,(by simp),?_⟩;exact HS3.out.drew.pick [0,1,2,3,4,5] (by decide)
theorem Zcc (m:Nat) (l:List Nat) (w:World) (ht:isT l) (hl:l.length≤1000000) (r:Bool) (hr:txM m l=r) :
  Calls Try.prog 119 #[.string (txB l),.int .i64 (m:Int)] w fun e w'=>e = .returned (.bool r)∧w=w':=by
 have hs:(txB l).size=l.length:=Zba l;replace hr:=qh hr;have Hht:=qh ht;clear ht
 go_enter Try.func119, Try.ntmps119
 go_wp2
 go_loopw [5] (fun i wr=>∃ k:Nat,i = .int .i64 k∧k≤l.length∧okT l k=true∧w=wr) (fun i _=>l.length-(intOf i).toNat)
 case atStart=>exact⟨0,rfl,Nat.zero_le _,rfl,rfl⟩
 case round =>
  obtain⟨k,rfl,hk,hok,rfl⟩:=hrel;by_cases hlt:k<l.length
  ·have hkl:(k:Int)<l.length:=by omega
   have hrun:=Zcg hlt Hht.out;have hb:=Hht.out _ (Zbg hlt);obtain⟨c,hcc⟩:=eI (l.getD k 0);rw[← hcc] at hrun hb;have hw9:IntKind.i64.wrap (c:Int)=(c:Int):=IntWalk.i64_in _ (by omega);have Hhok:=qh hok;clear hok;replace hcc:=qh hcc;cases hin:inB (c:Int) 97 99
   ·have Hhin:=qh hin;clear hin;go_wp2_with (go_at_call 80;refine(ZaA _ _ _ _ _ Hhin.out).mono ?_;rintro e w' ⟨rfl,rfl⟩);go_ret;exact⟨by rw[← hr.out,Zhz hlt (by rw[← hcc.out];exact Hhin.out)];rfl,rfl⟩
   have Hhin:=qh hin;clear hin;go_wp2_with (go_at_call 80;refine(ZaA _ _ _ _ _ Hhin.out).mono ?_;rintro e w' ⟨rfl,rfl⟩);go_roundw
   case rel=>exact⟨k+1,by go_num,by omega,ZdR Hhok.out (by rw[← hcc.out];exact Hhin.out),trivial⟩
   case measure=>simp[intOf];omega
  obtain rfl:k=l.length:=by omega
  have hrr:decide (l.length≤m)=r:=by rw[← hr.out];unfold txM;rw[hok,Bool.true_and]
  have Hhok:=qh hok;clear hok;have Hhrr:=qh hrr;clear hrr;go_wp2;go_ret;exact⟨by rw[← Hhrr.out];rfl,rfl⟩
theorem ZkV {α:Type} {p:α→Bool} {l:List α} {d:α} {k:Nat} (hk:k<l.length) (h:p (l.getD k d)=true):l.any p=true:=by rw[List.any_eq_true];rw[List.getD_eq_getElem?_getD,List.getElem?_eq_getElem hk] at h;exact⟨_,List.getElem_mem hk,h⟩
theorem ZkU {α:Type} {p:α→Bool} {l:List α} {d:α} {n:Nat} (hl:l.length=n) (h:∀ k,k<n→p (l.getD k d)=false):l.any p=false:=by rw[List.any_eq_false];intro x hx;obtain⟨k,hk,rfl⟩:=List.getElem_of_mem hx;have:=h k (by omega);rw[List.getD_eq_getElem?_getD,List.getElem?_eq_getElem hk] at this;simpa using this
theorem Ints.form2 {w:World} {a:Option Addr} {n c:Nat} {xs:List Int} (h:Ints 0 w (.slice a n c) xs):0<xs.length→∃ b off,a=some ⟨b,off,none⟩∧True∧b<w.heap.size∧∀ j,j<xs.length→w.cell? ⟨b,off+j,none⟩=some (.int .i64 (xs.getD j 0)):=by obtain⟨a',c',he,-,-,h3⟩:=h.form;simp only[Value.slice.injEq] at he;obtain⟨rfl,-,-⟩:=he;intro h0;obtain⟨b,off,h4,-,h5,h6⟩:=h3 h0;exact⟨b,off,h4,trivial,h5,h6⟩
theorem Txts.form2 {w:World} {a:Option Addr} {n c:Nat} {ls:List (List Nat)} (h:Txts w (.slice a n c) ls):0<ls.length→∃ b off,a=some ⟨b,off,none⟩∧b<w.heap.size∧∀ j,j<ls.length→w.cell? ⟨b,off+j,none⟩=some (.string (txB (ls.getD j []))):=by obtain⟨a',c',he,-,-,h3⟩:=h.form;simp only[Value.slice.injEq] at he;obtain⟨rfl,-,-⟩:=he;exact h3
theorem Zci (r:RwD) (v:Value) (w:World) (hok:okRw r) (h:RwR w v r) (y:Bool) (hy:rwOk r=y) :
  Calls Try.prog 73 #[v] w fun e w'=>e = .returned (.bool y)∧Below w.heap.size w w':=by
 obtain⟨v1,v2,v3,rfl,h1,h2,h3⟩:=h;obtain⟨a1,c1,rfl,hc1,hm1,hr1⟩:=h1.formI;obtain⟨a2,c2,rfl,hc2,hm2,hr2⟩:=h2.form;obtain⟨a3,c3,rfl,hc3,hm3,hr3⟩:=h3.form;have hbn:=ZkH (r:=r);have hbo:=ZkG (r:=r);have hbf:=ZkJ (r:=r);have hbk:=fun k hk h=>@ZkI r k hk h
 have hyes:=Zhn (r:=r);rw[hy] at hbn hbo hbf hbk hyes;obtain⟨N,hN⟩:=eI (r.next.length);rw[← hN] at hc1 hr1 hbn hbo hbf hbk hyes;rw[← hN];obtain⟨M2,hM2⟩:∃ M,M=r.out.length:=⟨_,rfl⟩;obtain⟨M3,hM3⟩:∃ M,M=r.fin.length:=⟨_,rfl⟩;rw[← hM2] at hc2 hr2 hbo hyes;rw[← hM3] at hc3 hr3 hbf hyes;rw[← hM2,← hM3];have HS:=qh ((St.start w).alloc w.heap.size rfl #[.slice a1 N c1,.slice a2 M2 c2,.slice a3 M3 c3] 54);have e0:=HS.out.cell (v:=.slice a1 N c1) 0 0 rfl rfl;have e1:=HS.out.cell (v:=.slice a2 M2 c2) 0 1 rfl rfl;have e2:=HS.out.cell (v:=.slice a3 M3 c3) 0 2 rfl rfl;have Hr1:=qh hr1;have Hr2:=qh hr2;have Hr3:=qh hr3;have Hbn:=qh hbn;have Hbo:=qh hbo;have Hbf:=qh hbf;have Hbk:=qh hbk;have Hyes:=qh hyes;have Hok:=qh hok;replace hN:=qh hN;replace hM2:=qh hM2;have HhM3:=qh hM3;clear hM3;clear h1 h2 h3 hr1 hr2 hr3 hbn hbo hbf hbk hyes hok hy
 go_enter Try.func73, Try.ntmps73
 cases hin:inB (N:Int) 1 12
 ·obtain rfl:=Hbn.out hin;have Hhin:=qh hin;clear hin;go_wp2_with (go_at_call 80;refine(ZaA _ _ _ _ _ Hhin.out).mono ?_;rintro e w' ⟨rfl,rfl⟩);go_ret;exact⟨rfl,HS.out.bel⟩
 have hN1:1≤N∧N≤12:=by simp only[inB,Bool.and_eq_true,decide_eq_true_eq] at hin;omega
 by_cases ho:M2=N
 ·subst ho;by_cases hf:M3=M2
  ·subst hf;have Hhin:=qh hin;clear hin;go_wp2_with (go_at_call 80;refine(ZaA _ _ _ _ _ Hhin.out).mono ?_;rintro e w' ⟨rfl,rfl⟩);obtain⟨b1,o1,rfl,-,hb1,hcs1⟩:=Hr1.out hN1.1;obtain⟨b2,o2,rfl,hb2,hcs2⟩:=Hr2.out hN1.1;obtain⟨b3,o3,rfl,hb3,hcs3⟩:=Hr3.out hN1.1;have Hcs1:=qh hcs1;have Hcs2:=qh hcs2;have Hcs3:=qh hcs3;clear hcs1 hcs2 hcs3 e0 e1 e2
   go_loopw [2,4] (fun rv iv wr=>∃ k:Nat,k≤M3∧iv = .int .i64 (k:Int)∧(∀ q,q<k→ZbP r M3 q=true)∧St w wr [Ent.box w.heap.size #[.slice (some ⟨b1,o1,none⟩) M3 c1,.slice (some ⟨b2,o2,none⟩) M3 c2,.slice (some ⟨b3,o3,none⟩) M3 c3] 54]) (fun _ iv _=>M3-(intOf iv).toNat)
   case atStart=>exact⟨0,Nat.zero_le _,rfl,fun q hq=>absurd hq (Nat.not_lt_zero q),HS.out⟩
   case round =>
    obtain⟨k,hk,rfl,hall,hS⟩:=hrel;have HS1:=qh hS;have Hhall:=qh hall;clear hall;clear hS HS;by_cases hlt:k<M3
    ·have hltI:(k:Int)<(M3:Int):=by omega
     have hwk:IntKind.i64.wrap ((k:Int)+1)=(k:Int)+1:=IntWalk.i64_in _ (by omega);have e0:=HS1.out.cell (v:=.slice (some ⟨b1,o1,none⟩) M3 c1) 0 0 rfl rfl;have e1:=HS1.out.cell (v:=.slice (some ⟨b2,o2,none⟩) M3 c2) 0 1 rfl rfl;have e2:=HS1.out.cell (v:=.slice (some ⟨b3,o3,none⟩) M3 c3) 0 2 rfl rfl;obtain⟨p1,q1,hp1,-,-,hi1⟩:=Hcs1.out k hlt;obtain⟨p2,q2,hp2,-,-,hi2⟩:=Hcs2.out k hlt;have hp3:=Hcs3.out k hlt;have g1:=(bcell HS1.out.bel b1 _ hb1).trans hp1;have g2:=(bcell HS1.out.bel b2 _ hb2).trans hp2;have g3:=(bcell HS1.out.bel b3 _ hb3).trans hp3;have hrow:=Zhm r M3 k;have hoR:=Hok.out.1 k;have hoF:=Hok.out.2.2 (r.fin.getD k []) (memT (by have:=HhM3.out;omega));obtain⟨X,hX⟩:=eI (r.next.getD k []);obtain⟨Y,hY⟩:=eI (r.out.getD k []);obtain⟨Z,hZ⟩:=eI (r.fin.getD k []);rw[← hX] at hi1 g1 hp1 hrow;rw[← hY] at hi2 g2 hp2 hrow hoR;rw[← hZ] at g3 hrow hoF;have hxr:=hi1.form2;have hyr:=hi2.form2;have Hp1:=qh hp1;have Hp2:=qh hp2;have HoR:=qh hoR;have HoF:=qh hoF;have Hhrow:=qh hrow;clear hrow;clear hi1 hi2 hp1 hp2 hp3 hoR hoF hX hY hZ;by_cases z1:X.length=3
     ·have z1I:((X.length:Int) != 3)=false:=by rw[z1];rfl
      by_cases z2:Y.length=3
      ·have z2I:((Y.length:Int) != 3)=false:=by rw[z2];rfl
       cases z3:txM 4 Z
       ·have hbad:ZbP r M3 k=false:=by rw[Hhrow.out,z3];simp
        obtain rfl:=Hbk.out k hlt hbad;have Hio:=qh (fun u=>Zcc 4 Z u HoF.out.1 (by have:=HoF.out.2;omega) _ z3);clear hbad z3 z1 z2;go_wp2_with (go_at_call 119;refine(Hio.out _).mono ?_;rintro e w' ⟨rfl,rfl⟩);go_ret;exact⟨rfl,HS1.out.bel⟩
       have Hio:=qh (fun u=>Zcc 4 Z u HoF.out.1 (by have:=HoF.out.2;omega) _ z3);obtain⟨f1,f2,rfl,-,hf3,hf4⟩:=hxr (by omega);obtain⟨t1,t2,rfl,ht3,ht4⟩:=hyr (by omega);rw[z1] at hf4;rw[z2] at ht4;have Hf4:=qh hf4;have Ht4:=qh ht4;have Hz1:=qh z1;have Hz2:=qh z2;have Hz3:=qh z3;rw[z1] at g1 z1I;rw[z2] at g2 z2I;clear hf4 ht4 z1 z2 z3 hxr hyr;go_wp2_with (go_at_call 119;refine(Hio.out _).mono ?_;rintro e w' ⟨rfl,rfl⟩);clear e0 e1 e2 g1 g2 g3
       go_loopw [2,5] (fun rv cv wq=>∃ c:Nat,c≤3∧cv = .int .i64 (c:Int)∧(∀ q,q<c→badT M3 (X.getD q 0)=false∧txM 4 (Y.getD q [])=true)∧St w wq [Ent.box w.heap.size #[.slice (some ⟨b1,o1,none⟩) M3 c1,.slice (some ⟨b2,o2,none⟩) M3 c2,.slice (some ⟨b3,o3,none⟩) M3 c3] 54]) (fun _ cv _=>3-(intOf cv).toNat)
       case atStart=>exact⟨0,by omega,rfl,fun q hq=>absurd hq (Nat.not_lt_zero q),HS1.out⟩
       case round =>
        obtain⟨c,hc,rfl,hcq,hS⟩:=hrel;have HS2:=qh hS;have Hhcq:=qh hcq;clear hcq;clear hS HS1;by_cases hlc:c<3
        ·have hcI:(c:Int)<3:=by omega
         have hwc:IntKind.i64.wrap ((c:Int)+1)=(c:Int)+1:=IntWalk.i64_in _ (by omega);have hwn:IntKind.i64.wrap ((M3:Int)-1)=(M3:Int)-1:=IntWalk.i64_in _ (by omega);have e0:=HS2.out.cell (v:=.slice (some ⟨b1,o1,none⟩) M3 c1) 0 0 rfl rfl;have e1:=HS2.out.cell (v:=.slice (some ⟨b2,o2,none⟩) M3 c2) 0 1 rfl rfl;have g1:=(bcell HS2.out.bel b1 _ hb1).trans Hp1.out;have g2:=(bcell HS2.out.bel b2 _ hb2).trans Hp2.out;have g3:=(bcell HS2.out.bel f1 _ hf3).trans (Hf4.out c hlc);have g4:=(bcell HS2.out.bel t1 _ ht3).trans (Ht4.out c hlc);rw[Hz1.out] at g1;rw[Hz2.out] at g2;have hoY:=HoR.out.2 (Y.getD c []) (memT (by rw[Hz2.out];exact hlc));cases z4:badT M3 (X.getD c 0)
         ·have z4':inB (X.getD c 0) 0 ((M3:Int)-1)=true:=by simpa [badT] using z4
          have Hc1:=qh (fun u=>ZaA (X.getD c 0) 0 ((M3:Int)-1) u _ z4');cases z5:txM 4 (Y.getD c [])
          ·have Hc2:=qh (fun u=>Zcc 4 (Y.getD c []) u hoY.1 (by omega) _ z5);have hbad:ZbP r M3 k=false:=by rw[Hhrow.out,ZkV (p:=fun l => !txM 4 l) (d:=[]) (by rw[Hz2.out];exact hlc) (by rw[z5];rfl)];simp
           obtain rfl:=Hbk.out k hlt hbad;clear hbad z4 z4' z5 hoY
           go_wp2_with (first
            | (go_at_call 80;refine(Hc1.out _).mono ?_;rintro e w' ⟨rfl,rfl⟩)
            | (go_at_call 119;refine(Hc2.out _).mono ?_;rintro e w' ⟨rfl,rfl⟩))
           go_ret;exact⟨rfl,HS2.out.bel⟩
          have Hc2:=qh (fun u=>Zcc 4 (Y.getD c []) u hoY.1 (by omega) _ z5);have Hz4:=qh z4;have Hz5:=qh z5;clear z4 z4' z5 hoY
          go_wp2_with (first
           | (go_at_call 80;refine(Hc1.out _).mono ?_;rintro e w' ⟨rfl,rfl⟩)
           | (go_at_call 119;refine(Hc2.out _).mono ?_;rintro e w' ⟨rfl,rfl⟩))
          go_roundw
          case rel =>
           refine⟨c+1,by omega,by go_num,fun q hq => ?_,HS2.out⟩;by_cases hqc:q=c
           ·rw[hqc];exact⟨Hz4.out,Hz5.out⟩
           exact Hhcq.out q (by omega)
          case measure=>simp[intOf];omega
         have z4':inB (X.getD c 0) 0 ((M3:Int)-1)=false:=by simpa [badT] using z4
         have Hc1:=qh (fun u=>ZaA (X.getD c 0) 0 ((M3:Int)-1) u _ z4');have hbad:ZbP r M3 k=false:=by rw[Hhrow.out,ZkV (p:=badT M3) (d:=0) (by rw[Hz1.out];exact hlc) z4];simp
         obtain rfl:=Hbk.out k hlt hbad;clear hbad z4 z4' hoY;go_wp2_with (go_at_call 80;refine(Hc1.out _).mono ?_;rintro e w' ⟨rfl,rfl⟩);go_ret;exact⟨rfl,HS2.out.bel⟩
        have hcI:¬ (c:Int)<3:=by omega
        have hgood:ZbP r M3 k=true:=by rw[Hhrow.out,Hz3.out,decide_eq_true Hz1.out,decide_eq_true Hz2.out,ZkU (p:=badT M3) (d:=0) Hz1.out fun q hq=>(Hhcq.out q (by omega)).1,ZkU (p:=fun l => !txM 4 l) (d:=[]) Hz2.out fun q hq=>by rw[(Hhcq.out q (by omega)).2];rfl];rfl
        have Hhgood:=qh hgood;clear hgood;go_wp2;go_roundw
        case rel =>
         refine⟨k+1,by omega,by go_num,fun q hq => ?_,HS2.out⟩;by_cases hqk:q=k
         ·rw[hqk];exact Hhgood.out
         exact Hhall.out q (by omega)
        case measure=>simp[intOf];omega
      have z2I:((Y.length:Int) != 3)=true:=by rw[bne_iff_ne];omega
      have hbad:ZbP r M3 k=false:=by rw[Hhrow.out,decide_eq_false z2];simp
      obtain rfl:=Hbk.out k hlt hbad;clear hbad z1 z2;go_wp2;go_ret;exact⟨rfl,HS1.out.bel⟩
     have z1I:((X.length:Int) != 3)=true:=by rw[bne_iff_ne];omega
     have hbad:ZbP r M3 k=false:=by rw[Hhrow.out,decide_eq_false z1];simp
     obtain rfl:=Hbk.out k hlt hbad;clear hbad z1;go_wp2;go_ret;exact⟨rfl,HS1.out.bel⟩
    have hltI:¬ (k:Int)<(M3:Int):=by omega
    obtain rfl:y=true:=Hyes.out Hhin.out (by first|rfl|trivial) (by first|rfl|trivial) fun q hq=>Hhall.out q (by omega)
    go_wp2;go_ret;exact⟨rfl,HS1.out.bel⟩
  have hfI:((M3:Int) != (M2:Int))=true:=by rw[bne_iff_ne];omega
  obtain rfl:=Hbf.out hf;have Hhin:=qh hin;clear hin;clear hf;go_wp2_with (go_at_call 80;refine(ZaA _ _ _ _ _ Hhin.out).mono ?_;rintro e w' ⟨rfl,rfl⟩);go_ret;exact⟨rfl,HS.out.bel⟩
 have hoI:((M2:Int) != (N:Int))=true:=by rw[bne_iff_ne];omega
 obtain rfl:=Hbo.out ho;have Hhin:=qh hin;clear hin;clear ho;go_wp2_with (go_at_call 80;refine(ZaA _ _ _ _ _ Hhin.out).mono ?_;rintro e w' ⟨rfl,rfl⟩);go_ret;exact⟨rfl,HS.out.bel⟩
theorem Zf7 (r:RwD):∀ (w:List Nat) (s c:Nat),rrun r s (w++[c])=rnx r (rrun r s w) c∧rtxt r s (w++[c])=rtxt r s w++rot r (rrun r s w) c
 | [],s,c=>⟨rfl,List.append_nil _⟩
 | a::w,s,c=>by obtain⟨h1,h2⟩:=Zf7 r w (rnx r s a) c;rw[List.cons_append,rrun,rtxt,rtxt,rrun,h1,h2,List.append_assoc];exact⟨rfl,rfl⟩
theorem Zfm {r:RwD} (h:rwOk r=true):∀ (w:List Nat) (s:Nat),isW w→s<r.next.length→(rtxt r s w).length≤4*w.length∧rrun r s w<r.next.length∧isT (rtxt r s w)
 | [],s,_,hs=>⟨Nat.zero_le _,hs,fun b hb=>absurd hb (List.not_mem_nil)⟩
 | c::w,s,hw,hs=>by
  have h1:=Zcd hw;obtain⟨g1,g2,g3⟩:=Zfm h w (rnx r s c) h1.2 (ZdG h hs h1.1).1;have h4:=Zbs.1 (((ZaT h).2.2.2.2 s hs).2.2.2.2 c h1.1);refine⟨?_,g2,?_⟩
  ·rw[rtxt,List.length_append,List.length_cons];omega
  exact Zkn (fun b hb=>by have:=h4.1 b hb;omega) g3
theorem Zh4 {l:List Nat} {k:Nat} (hk:k<l.length):lets (l.take (k+1))=lets (l.take k)++[l.getD k 0-97]:=by rw[List.take_succ_eq_append_getElem hk,Zft,List.getD_eq_getElem?_getD,List.getElem?_eq_getElem hk];rfl
theorem ZiK (r:RwD) (s:Nat) (l:List Nat) (v:Value) (w:World) (hok:rwOk r=true) (hs:s<r.next.length) (ht:isT l) (hl:l.length≤30) (h97:∀ b∈l,97≤b∧b≤99) (h:RwR w v r) :
  Calls Try.prog 78 #[v,.int .i64 (s:Int),.string (txB l)] w fun e w'=>e = .returned (.tuple #[.int .i64 ((rrun r s (lets l):Nat):Int),.string (txB (rtxt r s (lets l)))])∧Below w.heap.size w w':=by
 obtain⟨v1,v2,v3,rfl,h1,h2,h3⟩:=h;obtain⟨hn1,hn12,ho,hf,hrows⟩:=ZaT hok;obtain⟨a1,c1,rfl,hc1,hm1,hr1⟩:=h1.formI;obtain⟨a2,c2,rfl,hc2,hm2,hr2⟩:=h2.form;obtain⟨a3,c3,rfl,hc3,hm3,hr3⟩:=h3.form;have hlen:=fun w s h1 h2=>Zfm hok w s h1 h2
 have hlt3:=fun s c h1 h2=>(ZdG hok (s:=s) (c:=c) h1 h2)
 obtain⟨b1,o1,rfl,-,hb1,hcs1⟩:=hr1 hn1;obtain⟨b2,o2,rfl,hb2,hcs2⟩:=hr2 (by omega);obtain⟨b3,o3,rfl,hb3,hcs3⟩:=hr3 (by omega);rw[ho] at hc2 hcs2 ⊢;rw[hf] at hc3 ⊢;have hW:isW (lets l):=fun c hc=>by obtain⟨b,hb,rfl⟩:=List.mem_map.1 hc;have:=h97 b hb;omega
 obtain⟨N,hN⟩:=eI (r.next.length);rw[← hN] at hc1 hc2 hc3 hcs1 hcs2 hn12 hs hlen hlt3 hrows;rw[← hN];obtain⟨n,hn⟩:=eI (l.length);have hsz:=Zba l;rw[← hn] at hsz hl;obtain⟨PP,hPP⟩:∃ P,P=rrun r s (lets l):=⟨_,rfl⟩;obtain⟨QQ,hQQ⟩:∃ Q,Q=rtxt r s (lets l):=⟨_,rfl⟩;rw[← hPP,← hQQ];have HS:=qh ((St.start w).alloc w.heap.size rfl #[.slice (some ⟨b1,o1,none⟩) N c1,.slice (some ⟨b2,o2,none⟩) N c2,.slice (some ⟨b3,o3,none⟩) N c3] 54);have Hcs1:=qh hcs1;have Hcs2:=qh hcs2;have Hlen:=qh hlen;have Hlt3:=qh hlt3;have Hrows:=qh hrows;have HW:=qh hW;have Ht:=qh ht;have H97:=qh h97;replace hN:=qh hN;have Hhn:=qh hn;clear hn;have HhPP:=qh hPP;clear hPP;have HhQQ:=qh hQQ;clear hQQ;clear h1 h2 h3 hcs1 hcs2 hcs3 hr1 hr2 hr3 hlen hlt3 hrows hW ht h97 hok
 go_enter Try.func78, Try.ntmps78
 go_wp2_with fail
 go_loopw [1,8,12] (fun pv rv iv wr=>∃ k:Nat,iv = .int .i64 (k:Int)∧k≤n∧pv = .int .i64 ((rrun r s (lets (l.take k)):Nat):Int)∧rv = .string (txB (rtxt r s (lets (l.take k))))∧St w wr [Ent.box w.heap.size #[.slice (some ⟨b1,o1,none⟩) N c1,.slice (some ⟨b2,o2,none⟩) N c2,.slice (some ⟨b3,o3,none⟩) N c3] 54]) (fun _ _ iv _=>n-(intOf iv).toNat)
 case atStart=>exact⟨0,rfl,Nat.zero_le _,rfl,rfl,HS.out⟩
 case round =>
  obtain⟨k,rfl,hk,rfl,rfl,hS⟩:=hrel;have HS4:=qh hS;clear hS HS
  have hWk:isW (lets (l.take k)):=by
   have:=(show isW ((lets l).take k) from fun c hc=>HW.out c (List.mem_of_mem_take hc));unfold lets at this ⊢
   rwa [List.map_take]
  obtain⟨g1,g2,g3⟩:=Hlen.out (lets (l.take k)) s hWk hs;have g1:(rtxt r s (lets (l.take k))).length≤120:=by have e1:(lets (l.take k)).length=(l.take k).length:=List.length_map ..;rw[e1,List.length_take] at g1;omega
  obtain⟨p,hp⟩:=eI (rrun r s (lets (l.take k)));obtain⟨R,hR⟩:=eI (rtxt r s (lets (l.take k)));by_cases hlt:k<n
  ·have hltI:(k:Int)<(n:Int):=by omega
   have hwk:IntKind.i64.wrap ((k:Int)+1)=(k:Int)+1:=IntWalk.i64_in _ (by omega);have hkl:k<l.length:=by have:=Hhn.out;omega
   have h97k:=H97.out (l.getD k 0) (Zbg hkl);obtain⟨ck,hck⟩:∃ ck:Nat,ck=l.getD k 0-97:=⟨_,rfl⟩;have hck3:ck<3:=by omega
   have hckI:(ck:Int)<3:=by omega
   have HLk:=qh (fun u:World=>show Calls Try.prog 93 #[.string (txB l),.int .i64 (k:Int)] u fun e w'=>e = .returned (.int .i64 (ck:Int))∧u=w' from by rw[hck];exact ZcV l k hkl Ht.out h97k.1 u);have hsn:=Zf7 r (lets (l.take k)) s (l.getD k 0-97);rw[← Zh4 hkl,← hck,← hp,← hR] at hsn;rw[← hp,← hR];rw[← hp] at g2;rw[← hR] at g1 g3;have hpI:(p:Int)<(N:Int):=by omega
   obtain⟨f0,q1,hp1,-,-,hi1⟩:=Hcs1.out p g2;obtain⟨t0,q2,hp2,-,-,hi2⟩:=Hcs2.out p (by omega);obtain⟨x1,x2,x3,x4,x5⟩:=Hrows.out p g2;obtain⟨f1,f2,rfl,-,hf1,hf4⟩:=hi1.form2 (by omega);obtain⟨t1,t2,rfl,ht1,ht4⟩:=hi2.form2 (by omega);rw[x1] at hp1 hf4;rw[x2] at hp2 ht4;obtain⟨X,hX⟩:=eI (rot r p ck);obtain⟨pn,hpn⟩:=eI (rnx r p ck);have hX4:X.length≤4:=by rw[hX];exact(Zbs.1 (x5 ck hck3)).2
   have hfc:=hf4 ck hck3;rw[(Hlt3.out p ck g2 hck3).2,← hpn] at hfc;have htc:w.cell? ⟨t1,t2+ck,none⟩=some (.string (txB X)):=by rw[hX];exact ht4 ck hck3
   rw[← hX,← hpn] at hsn;obtain⟨RX,hRX⟩:∃ Q,Q=R++X:=⟨_,rfl⟩;obtain⟨ha1,ha2⟩:=Zly R (txB X) X rfl (by omega) (by omega);rw[← hRX] at ha1 hsn;have hrs:=hsn.1;have hts:=hsn.2;have Hp1:=qh hp1;have Hp2:=qh hp2;have HX:=qh htc;have HY:=qh hfc;have Hhrs:=qh hrs;clear hrs;have Hhts:=qh hts;clear hts;have HhRX:=qh hRX;clear hRX;have HhX:=qh hX;clear hX;have Hhpn:=qh hpn;clear hpn;have Hhck:=qh hck;clear hck;have Hhp:=qh hp;clear hp;have HhR:=qh hR;clear hR;clear hsn hp1 hp2 htc hfc hf4 ht4 hi1 hi2 x1 x2 x3 x4 x5 hWk g3 h97k
   go_upto_region 5 with fail
   refine wp_region_any (by kernel_rfl) ?_
   refine Zak (fun A listed a w'=>∃ (l0 l1 l2 l3 l4 l5 l6 l7 l8 l9 l10 l11 l12:Bool) ,listed=#[l0,l1,l2,l3,l4,l5,l6,l7,l8,l9,l10,l11,l12]∧(l12=true→l0=true) ∧
     a=⟨(((((((((((((A.tmps.setIfInBounds 15 (if l0=true then .string (txB R) else A.tmps.getD 15 undef)).setIfInBounds 16 (if l1=true then .pointer (some ⟨w.heap.size,1,none⟩) else A.tmps.getD 16 undef)).setIfInBounds 17 (if l2=true then .slice (some ⟨b2,o2,none⟩) N c2 else A.tmps.getD 17 undef)).setIfInBounds 18 (if l3=true then .int .i64 (p:Int) else A.tmps.getD 18 undef)).setIfInBounds 19 (if l4=true then .pointer (some ⟨b2,o2+p,none⟩) else A.tmps.getD 19 undef)).setIfInBounds 20 (if l5=true then .slice (some ⟨t1,t2,none⟩) 3 q2 else A.tmps.getD 20 undef)).setIfInBounds 21 (if l6=true then .string (txB l) else A.tmps.getD 21 undef)).setIfInBounds 22 (if l7=true then .int .i64 (k:Int) else A.tmps.getD 22 undef)).setIfInBounds 23 (if l8=true then .int .i64 (ck:Int) else A.tmps.getD 23 undef)).setIfInBounds 24 (if l9=true then .pointer (some ⟨t1,t2+ck,none⟩) else A.tmps.getD 24 undef)).setIfInBounds 25 (if l10=true then .string (txB X) else A.tmps.getD 25 undef)).setIfInBounds 26 (if l11=true then .string (txB RX) else A.tmps.getD 26 undef)).setIfInBounds 8 (if l12=true then .string (txB RX) else A.tmps.getD 8 undef)),A.defers⟩ ∧
     St w w' [Ent.box w.heap.size #[.slice (some ⟨b1,o1,none⟩) N c1,.slice (some ⟨b2,o2,none⟩) N c2,.slice (some ⟨b3,o3,none⟩) N c3] 54]) ?_ ?_ ?_
   ·rintro listed a w' ⟨l0,l1,l2,l3,l4,l5,l6,l7,l8,l9,l10,l11,l12,rfl,hd12,rfl,hS⟩ i hi;obtain⟨hun,o,ho,hall⟩:=mem_ready.1 hi;have hlt:=(Array.getElem?_eq_some_iff.1 ho).1;refine wpOp_step ho (fun K hK => ?_);clear hi;have HS:=qh hS;clear hS;simp only[w_1,w_2,w_3,w_4,w_5,w_6,w_7,w_8];obtain h|h|h|h|h|h|h|h|h|h|h|h|h:i=0∨i=1∨i=2∨i=3∨i=4∨i=5∨i=6∨i=7∨i=8∨i=9∨i=10∨i=11∨i=12:=by simp at hlt;omega
    all_goals subst h
    all_goals simp only[w_5,w_6,w_7,w_9] at ho
    all_goals subst ho
    all_goals simp[Region.binds] at hun hall
    ·subst hun;obtain rfl:l12=false:=by cases l12 with|false=>rfl|true=>simpa using hd12 rfl
     go_simp;exact hK _ _ ⟨_,_,_,_,_,_,_,_,_,_,_,_,_,rfl,by simp,(by simp),HS.out⟩
    ·subst hun;go_simp;exact hK _ _ ⟨_,_,_,_,_,_,_,_,_,_,_,_,_,rfl,hd12,(by simp),HS.out⟩
    ·obtain rfl:=hall;subst hun;have e0:=HS.out.cell (v:=.slice (some ⟨b2,o2,none⟩) N c2) 0 1 rfl rfl;go_simp;exact hK _ _ ⟨_,_,_,_,_,_,_,_,_,_,_,_,_,rfl,hd12,(by simp),HS.out⟩
    ·subst hun;go_simp;exact hK _ _ ⟨_,_,_,_,_,_,_,_,_,_,_,_,_,rfl,hd12,(by simp),HS.out⟩
    ·obtain⟨rfl,rfl⟩:=hall;subst hun;go_simp;exact hK _ _ ⟨_,_,_,_,_,_,_,_,_,_,_,_,_,rfl,hd12,(by simp),HS.out⟩
    ·obtain rfl:=hall;subst hun;have e0:=(bcell HS.out.bel b2 _ hb2).trans Hp2.out;go_simp;exact hK _ _ ⟨_,_,_,_,_,_,_,_,_,_,_,_,_,rfl,hd12,(by simp),HS.out⟩
    ·subst hun;go_simp;exact hK _ _ ⟨_,_,_,_,_,_,_,_,_,_,_,_,_,rfl,hd12,(by simp),HS.out⟩
    ·subst hun;go_simp;exact hK _ _ ⟨_,_,_,_,_,_,_,_,_,_,_,_,_,rfl,hd12,(by simp),HS.out⟩
    ·obtain⟨rfl,rfl⟩:=hall;subst hun;go_simp
     go_at_call 93
     refine(HLk.out _).mono ?_;rintro e u1 ⟨rfl,rfl⟩;have hS2:=HS.out;have HhS2:=qh hS2;clear hS2;go_simp;exact hK _ _ ⟨_,_,_,_,_,_,_,_,_,_,_,_,_,rfl,hd12,(by simp),HhS2.out⟩
    ·obtain⟨rfl,rfl⟩:=hall;subst hun;go_simp;exact hK _ _ ⟨_,_,_,_,_,_,_,_,_,_,_,_,_,rfl,hd12,(by simp),HS.out⟩
    ·obtain rfl:=hall;subst hun;have e0:=(bcell HS.out.bel t1 _ ht1).trans HX.out;go_simp;exact hK _ _ ⟨_,_,_,_,_,_,_,_,_,_,_,_,_,rfl,hd12,(by simp),HS.out⟩
    ·obtain⟨rfl,rfl⟩:=hall;subst hun;go_simp;exact hK _ _ ⟨_,_,_,_,_,_,_,_,_,_,_,_,_,rfl,hd12,(by simp),HS.out⟩
    obtain⟨rfl,rfl,rfl,rfl,rfl,rfl,rfl,rfl,rfl,rfl,-,rfl,rfl,-⟩:=hall;subst hun;go_simp;exact hK _ _ ⟨_,_,_,_,_,_,_,_,_,_,_,_,_,rfl,by simp,(by simp),HS.out⟩
   ·rintro listed a w' ⟨l0,l1,l2,l3,l4,l5,l6,l7,l8,l9,l10,l11,l12,rfl,hd12,rfl,hS⟩ hr;obtain⟨rfl,rfl,rfl,rfl,rfl,rfl,rfl,rfl,rfl,rfl,rfl,rfl,rfl,-⟩:=zA (Zay (by kernel_rfl) rfl hr) rfl;clear hr hd12;simp only[↓reduceIte] at hS ⊢;simp only[w_1,w_2,w_3,w_4,w_5,w_6,w_7,w_8];have HS5:=qh hS;clear hS HS4
    go_upto_region 6 with fail
    refine wp_region_any (by kernel_rfl) ?_
    refine Zak (fun A listed a w'=>∃ (l0 l1 l2 l3 l4 l5 l6 l7 l8 l9 l10:Bool) ,listed=#[l0,l1,l2,l3,l4,l5,l6,l7,l8,l9,l10]∧(l10=true→l2=true) ∧
      a=⟨(((((((((((A.tmps.setIfInBounds 27 (if l0=true then .pointer (some ⟨w.heap.size,0,none⟩) else A.tmps.getD 27 undef)).setIfInBounds 28 (if l1=true then .slice (some ⟨b1,o1,none⟩) N c1 else A.tmps.getD 28 undef)).setIfInBounds 29 (if l2=true then .int .i64 (p:Int) else A.tmps.getD 29 undef)).setIfInBounds 30 (if l3=true then .pointer (some ⟨b1,o1+p,none⟩) else A.tmps.getD 30 undef)).setIfInBounds 31 (if l4=true then .slice (some ⟨f1,f2,none⟩) 3 q1 else A.tmps.getD 31 undef)).setIfInBounds 32 (if l5=true then .string (txB l) else A.tmps.getD 32 undef)).setIfInBounds 33 (if l6=true then .int .i64 (k:Int) else A.tmps.getD 33 undef)).setIfInBounds 34 (if l7=true then .int .i64 (ck:Int) else A.tmps.getD 34 undef)).setIfInBounds 35 (if l8=true then .pointer (some ⟨f1,f2+ck,none⟩) else A.tmps.getD 35 undef)).setIfInBounds 36 (if l9=true then .int .i64 (pn:Int) else A.tmps.getD 36 undef)).setIfInBounds 1 (if l10=true then .int .i64 (pn:Int) else A.tmps.getD 1 undef)),A.defers⟩ ∧
      St w w' [Ent.box w.heap.size #[.slice (some ⟨b1,o1,none⟩) N c1,.slice (some ⟨b2,o2,none⟩) N c2,.slice (some ⟨b3,o3,none⟩) N c3] 54]) ?_ ?_ ?_
    ·rintro listed a w' ⟨l0,l1,l2,l3,l4,l5,l6,l7,l8,l9,l10,rfl,hd10,rfl,hS⟩ i hi;obtain⟨hun,o,ho,hall⟩:=mem_ready.1 hi;have hlt:=(Array.getElem?_eq_some_iff.1 ho).1;refine wpOp_step ho (fun K hK => ?_);clear hi;have HS:=qh hS;clear hS;simp only[w_1,w_2,w_3,w_4,w_5,w_6,w_7,w_8];obtain h|h|h|h|h|h|h|h|h|h|h:i=0∨i=1∨i=2∨i=3∨i=4∨i=5∨i=6∨i=7∨i=8∨i=9∨i=10:=by simp at hlt;omega
     all_goals subst h
     all_goals simp only[w_5,w_6,w_7,w_9] at ho
     all_goals subst ho
     all_goals simp[Region.binds] at hun hall
     ·subst hun;go_simp;exact hK _ _ ⟨_,_,_,_,_,_,_,_,_,_,_,rfl,hd10,(by simp),HS.out⟩
     ·obtain rfl:=hall;subst hun;have e0:=HS.out.cell (v:=.slice (some ⟨b1,o1,none⟩) N c1) 0 0 rfl rfl;go_simp;exact hK _ _ ⟨_,_,_,_,_,_,_,_,_,_,_,rfl,hd10,(by simp),HS.out⟩
     ·subst hun;obtain rfl:l10=false:=by cases l10 with|false=>rfl|true=>simpa using hd10 rfl
      go_simp;exact hK _ _ ⟨_,_,_,_,_,_,_,_,_,_,_,rfl,by simp,(by simp),HS.out⟩
     ·obtain⟨rfl,rfl⟩:=hall;subst hun;go_simp;exact hK _ _ ⟨_,_,_,_,_,_,_,_,_,_,_,rfl,hd10,(by simp),HS.out⟩
     ·obtain rfl:=hall;subst hun;have e0:=(bcell HS.out.bel b1 _ hb1).trans Hp1.out;go_simp;exact hK _ _ ⟨_,_,_,_,_,_,_,_,_,_,_,rfl,hd10,(by simp),HS.out⟩
     ·subst hun;go_simp;exact hK _ _ ⟨_,_,_,_,_,_,_,_,_,_,_,rfl,hd10,(by simp),HS.out⟩
     ·subst hun;go_simp;exact hK _ _ ⟨_,_,_,_,_,_,_,_,_,_,_,rfl,hd10,(by simp),HS.out⟩
     ·obtain⟨rfl,rfl⟩:=hall;subst hun;go_simp
      go_at_call 93
      refine(HLk.out _).mono ?_;rintro e u1 ⟨rfl,rfl⟩;have hS2:=HS.out;have HhS2:=qh hS2;clear hS2;go_simp;exact hK _ _ ⟨_,_,_,_,_,_,_,_,_,_,_,rfl,hd10,(by simp),HhS2.out⟩
     ·obtain⟨rfl,rfl⟩:=hall;subst hun;go_simp;exact hK _ _ ⟨_,_,_,_,_,_,_,_,_,_,_,rfl,hd10,(by simp),HS.out⟩
     ·obtain rfl:=hall;subst hun;have e0:=(bcell HS.out.bel f1 _ hf1).trans HY.out;go_simp;exact hK _ _ ⟨_,_,_,_,_,_,_,_,_,_,_,rfl,hd10,(by simp),HS.out⟩
     obtain⟨rfl,rfl,rfl,rfl,rfl,rfl,rfl,rfl,rfl,-,rfl,-⟩:=hall;subst hun;go_simp;exact hK _ _ ⟨_,_,_,_,_,_,_,_,_,_,_,rfl,by simp,(by simp),HS.out⟩
    ·rintro listed a w' ⟨l0,l1,l2,l3,l4,l5,l6,l7,l8,l9,l10,rfl,hd10,rfl,hS⟩ hr;obtain⟨rfl,rfl,rfl,rfl,rfl,rfl,rfl,rfl,rfl,rfl,rfl,-⟩:=zA (Zay (by kernel_rfl) rfl hr) rfl;clear hr hd10;simp only[↓reduceIte] at hS ⊢;simp only[w_1,w_2,w_3,w_4,w_5,w_6,w_7,w_8];have HS6:=qh hS;clear hS HS5;go_wp2;go_roundw
     case rel=>exact⟨k+1,by go_num,by omega,by rw[Hhrs.out],by rw[Hhts.out],HS6.out⟩
     case measure=>simp[intOf];omega
    refine⟨false,false,false,false,false,false,false,false,false,false,false,rfl,by simp,(by simp),?_⟩;exact HS5.out.drew.pick [0] (by decide)
   refine⟨false,false,false,false,false,false,false,false,false,false,false,false,false,rfl,by simp,(by simp),?_⟩;exact HS4.out.drew.pick [0] (by decide)
  have hltI:¬ (k:Int)<(n:Int):=by omega
  have hkn:l.take k=l:=List.take_of_length_le (by have:=Hhn.out;omega);rw[hkn];clear hp hR hkn;go_wp2
  go_ret2
  exact⟨by rw[HhPP.out,HhQQ.out];rfl,HS4.out.bel⟩
theorem ZiN (t:Int) (B:Nat) (w:World) (hB:w.heap.size=B):Calls Try.prog 79 #[.int .i64 t] w fun e w'=>e = .returned (.slice (some ⟨B,0,none⟩) 3 3)∧w'=w.alloc (.cells #[.int .i64 t,.int .i64 t,.int .i64 t] 3):=by
 subst hB
 go_enter Try.func79, Try.ntmps79
 go_wp2;go_ret;exact⟨rfl,rfl⟩
theorem Zf4 {w:World} {B e size n:Nat} {v:Value} {cs:List Value} (hr:w.ownsRow B e size v n cs) (hs:0<size):Sl 0 w v n size cs:=((Zaa hr).sl hs).mono (Nat.zero_le _)
def rwT (r:RwD) (l:List Nat):List Nat:=if rwOk r=true∧txM 30 l=true then rall r (lets l) else []
theorem ZcW (r:RwD) (l:List Nat) (v:Value) (w:World) (hok:okRw r) (h:RwR w v r) (ht:isT l) (hl:l.length≤1000) :
  Calls Try.prog 24 #[v,.string (txB l)] w fun e w'=>e = .returned (.string (txB (rwT r l)))∧Below w.heap.size w w':=by
 have HR:=qh h;obtain⟨y,hy⟩:=eJ (rwOk r);obtain⟨z,hz⟩:=eJ (txM 30 l);have HV:=qh (fun (u:World) h=>Zbr r v u hok h y hy);have HT:=qh (fun (u:World)=>Zdq l u ht (by omega) z hz);obtain⟨v1,v2,v3,rfl,h1,h2,h3⟩:=h;have hS0:=(St.start w).alloc w.heap.size rfl #[v1,v2,v3] 54;have e0:=hS0.cell (v:=v1) 0 0 rfl rfl;have e1:=hS0.cell (v:=v2) 0 1 rfl rfl;have e2:=hS0.cell (v:=v3) 0 2 rfl rfl;have HS:=qh hS0;clear hS0;cases y with
 | false =>
  have hr:rwT r l=[]:=by unfold rwT;rw[hy,if_neg (fun h=>by cases h.1)]
  rw[hr];clear h1 h2 h3 hr hy hz ht
  go_enter Try.func24, Try.ntmps24
  go_wp2_with (go_at_call 68;refine(HV.out _ (HR.out.below HS.out.bel)).mono ?_;rintro e w1 ⟨rfl,hb1⟩;have HS1:=qh (HS.out.call hb1);clear hb1);go_ret;exact⟨rfl,HS1.out.bel⟩
 | true =>
  cases z with
  | false =>
   have hr:rwT r l=[]:=by unfold rwT;rw[hz,if_neg (fun h=>by cases h.2)]
   rw[hr];clear h1 h2 h3 hr hy hz ht
   go_enter Try.func24, Try.ntmps24
   go_wp2_with (first
    | (go_at_call 68;refine(HV.out _ (HR.out.below HS.out.bel)).mono ?_;rintro e w1 ⟨rfl,hb1⟩;have HS1:=qh (HS.out.call hb1);clear hb1)
    | (go_at_call 77;refine(HT.out _).mono ?_;rintro e w' ⟨rfl,rfl⟩))
   go_ret;exact⟨rfl,HS1.out.bel⟩
  | true =>
   have hr:rwT r l=rtxt r 0 (lets l)++r.fin.getD (rrun r 0 (lets l)) []:=by unfold rwT;rw[if_pos ⟨hy,hz⟩];rfl
   obtain⟨hn1,hn12,ho,hf,hrows⟩:=ZaT hy;have hl30:=(Zbs.1 hz).2;have h97:=(Zbs.1 hz).1;have hW:=ZfY hz;obtain⟨g1,g2,g3⟩:=Zfm hy (lets l) 0 hW hn1;have g1:(rtxt r 0 (lets l)).length≤120:=by have e1:(lets l).length=l.length:=List.length_map ..;omega
   have hrun:=fun (u:World) h=>ZiK r 0 l (.agg #[v1,v2,v3]) u hy hn1 ht hl30 h97 h
   obtain⟨p,hp⟩:=eI (rrun r 0 (lets l));obtain⟨R,hR⟩:=eI (rtxt r 0 (lets l));rw[← hp,← hR] at hrun hr;rw[← hp] at g2;rw[← hR] at g1;obtain⟨X,hX⟩:=eI (r.fin.getD p []);rw[← hX] at hr;have hX4:X.length≤4:=by rw[hX];exact(Zbs.1 (hrows p g2).2.2.1).2
   rw[hr];obtain⟨ha1,ha2⟩:=Zly R (txB X) X rfl (by omega) (by omega);obtain⟨a3,c3,rfl,hc3,hm3,hr3⟩:=h3.form;obtain⟨b3,o3,rfl,hb3,hcs3⟩:=hr3 (by omega);have hp3:=hcs3 p (by omega);rw[← hX] at hp3;obtain⟨N,hN⟩:=eI (r.fin.length);rw[← hN] at hc3;have hpI:(p:Int)<(N:Int):=by omega
   have Hrun:=qh hrun;have Hp3:=qh hp3;rw[← hN] at e2 HR HS HV Hrun;rw[← hN];replace hN:=qh hN;have HhX:=qh hX;clear hX;have HhR:=qh hR;clear hR;have Hhp:=qh hp;clear hp;clear h1 h2 h3 hr hy hz ht hrun hp3 hcs3 hr3 hrows hW g3 h97
   go_enter Try.func24, Try.ntmps24
   go_wp2_with (first
    | (go_at_call 68;refine(HV.out _ (HR.out.below HS.out.bel)).mono ?_;rintro e w1 ⟨rfl,hb1⟩;have HS1:=qh (HS.out.call hb1);have e0:=HS1.out.cell (v:=v1) 0 0 rfl rfl;have e1:=HS1.out.cell (v:=v2) 0 1 rfl rfl;have e2:=HS1.out.cell (v:=.slice (some ⟨b3,o3,none⟩) N c3) 0 2 rfl rfl;clear hb1)
    | (go_at_call 77;refine(HT.out _).mono ?_;rintro e w' ⟨rfl,rfl⟩)
    | (go_at_call 78;refine(Hrun.out _ (HR.out.below HS1.out.bel)).mono ?_;rintro e w2 ⟨rfl,hb2⟩;have HS2:=qh (HS1.out.call hb2);have e3:=HS2.out.cell (v:=.slice (some ⟨b3,o3,none⟩) N c3) 0 2 rfl rfl;have e4:=(bcell HS2.out.bel b3 _ hb3).trans Hp3.out;clear hb2))
   go_ret;exact⟨rfl,HS2.out.bel⟩
theorem ZfH {w:World} {v1:Value} {d:DfaD} (h:IntSS 0 w v1 d.next) (hd:Zaf d.next d.ends=true):∃ q o cap,v1 = .slice (some ⟨q,o,none⟩) d.next.length cap∧d.next.length≤cap∧cap≤9223372036854775807∧q<w.heap.size∧∀ i,i<d.next.length→∃ z t s,w.cell? ⟨q,o+i,none⟩=some (.slice (some ⟨z,t,none⟩) 3 s)∧3≤s∧s≤9223372036854775807∧z<w.heap.size∧∀ c,c<3→w.cell? ⟨z,t+c,none⟩=some (.int .i64 ((nxD d i c:Nat):Int)):=by have hf:=ZaE hd;obtain⟨a,cap,rfl,h1,h2,h3⟩:=h.form;obtain⟨q,o,rfl,_,hq,hr⟩:=h3 hf.1;refine⟨q,o,cap,rfl,h1,h2,hq,fun i hi => ?_⟩;obtain⟨a',s,e1,e2,e3,e4⟩:=hr i hi;obtain⟨hl,hin⟩:=ZaI hd hi;rw[hl] at e1 e2 e4;obtain⟨z,t,rfl,_,hz,e5⟩:=e4 (by omega);refine⟨z,t,s,e1,e2,e3,hz,fun c hc => ?_⟩;rw[e5 c hc];have h0:=hin c hc;unfold nxD;rw[Int.toNat_of_nonneg h0.1]
theorem ZfP {w:World} {v1:Value} {d:DfaD} (h:Bools 0 w v1 d.ends) (hd:Zaf d.next d.ends=true):∃ q o cap,v1 = .slice (some ⟨q,o,none⟩) d.ends.length cap∧d.ends.length≤cap∧cap≤9223372036854775807∧q<w.heap.size∧∀ i,i<d.next.length→w.cell? ⟨q,o+i,none⟩=some (.bool (enD d i)):=by have hl:=Zag hd;obtain⟨a,cap,rfl,h1,h2,h3⟩:=h.form;obtain⟨q,o,rfl,_,hq,hr⟩:=h3 (by omega);exact⟨q,o,cap,rfl,h1,h2,hq,fun i hi=>hr i (by omega)⟩
end Go.Proofs.Ytfanhfcamblghaa
