/-
  The walk over the program's hasEmpty.
  Condition: the expression reads as such.
-/
import Derived.Test.YtfanhfcamblghaaPq08Hem
set_option maxHeartbeats 16000000
set_option maxRecDepth 100000
namespace Go.Proofs.Ytfanhfcamblghaa
open Go.RowKit
theorem ZbJ {x:Bool}:∀ u∈[Value.bool x],u.oneCell'=true:=by intro u hu;simp only[List.mem_singleton] at hu;subst hu;rfl
theorem Zej {l:List Bool} {k:Nat} (hk:k<l.length):(boolCells l)[k]? = some (.bool (l.getD k false)):=by simp[boolCells,hk]
theorem ZbU (t:Ex) (h60:t.post.length≤60) (v:Value) (w:World) (h:Pairs 0 w v t.post) :
  Calls Try.prog 36 #[v] w fun e w'=>e = .returned (.bool (hasE t))∧Below w.heap.size w w':=by
 obtain⟨es,he⟩:=eI (t.post);have hok:=Zal t h60;have hend:=ZnS t;rw[← he] at h h60 hok hend;obtain⟨hall,-,hn1,-⟩:=ZaF hok;obtain⟨z,hz⟩:=eJ (hasE t);rw[hz] at hend ⊢;obtain⟨av,cv,rfl,hc1,hc2,hrd⟩:=h.form;obtain⟨i0,hi,hz0,hz1,hz2⟩:=info_parts Try.infoBool;obtain⟨n,hn⟩:=eI (es.length);rw[← hn] at hc1 h60 hrd hend hall hn1;rw[← hn];have Hrd:=qh hrd;have Hall:=qh hall;have HS1:=qh (St.start w);have Hhi:=qh hi;clear hi;replace hz0:=qh hz0;have Hhz1:=qh hz1;clear hz1;have Hhz2:=qh hz2;clear hz2;replace hn:=qh hn;replace he:=qh he;have Hhz:=qh hz;clear hz;have Hhend:=qh hend;clear hend;clear h hrd hall hok
 go_enter Try.func36, Try.ntmps36
 go_wp2
 go_loopw [3,9] (fun st i wr=>∃ (k m c:Nat) (a:Option Addr),i = .int .i64 (k:Int)∧st = .slice a m c∧k≤n∧(hsS es k).length=m∧St w wr [Ent.row 4 1 (.slice a m c) m (boolCells (hsS es k))])
  (fun _ i _=>n-(intOf i).toNat)
 case atStart=>exact⟨0,0,0,none,rfl,rfl,Nat.zero_le _,rfl,HS1.out.nilRow 4 1⟩
 case round =>
  obtain⟨k,m,c,a,rfl,rfl,hk,hm,hS⟩:=hrel;have hdl:=ZmD (es:=es) k fun j hj=>Hall.out j (by omega)
  have hdi:=ZdS es k;by_cases hlt:k<n
  ·have hlt2:(k:Int)<n:=by omega
   obtain⟨b,o,rfl,-,hbl,hcs⟩:=Hrd.out (by omega);obtain⟨g1,g2⟩:=hcs k hlt;have k1:=(bcell hS.bel b _ hbl).trans g1;have k2:=(bcell hS.bel b _ hbl).trans g2;obtain⟨hp1,hp2⟩:=Hall.out k hlt;have hstep:hsS es (k+1)=hsP (es.getD k (0,0)).1 (hsS es k):=rfl;have hpo:=ZbI hp1;rw[hdl.symm] at hp2;obtain⟨p,hp⟩:=eI (es.getD k (0,0));rw[← hp] at k1 k2 hp1 hp2 hstep hpo;obtain⟨p1,p2⟩:=p;simp only at k1 k2 hstep;have hmk:m≤2*k:=by omega
   have hpk:p1=1∨p1=2∨p1=3∨p1=5∨p1=7∨p1=8∨(p1=4∨p1=6):=by have h1:=hpo;simp only[pOk,inB,Bool.and_eq_true,decide_eq_true_eq] at h1;omega
   rw[hm] at hp2;have Hpn:=qh hp2;have Hstep:=qh hstep;have HS:=qh hS;have hSp:=hS.alloc _ rfl #[.int .i64 p1,.int .i64 p2] 72;have HSp:=qh hSp;have e0:=HSp.out.cell (v:=.int .i64 p1) 1 0 rfl rfl;have e1:=HSp.out.cell (v:=.int .i64 p2) 1 1 rfl rfl;have hwm:IntKind.i64.wrap ((m:Int)-1)=(m:Int)-1:=IntWalk.i64_in _ (by omega);have Hhp:=qh hp;clear hp;replace hdl:=qh hdl;replace hdi:=qh hdi;have Hhm:=qh hm;clear hm;have Hhpo:=qh hpo;clear hpo;clear hS hSp hcs g1 g2 hp1 hp2 hstep;rcases hpk with rfl|rfl|rfl|rfl|rfl|rfl|h46
   ·have hs:=Hstep.out;have Hhs:=qh hs;clear hs;have hsn:hsS es (k+1)=hsS es k++[false]:=by rw[Hhs.out];rfl
    have Hhsn:=qh hsn;clear hsn;have hnw:((wr.alloc (.cells #[.int .i64 1,.int .i64 p2] 72)).alloc (.cells #[.bool false] 4)).heap[wr.heap.size+1]? = some (.cells #[.bool false] 4):=by rw[show wr.heap.size+1=(wr.alloc (.cells #[.int .i64 1,.int .i64 p2] 72)).heap.size by simp];exact heap_alloc_new _ _
    have Hhnw:=qh hnw;clear hnw;have HSa:=qh (HSp.out.alloc_ (.cells #[.bool false] 4));have HRw:=qh (HSa.out.row 0 rfl);go_wp2_with (at_builtin;go_loud (refine wpList_append_lies _ rfl _ _ _ rfl _ 4 i0 (.bool false) 1 1 Try.underlying43 Hhi.out hz0.out Hhz1.out Hhz2.out rfl (by omega) _ m _ rfl HRw.out ⟨wr.heap.size+1,0,none⟩ 1 1 [.bool false] rfl rfl (World.news_of_block Hhnw.out) ZbJ (by omega) (by unfold maxLen;omega) (by omega) HSa.out.size _ rfl ?_;intro g6 c6 w6 hown6 hgrow6 hat6 hlt6;have HS6:=qh (HSa.out.app 0 rfl hown6 hgrow6 hat6);clear hown6 hgrow6 hat6 hlt6));go_roundw
    case rel =>
     refine⟨k+1,m+1,c6,some ⟨g6,0,none⟩,by go_num,rfl,by omega,?_,?_⟩
     ·rw[Hhsn.out,List.length_append,List.length_singleton,Hhm.out]
     rw[Hhsn.out,show boolCells (hsS es k++[false])=boolCells (hsS es k)++[.bool false] by simp];exact HS6.out.pick [0] (by decide)
    case measure=>simp[intOf];omega
   ·have hs:=Hstep.out;have Hhs:=qh hs;clear hs;have hsn:hsS es (k+1)=hsS es k++[true]:=by rw[Hhs.out];rfl
    have Hhsn:=qh hsn;clear hsn;have hnw:((wr.alloc (.cells #[.int .i64 2,.int .i64 p2] 72)).alloc (.cells #[.bool true] 4)).heap[wr.heap.size+1]? = some (.cells #[.bool true] 4):=by rw[show wr.heap.size+1=(wr.alloc (.cells #[.int .i64 2,.int .i64 p2] 72)).heap.size by simp];exact heap_alloc_new _ _
    have Hhnw:=qh hnw;clear hnw;have HSa:=qh (HSp.out.alloc_ (.cells #[.bool true] 4));have HRw:=qh (HSa.out.row 0 rfl);go_wp2_with (at_builtin;go_loud (refine wpList_append_lies _ rfl _ _ _ rfl _ 4 i0 (.bool false) 1 1 Try.underlying43 Hhi.out hz0.out Hhz1.out Hhz2.out rfl (by omega) _ m _ rfl HRw.out ⟨wr.heap.size+1,0,none⟩ 1 1 [.bool true] rfl rfl (World.news_of_block Hhnw.out) ZbJ (by omega) (by unfold maxLen;omega) (by omega) HSa.out.size _ rfl ?_;intro g6 c6 w6 hown6 hgrow6 hat6 hlt6;have HS6:=qh (HSa.out.app 0 rfl hown6 hgrow6 hat6);clear hown6 hgrow6 hat6 hlt6));go_roundw
    case rel =>
     refine⟨k+1,m+1,c6,some ⟨g6,0,none⟩,by go_num,rfl,by omega,?_,?_⟩
     ·rw[Hhsn.out,List.length_append,List.length_singleton,Hhm.out]
     rw[Hhsn.out,show boolCells (hsS es k++[true])=boolCells (hsS es k)++[.bool true] by simp];exact HS6.out.pick [0] (by decide)
    case measure=>simp[intOf];omega
   ·have hs:=Hstep.out;have Hhs:=qh hs;clear hs;have hsn:hsS es (k+1)=hsS es k++[false]:=by rw[Hhs.out];rfl
    have Hhsn:=qh hsn;clear hsn;have hnw:((wr.alloc (.cells #[.int .i64 3,.int .i64 p2] 72)).alloc (.cells #[.bool false] 4)).heap[wr.heap.size+1]? = some (.cells #[.bool false] 4):=by rw[show wr.heap.size+1=(wr.alloc (.cells #[.int .i64 3,.int .i64 p2] 72)).heap.size by simp];exact heap_alloc_new _ _
    have Hhnw:=qh hnw;clear hnw;have HSa:=qh (HSp.out.alloc_ (.cells #[.bool false] 4));have HRw:=qh (HSa.out.row 0 rfl);go_wp2_with (at_builtin;go_loud (refine wpList_append_lies _ rfl _ _ _ rfl _ 4 i0 (.bool false) 1 1 Try.underlying43 Hhi.out hz0.out Hhz1.out Hhz2.out rfl (by omega) _ m _ rfl HRw.out ⟨wr.heap.size+1,0,none⟩ 1 1 [.bool false] rfl rfl (World.news_of_block Hhnw.out) ZbJ (by omega) (by unfold maxLen;omega) (by omega) HSa.out.size _ rfl ?_;intro g6 c6 w6 hown6 hgrow6 hat6 hlt6;have HS6:=qh (HSa.out.app 0 rfl hown6 hgrow6 hat6);clear hown6 hgrow6 hat6 hlt6));go_roundw
    case rel =>
     refine⟨k+1,m+1,c6,some ⟨g6,0,none⟩,by go_num,rfl,by omega,?_,?_⟩
     ·rw[Hhsn.out,List.length_append,List.length_singleton,Hhm.out]
     rw[Hhsn.out,show boolCells (hsS es k++[false])=boolCells (hsS es k)++[.bool false] by simp];exact HS6.out.pick [0] (by decide)
    case measure=>simp[intOf];omega
   ·have hmn:2≤m:=by have hN:=Hpn.out;unfold Zaa at hN;rw[if_pos Hhpo.out] at hN;simp at hN;omega
    have hs:=Hstep.out;have Hhs:=qh hs;clear hs;obtain⟨g,c2,he⟩:=HSp.out.rowform 0 rfl (by omega);simp only[Value.slice.injEq,true_and] at he;obtain⟨rfl,rfl⟩:=he;obtain⟨hcc,hcm⟩:=HSp.out.rowcap 0 rfl;obtain⟨t,hmt⟩:∃ t:Nat,m=t+1:=⟨m-1,by omega⟩;have htI:(m:Int)-1=(t:Int):=by omega
    have hwt:IntKind.i64.wrap (t:Int)=(t:Int):=IntWalk.i64_in _ (by omega);have htm:(t:Int)<(m:Int):=by omega
    have htm2:t<m:=by omega
    obtain⟨B,hBd⟩:=eI ((hsS es k).getD t false);have hB:(boolCells (hsS es k))[t]? = some (.bool B):=by rw[hBd];exact Zej (by rw[Hhm.out];omega)
    replace hB:=qh hB;obtain⟨r,hmr⟩:∃ r:Nat,t=r+1:=⟨t-1,by omega⟩;have hrI:(t:Int)-1=(r:Int):=by omega
    have hwr:IntKind.i64.wrap (r:Int)=(r:Int):=IntWalk.i64_in _ (by omega);have hr0:(0:Int)≤(r:Int):=by omega
    have hrc:(r:Int)≤(c:Int):=by omega
    have hrm:(r:Int)<(m:Int):=by omega
    have hrm2:r<m:=by omega
    have hrc2:r≤c:=by omega
    obtain⟨b1,hb1d⟩:∃ B,B=(hsS es k).getD r false:=⟨_,rfl⟩;have hb1:(boolCells (hsS es k))[r]? = some (.bool b1):=by rw[hb1d];exact Zej (by rw[Hhm.out];omega)
    have hrl:((hsS es k).take r).length=r:=by rw[List.length_take,Hhm.out];omega
    have hsn:hsS es (k+1)=(hsS es k).take r++[b1||B]:=by rw[Hhs.out,hb1d,hBd];simp[hsP,Hhm.out,hmt,hmr]
    have Hhb1:=qh hb1;clear hb1;have Hhrl:=qh hrl;clear hrl;have Hhmt:=qh hmt;clear hmt;have Hhmr:=qh hmr;clear hmr;clear hBd hb1d;cases b1
    ·rw[show(false||B)=B by simp] at hsn;have Hhsn:=qh hsn;clear hsn;go_wp2;refine wp_region_any (by kernel_rfl) ?_
     refine Zaf (fun A listed a w'=>∃ (l0 l1 l2 l3 l4 l5 l6 l7 l8 l9 l10 l11 l12 l13 l14 l15 l16 l17:Bool) (h7:Nat) (d7:Nat) (bn0:Nat),listed=#[l0,l1,l2,l3,l4,l5,l6,l7,l8,l9,l10,l11,l12,l13,l14,l15,l16,l17]∧(l9=true→l8=true)∧(l14=true→l9=true∧l13=true)∧(l15=true→l14=true)∧(l16=true→l15=true)∧(l17=true→l0=true∧l4=true∧l10=true∧l16=true) ∧
       a=⟨((((((((((((((((((A.tmps.setIfInBounds 63 (if l0=true then .slice (some ⟨g,0,none⟩) m c else A.tmps.getD 63 undef)).setIfInBounds 64 (if l1=true then .int .i64 (t:Int) else A.tmps.getD 64 undef)).setIfInBounds 65 (if l2=true then .int .i64 (r:Int) else A.tmps.getD 65 undef)).setIfInBounds 66 (if l3=true then .slice (some ⟨g,0,none⟩) r c else A.tmps.getD 66 undef)).setIfInBounds 67 (if l4=true then .slice (some ⟨g,0,none⟩) m c else A.tmps.getD 67 undef)).setIfInBounds 68 (if l5=true then .int .i64 (t:Int) else A.tmps.getD 68 undef)).setIfInBounds 69 (if l6=true then .int .i64 (r:Int) else A.tmps.getD 69 undef)).setIfInBounds 70 (if l7=true then .pointer (some ⟨g,r,none⟩) else A.tmps.getD 70 undef)).setIfInBounds 71 (if l8=true then .bool false else A.tmps.getD 71 undef)).setIfInBounds 72 (if l9=true then .bool false else A.tmps.getD 72 undef)).setIfInBounds 73 (if l10=true then .slice (some ⟨g,0,none⟩) m c else A.tmps.getD 73 undef)).setIfInBounds 74 (if l11=true then .int .i64 (t:Int) else A.tmps.getD 74 undef)).setIfInBounds 75 (if l12=true then .pointer (some ⟨g,t,none⟩) else A.tmps.getD 75 undef)).setIfInBounds 76 (if l13=true then .bool B else A.tmps.getD 76 undef)).setIfInBounds 77 (if l14=true then .bool B else A.tmps.getD 77 undef)).setIfInBounds 78 (if l15=true then .slice (some ⟨bn0,0,none⟩) 1 1 else A.tmps.getD 78 undef)).setIfInBounds 79 (if l16=true then .slice (some ⟨h7,0,none⟩) (r+1) d7 else A.tmps.getD 79 undef)).setIfInBounds 3 (if l17=true then .slice (some ⟨h7,0,none⟩) (r+1) d7 else A.tmps.getD 3 undef)),A.defers⟩ ∧
       St w w' [(if l16=true then Ent.row 4 1 (.slice (some ⟨h7,0,none⟩) (r+1) d7) (r+1) ((boolCells (hsS es k)).take (r*1)++[.bool B]) else Ent.row 4 1 (.slice (some ⟨g,0,none⟩) m c) m (boolCells (hsS es k))),Ent.box wr.heap.size #[.int .i64 5,.int .i64 p2] 72,(if l15=true then Ent.box bn0 #[.bool B] 4 else Ent.nil)]) ?_ ?_ ?_
     ·rintro listed a w' ⟨l0,l1,l2,l3,l4,l5,l6,l7,l8,l9,l10,l11,l12,l13,l14,l15,l16,l17,h7,d7,bn0,rfl,hd9,hd14,hd15,hd16,hd17,rfl,hS⟩ i hi;obtain⟨hun,o,ho,hall⟩:=mem_ready.1 hi;have hlt:=(Array.getElem?_eq_some_iff.1 ho).1;refine wpOp_step ho (fun K hK => ?_);clear hi;have HS:=qh hS;clear hS;simp only[List.setIfInBounds_toArray,List.set_cons_zero,List.set_cons_succ,Array.getD_eq_getD_getElem?,List.getElem?_toArray,List.getElem?_cons_zero,List.getElem?_cons_succ,Option.getD_some];obtain h|h|h|h|h|h|h|h|h|h|h|h|h|h|h|h|h|h:i=0∨i=1∨i=2∨i=3∨i=4∨i=5∨i=6∨i=7∨i=8∨i=9∨i=10∨i=11∨i=12∨i=13∨i=14∨i=15∨i=16∨i=17:=by simp at hlt;omega
      all_goals subst h
      all_goals simp only[List.getElem?_toArray,List.getElem?_cons_zero,List.getElem?_cons_succ,Option.some.injEq] at ho
      all_goals subst ho
      all_goals simp[Region.binds] at hun hall
      ·subst hun;obtain rfl:l17=false:=by cases l17 with|false=>rfl|true=>simpa using hd17 rfl
       go_simp;exact hK _ _ ⟨true,l1,l2,l3,l4,l5,l6,l7,l8,l9,l10,l11,l12,l13,l14,l15,l16,false,h7,d7,bn0,rfl,hd9,hd14,hd15,hd16,by simp,(by simp),HS.out⟩
      ·subst hun;go_simp;exact hK _ _ ⟨l0,true,l2,l3,l4,l5,l6,l7,l8,l9,l10,l11,l12,l13,l14,l15,l16,l17,h7,d7,bn0,rfl,hd9,hd14,hd15,hd16,hd17,(by simp),HS.out⟩
      ·obtain rfl:=hall;subst hun;go_simp;exact hK _ _ ⟨l0,true,true,l3,l4,l5,l6,l7,l8,l9,l10,l11,l12,l13,l14,l15,l16,l17,h7,d7,bn0,rfl,hd9,hd14,hd15,hd16,hd17,(by simp),HS.out⟩
      ·obtain⟨rfl,rfl⟩:=hall;subst hun;go_simp;exact hK _ _ ⟨true,l1,true,true,l4,l5,l6,l7,l8,l9,l10,l11,l12,l13,l14,l15,l16,l17,h7,d7,bn0,rfl,hd9,hd14,hd15,hd16,hd17,(by simp),HS.out⟩
      ·subst hun;obtain rfl:l17=false:=by cases l17 with|false=>rfl|true=>simpa using hd17 rfl
       go_simp;exact hK _ _ ⟨l0,l1,l2,l3,true,l5,l6,l7,l8,l9,l10,l11,l12,l13,l14,l15,l16,false,h7,d7,bn0,rfl,hd9,hd14,hd15,hd16,by simp,(by simp),HS.out⟩
      ·subst hun;go_simp;exact hK _ _ ⟨l0,l1,l2,l3,l4,true,l6,l7,l8,l9,l10,l11,l12,l13,l14,l15,l16,l17,h7,d7,bn0,rfl,hd9,hd14,hd15,hd16,hd17,(by simp),HS.out⟩
      ·obtain rfl:=hall;subst hun;go_simp;exact hK _ _ ⟨l0,l1,l2,l3,l4,true,true,l7,l8,l9,l10,l11,l12,l13,l14,l15,l16,l17,h7,d7,bn0,rfl,hd9,hd14,hd15,hd16,hd17,(by simp),HS.out⟩
      ·obtain⟨rfl,rfl⟩:=hall;subst hun;go_simp;exact hK _ _ ⟨l0,l1,l2,l3,true,l5,true,true,l8,l9,l10,l11,l12,l13,l14,l15,l16,l17,h7,d7,bn0,rfl,hd9,hd14,hd15,hd16,hd17,(by simp),HS.out⟩
      ·obtain rfl:=hall;subst hun;obtain rfl:l9=false:=by cases l9 with|false=>rfl|true=>simpa using hd9 rfl
       obtain rfl:l14=false:=offL hd14 rfl;obtain rfl:l15=false:=by cases l15 with|false=>rfl|true=>simpa using hd15 rfl
       obtain rfl:l16=false:=by cases l16 with|false=>rfl|true=>simpa using hd16 rfl
       obtain rfl:l17=false:=by cases l17 with|false=>rfl|true=>simpa using hd17 rfl
       have e0:=HS.out.rcell (v:=.bool false) 0 (r) rfl (by omega) Hhb1.out;go_simp;exact hK _ _ ⟨l0,l1,l2,l3,l4,l5,l6,true,true,false,l10,l11,l12,l13,false,false,false,false,h7,d7,bn0,rfl,by simp,by simp,by simp,by simp,by simp,(by simp),HS.out⟩
      ·obtain rfl:=hall;subst hun;obtain rfl:l14=false:=offL hd14 rfl;obtain rfl:l15=false:=by cases l15 with|false=>rfl|true=>simpa using hd15 rfl
       obtain rfl:l16=false:=by cases l16 with|false=>rfl|true=>simpa using hd16 rfl
       obtain rfl:l17=false:=by cases l17 with|false=>rfl|true=>simpa using hd17 rfl
       go_simp;exact hK _ _ ⟨l0,l1,l2,l3,l4,l5,l6,l7,true,true,l10,l11,l12,l13,false,false,false,false,h7,d7,bn0,rfl,by simp,by simp,by simp,by simp,by simp,(by simp),HS.out⟩
      ·obtain rfl:=hall;subst hun;obtain rfl:=hd9 rfl;obtain rfl:l17=false:=by cases l17 with|false=>rfl|true=>simpa using hd17 rfl
       go_simp;exact hK _ _ ⟨l0,l1,l2,l3,l4,l5,l6,l7,true,true,true,l11,l12,l13,l14,l15,l16,false,h7,d7,bn0,rfl,by simp,hd14,hd15,hd16,by simp,(by simp),HS.out⟩
      ·obtain rfl:=hall;subst hun;obtain rfl:=hd9 rfl;go_simp;exact hK _ _ ⟨l0,l1,l2,l3,l4,l5,l6,l7,true,true,l10,true,l12,l13,l14,l15,l16,l17,h7,d7,bn0,rfl,by simp,hd14,hd15,hd16,hd17,(by simp),HS.out⟩
      ·obtain⟨rfl,rfl,rfl⟩:=hall;subst hun;obtain rfl:=hd9 rfl;go_simp;exact hK _ _ ⟨l0,l1,l2,l3,l4,l5,l6,l7,true,true,true,true,true,l13,l14,l15,l16,l17,h7,d7,bn0,rfl,by simp,hd14,hd15,hd16,hd17,(by simp),HS.out⟩
      ·obtain⟨rfl,rfl⟩:=hall;subst hun;obtain rfl:=hd9 rfl;obtain rfl:l14=false:=offR hd14 rfl;obtain rfl:l15=false:=by cases l15 with|false=>rfl|true=>simpa using hd15 rfl
       obtain rfl:l16=false:=by cases l16 with|false=>rfl|true=>simpa using hd16 rfl
       obtain rfl:l17=false:=by cases l17 with|false=>rfl|true=>simpa using hd17 rfl
       have e0:=HS.out.rcell (v:=.bool B) 0 (t) rfl (by omega) hB.out;go_simp;exact hK _ _ ⟨l0,l1,l2,l3,l4,l5,l6,l7,true,true,l10,l11,true,true,false,false,false,false,h7,d7,bn0,rfl,by simp,by simp,by simp,by simp,by simp,(by simp),HS.out⟩
      ·obtain⟨rfl,rfl⟩:=hall;subst hun;obtain rfl:=hd9 rfl;obtain rfl:l15=false:=by cases l15 with|false=>rfl|true=>simpa using hd15 rfl
       obtain rfl:l16=false:=by cases l16 with|false=>rfl|true=>simpa using hd16 rfl
       obtain rfl:l17=false:=by cases l17 with|false=>rfl|true=>simpa using hd17 rfl
       go_simp;exact hK _ _ ⟨l0,l1,l2,l3,l4,l5,l6,l7,true,true,l10,l11,l12,true,true,false,false,false,h7,d7,bn0,rfl,by simp,by simp,by simp,by simp,by simp,(by simp),HS.out⟩
      ·obtain rfl:=hall;subst hun;obtain⟨rfl,rfl⟩:=hd14 rfl;obtain rfl:=hd9 rfl;obtain rfl:l16=false:=by cases l16 with|false=>rfl|true=>simpa using hd16 rfl
       obtain rfl:l17=false:=by cases l17 with|false=>rfl|true=>simpa using hd17 rfl
       have hS2:=(HS.out.alloc _ rfl #[.bool B] 4).pick [0,1,3] (by decide);have HhS2:=qh hS2;clear hS2;go_simp;exact hK _ _ ⟨l0,l1,l2,l3,l4,l5,l6,l7,true,true,l10,l11,l12,true,true,true,false,false,h7,d7,_,rfl,by simp,by simp,by simp,by simp,by simp,(by simp),HhS2.out⟩
      ·obtain⟨rfl,rfl,rfl⟩:=hall;subst hun;obtain rfl:=hd9 rfl;obtain rfl:=hd15 rfl;obtain⟨-,rfl⟩:=hd14 rfl;obtain rfl:l17=false:=by cases l17 with|false=>rfl|true=>simpa using hd17 rfl
       have HC:=qh (HS.out.cut 0 rfl r (by omega));refine step_append_lies (a:=⟨_,_⟩) _ (by rfl) _ _ _ (by rfl) w.heap.size 4 i0 (.bool false) 1 1 Try.underlying43 Hhi.out hz0.out Hhz1.out Hhz2.out (by rfl) (by omega) (.slice (some ⟨g,0,none⟩) r c) r ((boolCells (hsS es k)).take (r*1)) (by rfl) (HC.out.row 0 rfl) ⟨bn0,0,none⟩ 1 1 [.bool B] (by rfl) (by rfl) (World.news_of_block (HC.out.box 2 rfl)) ZbJ (by omega) (by unfold maxLen;omega) (by omega) HC.out.size _ rfl ?_;intro g8 c8 w8 hown8 hgrow8 hat8 hlt8;have HS8:=qh (HC.out.app 0 rfl hown8 hgrow8 hat8);clear hown8 hgrow8 hat8;go_simp;exact hK _ _ ⟨l0,l1,l2,true,l4,l5,l6,l7,true,true,l10,l11,l12,true,true,true,true,false,g8,c8,bn0,rfl,by simp,by simp,by simp,by simp,by simp,(by simp),HS8.out⟩
      obtain⟨rfl,rfl,rfl,rfl,rfl,rfl,rfl,rfl,rfl,rfl,rfl,rfl,rfl,rfl,rfl,rfl,rfl,-⟩:=hall;subst hun;go_simp;exact hK _ _ ⟨true,true,true,true,true,true,true,true,true,true,true,true,true,true,true,true,true,true,h7,d7,bn0,rfl,by simp,by simp,by simp,by simp,by simp,(by simp),HS.out⟩
     ·rintro listed a w' ⟨l0,l1,l2,l3,l4,l5,l6,l7,l8,l9,l10,l11,l12,l13,l14,l15,l16,l17,h7,d7,bn0,rfl,hd9,hd14,hd15,hd16,hd17,rfl,hS⟩ hr;have hall:=Zag (by kernel_rfl) rfl hr;obtain rfl:l0=true:=by simpa using hall 0 (by simp)
      obtain rfl:l1=true:=by simpa using hall 1 (by simp)
      obtain rfl:l2=true:=by simpa using hall 2 (by simp)
      obtain rfl:l3=true:=by simpa using hall 3 (by simp)
      obtain rfl:l4=true:=by simpa using hall 4 (by simp)
      obtain rfl:l5=true:=by simpa using hall 5 (by simp)
      obtain rfl:l6=true:=by simpa using hall 6 (by simp)
      obtain rfl:l7=true:=by simpa using hall 7 (by simp)
      obtain rfl:l8=true:=by simpa using hall 8 (by simp)
      obtain rfl:l9=true:=by simpa using hall 9 (by simp)
      obtain rfl:l10=true:=by simpa using hall 10 (by simp)
      obtain rfl:l11=true:=by simpa using hall 11 (by simp)
      obtain rfl:l12=true:=by simpa using hall 12 (by simp)
      obtain rfl:l13=true:=by simpa using hall 13 (by simp)
      obtain rfl:l14=true:=by simpa using hall 14 (by simp)
      obtain rfl:l15=true:=by simpa using hall 15 (by simp)
      obtain rfl:l16=true:=by simpa using hall 16 (by simp)
      obtain rfl:l17=true:=by simpa using hall 17 (by simp)
      clear hall hr hd9 hd14 hd15 hd16 hd17;simp only[↓reduceIte] at hS ⊢;simp only[List.setIfInBounds_toArray,List.set_cons_zero,List.set_cons_succ];have HS5:=qh hS;clear hS;go_wp2;go_roundw
      case rel =>
       refine⟨k+1,r+1,d7,some ⟨h7,0,none⟩,by go_num,rfl,by omega,?_,?_⟩
       ·rw[Hhsn.out,List.length_append,List.length_singleton,Hhrl.out]
       rw[Hhsn.out,show boolCells ((hsS es k).take r++[B])=(boolCells (hsS es k)).take (r*1)++[.bool B] by simp[List.map_take]];exact HS5.out.pick [0] (by decide)
      case measure=>simp[intOf];omega
     refine⟨false,false,false,false,false,false,false,false,false,false,false,false,false,false,false,false,false,false,0,0,0,rfl,by simp,by simp,by simp,by simp,by simp,(by simp),?_⟩;exact HSp.out.drew.pick [0,1,2] (by decide)
    rw[show(true||B)=true by simp] at hsn;have Hhsn:=qh hsn;clear hsn;go_wp2;refine wp_region_any (by kernel_rfl) ?_
    refine Zaf (fun A listed a w'=>∃ (l0 l1 l2 l3 l4 l5 l6 l7 l8 l9 l10 l11 l12 l13 l14 l15 l16 l17:Bool) (h7:Nat) (d7:Nat) (bn0:Nat),listed=#[l0,l1,l2,l3,l4,l5,l6,l7,l8,l9,l10,l11,l12,l13,l14,l15,l16,l17]∧(l9=true→l8=true)∧(l14=true→l9=true∧l13=true)∧(l15=true→l14=true)∧(l16=true→l15=true)∧(l17=true→l0=true∧l4=true∧l10=true∧l16=true) ∧
      a=⟨((((((((((((((((((A.tmps.setIfInBounds 63 (if l0=true then .slice (some ⟨g,0,none⟩) m c else A.tmps.getD 63 undef)).setIfInBounds 64 (if l1=true then .int .i64 (t:Int) else A.tmps.getD 64 undef)).setIfInBounds 65 (if l2=true then .int .i64 (r:Int) else A.tmps.getD 65 undef)).setIfInBounds 66 (if l3=true then .slice (some ⟨g,0,none⟩) r c else A.tmps.getD 66 undef)).setIfInBounds 67 (if l4=true then .slice (some ⟨g,0,none⟩) m c else A.tmps.getD 67 undef)).setIfInBounds 68 (if l5=true then .int .i64 (t:Int) else A.tmps.getD 68 undef)).setIfInBounds 69 (if l6=true then .int .i64 (r:Int) else A.tmps.getD 69 undef)).setIfInBounds 70 (if l7=true then .pointer (some ⟨g,r,none⟩) else A.tmps.getD 70 undef)).setIfInBounds 71 (if l8=true then .bool true else A.tmps.getD 71 undef)).setIfInBounds 72 (if l9=true then .bool true else A.tmps.getD 72 undef)).setIfInBounds 73 (if l10=true then undef else A.tmps.getD 73 undef)).setIfInBounds 74 (if l11=true then undef else A.tmps.getD 74 undef)).setIfInBounds 75 (if l12=true then undef else A.tmps.getD 75 undef)).setIfInBounds 76 (if l13=true then undef else A.tmps.getD 76 undef)).setIfInBounds 77 (if l14=true then .bool true else A.tmps.getD 77 undef)).setIfInBounds 78 (if l15=true then .slice (some ⟨bn0,0,none⟩) 1 1 else A.tmps.getD 78 undef)).setIfInBounds 79 (if l16=true then .slice (some ⟨h7,0,none⟩) (r+1) d7 else A.tmps.getD 79 undef)).setIfInBounds 3 (if l17=true then .slice (some ⟨h7,0,none⟩) (r+1) d7 else A.tmps.getD 3 undef)),A.defers⟩ ∧
      St w w' [(if l16=true then Ent.row 4 1 (.slice (some ⟨h7,0,none⟩) (r+1) d7) (r+1) ((boolCells (hsS es k)).take (r*1)++[.bool true]) else Ent.row 4 1 (.slice (some ⟨g,0,none⟩) m c) m (boolCells (hsS es k))),Ent.box wr.heap.size #[.int .i64 5,.int .i64 p2] 72,(if l15=true then Ent.box bn0 #[.bool true] 4 else Ent.nil)]) ?_ ?_ ?_
    ·rintro listed a w' ⟨l0,l1,l2,l3,l4,l5,l6,l7,l8,l9,l10,l11,l12,l13,l14,l15,l16,l17,h7,d7,bn0,rfl,hd9,hd14,hd15,hd16,hd17,rfl,hS⟩ i hi;obtain⟨hun,o,ho,hall⟩:=mem_ready.1 hi;have hlt:=(Array.getElem?_eq_some_iff.1 ho).1;refine wpOp_step ho (fun K hK => ?_);clear hi;have HS:=qh hS;clear hS;simp only[List.setIfInBounds_toArray,List.set_cons_zero,List.set_cons_succ,Array.getD_eq_getD_getElem?,List.getElem?_toArray,List.getElem?_cons_zero,List.getElem?_cons_succ,Option.getD_some];obtain h|h|h|h|h|h|h|h|h|h|h|h|h|h|h|h|h|h:i=0∨i=1∨i=2∨i=3∨i=4∨i=5∨i=6∨i=7∨i=8∨i=9∨i=10∨i=11∨i=12∨i=13∨i=14∨i=15∨i=16∨i=17:=by simp at hlt;omega
     all_goals subst h
     all_goals simp only[List.getElem?_toArray,List.getElem?_cons_zero,List.getElem?_cons_succ,Option.some.injEq] at ho
     all_goals subst ho
     all_goals simp[Region.binds] at hun hall
     ·subst hun;obtain rfl:l17=false:=by cases l17 with|false=>rfl|true=>simpa using hd17 rfl
      go_simp;exact hK _ _ ⟨true,l1,l2,l3,l4,l5,l6,l7,l8,l9,l10,l11,l12,l13,l14,l15,l16,false,h7,d7,bn0,rfl,hd9,hd14,hd15,hd16,by simp,(by simp),HS.out⟩
     ·subst hun;go_simp;exact hK _ _ ⟨l0,true,l2,l3,l4,l5,l6,l7,l8,l9,l10,l11,l12,l13,l14,l15,l16,l17,h7,d7,bn0,rfl,hd9,hd14,hd15,hd16,hd17,(by simp),HS.out⟩
     ·obtain rfl:=hall;subst hun;go_simp;exact hK _ _ ⟨l0,true,true,l3,l4,l5,l6,l7,l8,l9,l10,l11,l12,l13,l14,l15,l16,l17,h7,d7,bn0,rfl,hd9,hd14,hd15,hd16,hd17,(by simp),HS.out⟩
     ·obtain⟨rfl,rfl⟩:=hall;subst hun;go_simp;exact hK _ _ ⟨true,l1,true,true,l4,l5,l6,l7,l8,l9,l10,l11,l12,l13,l14,l15,l16,l17,h7,d7,bn0,rfl,hd9,hd14,hd15,hd16,hd17,(by simp),HS.out⟩
     ·subst hun;obtain rfl:l17=false:=by cases l17 with|false=>rfl|true=>simpa using hd17 rfl
      go_simp;exact hK _ _ ⟨l0,l1,l2,l3,true,l5,l6,l7,l8,l9,l10,l11,l12,l13,l14,l15,l16,false,h7,d7,bn0,rfl,hd9,hd14,hd15,hd16,by simp,(by simp),HS.out⟩
     ·subst hun;go_simp;exact hK _ _ ⟨l0,l1,l2,l3,l4,true,l6,l7,l8,l9,l10,l11,l12,l13,l14,l15,l16,l17,h7,d7,bn0,rfl,hd9,hd14,hd15,hd16,hd17,(by simp),HS.out⟩
     ·obtain rfl:=hall;subst hun;go_simp;exact hK _ _ ⟨l0,l1,l2,l3,l4,true,true,l7,l8,l9,l10,l11,l12,l13,l14,l15,l16,l17,h7,d7,bn0,rfl,hd9,hd14,hd15,hd16,hd17,(by simp),HS.out⟩
     ·obtain⟨rfl,rfl⟩:=hall;subst hun;go_simp;exact hK _ _ ⟨l0,l1,l2,l3,true,l5,true,true,l8,l9,l10,l11,l12,l13,l14,l15,l16,l17,h7,d7,bn0,rfl,hd9,hd14,hd15,hd16,hd17,(by simp),HS.out⟩
     ·obtain rfl:=hall;subst hun;obtain rfl:l9=false:=by cases l9 with|false=>rfl|true=>simpa using hd9 rfl
      obtain rfl:l14=false:=offL hd14 rfl;obtain rfl:l15=false:=by cases l15 with|false=>rfl|true=>simpa using hd15 rfl
      obtain rfl:l16=false:=by cases l16 with|false=>rfl|true=>simpa using hd16 rfl
      obtain rfl:l17=false:=by cases l17 with|false=>rfl|true=>simpa using hd17 rfl
      have e0:=HS.out.rcell (v:=.bool true) 0 (r) rfl (by omega) Hhb1.out;go_simp;exact hK _ _ ⟨l0,l1,l2,l3,l4,l5,l6,true,true,false,l10,l11,l12,l13,false,false,false,false,h7,d7,bn0,rfl,by simp,by simp,by simp,by simp,by simp,(by simp),HS.out⟩
     ·obtain rfl:=hall;subst hun;obtain rfl:l14=false:=offL hd14 rfl;obtain rfl:l15=false:=by cases l15 with|false=>rfl|true=>simpa using hd15 rfl
      obtain rfl:l16=false:=by cases l16 with|false=>rfl|true=>simpa using hd16 rfl
      obtain rfl:l17=false:=by cases l17 with|false=>rfl|true=>simpa using hd17 rfl
      go_simp;exact hK _ _ ⟨l0,l1,l2,l3,l4,l5,l6,l7,true,true,l10,l11,l12,l13,false,false,false,false,h7,d7,bn0,rfl,by simp,by simp,by simp,by simp,by simp,(by simp),HS.out⟩
     ·obtain rfl:=hall;subst hun;obtain rfl:=hd9 rfl;obtain rfl:l17=false:=by cases l17 with|false=>rfl|true=>simpa using hd17 rfl
      go_simp;exact hK _ _ ⟨l0,l1,l2,l3,l4,l5,l6,l7,true,true,true,l11,l12,l13,l14,l15,l16,false,h7,d7,bn0,rfl,by simp,hd14,hd15,hd16,by simp,(by simp),HS.out⟩
     ·obtain rfl:=hall;subst hun;obtain rfl:=hd9 rfl;go_simp;exact hK _ _ ⟨l0,l1,l2,l3,l4,l5,l6,l7,true,true,l10,true,l12,l13,l14,l15,l16,l17,h7,d7,bn0,rfl,by simp,hd14,hd15,hd16,hd17,(by simp),HS.out⟩
     ·obtain⟨rfl,rfl,rfl⟩:=hall;subst hun;obtain rfl:=hd9 rfl;go_simp;exact hK _ _ ⟨l0,l1,l2,l3,l4,l5,l6,l7,true,true,true,true,true,l13,l14,l15,l16,l17,h7,d7,bn0,rfl,by simp,hd14,hd15,hd16,hd17,(by simp),HS.out⟩
     ·obtain⟨rfl,rfl⟩:=hall;subst hun;obtain rfl:=hd9 rfl;obtain rfl:l14=false:=offR hd14 rfl;obtain rfl:l15=false:=by cases l15 with|false=>rfl|true=>simpa using hd15 rfl
      obtain rfl:l16=false:=by cases l16 with|false=>rfl|true=>simpa using hd16 rfl
      obtain rfl:l17=false:=by cases l17 with|false=>rfl|true=>simpa using hd17 rfl
      go_simp;exact hK _ _ ⟨l0,l1,l2,l3,l4,l5,l6,l7,true,true,l10,l11,true,true,false,false,false,false,h7,d7,bn0,rfl,by simp,by simp,by simp,by simp,by simp,(by simp),HS.out⟩
     ·obtain⟨rfl,rfl⟩:=hall;subst hun;obtain rfl:=hd9 rfl;obtain rfl:l15=false:=by cases l15 with|false=>rfl|true=>simpa using hd15 rfl
      obtain rfl:l16=false:=by cases l16 with|false=>rfl|true=>simpa using hd16 rfl
      obtain rfl:l17=false:=by cases l17 with|false=>rfl|true=>simpa using hd17 rfl
      go_simp;exact hK _ _ ⟨l0,l1,l2,l3,l4,l5,l6,l7,true,true,l10,l11,l12,true,true,false,false,false,h7,d7,bn0,rfl,by simp,by simp,by simp,by simp,by simp,(by simp),HS.out⟩
     ·obtain rfl:=hall;subst hun;obtain⟨rfl,rfl⟩:=hd14 rfl;obtain rfl:=hd9 rfl;obtain rfl:l16=false:=by cases l16 with|false=>rfl|true=>simpa using hd16 rfl
      obtain rfl:l17=false:=by cases l17 with|false=>rfl|true=>simpa using hd17 rfl
      have hS2:=(HS.out.alloc _ rfl #[.bool true] 4).pick [0,1,3] (by decide);have HhS2:=qh hS2;clear hS2;go_simp;exact hK _ _ ⟨l0,l1,l2,l3,l4,l5,l6,l7,true,true,l10,l11,l12,true,true,true,false,false,h7,d7,_,rfl,by simp,by simp,by simp,by simp,by simp,(by simp),HhS2.out⟩
     ·obtain⟨rfl,rfl,rfl⟩:=hall;subst hun;obtain rfl:=hd9 rfl;obtain rfl:=hd15 rfl;obtain⟨-,rfl⟩:=hd14 rfl;obtain rfl:l17=false:=by cases l17 with|false=>rfl|true=>simpa using hd17 rfl
      have HC:=qh (HS.out.cut 0 rfl r (by omega));refine step_append_lies (a:=⟨_,_⟩) _ (by rfl) _ _ _ (by rfl) w.heap.size 4 i0 (.bool false) 1 1 Try.underlying43 Hhi.out hz0.out Hhz1.out Hhz2.out (by rfl) (by omega) (.slice (some ⟨g,0,none⟩) r c) r ((boolCells (hsS es k)).take (r*1)) (by rfl) (HC.out.row 0 rfl) ⟨bn0,0,none⟩ 1 1 [.bool true] (by rfl) (by rfl) (World.news_of_block (HC.out.box 2 rfl)) ZbJ (by omega) (by unfold maxLen;omega) (by omega) HC.out.size _ rfl ?_;intro g8 c8 w8 hown8 hgrow8 hat8 hlt8;have HS8:=qh (HC.out.app 0 rfl hown8 hgrow8 hat8);clear hown8 hgrow8 hat8;go_simp;exact hK _ _ ⟨l0,l1,l2,true,l4,l5,l6,l7,true,true,l10,l11,l12,true,true,true,true,false,g8,c8,bn0,rfl,by simp,by simp,by simp,by simp,by simp,(by simp),HS8.out⟩
     obtain⟨rfl,rfl,rfl,rfl,rfl,rfl,rfl,rfl,rfl,rfl,rfl,rfl,rfl,rfl,rfl,rfl,rfl,-⟩:=hall;subst hun;go_simp;exact hK _ _ ⟨true,true,true,true,true,true,true,true,true,true,true,true,true,true,true,true,true,true,h7,d7,bn0,rfl,by simp,by simp,by simp,by simp,by simp,(by simp),HS.out⟩
    ·rintro listed a w' ⟨l0,l1,l2,l3,l4,l5,l6,l7,l8,l9,l10,l11,l12,l13,l14,l15,l16,l17,h7,d7,bn0,rfl,hd9,hd14,hd15,hd16,hd17,rfl,hS⟩ hr;have hall:=Zag (by kernel_rfl) rfl hr;obtain rfl:l0=true:=by simpa using hall 0 (by simp)
     obtain rfl:l1=true:=by simpa using hall 1 (by simp)
     obtain rfl:l2=true:=by simpa using hall 2 (by simp)
     obtain rfl:l3=true:=by simpa using hall 3 (by simp)
     obtain rfl:l4=true:=by simpa using hall 4 (by simp)
     obtain rfl:l5=true:=by simpa using hall 5 (by simp)
     obtain rfl:l6=true:=by simpa using hall 6 (by simp)
     obtain rfl:l7=true:=by simpa using hall 7 (by simp)
     obtain rfl:l8=true:=by simpa using hall 8 (by simp)
     obtain rfl:l9=true:=by simpa using hall 9 (by simp)
     obtain rfl:l10=true:=by simpa using hall 10 (by simp)
     obtain rfl:l11=true:=by simpa using hall 11 (by simp)
     obtain rfl:l12=true:=by simpa using hall 12 (by simp)
     obtain rfl:l13=true:=by simpa using hall 13 (by simp)
     obtain rfl:l14=true:=by simpa using hall 14 (by simp)
     obtain rfl:l15=true:=by simpa using hall 15 (by simp)
     obtain rfl:l16=true:=by simpa using hall 16 (by simp)
     obtain rfl:l17=true:=by simpa using hall 17 (by simp)
     clear hall hr hd9 hd14 hd15 hd16 hd17;simp only[↓reduceIte] at hS ⊢;simp only[List.setIfInBounds_toArray,List.set_cons_zero,List.set_cons_succ];have HS5:=qh hS;clear hS;go_wp2;go_roundw
     case rel =>
      refine⟨k+1,r+1,d7,some ⟨h7,0,none⟩,by go_num,rfl,by omega,?_,?_⟩
      ·rw[Hhsn.out,List.length_append,List.length_singleton,Hhrl.out]
      rw[Hhsn.out,show boolCells ((hsS es k).take r++[true])=(boolCells (hsS es k)).take (r*1)++[.bool true] by simp[List.map_take]];exact HS5.out.pick [0] (by decide)
     case measure=>simp[intOf];omega
    refine⟨false,false,false,false,false,false,false,false,false,false,false,false,false,false,false,false,false,false,0,0,0,rfl,by simp,by simp,by simp,by simp,by simp,(by simp),?_⟩;exact HSp.out.drew.pick [0,1,2] (by decide)
   ·have hmn:1≤m:=by have hN:=Hpn.out;unfold Zaa at hN;rw[if_pos Hhpo.out] at hN;simp at hN;omega
    have hs:=Hstep.out;have Hhs:=qh hs;clear hs;obtain⟨g,c2,he⟩:=HSp.out.rowform 0 rfl (by omega);simp only[Value.slice.injEq,true_and] at he;obtain⟨rfl,rfl⟩:=he;obtain⟨hcc,hcm⟩:=HSp.out.rowcap 0 rfl;obtain⟨t,hmt⟩:∃ t:Nat,m=t+1:=⟨m-1,by omega⟩;have htI:(m:Int)-1=(t:Int):=by omega
    have hwt:IntKind.i64.wrap (t:Int)=(t:Int):=IntWalk.i64_in _ (by omega);have htm:(t:Int)<(m:Int):=by omega
    have htm2:t<m:=by omega
    obtain⟨B,hBd⟩:=eI ((hsS es k).getD t false);have hB:(boolCells (hsS es k))[t]? = some (.bool B):=by rw[hBd];exact Zej (by rw[Hhm.out];omega)
    replace hB:=qh hB;have hsn:hsS es (k+1)=(hsS es k).set t (!B):=by rw[Hhs.out,hBd];simp[hsP,Hhm.out,hmt]
    have Hhsn:=qh hsn;clear hsn;clear hBd;cases B
    ·have hsn:=Hhsn.out;clear Hhsn;rw[show(!false)=true from rfl] at hsn;have Hhsn:=qh hsn;clear hsn;have f0:=HSp.out.rfr 0 t rfl;have k0:=HSp.out.rcell (v:=.bool false) 0 t rfl (by omega) hB.out;have hS7:=HSp.out.store 0 rfl t (.bool true);have HS7:=qh hS7;clear hS7;go_wp2;go_roundw
     case rel =>
      refine⟨k+1,m,c,some ⟨g,0,none⟩,by go_num,rfl,by omega,?_,?_⟩
      ·rw[Hhsn.out,List.length_set,Hhm.out]
      rw[Hhsn.out,show boolCells ((hsS es k).set t true)=(boolCells (hsS es k)).set t (.bool true) by simp[List.map_set]];exact HS7.out.pick [0] (by decide)
     case measure=>simp[intOf];omega
    have hsn:=Hhsn.out;clear Hhsn;rw[show(!true)=false from rfl] at hsn;have Hhsn:=qh hsn;clear hsn;have f0:=HSp.out.rfr 0 t rfl;have k0:=HSp.out.rcell (v:=.bool true) 0 t rfl (by omega) hB.out;have hS7:=HSp.out.store 0 rfl t (.bool false);have HS7:=qh hS7;clear hS7;go_wp2;go_roundw
    case rel =>
     refine⟨k+1,m,c,some ⟨g,0,none⟩,by go_num,rfl,by omega,?_,?_⟩
     ·rw[Hhsn.out,List.length_set,Hhm.out]
     rw[Hhsn.out,show boolCells ((hsS es k).set t false)=(boolCells (hsS es k)).set t (.bool false) by simp[List.map_set]];exact HS7.out.pick [0] (by decide)
    case measure=>simp[intOf];omega
   ·have hmn:1≤m:=by have hN:=Hpn.out;unfold Zaa at hN;rw[if_pos Hhpo.out] at hN;simp at hN;omega
    have hs:=Hstep.out;have Hhs:=qh hs;clear hs;obtain⟨g,c2,he⟩:=HSp.out.rowform 0 rfl (by omega);simp only[Value.slice.injEq,true_and] at he;obtain⟨rfl,rfl⟩:=he;obtain⟨hcc,hcm⟩:=HSp.out.rowcap 0 rfl;obtain⟨t,hmt⟩:∃ t:Nat,m=t+1:=⟨m-1,by omega⟩;have htI:(m:Int)-1=(t:Int):=by omega
    have hwt:IntKind.i64.wrap (t:Int)=(t:Int):=IntWalk.i64_in _ (by omega);have htm:(t:Int)<(m:Int):=by omega
    have htm2:t<m:=by omega
    obtain⟨B,hBd⟩:=eI ((hsS es k).getD t false);have hB:(boolCells (hsS es k))[t]? = some (.bool B):=by rw[hBd];exact Zej (by rw[Hhm.out];omega)
    replace hB:=qh hB;have hsn:hsS es (k+1)=(hsS es k).set t true:=by rw[Hhs.out];simp[hsP,Hhm.out,hmt]
    have Hhsn:=qh hsn;clear hsn;clear hBd;have f0:=HSp.out.rfr 0 t rfl;have k0:=HSp.out.rcell (v:=.bool B) 0 t rfl (by omega) hB.out;have hS7:=HSp.out.store 0 rfl t (.bool true);have HS7:=qh hS7;clear hS7;go_wp2;go_roundw
    case rel =>
     refine⟨k+1,m,c,some ⟨g,0,none⟩,by go_num,rfl,by omega,?_,?_⟩
     ·rw[Hhsn.out,List.length_set,Hhm.out]
     rw[Hhsn.out,show boolCells ((hsS es k).set t true)=(boolCells (hsS es k)).set t (.bool true) by simp[List.map_set]];exact HS7.out.pick [0] (by decide)
    case measure=>simp[intOf];omega
   have hmn:2≤m:=by have hN:=Hpn.out;unfold Zaa at hN;rw[if_pos Hhpo.out] at hN;rw[if_neg (by omega),if_neg (by omega)] at hN;omega
   have hs:=Hstep.out;have Hhs:=qh hs;clear hs;obtain⟨q11,q12,q13,q14⟩:=Zan (show ¬ p1=1 by omega);obtain⟨q31,q32,q33,q34⟩:=Zan (show ¬ p1=3 by omega);obtain⟨q21,q22,q23,q24⟩:=Zan (show ¬ p1=2 by omega);obtain⟨q71,q72,q73,q74⟩:=Zan (show ¬ p1=7 by omega);obtain⟨q81,q82,q83,q84⟩:=Zan (show ¬ p1=8 by omega);obtain⟨q51,q52,q53,q54⟩:=Zan (show ¬ p1=5 by omega);obtain⟨g,c2,he⟩:=HSp.out.rowform 0 rfl (by omega);simp only[Value.slice.injEq,true_and] at he;obtain⟨rfl,rfl⟩:=he;obtain⟨hcc,hcm⟩:=HSp.out.rowcap 0 rfl;obtain⟨t,hmt⟩:∃ t:Nat,m=t+1:=⟨m-1,by omega⟩;have htI:(m:Int)-1=(t:Int):=by omega
   have hwt:IntKind.i64.wrap (t:Int)=(t:Int):=IntWalk.i64_in _ (by omega);have htm:(t:Int)<(m:Int):=by omega
   have htm2:t<m:=by omega
   obtain⟨B,hBd⟩:=eI ((hsS es k).getD t false);have hB:(boolCells (hsS es k))[t]? = some (.bool B):=by rw[hBd];exact Zej (by rw[Hhm.out];omega)
   replace hB:=qh hB;obtain⟨r,hmr⟩:∃ r:Nat,t=r+1:=⟨t-1,by omega⟩;have hrI:(t:Int)-1=(r:Int):=by omega
   have hwr:IntKind.i64.wrap (r:Int)=(r:Int):=IntWalk.i64_in _ (by omega);have hr0:(0:Int)≤(r:Int):=by omega
   have hrc:(r:Int)≤(c:Int):=by omega
   have hrm:(r:Int)<(m:Int):=by omega
   have hrm2:r<m:=by omega
   have hrc2:r≤c:=by omega
   obtain⟨b1,hb1d⟩:∃ B,B=(hsS es k).getD r false:=⟨_,rfl⟩;have hb1:(boolCells (hsS es k))[r]? = some (.bool b1):=by rw[hb1d];exact Zej (by rw[Hhm.out];omega)
   have hrl:((hsS es k).take r).length=r:=by rw[List.length_take,Hhm.out];omega
   have hsn:hsS es (k+1)=(hsS es k).take r++[b1&&B]:=by rw[Hhs.out,hb1d,hBd];unfold hsP;rw[if_neg (by omega),if_neg (by omega),if_neg (by omega),if_neg (by omega),if_neg (by omega),Hhm.out,show m-1=t by omega,show m-2=r by omega]
   have Hhb1:=qh hb1;clear hb1;have Hhrl:=qh hrl;clear hrl;have Hhmt:=qh hmt;clear hmt;have Hhmr:=qh hmr;clear hmr;clear hBd hb1d h46;cases b1
   ·rw[show(false&&B)=false by simp] at hsn;have Hhsn:=qh hsn;clear hsn;go_wp2;refine wp_region_any (by kernel_rfl) ?_
    refine Zaf (fun A listed a w'=>∃ (l0 l1 l2 l3 l4 l5 l6 l7 l8 l9 l10 l11 l12 l13 l14 l15 l16 l17:Bool) (h7:Nat) (d7:Nat) (bn0:Nat),listed=#[l0,l1,l2,l3,l4,l5,l6,l7,l8,l9,l10,l11,l12,l13,l14,l15,l16,l17]∧(l9=true→l8=true)∧(l14=true→l9=true∧l13=true)∧(l15=true→l14=true)∧(l16=true→l15=true)∧(l17=true→l0=true∧l4=true∧l10=true∧l16=true) ∧
      a=⟨((((((((((((((((((A.tmps.setIfInBounds 18 (if l0=true then .slice (some ⟨g,0,none⟩) m c else A.tmps.getD 18 undef)).setIfInBounds 19 (if l1=true then .int .i64 (t:Int) else A.tmps.getD 19 undef)).setIfInBounds 20 (if l2=true then .int .i64 (r:Int) else A.tmps.getD 20 undef)).setIfInBounds 21 (if l3=true then .slice (some ⟨g,0,none⟩) r c else A.tmps.getD 21 undef)).setIfInBounds 22 (if l4=true then .slice (some ⟨g,0,none⟩) m c else A.tmps.getD 22 undef)).setIfInBounds 23 (if l5=true then .int .i64 (t:Int) else A.tmps.getD 23 undef)).setIfInBounds 24 (if l6=true then .int .i64 (r:Int) else A.tmps.getD 24 undef)).setIfInBounds 25 (if l7=true then .pointer (some ⟨g,r,none⟩) else A.tmps.getD 25 undef)).setIfInBounds 26 (if l8=true then .bool false else A.tmps.getD 26 undef)).setIfInBounds 27 (if l9=true then .bool false else A.tmps.getD 27 undef)).setIfInBounds 28 (if l10=true then undef else A.tmps.getD 28 undef)).setIfInBounds 29 (if l11=true then undef else A.tmps.getD 29 undef)).setIfInBounds 30 (if l12=true then undef else A.tmps.getD 30 undef)).setIfInBounds 31 (if l13=true then undef else A.tmps.getD 31 undef)).setIfInBounds 32 (if l14=true then .bool false else A.tmps.getD 32 undef)).setIfInBounds 33 (if l15=true then .slice (some ⟨bn0,0,none⟩) 1 1 else A.tmps.getD 33 undef)).setIfInBounds 34 (if l16=true then .slice (some ⟨h7,0,none⟩) (r+1) d7 else A.tmps.getD 34 undef)).setIfInBounds 3 (if l17=true then .slice (some ⟨h7,0,none⟩) (r+1) d7 else A.tmps.getD 3 undef)),A.defers⟩ ∧
      St w w' [(if l16=true then Ent.row 4 1 (.slice (some ⟨h7,0,none⟩) (r+1) d7) (r+1) ((boolCells (hsS es k)).take (r*1)++[.bool false]) else Ent.row 4 1 (.slice (some ⟨g,0,none⟩) m c) m (boolCells (hsS es k))),Ent.box wr.heap.size #[.int .i64 p1,.int .i64 p2] 72,(if l15=true then Ent.box bn0 #[.bool false] 4 else Ent.nil)]) ?_ ?_ ?_
    ·rintro listed a w' ⟨l0,l1,l2,l3,l4,l5,l6,l7,l8,l9,l10,l11,l12,l13,l14,l15,l16,l17,h7,d7,bn0,rfl,hd9,hd14,hd15,hd16,hd17,rfl,hS⟩ i hi;obtain⟨hun,o,ho,hall⟩:=mem_ready.1 hi;have hlt:=(Array.getElem?_eq_some_iff.1 ho).1;refine wpOp_step ho (fun K hK => ?_);clear hi;have HS:=qh hS;clear hS;simp only[List.setIfInBounds_toArray,List.set_cons_zero,List.set_cons_succ,Array.getD_eq_getD_getElem?,List.getElem?_toArray,List.getElem?_cons_zero,List.getElem?_cons_succ,Option.getD_some];obtain h|h|h|h|h|h|h|h|h|h|h|h|h|h|h|h|h|h:i=0∨i=1∨i=2∨i=3∨i=4∨i=5∨i=6∨i=7∨i=8∨i=9∨i=10∨i=11∨i=12∨i=13∨i=14∨i=15∨i=16∨i=17:=by simp at hlt;omega
     all_goals subst h
     all_goals simp only[List.getElem?_toArray,List.getElem?_cons_zero,List.getElem?_cons_succ,Option.some.injEq] at ho
     all_goals subst ho
     all_goals simp[Region.binds] at hun hall
     ·subst hun;obtain rfl:l17=false:=by cases l17 with|false=>rfl|true=>simpa using hd17 rfl
      go_simp;exact hK _ _ ⟨true,l1,l2,l3,l4,l5,l6,l7,l8,l9,l10,l11,l12,l13,l14,l15,l16,false,h7,d7,bn0,rfl,hd9,hd14,hd15,hd16,by simp,(by simp),HS.out⟩
     ·subst hun;go_simp;exact hK _ _ ⟨l0,true,l2,l3,l4,l5,l6,l7,l8,l9,l10,l11,l12,l13,l14,l15,l16,l17,h7,d7,bn0,rfl,hd9,hd14,hd15,hd16,hd17,(by simp),HS.out⟩
     ·obtain rfl:=hall;subst hun;go_simp;exact hK _ _ ⟨l0,true,true,l3,l4,l5,l6,l7,l8,l9,l10,l11,l12,l13,l14,l15,l16,l17,h7,d7,bn0,rfl,hd9,hd14,hd15,hd16,hd17,(by simp),HS.out⟩
     ·obtain⟨rfl,rfl⟩:=hall;subst hun;go_simp;exact hK _ _ ⟨true,l1,true,true,l4,l5,l6,l7,l8,l9,l10,l11,l12,l13,l14,l15,l16,l17,h7,d7,bn0,rfl,hd9,hd14,hd15,hd16,hd17,(by simp),HS.out⟩
     ·subst hun;obtain rfl:l17=false:=by cases l17 with|false=>rfl|true=>simpa using hd17 rfl
      go_simp;exact hK _ _ ⟨l0,l1,l2,l3,true,l5,l6,l7,l8,l9,l10,l11,l12,l13,l14,l15,l16,false,h7,d7,bn0,rfl,hd9,hd14,hd15,hd16,by simp,(by simp),HS.out⟩
     ·subst hun;go_simp;exact hK _ _ ⟨l0,l1,l2,l3,l4,true,l6,l7,l8,l9,l10,l11,l12,l13,l14,l15,l16,l17,h7,d7,bn0,rfl,hd9,hd14,hd15,hd16,hd17,(by simp),HS.out⟩
     ·obtain rfl:=hall;subst hun;go_simp;exact hK _ _ ⟨l0,l1,l2,l3,l4,true,true,l7,l8,l9,l10,l11,l12,l13,l14,l15,l16,l17,h7,d7,bn0,rfl,hd9,hd14,hd15,hd16,hd17,(by simp),HS.out⟩
     ·obtain⟨rfl,rfl⟩:=hall;subst hun;go_simp;exact hK _ _ ⟨l0,l1,l2,l3,true,l5,true,true,l8,l9,l10,l11,l12,l13,l14,l15,l16,l17,h7,d7,bn0,rfl,hd9,hd14,hd15,hd16,hd17,(by simp),HS.out⟩
     ·obtain rfl:=hall;subst hun;obtain rfl:l9=false:=by cases l9 with|false=>rfl|true=>simpa using hd9 rfl
      obtain rfl:l14=false:=offL hd14 rfl;obtain rfl:l15=false:=by cases l15 with|false=>rfl|true=>simpa using hd15 rfl
      obtain rfl:l16=false:=by cases l16 with|false=>rfl|true=>simpa using hd16 rfl
      obtain rfl:l17=false:=by cases l17 with|false=>rfl|true=>simpa using hd17 rfl
      have e0:=HS.out.rcell (v:=.bool false) 0 (r) rfl (by omega) Hhb1.out;go_simp;exact hK _ _ ⟨l0,l1,l2,l3,l4,l5,l6,true,true,false,l10,l11,l12,l13,false,false,false,false,h7,d7,bn0,rfl,by simp,by simp,by simp,by simp,by simp,(by simp),HS.out⟩
     ·obtain rfl:=hall;subst hun;obtain rfl:l14=false:=offL hd14 rfl;obtain rfl:l15=false:=by cases l15 with|false=>rfl|true=>simpa using hd15 rfl
      obtain rfl:l16=false:=by cases l16 with|false=>rfl|true=>simpa using hd16 rfl
      obtain rfl:l17=false:=by cases l17 with|false=>rfl|true=>simpa using hd17 rfl
      go_simp;exact hK _ _ ⟨l0,l1,l2,l3,l4,l5,l6,l7,true,true,l10,l11,l12,l13,false,false,false,false,h7,d7,bn0,rfl,by simp,by simp,by simp,by simp,by simp,(by simp),HS.out⟩
     ·obtain rfl:=hall;subst hun;obtain rfl:=hd9 rfl;obtain rfl:l17=false:=by cases l17 with|false=>rfl|true=>simpa using hd17 rfl
      go_simp;exact hK _ _ ⟨l0,l1,l2,l3,l4,l5,l6,l7,true,true,true,l11,l12,l13,l14,l15,l16,false,h7,d7,bn0,rfl,by simp,hd14,hd15,hd16,by simp,(by simp),HS.out⟩
     ·obtain rfl:=hall;subst hun;obtain rfl:=hd9 rfl;go_simp;exact hK _ _ ⟨l0,l1,l2,l3,l4,l5,l6,l7,true,true,l10,true,l12,l13,l14,l15,l16,l17,h7,d7,bn0,rfl,by simp,hd14,hd15,hd16,hd17,(by simp),HS.out⟩
     ·obtain⟨rfl,rfl,rfl⟩:=hall;subst hun;obtain rfl:=hd9 rfl;go_simp;exact hK _ _ ⟨l0,l1,l2,l3,l4,l5,l6,l7,true,true,true,true,true,l13,l14,l15,l16,l17,h7,d7,bn0,rfl,by simp,hd14,hd15,hd16,hd17,(by simp),HS.out⟩
     ·obtain⟨rfl,rfl⟩:=hall;subst hun;obtain rfl:=hd9 rfl;obtain rfl:l14=false:=offR hd14 rfl;obtain rfl:l15=false:=by cases l15 with|false=>rfl|true=>simpa using hd15 rfl
      obtain rfl:l16=false:=by cases l16 with|false=>rfl|true=>simpa using hd16 rfl
      obtain rfl:l17=false:=by cases l17 with|false=>rfl|true=>simpa using hd17 rfl
      go_simp;exact hK _ _ ⟨l0,l1,l2,l3,l4,l5,l6,l7,true,true,l10,l11,true,true,false,false,false,false,h7,d7,bn0,rfl,by simp,by simp,by simp,by simp,by simp,(by simp),HS.out⟩
     ·obtain⟨rfl,rfl⟩:=hall;subst hun;obtain rfl:=hd9 rfl;obtain rfl:l15=false:=by cases l15 with|false=>rfl|true=>simpa using hd15 rfl
      obtain rfl:l16=false:=by cases l16 with|false=>rfl|true=>simpa using hd16 rfl
      obtain rfl:l17=false:=by cases l17 with|false=>rfl|true=>simpa using hd17 rfl
      go_simp;exact hK _ _ ⟨l0,l1,l2,l3,l4,l5,l6,l7,true,true,l10,l11,l12,true,true,false,false,false,h7,d7,bn0,rfl,by simp,by simp,by simp,by simp,by simp,(by simp),HS.out⟩
     ·obtain rfl:=hall;subst hun;obtain⟨rfl,rfl⟩:=hd14 rfl;obtain rfl:=hd9 rfl;obtain rfl:l16=false:=by cases l16 with|false=>rfl|true=>simpa using hd16 rfl
      obtain rfl:l17=false:=by cases l17 with|false=>rfl|true=>simpa using hd17 rfl
      have hS2:=(HS.out.alloc _ rfl #[.bool false] 4).pick [0,1,3] (by decide);have HhS2:=qh hS2;clear hS2;go_simp;exact hK _ _ ⟨l0,l1,l2,l3,l4,l5,l6,l7,true,true,l10,l11,l12,true,true,true,false,false,h7,d7,_,rfl,by simp,by simp,by simp,by simp,by simp,(by simp),HhS2.out⟩
     ·obtain⟨rfl,rfl,rfl⟩:=hall;subst hun;obtain rfl:=hd9 rfl;obtain rfl:=hd15 rfl;obtain⟨-,rfl⟩:=hd14 rfl;obtain rfl:l17=false:=by cases l17 with|false=>rfl|true=>simpa using hd17 rfl
      have HC:=qh (HS.out.cut 0 rfl r (by omega));refine step_append_lies (a:=⟨_,_⟩) _ (by rfl) _ _ _ (by rfl) w.heap.size 4 i0 (.bool false) 1 1 Try.underlying43 Hhi.out hz0.out Hhz1.out Hhz2.out (by rfl) (by omega) (.slice (some ⟨g,0,none⟩) r c) r ((boolCells (hsS es k)).take (r*1)) (by rfl) (HC.out.row 0 rfl) ⟨bn0,0,none⟩ 1 1 [.bool false] (by rfl) (by rfl) (World.news_of_block (HC.out.box 2 rfl)) ZbJ (by omega) (by unfold maxLen;omega) (by omega) HC.out.size _ rfl ?_;intro g8 c8 w8 hown8 hgrow8 hat8 hlt8;have HS8:=qh (HC.out.app 0 rfl hown8 hgrow8 hat8);clear hown8 hgrow8 hat8;go_simp;exact hK _ _ ⟨l0,l1,l2,true,l4,l5,l6,l7,true,true,l10,l11,l12,true,true,true,true,false,g8,c8,bn0,rfl,by simp,by simp,by simp,by simp,by simp,(by simp),HS8.out⟩
     obtain⟨rfl,rfl,rfl,rfl,rfl,rfl,rfl,rfl,rfl,rfl,rfl,rfl,rfl,rfl,rfl,rfl,rfl,-⟩:=hall;subst hun;go_simp;exact hK _ _ ⟨true,true,true,true,true,true,true,true,true,true,true,true,true,true,true,true,true,true,h7,d7,bn0,rfl,by simp,by simp,by simp,by simp,by simp,(by simp),HS.out⟩
    ·rintro listed a w' ⟨l0,l1,l2,l3,l4,l5,l6,l7,l8,l9,l10,l11,l12,l13,l14,l15,l16,l17,h7,d7,bn0,rfl,hd9,hd14,hd15,hd16,hd17,rfl,hS⟩ hr;have hall:=Zag (by kernel_rfl) rfl hr;obtain rfl:l0=true:=by simpa using hall 0 (by simp)
     obtain rfl:l1=true:=by simpa using hall 1 (by simp)
     obtain rfl:l2=true:=by simpa using hall 2 (by simp)
     obtain rfl:l3=true:=by simpa using hall 3 (by simp)
     obtain rfl:l4=true:=by simpa using hall 4 (by simp)
     obtain rfl:l5=true:=by simpa using hall 5 (by simp)
     obtain rfl:l6=true:=by simpa using hall 6 (by simp)
     obtain rfl:l7=true:=by simpa using hall 7 (by simp)
     obtain rfl:l8=true:=by simpa using hall 8 (by simp)
     obtain rfl:l9=true:=by simpa using hall 9 (by simp)
     obtain rfl:l10=true:=by simpa using hall 10 (by simp)
     obtain rfl:l11=true:=by simpa using hall 11 (by simp)
     obtain rfl:l12=true:=by simpa using hall 12 (by simp)
     obtain rfl:l13=true:=by simpa using hall 13 (by simp)
     obtain rfl:l14=true:=by simpa using hall 14 (by simp)
     obtain rfl:l15=true:=by simpa using hall 15 (by simp)
     obtain rfl:l16=true:=by simpa using hall 16 (by simp)
     obtain rfl:l17=true:=by simpa using hall 17 (by simp)
     clear hall hr hd9 hd14 hd15 hd16 hd17;simp only[↓reduceIte] at hS ⊢;simp only[List.setIfInBounds_toArray,List.set_cons_zero,List.set_cons_succ];have HS5:=qh hS;clear hS;go_wp2;go_roundw
     case rel =>
      refine⟨k+1,r+1,d7,some ⟨h7,0,none⟩,by go_num,rfl,by omega,?_,?_⟩
      ·rw[Hhsn.out,List.length_append,List.length_singleton,Hhrl.out]
      rw[Hhsn.out,show boolCells ((hsS es k).take r++[false])=(boolCells (hsS es k)).take (r*1)++[.bool false] by simp[List.map_take]];exact HS5.out.pick [0] (by decide)
     case measure=>simp[intOf];omega
    refine⟨false,false,false,false,false,false,false,false,false,false,false,false,false,false,false,false,false,false,0,0,0,rfl,by simp,by simp,by simp,by simp,by simp,(by simp),?_⟩;exact HSp.out.drew.pick [0,1,2] (by decide)
   rw[show(true&&B)=B by simp] at hsn;have Hhsn:=qh hsn;clear hsn;go_wp2;refine wp_region_any (by kernel_rfl) ?_
   refine Zaf (fun A listed a w'=>∃ (l0 l1 l2 l3 l4 l5 l6 l7 l8 l9 l10 l11 l12 l13 l14 l15 l16 l17:Bool) (h7:Nat) (d7:Nat) (bn0:Nat),listed=#[l0,l1,l2,l3,l4,l5,l6,l7,l8,l9,l10,l11,l12,l13,l14,l15,l16,l17]∧(l9=true→l8=true)∧(l14=true→l9=true∧l13=true)∧(l15=true→l14=true)∧(l16=true→l15=true)∧(l17=true→l0=true∧l4=true∧l10=true∧l16=true) ∧
     a=⟨((((((((((((((((((A.tmps.setIfInBounds 18 (if l0=true then .slice (some ⟨g,0,none⟩) m c else A.tmps.getD 18 undef)).setIfInBounds 19 (if l1=true then .int .i64 (t:Int) else A.tmps.getD 19 undef)).setIfInBounds 20 (if l2=true then .int .i64 (r:Int) else A.tmps.getD 20 undef)).setIfInBounds 21 (if l3=true then .slice (some ⟨g,0,none⟩) r c else A.tmps.getD 21 undef)).setIfInBounds 22 (if l4=true then .slice (some ⟨g,0,none⟩) m c else A.tmps.getD 22 undef)).setIfInBounds 23 (if l5=true then .int .i64 (t:Int) else A.tmps.getD 23 undef)).setIfInBounds 24 (if l6=true then .int .i64 (r:Int) else A.tmps.getD 24 undef)).setIfInBounds 25 (if l7=true then .pointer (some ⟨g,r,none⟩) else A.tmps.getD 25 undef)).setIfInBounds 26 (if l8=true then .bool true else A.tmps.getD 26 undef)).setIfInBounds 27 (if l9=true then .bool true else A.tmps.getD 27 undef)).setIfInBounds 28 (if l10=true then .slice (some ⟨g,0,none⟩) m c else A.tmps.getD 28 undef)).setIfInBounds 29 (if l11=true then .int .i64 (t:Int) else A.tmps.getD 29 undef)).setIfInBounds 30 (if l12=true then .pointer (some ⟨g,t,none⟩) else A.tmps.getD 30 undef)).setIfInBounds 31 (if l13=true then .bool B else A.tmps.getD 31 undef)).setIfInBounds 32 (if l14=true then .bool B else A.tmps.getD 32 undef)).setIfInBounds 33 (if l15=true then .slice (some ⟨bn0,0,none⟩) 1 1 else A.tmps.getD 33 undef)).setIfInBounds 34 (if l16=true then .slice (some ⟨h7,0,none⟩) (r+1) d7 else A.tmps.getD 34 undef)).setIfInBounds 3 (if l17=true then .slice (some ⟨h7,0,none⟩) (r+1) d7 else A.tmps.getD 3 undef)),A.defers⟩ ∧
     St w w' [(if l16=true then Ent.row 4 1 (.slice (some ⟨h7,0,none⟩) (r+1) d7) (r+1) ((boolCells (hsS es k)).take (r*1)++[.bool B]) else Ent.row 4 1 (.slice (some ⟨g,0,none⟩) m c) m (boolCells (hsS es k))),Ent.box wr.heap.size #[.int .i64 p1,.int .i64 p2] 72,(if l15=true then Ent.box bn0 #[.bool B] 4 else Ent.nil)]) ?_ ?_ ?_
   ·rintro listed a w' ⟨l0,l1,l2,l3,l4,l5,l6,l7,l8,l9,l10,l11,l12,l13,l14,l15,l16,l17,h7,d7,bn0,rfl,hd9,hd14,hd15,hd16,hd17,rfl,hS⟩ i hi;obtain⟨hun,o,ho,hall⟩:=mem_ready.1 hi;have hlt:=(Array.getElem?_eq_some_iff.1 ho).1;refine wpOp_step ho (fun K hK => ?_);clear hi;have HS:=qh hS;clear hS;simp only[List.setIfInBounds_toArray,List.set_cons_zero,List.set_cons_succ,Array.getD_eq_getD_getElem?,List.getElem?_toArray,List.getElem?_cons_zero,List.getElem?_cons_succ,Option.getD_some];obtain h|h|h|h|h|h|h|h|h|h|h|h|h|h|h|h|h|h:i=0∨i=1∨i=2∨i=3∨i=4∨i=5∨i=6∨i=7∨i=8∨i=9∨i=10∨i=11∨i=12∨i=13∨i=14∨i=15∨i=16∨i=17:=by simp at hlt;omega
    all_goals subst h
    all_goals simp only[List.getElem?_toArray,List.getElem?_cons_zero,List.getElem?_cons_succ,Option.some.injEq] at ho
    all_goals subst ho
    all_goals simp[Region.binds] at hun hall
    ·subst hun;obtain rfl:l17=false:=by cases l17 with|false=>rfl|true=>simpa using hd17 rfl
     go_simp;exact hK _ _ ⟨true,l1,l2,l3,l4,l5,l6,l7,l8,l9,l10,l11,l12,l13,l14,l15,l16,false,h7,d7,bn0,rfl,hd9,hd14,hd15,hd16,by simp,(by simp),HS.out⟩
    ·subst hun;go_simp;exact hK _ _ ⟨l0,true,l2,l3,l4,l5,l6,l7,l8,l9,l10,l11,l12,l13,l14,l15,l16,l17,h7,d7,bn0,rfl,hd9,hd14,hd15,hd16,hd17,(by simp),HS.out⟩
    ·obtain rfl:=hall;subst hun;go_simp;exact hK _ _ ⟨l0,true,true,l3,l4,l5,l6,l7,l8,l9,l10,l11,l12,l13,l14,l15,l16,l17,h7,d7,bn0,rfl,hd9,hd14,hd15,hd16,hd17,(by simp),HS.out⟩
    ·obtain⟨rfl,rfl⟩:=hall;subst hun;go_simp;exact hK _ _ ⟨true,l1,true,true,l4,l5,l6,l7,l8,l9,l10,l11,l12,l13,l14,l15,l16,l17,h7,d7,bn0,rfl,hd9,hd14,hd15,hd16,hd17,(by simp),HS.out⟩
    ·subst hun;obtain rfl:l17=false:=by cases l17 with|false=>rfl|true=>simpa using hd17 rfl
     go_simp;exact hK _ _ ⟨l0,l1,l2,l3,true,l5,l6,l7,l8,l9,l10,l11,l12,l13,l14,l15,l16,false,h7,d7,bn0,rfl,hd9,hd14,hd15,hd16,by simp,(by simp),HS.out⟩
    ·subst hun;go_simp;exact hK _ _ ⟨l0,l1,l2,l3,l4,true,l6,l7,l8,l9,l10,l11,l12,l13,l14,l15,l16,l17,h7,d7,bn0,rfl,hd9,hd14,hd15,hd16,hd17,(by simp),HS.out⟩
    ·obtain rfl:=hall;subst hun;go_simp;exact hK _ _ ⟨l0,l1,l2,l3,l4,true,true,l7,l8,l9,l10,l11,l12,l13,l14,l15,l16,l17,h7,d7,bn0,rfl,hd9,hd14,hd15,hd16,hd17,(by simp),HS.out⟩
    ·obtain⟨rfl,rfl⟩:=hall;subst hun;go_simp;exact hK _ _ ⟨l0,l1,l2,l3,true,l5,true,true,l8,l9,l10,l11,l12,l13,l14,l15,l16,l17,h7,d7,bn0,rfl,hd9,hd14,hd15,hd16,hd17,(by simp),HS.out⟩
    ·obtain rfl:=hall;subst hun;obtain rfl:l9=false:=by cases l9 with|false=>rfl|true=>simpa using hd9 rfl
     obtain rfl:l14=false:=offL hd14 rfl;obtain rfl:l15=false:=by cases l15 with|false=>rfl|true=>simpa using hd15 rfl
     obtain rfl:l16=false:=by cases l16 with|false=>rfl|true=>simpa using hd16 rfl
     obtain rfl:l17=false:=by cases l17 with|false=>rfl|true=>simpa using hd17 rfl
     have e0:=HS.out.rcell (v:=.bool true) 0 (r) rfl (by omega) Hhb1.out;go_simp;exact hK _ _ ⟨l0,l1,l2,l3,l4,l5,l6,true,true,false,l10,l11,l12,l13,false,false,false,false,h7,d7,bn0,rfl,by simp,by simp,by simp,by simp,by simp,(by simp),HS.out⟩
    ·obtain rfl:=hall;subst hun;obtain rfl:l14=false:=offL hd14 rfl;obtain rfl:l15=false:=by cases l15 with|false=>rfl|true=>simpa using hd15 rfl
     obtain rfl:l16=false:=by cases l16 with|false=>rfl|true=>simpa using hd16 rfl
     obtain rfl:l17=false:=by cases l17 with|false=>rfl|true=>simpa using hd17 rfl
     go_simp;exact hK _ _ ⟨l0,l1,l2,l3,l4,l5,l6,l7,true,true,l10,l11,l12,l13,false,false,false,false,h7,d7,bn0,rfl,by simp,by simp,by simp,by simp,by simp,(by simp),HS.out⟩
    ·obtain rfl:=hall;subst hun;obtain rfl:=hd9 rfl;obtain rfl:l17=false:=by cases l17 with|false=>rfl|true=>simpa using hd17 rfl
     go_simp;exact hK _ _ ⟨l0,l1,l2,l3,l4,l5,l6,l7,true,true,true,l11,l12,l13,l14,l15,l16,false,h7,d7,bn0,rfl,by simp,hd14,hd15,hd16,by simp,(by simp),HS.out⟩
    ·obtain rfl:=hall;subst hun;obtain rfl:=hd9 rfl;go_simp;exact hK _ _ ⟨l0,l1,l2,l3,l4,l5,l6,l7,true,true,l10,true,l12,l13,l14,l15,l16,l17,h7,d7,bn0,rfl,by simp,hd14,hd15,hd16,hd17,(by simp),HS.out⟩
    ·obtain⟨rfl,rfl,rfl⟩:=hall;subst hun;obtain rfl:=hd9 rfl;go_simp;exact hK _ _ ⟨l0,l1,l2,l3,l4,l5,l6,l7,true,true,true,true,true,l13,l14,l15,l16,l17,h7,d7,bn0,rfl,by simp,hd14,hd15,hd16,hd17,(by simp),HS.out⟩
    ·obtain⟨rfl,rfl⟩:=hall;subst hun;obtain rfl:=hd9 rfl;obtain rfl:l14=false:=offR hd14 rfl;obtain rfl:l15=false:=by cases l15 with|false=>rfl|true=>simpa using hd15 rfl
     obtain rfl:l16=false:=by cases l16 with|false=>rfl|true=>simpa using hd16 rfl
     obtain rfl:l17=false:=by cases l17 with|false=>rfl|true=>simpa using hd17 rfl
     have e0:=HS.out.rcell (v:=.bool B) 0 (t) rfl (by omega) hB.out;go_simp;exact hK _ _ ⟨l0,l1,l2,l3,l4,l5,l6,l7,true,true,l10,l11,true,true,false,false,false,false,h7,d7,bn0,rfl,by simp,by simp,by simp,by simp,by simp,(by simp),HS.out⟩
    ·obtain⟨rfl,rfl⟩:=hall;subst hun;obtain rfl:=hd9 rfl;obtain rfl:l15=false:=by cases l15 with|false=>rfl|true=>simpa using hd15 rfl
     obtain rfl:l16=false:=by cases l16 with|false=>rfl|true=>simpa using hd16 rfl
     obtain rfl:l17=false:=by cases l17 with|false=>rfl|true=>simpa using hd17 rfl
     go_simp;exact hK _ _ ⟨l0,l1,l2,l3,l4,l5,l6,l7,true,true,l10,l11,l12,true,true,false,false,false,h7,d7,bn0,rfl,by simp,by simp,by simp,by simp,by simp,(by simp),HS.out⟩
    ·obtain rfl:=hall;subst hun;obtain⟨rfl,rfl⟩:=hd14 rfl;obtain rfl:=hd9 rfl;obtain rfl:l16=false:=by cases l16 with|false=>rfl|true=>simpa using hd16 rfl
     obtain rfl:l17=false:=by cases l17 with|false=>rfl|true=>simpa using hd17 rfl
     have hS2:=(HS.out.alloc _ rfl #[.bool B] 4).pick [0,1,3] (by decide);have HhS2:=qh hS2;clear hS2;go_simp;exact hK _ _ ⟨l0,l1,l2,l3,l4,l5,l6,l7,true,true,l10,l11,l12,true,true,true,false,false,h7,d7,_,rfl,by simp,by simp,by simp,by simp,by simp,(by simp),HhS2.out⟩
    ·obtain⟨rfl,rfl,rfl⟩:=hall;subst hun;obtain rfl:=hd9 rfl;obtain rfl:=hd15 rfl;obtain⟨-,rfl⟩:=hd14 rfl;obtain rfl:l17=false:=by cases l17 with|false=>rfl|true=>simpa using hd17 rfl
     have HC:=qh (HS.out.cut 0 rfl r (by omega));refine step_append_lies (a:=⟨_,_⟩) _ (by rfl) _ _ _ (by rfl) w.heap.size 4 i0 (.bool false) 1 1 Try.underlying43 Hhi.out hz0.out Hhz1.out Hhz2.out (by rfl) (by omega) (.slice (some ⟨g,0,none⟩) r c) r ((boolCells (hsS es k)).take (r*1)) (by rfl) (HC.out.row 0 rfl) ⟨bn0,0,none⟩ 1 1 [.bool B] (by rfl) (by rfl) (World.news_of_block (HC.out.box 2 rfl)) ZbJ (by omega) (by unfold maxLen;omega) (by omega) HC.out.size _ rfl ?_;intro g8 c8 w8 hown8 hgrow8 hat8 hlt8;have HS8:=qh (HC.out.app 0 rfl hown8 hgrow8 hat8);clear hown8 hgrow8 hat8;go_simp;exact hK _ _ ⟨l0,l1,l2,true,l4,l5,l6,l7,true,true,l10,l11,l12,true,true,true,true,false,g8,c8,bn0,rfl,by simp,by simp,by simp,by simp,by simp,(by simp),HS8.out⟩
    obtain⟨rfl,rfl,rfl,rfl,rfl,rfl,rfl,rfl,rfl,rfl,rfl,rfl,rfl,rfl,rfl,rfl,rfl,-⟩:=hall;subst hun;go_simp;exact hK _ _ ⟨true,true,true,true,true,true,true,true,true,true,true,true,true,true,true,true,true,true,h7,d7,bn0,rfl,by simp,by simp,by simp,by simp,by simp,(by simp),HS.out⟩
   ·rintro listed a w' ⟨l0,l1,l2,l3,l4,l5,l6,l7,l8,l9,l10,l11,l12,l13,l14,l15,l16,l17,h7,d7,bn0,rfl,hd9,hd14,hd15,hd16,hd17,rfl,hS⟩ hr;have hall:=Zag (by kernel_rfl) rfl hr;obtain rfl:l0=true:=by simpa using hall 0 (by simp)
    obtain rfl:l1=true:=by simpa using hall 1 (by simp)
    obtain rfl:l2=true:=by simpa using hall 2 (by simp)
    obtain rfl:l3=true:=by simpa using hall 3 (by simp)
    obtain rfl:l4=true:=by simpa using hall 4 (by simp)
    obtain rfl:l5=true:=by simpa using hall 5 (by simp)
    obtain rfl:l6=true:=by simpa using hall 6 (by simp)
    obtain rfl:l7=true:=by simpa using hall 7 (by simp)
    obtain rfl:l8=true:=by simpa using hall 8 (by simp)
    obtain rfl:l9=true:=by simpa using hall 9 (by simp)
    obtain rfl:l10=true:=by simpa using hall 10 (by simp)
    obtain rfl:l11=true:=by simpa using hall 11 (by simp)
    obtain rfl:l12=true:=by simpa using hall 12 (by simp)
    obtain rfl:l13=true:=by simpa using hall 13 (by simp)
    obtain rfl:l14=true:=by simpa using hall 14 (by simp)
    obtain rfl:l15=true:=by simpa using hall 15 (by simp)
    obtain rfl:l16=true:=by simpa using hall 16 (by simp)
    obtain rfl:l17=true:=by simpa using hall 17 (by simp)
    clear hall hr hd9 hd14 hd15 hd16 hd17;simp only[↓reduceIte] at hS ⊢;simp only[List.setIfInBounds_toArray,List.set_cons_zero,List.set_cons_succ];have HS5:=qh hS;clear hS;go_wp2;go_roundw
    case rel =>
     refine⟨k+1,r+1,d7,some ⟨h7,0,none⟩,by go_num,rfl,by omega,?_,?_⟩
     ·rw[Hhsn.out,List.length_append,List.length_singleton,Hhrl.out]
     rw[Hhsn.out,show boolCells ((hsS es k).take r++[B])=(boolCells (hsS es k)).take (r*1)++[.bool B] by simp[List.map_take]];exact HS5.out.pick [0] (by decide)
    case measure=>simp[intOf];omega
   refine⟨false,false,false,false,false,false,false,false,false,false,false,false,false,false,false,false,false,false,0,0,0,rfl,by simp,by simp,by simp,by simp,by simp,(by simp),?_⟩;exact HSp.out.drew.pick [0,1,2] (by decide)
  obtain rfl:k=n:=by omega
  have HS:=qh hS;have hm1:m=1:=by rw[← hm,Hhend.out];rfl
  subst hm1;obtain⟨g,c2,he⟩:=HS.out.rowform 0 rfl (by omega);simp only[Value.slice.injEq,true_and] at he;obtain⟨rfl,rfl⟩:=he;have k0:=HS.out.rcell (v:=.bool z) 0 0 rfl (by omega) (by rw[Hhend.out];rfl);clear hS hm hdi hdl;go_wp2;go_ret;exact⟨rfl,HS.out.bel⟩
end Go.Proofs.Ytfanhfcamblghaa
