/-
  The walk over the program's spansOf: a stack of tables.
  Conditions: the list of parts is a valid expression and reads as such; the text is a word.
-/
import Derived.Test.YtehmjmjedopkkaaGreatPo07Tv
import Derived.Test.YtehmjmjedopkkaaGreatPo12Ivp
set_option maxHeartbeats 16000000
set_option maxRecDepth 100000
namespace Go.Proofs.YtehmjmjedopkkaaGreat
open Go.RowKit
def tabs (n:Nat) (ls:List Nat) (ts:List Ex):List Value:=ts.flatMap fun t=>(spC (Zan n (tabE n ls t))).toList
theorem Zdq (T:Nat→Nat→Bool):(spC T).toList.length=81:=by rw[Array.length_toList,Zai]
theorem ZmM (n:Nat) (ls:List Nat):∀ (ts:List Ex) (i k:Nat) (v:Value),i<ts.length→(spC (Zan n (tabE n ls (ts.getD i .zero)))).toList[k]? = some v→(tabs n ls ts)[i*81+k]? = some v
 | t::ts,0,k,v,_,h=>by
  have hk:k<81:=by have:=(List.getElem?_eq_some_iff.1 h).1;rwa [Zdq] at this
  show((spC _).toList++tabs n ls ts)[0*81+k]? = _;rw[List.getElem?_append_left (by rw[Zdq];omega),Nat.zero_mul,Nat.zero_add];exact h
 | t::ts,i+1,k,v,hi,h=>by have ih:=ZmM n ls ts i k v (by simpa using hi) h;show((spC _).toList++tabs n ls ts)[(i+1)*81+k]? = _;rw[List.getElem?_append_right (by rw[Zdq];omega),Zdq,← ih];congr 1;omega
theorem ZiS (n:Nat) (ls:List Nat):∀ (ts:List Ex) (m:Nat),(tabs n ls ts).take (m*81)=tabs n ls (ts.take m)
 | ts,0=>by simp[tabs]
 | [],m+1=>by simp[tabs]
 | t::ts,m+1=>by have ih:=ZiS n ls ts m;show((spC _).toList++tabs n ls ts).take ((m+1)*81)=(spC _).toList++tabs n ls (ts.take m);rw[List.take_append,Zdq,show(m+1)*81-81=m*81 by omega,ih,List.take_of_length_le (by rw[Zdq];omega)]
theorem ZmL (n:Nat) (ls:List Nat) (ts:List Ex) (t:Ex):tabs n ls ts++(spC (Zan n (tabE n ls t))).toList=tabs n ls (ts++[t]):=by simp[tabs]
theorem ZjX {n:Nat} {ls:List Nat} {ts:List Ex} {i m:Nat} (hi:i<ts.length) (hm:ts.length=m):∀ k v,(spC (Zan n (tabE n ls (ts.getD i .zero)))).toList[k]? = some v→i*81+k<m*81∧(tabs n ls ts)[i*81+k]? = some v:=fun k v h=>by
 have hk:k<81:=by have:=(List.getElem?_eq_some_iff.1 h).1;rwa [Zdq] at this
 exact⟨by omega,ZmM n ls ts i k v hi h⟩
theorem Tryz.infoSpans:(Tryz.prog.info? 111).map (fun i=>(i.zero,i.size,i.bytes))=some (some (.agg Tryz.zeroCells111),81,81):=by kernel_rfl
theorem Zj3 (t:Ex) (es:List (Int × Int)) (l:List Nat) (n:Nat) (v:Value) (w:World) (hes:t.post=es) (hok:exOk es=true) (h:Pairs 0 w v es) (ht:isT l) (hwd:wdOk l=true) (hln:l.length=n) :
  Calls Tryz.prog 93 #[v,.string (txB l)] w fun e w'=>e = .returned (.agg (spC (Zan n (tabE n (lsT l) t))))∧Below w.heap.size w w':=by
 obtain⟨hall,hd1,hn1,hn60⟩:=Zcx hok;obtain⟨av,cv,rfl,hc1,hc2,hrd⟩:=h.form;obtain⟨hn8,-⟩:=Zco hwd;rw[hln] at hn8;obtain⟨N,hN⟩:=eI (es.length);have hrun0:runE es []=some [t]:=by rw[← hes];exact ZlR t
 rw[← hN] at hc1 hrd hall hd1 hn1 hn60;rw[← hN];have hz:Tryz.zeroCells111 = spC fun _ _=>false:=by rfl
 have hI:(Tryz.prog.info? 111).map (·.size)=some 81:=by kernel_rfl
 obtain⟨i0,hi,hz0,hz1,hz2⟩:=info_parts Tryz.infoSpans;have Hhi:=qh hi;clear hi;replace hz0:=qh hz0;have Hhz1:=qh hz1;clear hz1;have Hhz2:=qh hz2;clear hz2;have HS0:=qh ((((St.start w).alloc w.heap.size rfl #[.string (txB l)] 9).alloc (w.heap.size+1) (by simp) Tryz.zeroCells111 111).nilRow 111 81);have hsz:=Zcj l;rw[hln] at hsz;have Hrd:=qh hrd;have Hall:=qh hall;have Ht:=qh ht;replace hz:=qh hz;replace hI:=qh hI;have HhN:=qh hN;clear hN;have Hhd1:=qh hd1;clear hd1;have Hhrun0:=qh hrun0;clear hrun0;have Hhwd:=qh hwd;clear hwd;have Hhln:=qh hln;clear hln;have Hhes:=qh hes;clear hes;clear h hrd hall hok ht
 go_enter Tryz.func93, Tryz.ntmps93
 go_wp2
 go_loopg [6,17] N (fun gg st i wr=>∃ (k m c:Nat) (a:Option Addr) (ds:List Ex),gg+k=N∧i = .int .i64 (k:Int)∧st = .slice a m c∧ds.length=m∧(m:Int)=dep es k∧runE (es.drop k) ds.reverse=some [t]∧St w wr [Ent.box w.heap.size #[.string (txB l)] 9,Ent.box (w.heap.size+1) Tryz.zeroCells111 111,Ent.row 111 81 (.slice a m c) m (tabs n (lsT l) ds)])
 case atStart=>exact⟨0,0,0,none,[],by omega,rfl,rfl,rfl,rfl,Hhrun0.out,HS0.out⟩
 case round =>
  obtain⟨k,m,c,a,ds,hgk,rfl,rfl,hm,hdm,hrun,hS⟩:=hrel;by_cases hlt:k<N
  ·have hlt2:(k:Int)<N:=by omega
   obtain⟨b,oo,rfl,-,hbl,hcs⟩:=Hrd.out (by omega);obtain⟨g1,g2⟩:=hcs k hlt;have k1:=(bcell hS.bel b _ hbl).trans g1;have k2:=(bcell hS.bel b _ hbl).trans g2;obtain⟨hp0,hpm⟩:=Hall.out k hlt;have hrs:=Zm6 (es:=es) (k:=k) (by rw[← HhN.out];exact hlt) ds.reverse;rw[hrun] at hrs;have hds:dep es (k+1)=dep es k-Zag (es.getD k (0,0))+1:=rfl;obtain⟨p,hp⟩:=eI (es.getD k (0,0));rw[← hp] at k1 k2 hp0 hpm hrs hds;obtain⟨p1,p2⟩:=p;simp only at k1 k2;have hpo:=Zei hp0;obtain⟨r,hr⟩:=eJ (Zag (p1,p2));rw[hr] at hp0 hpm hds;rw[← hdm] at hds hpm;have hmk:m≤200:=by have:=Zfp es k;omega
   obtain⟨r,rfl⟩:∃ q:Nat,r=((q:Nat):Int):=⟨r.toNat,by omega⟩;obtain⟨s,hmt⟩:∃ s:Nat,(m:Int)-(r:Int)=((s:Nat):Int):=⟨m-r,by omega⟩;have hwt:IntKind.i64.wrap (s:Int)=(s:Int):=IntWalk.i64_in _ (by omega);have HSp:=qh (((hS.alloc wr.heap.size rfl #[.int .i64 p1,.int .i64 p2] 55).alloc (wr.heap.size+1) (by simp) Tryz.zeroCells111 111).alloc (wr.heap.size+1+1) (by simp) Tryz.zeroCells111 111);have Hhrs:=qh hrs;clear hrs;have Hhp:=qh hp;clear hp;have Hhm:=qh hm;clear hm;have Hhds:=qh hds;clear hds;have Hhr:=qh hr;clear hr;have Hhpo:=qh hpo;clear hpo;have Hhdm:=qh hdm;clear hdm;clear hS hcs g1 g2 hrun;have e0:=HSp.out.cell (v:=.int .i64 p1) 3 0 rfl rfl;have e1:=HSp.out.cell (v:=.int .i64 p2) 3 1 rfl rfl;go_wp2_with fail;refine(ZaU p1 p2 _ _ Hhr.out (by omega)).mono ?_;rintro e w1 ⟨rfl,hb1⟩;have HS1:=qh (HSp.out.call hb1);clear hb1 HSp e0 e1;have e0:=HS1.out.cell (v:=.int .i64 p1) 3 0 rfl rfl;have e1:=HS1.out.cell (v:=.int .i64 p2) 3 1 rfl rfl;go_wp2_with fail;refine(ZaU p1 p2 _ _ Hhr.out (by omega)).mono ?_;rintro e w2 ⟨rfl,hb2⟩;have HS2:=qh (HS1.out.call hb2);clear hb2 e0 e1 HS1;have hr3:r=0∨r=1∨r=2:=by have:=Zb7 (p1,p2);rw[Hhr.out] at this;omega
   go_upto_if 28 with fail
   go_cut [17] from 17 to 82 (fun iv wc=>∃ (X Y:Nat→Nat→Bool),iv = .int .i64 (k:Int)∧(r=0∨(r=1∧X=Zan n (tabE n (lsT l) (ds.getD s .zero)))∨(r=2∧X=Zan n (tabE n (lsT l) (ds.getD s .zero))∧Y=Zan n (tabE n (lsT l) (ds.getD (s+1) .zero))))∧St w wc [Ent.box w.heap.size #[.string (txB l)] 9,Ent.box (w.heap.size+1) Tryz.zeroCells111 111,Ent.row 111 81 (.slice a m c) m (tabs n (lsT l) ds),Ent.box wr.heap.size #[.int .i64 p1,.int .i64 p2] 55,Ent.box (wr.heap.size+1) (spC X) 111,Ent.box (wr.heap.size+1+1) (spC Y) 111])
   case first =>
    by_cases hr0:r=0
    ·subst hr0;go_wp2;go_meet;refine⟨fun _ _=>false,fun _ _=>false,rfl,.inl trivial,?_⟩;have h:=HS2.out;rw[hz.out] at h ⊢;exact h
    have hgt:(0:Int)<(r:Int):=by omega
    obtain⟨g,c2,he⟩:=HS2.out.rowform 2 rfl (by omega);simp only[Value.slice.injEq,true_and] at he;obtain⟨rfl,rfl⟩:=he;obtain⟨q,hq⟩:∃ q:Nat,(m:Int)-1=((q:Nat):Int):=⟨m-1,by omega⟩;have hwq:IntKind.i64.wrap (q:Int)=(q:Int):=IntWalk.i64_in _ (by omega);have hqm:(q:Int)<(m:Int):=by omega
    have hsm:(s:Int)<(m:Int):=by omega
    have hrA:=ZjX (n:=n) (ls:=lsT l) (ts:=ds) (i:=s) (m:=m) (by have:=Hhm.out;omega) Hhm.out;have hrB:=ZjX (n:=n) (ls:=lsT l) (ts:=ds) (i:=q) (m:=m) (by have:=Hhm.out;omega) Hhm.out;obtain⟨TA,hTA⟩:=eI (Zan n (tabE n (lsT l) (ds.getD s .zero)));obtain⟨TB,hTB⟩:=eI (Zan n (tabE n (lsT l) (ds.getD q .zero)));rw[← hTA] at hrA;rw[← hTB] at hrB;have HrA:=qh hrA;have HrB:=qh hrB
    have HAB:=qh (show(r=0∨(r=1∧TA=Zan n (tabE n (lsT l) (ds.getD s .zero)))∨(r=2∧TA=Zan n (tabE n (lsT l) (ds.getD s .zero))∧TB=Zan n (tabE n (lsT l) (ds.getD (s+1) .zero)))) from by
     rcases hr3 with h|h|h
     ·exact absurd h hr0
     ·exact .inr (.inl ⟨h,hTA⟩)
     exact .inr (.inr ⟨h,hTA,by rw[hTB,show q=s+1 by omega]⟩))
    clear hrA hrB hTA hTB;go_wp2;refine wp_region_any (by kernel_rfl) ?_
    refine Zao (fun A listed a w'=>∃ (l0 l1 l2 l3 l4 l5 l6 l7 l8 l9 l10 l11:Bool) ,listed=#[l0,l1,l2,l3,l4,l5,l6,l7,l8,l9,l10,l11] ∧
      a=⟨((((((((((A.tmps.setIfInBounds 29 (if l0=true then .slice (some ⟨g,0,none⟩) m c else A.tmps.getD 29 undef)).setIfInBounds 30 (if l1=true then .int .i64 ((s:Nat):Int) else A.tmps.getD 30 undef)).setIfInBounds 31 (if l2=true then .pointer (some ⟨g,s*81,none⟩) else A.tmps.getD 31 undef)).setIfInBounds 32 (if l3=true then .agg (spC TA) else A.tmps.getD 32 undef)).setIfInBounds 33 (if l4=true then .slice (some ⟨g,0,none⟩) m c else A.tmps.getD 33 undef)).setIfInBounds 34 (if l5=true then .slice (some ⟨g,0,none⟩) m c else A.tmps.getD 34 undef)).setIfInBounds 35 (if l6=true then .int .i64 (m:Int) else A.tmps.getD 35 undef)).setIfInBounds 36 (if l7=true then .int .i64 ((q:Nat):Int) else A.tmps.getD 36 undef)).setIfInBounds 37 (if l8=true then .pointer (some ⟨g,q*81,none⟩) else A.tmps.getD 37 undef)).setIfInBounds 38 (if l9=true then .agg (spC TB) else A.tmps.getD 38 undef)),A.defers⟩ ∧
      St w w' [Ent.box w.heap.size #[.string (txB l)] 9,Ent.box (w.heap.size+1) Tryz.zeroCells111 111,Ent.row 111 81 (.slice (some ⟨g,0,none⟩) m c) m (tabs n (lsT l) ds),Ent.box wr.heap.size #[.int .i64 p1,.int .i64 p2] 55,(if l10=true then Ent.box ((wr.heap.size+1)) (spC TA) 111 else Ent.box ((wr.heap.size+1)) (Tryz.zeroCells111) 111),(if l11=true then Ent.box ((wr.heap.size+1+1)) (spC TB) 111 else Ent.box ((wr.heap.size+1+1)) (Tryz.zeroCells111) 111)]) ?_ ?_ ?_
    ·rintro listed a w' ⟨l0,l1,l2,l3,l4,l5,l6,l7,l8,l9,l10,l11,rfl,rfl,hS⟩ i hi;obtain⟨hun,o,ho,hall⟩:=mem_ready.1 hi;have hlt:=(Array.getElem?_eq_some_iff.1 ho).1;refine wpOp_step ho (fun K hK => ?_);clear hi;have HS:=qh hS;clear hS;simp only[w_1,w_2,w_3,w_4,w_5,w_6,w_7,w_8];obtain h|h|h|h|h|h|h|h|h|h|h|h:i=0∨i=1∨i=2∨i=3∨i=4∨i=5∨i=6∨i=7∨i=8∨i=9∨i=10∨i=11:=by simp at hlt;omega
     all_goals subst h
     all_goals simp only[w_5,w_6,w_7,w_9] at ho
     all_goals subst ho
     all_goals simp[Region.binds] at hun hall
     ·subst hun;go_simp;exact hK _ _ ⟨_,_,_,_,_,_,_,_,_,_,_,_,rfl,(by simp<;>omega),HS.out⟩
     ·subst hun;go_simp;exact hK _ _ ⟨_,_,_,_,_,_,_,_,_,_,_,_,rfl,(by simp<;>omega),HS.out⟩
     ·obtain⟨rfl,rfl⟩:=hall;subst hun;go_simp;exact hK _ _ ⟨_,_,_,_,_,_,_,_,_,_,_,_,rfl,(by simp<;>omega),HS.out⟩
     ·obtain rfl:=hall;subst hun;refine ZeQ (a:=⟨_,_⟩) (by rfl) 111 _ (by rfl) g (s*81) (by rfl) (spC TA) _ (HS.out.rangeR 2 rfl (s*81) _ HrA.out) Tryz.underlying111 rfl (by rw[hI.out,Zai]) ?_;go_simp;exact hK _ _ ⟨_,_,_,_,_,_,_,_,_,_,_,_,rfl,(by simp<;>omega),HS.out⟩
     ·subst hun;go_simp;exact hK _ _ ⟨_,_,_,_,_,_,_,_,_,_,_,_,rfl,(by simp<;>omega),HS.out⟩
     ·subst hun;go_simp;exact hK _ _ ⟨_,_,_,_,_,_,_,_,_,_,_,_,rfl,(by simp<;>omega),HS.out⟩
     ·obtain rfl:=hall;subst hun;go_simp;exact hK _ _ ⟨_,_,_,_,_,_,_,_,_,_,_,_,rfl,(by simp<;>omega),HS.out⟩
     ·obtain rfl:=hall;subst hun;go_simp;exact hK _ _ ⟨_,_,_,_,_,_,_,_,_,_,_,_,rfl,(by simp<;>omega),HS.out⟩
     ·obtain⟨rfl,rfl⟩:=hall;subst hun;go_simp;exact hK _ _ ⟨_,_,_,_,_,_,_,_,_,_,_,_,rfl,(by simp<;>omega),HS.out⟩
     ·obtain rfl:=hall;subst hun;refine ZeQ (a:=⟨_,_⟩) (by rfl) 111 _ (by rfl) g (q*81) (by rfl) (spC TB) _ (HS.out.rangeR 2 rfl (q*81) _ HrB.out) Tryz.underlying111 rfl (by rw[hI.out,Zai]) ?_;go_simp;exact hK _ _ ⟨_,_,_,_,_,_,_,_,_,_,_,_,rfl,(by simp<;>omega),HS.out⟩
     ·obtain⟨rfl,rfl,rfl,rfl,-⟩:=hall;subst hun;refine Zf1 (a:=⟨_,_⟩) (by rfl) 111 _ _ (by rfl) (wr.heap.size+1) 111 Tryz.zeroCells111 (spC TA) (by rfl) (by rfl) (HS.out.box 4 rfl) (by rw[hI.out,Zai]) (by rw[hz.out,Zai,Zai]) (Zba _) ?_;go_simp;exact hK _ _ ⟨_,_,_,_,_,_,_,_,_,_,_,_,rfl,(by simp<;>omega),(HS.out.setAll 4 rfl (spC TA))⟩
     obtain⟨rfl,rfl,rfl,rfl,rfl,rfl,rfl,rfl,rfl,rfl,rfl,-⟩:=hall;subst hun;refine Zf1 (a:=⟨_,_⟩) (by rfl) 111 _ _ (by rfl) (wr.heap.size+1+1) 111 Tryz.zeroCells111 (spC TB) (by rfl) (by rfl) (HS.out.box 5 rfl) (by rw[hI.out,Zai]) (by rw[hz.out,Zai,Zai]) (Zba _) ?_;go_simp;exact hK _ _ ⟨_,_,_,_,_,_,_,_,_,_,_,_,rfl,(by simp<;>omega),(HS.out.setAll 5 rfl (spC TB))⟩
    ·rintro listed a w' ⟨l0,l1,l2,l3,l4,l5,l6,l7,l8,l9,l10,l11,rfl,rfl,hS⟩ hr;have hall:=ZaG (by kernel_rfl) rfl hr;obtain rfl:l0=true:=by simpa using hall 0 (by simp<;>omega)
     obtain rfl:l1=true:=by simpa using hall 1 (by simp<;>omega)
     obtain rfl:l2=true:=by simpa using hall 2 (by simp<;>omega)
     obtain rfl:l3=true:=by simpa using hall 3 (by simp<;>omega)
     obtain rfl:l4=true:=by simpa using hall 4 (by simp<;>omega)
     obtain rfl:l5=true:=by simpa using hall 5 (by simp<;>omega)
     obtain rfl:l6=true:=by simpa using hall 6 (by simp<;>omega)
     obtain rfl:l7=true:=by simpa using hall 7 (by simp<;>omega)
     obtain rfl:l8=true:=by simpa using hall 8 (by simp<;>omega)
     obtain rfl:l9=true:=by simpa using hall 9 (by simp<;>omega)
     obtain rfl:l10=true:=by simpa using hall 10 (by simp<;>omega)
     obtain rfl:l11=true:=by simpa using hall 11 (by simp<;>omega)
     clear hall hr ;simp only[↓reduceIte] at hS ⊢;simp only[w_1,w_2,w_3];have HS5:=qh hS;clear hS;go_wp2;go_meet;exact⟨TA,TB,rfl,HAB.out,HS5.out⟩
    refine⟨false,false,false,false,false,false,false,false,false,false,false,false,rfl,(by simp<;>omega),?_⟩;exact HS2.out.drew.pick [0,1,2,3,4,5] (by decide)
   case rest =>
    obtain⟨X,Y,rfl,hXY,hS3⟩:=hcut;obtain⟨wx,hwx⟩:∃ wx:World,wx=wc:=⟨_,rfl⟩;subst hwx;have HS3:=qh (hS3.alloc wx.heap.size rfl Tryz.zeroCells111 111);have HXY:=qh hXY;have e0:=HS3.out.cell (v:=.int .i64 p1) 3 0 rfl rfl;have e1:=HS3.out.cell (v:=.int .i64 p2) 3 1 rfl rfl;clear hS3 hXY HS2
    go_upto_block 2 with fail
    go_cut [17] from 17 to 82 (fun iv wd=>∃ T:Ex,iv = .int .i64 (k:Int)∧stpE (p1,p2) ds.reverse=some ((ds.take s++[T]).reverse)∧St w wd [Ent.box w.heap.size #[.string (txB l)] 9,Ent.box (w.heap.size+1) Tryz.zeroCells111 111,Ent.row 111 81 (.slice a m c) m (tabs n (lsT l) ds),Ent.box wx.heap.size (spC (Zan n (tabE n (lsT l) T))) 111])
    case first =>
     have h1:=Hhr.out;have h2:=Hhpo.out;unfold Zag at h1;rw[if_pos h2] at h1;simp only[pOk,inB,Bool.and_eq_true,Bool.or_eq_true,decide_eq_true_eq,Bool.not_eq_true',decide_eq_false_iff_not] at h2;rcases HXY.out with rfl|⟨rfl,rfl⟩|⟨rfl,rfl,rfl⟩
     ·have hk3:p1=1∨p1=2∨(p1=3∧0≤p2∧p2≤2):=by
       split at h1
       ·omega
       split at h1<;>omega
      have hsm:s=m-0:=by omega
      have hst0:=Zq9 (p:=(p1,p2)) Hhr.out ds;rw[Hhm.out,← hsm] at hst0;have Hhst0:=qh hst0;clear hst0;have Hhsm:=qh hsm;clear hsm;clear h1 h2 hr3;rcases hk3 with rfl|rfl|⟨rfl,hp20,hp22⟩
      ·go_wp2;go_meet;refine⟨.zero,rfl,Hhst0.out,?_⟩;have hS:=HS3.out.pick [0,1,2,6] (by decide);have ez:spC (Zan n (tabE n (lsT l) .zero))=Tryz.zeroCells111:=by rw[hz.out];exact ZcU fun i j _ _=>by simp[Zan,tabE]
       rw[ez];exact hS
      ·
       go_wp2_with (go_at_call 128;go_loud (refine(ZbG 129 #[] n (tabE n (lsT l) .one) _ hn8 (Zbe Tryz.func129 (by kernel_rfl) rfl) (fun i j hij hj u hu=>Zo2 i j u _ (by simp[tabE]) (by omega) (by omega))).mono ?_;rintro e w4 ⟨rfl,hb⟩;have HS4:=qh (HS3.out.call hb);have hst:=Zbb (P:=Tryz.prog) (HS4.out.box 6 rfl) (cs':=spC (Zan n (tabE n (lsT l) .one))) (by rw[Zai,hz.out,Zai]) (Zba _);clear hb));go_meet;exact⟨.one,rfl,Hhst0.out,(HS4.out.setAll 6 rfl (spC (Zan n (tabE n (lsT l) .one)))).pick [0,1,2,6] (by decide)⟩
      obtain⟨c3,rfl⟩:∃ c3:Nat,p2=(c3:Int):=⟨p2.toNat,by omega⟩;obtain⟨cf,hcf⟩:∃ cf:Fin 3,cf.val=c3:=⟨⟨c3,by omega⟩,rfl⟩;go_wp2_with (go_at_call 128;go_loud (refine(ZbG 130 #[.pointer (some ⟨w.heap.size,0,none⟩),.pointer (some ⟨wr.heap.size,0,none⟩)] n (tabE n (lsT l) (.ltr cf)) _ hn8 (Zbe Tryz.func130 (by kernel_rfl) rfl) (fun i j hij hj u hu=>ZnI l _ _ i j c3 u Ht.out Hhwd.out hij (by rw[Hhln.out];exact hj) ((HS3.out.call hu).cell 0 0 rfl rfl) ((HS3.out.call hu).cell 3 1 rfl rfl) _ (by rw[← hcf];rfl))).mono ?_;rintro e w4 ⟨rfl,hb⟩;have HS4:=qh (HS3.out.call hb);have hst:=Zbb (P:=Tryz.prog) (HS4.out.box 6 rfl) (cs':=spC (Zan n (tabE n (lsT l) (.ltr cf)))) (by rw[Zai,hz.out,Zai]) (Zba _);clear hb));go_meet;exact⟨.ltr cf,rfl,by rw[Hhst0.out,← hcf,ZnA],(HS4.out.setAll 6 rfl (spC (Zan n (tabE n (lsT l) (.ltr cf))))).pick [0,1,2,6] (by decide)⟩
     ·have hk7:p1=7∨p1=8:=by
       split at h1
       ·omega
       split at h1<;>omega
      have hsm:m=s+1:=by omega
      have hst0:=Zq8 (p:=(p1,p2)) Hhr.out (t:=s) (by rw[Hhm.out];exact hsm)
      generalize ds.getD s .zero=A at hst0 HS3 HXY
      have Hhst0:=qh hst0;clear hst0;have Hhsm:=qh hsm;clear hsm;clear h1 h2 hr3;rcases hk7 with rfl|rfl
      ·
       go_wp2_with (go_at_call 128;go_loud (refine(ZbG 134 #[.pointer (some ⟨wr.heap.size+1,0,none⟩)] n (tabE n (lsT l) (.neg A)) _ hn8 (Zbe Tryz.func134 (by kernel_rfl) rfl) (fun i j hij hj u hu=>Zo8 (Zan n (tabE n (lsT l) A)) _ i j u hij (by omega) (TabAt.of_box ((HS3.out.call hu).box 4 rfl)) _ rfl)).mono ?_;rintro e w4 ⟨rfl,hb⟩;have HS4:=qh (HS3.out.call hb);have hst:=Zbb (P:=Tryz.prog) (HS4.out.box 6 rfl) (cs':=spC (Zan n (tabE n (lsT l) (.neg A)))) (by rw[Zai,hz.out,Zai]) (Zba _);clear hb));go_meet;exact⟨.neg A,rfl,Hhst0.out,(HS4.out.setAll 6 rfl (spC (Zan n (tabE n (lsT l) (.neg A))))).pick [0,1,2,6] (by decide)⟩
      go_wp2;refine ZbU 111 _ rfl (wr.heap.size+1) 111 _ _ rfl (HS3.out.box 4 rfl) Tryz.underlying111 rfl (by rw[hI.out,Zai]) ?_;go_wp2_with (go_at_call 135;go_loud (refine(ZhU n (Zan n (tabE n (lsT l) A)) _ hn8).mono ?_;rintro e w4 ⟨rfl,hb⟩;have HS4:=qh (HS3.out.call hb);have hst:=Zbb (P:=Tryz.prog) (HS4.out.box 6 rfl) (cs':=spC (Zan n (stB n (Zan n (tabE n (lsT l) A)) n))) (by rw[Zai,hz.out,Zai]) (Zba _);clear hb));go_meet;exact⟨.star A,rfl,Hhst0.out,(HS4.out.setAll 6 rfl (spC (Zan n (stB n (Zan n (tabE n (lsT l) A)) n)))).pick [0,1,2,6] (by decide)⟩
     have hk4:p1=4∨p1=5∨p1=6:=by
      split at h1
      ·omega
      split at h1<;>omega
     have hsm:m=s+1+1:=by omega
     have hst0:=Zq7 (p:=(p1,p2)) Hhr.out (t:=s) (by rw[Hhm.out];exact hsm)
     generalize ds.getD s .zero=A at hst0 HS3 HXY
     generalize ds.getD (s+1) .zero=B at hst0 HS3 HXY
     have Hhst0:=qh hst0;clear hst0;have Hhsm:=qh hsm;clear hsm;clear h1 h2 hr3;rcases hk4 with rfl|rfl|rfl
     ·
      go_wp2;refine ZbU 111 _ rfl (wr.heap.size+1) 111 _ _ rfl (HS3.out.box 4 rfl) Tryz.underlying111 rfl (by rw[hI.out,Zai]) ?_;go_wp2;refine ZbU 111 _ rfl (wr.heap.size+1+1) 111 _ _ rfl (HS3.out.box 5 rfl) Tryz.underlying111 rfl (by rw[hI.out,Zai]) ?_;go_wp2_with (go_at_call 131;go_loud (refine(Zdy n (Zan n (tabE n (lsT l) A)) (Zan n (tabE n (lsT l) B)) (tabE n (lsT l) (.join A B)) _ hn8 (fun i j _ hj=>Zeu hn8 hj)).mono ?_;rintro e w4 ⟨rfl,hb⟩;have HS4:=qh (HS3.out.call hb);have hst:=Zbb (P:=Tryz.prog) (HS4.out.box 6 rfl) (cs':=spC (Zan n (tabE n (lsT l) (.join A B)))) (by rw[Zai,hz.out,Zai]) (Zba _);clear hb));go_meet;exact⟨.join A B,rfl,Hhst0.out,(HS4.out.setAll 6 rfl (spC (Zan n (tabE n (lsT l) (.join A B))))).pick [0,1,2,6] (by decide)⟩
     ·
      go_wp2_with (go_at_call 128;go_loud (refine(ZbG 132 #[.pointer (some ⟨wr.heap.size+1,0,none⟩),.pointer (some ⟨wr.heap.size+1+1,0,none⟩)] n (tabE n (lsT l) (.alt A B)) _ hn8 (Zbe Tryz.func132 (by kernel_rfl) rfl) (fun i j hij hj u hu=>Zmt (Zan n (tabE n (lsT l) A)) (Zan n (tabE n (lsT l) B)) _ _ i j u hij (by omega) (TabAt.of_box ((HS3.out.call hu).box 4 rfl)) (TabAt.of_box ((HS3.out.call hu).box 5 rfl)) _ rfl)).mono ?_;rintro e w4 ⟨rfl,hb⟩;have HS4:=qh (HS3.out.call hb);have hst:=Zbb (P:=Tryz.prog) (HS4.out.box 6 rfl) (cs':=spC (Zan n (tabE n (lsT l) (.alt A B)))) (by rw[Zai,hz.out,Zai]) (Zba _);clear hb));go_meet;exact⟨.alt A B,rfl,Hhst0.out,(HS4.out.setAll 6 rfl (spC (Zan n (tabE n (lsT l) (.alt A B))))).pick [0,1,2,6] (by decide)⟩
     go_wp2_with (go_at_call 128;go_loud (refine(ZbG 133 #[.pointer (some ⟨wr.heap.size+1,0,none⟩),.pointer (some ⟨wr.heap.size+1+1,0,none⟩)] n (tabE n (lsT l) (.both A B)) _ hn8 (Zbe Tryz.func133 (by kernel_rfl) rfl) (fun i j hij hj u hu=>ZoD (Zan n (tabE n (lsT l) A)) (Zan n (tabE n (lsT l) B)) _ _ i j u hij (by omega) (TabAt.of_box ((HS3.out.call hu).box 4 rfl)) (TabAt.of_box ((HS3.out.call hu).box 5 rfl)) _ rfl)).mono ?_;rintro e w4 ⟨rfl,hb⟩;have HS4:=qh (HS3.out.call hb);have hst:=Zbb (P:=Tryz.prog) (HS4.out.box 6 rfl) (cs':=spC (Zan n (tabE n (lsT l) (.both A B)))) (by rw[Zai,hz.out,Zai]) (Zba _);clear hb));go_meet;exact⟨.both A B,rfl,Hhst0.out,(HS4.out.setAll 6 rfl (spC (Zan n (tabE n (lsT l) (.both A B))))).pick [0,1,2,6] (by decide)⟩
    case rest =>
     obtain⟨T,rfl,hst,hS4⟩:=hcut;have hrun:runE (es.drop (k+1)) (ds.take s++[T]).reverse=some [t]:=by have h:=Hhrs.out;rw[hst] at h;exact h.symm
     have hsm:s≤m:=by omega
     have hl1:(ds.take s++[T]).length=s+1:=by rw[List.length_append,List.length_take,Hhm.out,List.length_singleton];omega
     have hl2:((s+1:Nat):Int)=dep es (k+1):=by have:=Hhds.out;omega
     have hSc:=hS4.cut 2 rfl s hsm;rw[ZiS] at hSc;obtain⟨sa,rfl⟩:∃ z,z=a:=⟨_,rfl⟩;have ht0:(0:Int)≤(s:Int):=by omega
     obtain⟨a',c',he,hcc,hcm⟩:=hS4.rowany 2 rfl;simp only[Value.slice.injEq,true_and] at he;obtain⟨rfl,rfl⟩:=he;have htc:(s:Int)≤(c:Int):=by omega
     have HS5:=qh hSc;have Hhrun:=qh hrun;clear hrun;have Hhl1:=qh hl1;clear hl1;have Hhl2:=qh hl2;clear hl2;have Hhst:=qh hst;clear hst;clear hS4 hSc HS3 HXY e0 e1 hr3;go_wp2;refine wp_region_any (by kernel_rfl) ?_
     refine Zao (fun A listed a w'=>∃ (l0 l1 l2 l3 l4 l5 l6:Bool) (bn0:Nat) (g7:Nat) (c7:Nat),listed=#[l0,l1,l2,l3,l4,l5,l6]∧(l6=true→l0=true∧l5=true) ∧
       a=⟨(((((((A.tmps.setIfInBounds 76 (if l0=true then .slice sa m c else A.tmps.getD 76 undef)).setIfInBounds 77 (if l1=true then .int .i64 ((s:Nat):Int) else A.tmps.getD 77 undef)).setIfInBounds 78 (if l2=true then .slice sa s c else A.tmps.getD 78 undef)).setIfInBounds 79 (if l3=true then .agg (spC (Zan n (tabE n (lsT l) T))) else A.tmps.getD 79 undef)).setIfInBounds 80 (if l4=true then .slice (some ⟨bn0,0,none⟩) 1 1 else A.tmps.getD 80 undef)).setIfInBounds 81 (if l5=true then .slice (some ⟨g7,0,none⟩) (s+1) c7 else A.tmps.getD 81 undef)).setIfInBounds 6 (if l6=true then .slice (some ⟨g7,0,none⟩) (s+1) c7 else A.tmps.getD 6 undef)),A.defers⟩ ∧
       St w w' [Ent.box w.heap.size #[.string (txB l)] 9,Ent.box (w.heap.size+1) Tryz.zeroCells111 111,(if l5=true then Ent.row 111 81 (.slice (some ⟨g7,0,none⟩) (s+1) c7) (s+1) (tabs n (lsT l) (ds.take s)++(spC (Zan n (tabE n (lsT l) T))).toList) else Ent.row 111 81 (.slice sa s c) s (tabs n (lsT l) (ds.take s))),Ent.box wx.heap.size (spC (Zan n (tabE n (lsT l) T))) 111,(if l4=true then Ent.box bn0 (spC (Zan n (tabE n (lsT l) T))) 111 else Ent.nil)]) ?_ ?_ ?_
     ·rintro listed a w' ⟨l0,l1,l2,l3,l4,l5,l6,bn0,g7,c7,rfl,hd6,rfl,hS⟩ i hi;obtain⟨hun,o,ho,hall⟩:=mem_ready.1 hi;have hlt:=(Array.getElem?_eq_some_iff.1 ho).1;refine wpOp_step ho (fun K hK => ?_);clear hi;have HS:=qh hS;clear hS;simp only[w_1,w_2,w_3,w_4,w_5,w_6,w_7,w_8];obtain h|h|h|h|h|h|h:i=0∨i=1∨i=2∨i=3∨i=4∨i=5∨i=6:=by simp at hlt;omega
      all_goals subst h
      all_goals simp only[w_5,w_6,w_7,w_9] at ho
      all_goals subst ho
      all_goals simp[Region.binds] at hun hall
      ·subst hun;obtain rfl:l6=false:=offL hd6 rfl;go_simp;exact hK _ _ ⟨_,_,_,_,_,_,_,bn0,g7,c7,rfl,by simp,(by simp),HS.out⟩
      ·subst hun;go_simp;exact hK _ _ ⟨_,_,_,_,_,_,_,bn0,g7,c7,rfl,hd6,(by simp),HS.out⟩
      ·obtain⟨rfl,rfl⟩:=hall;subst hun;go_simp;exact hK _ _ ⟨_,_,_,_,_,_,_,bn0,g7,c7,rfl,hd6,(by simp),HS.out⟩
      ·subst hun;refine ZeQ (a:=⟨_,_⟩) (by rfl) 111 _ (by rfl) wx.heap.size 0 (by rfl) (spC (Zan n (tabE n (lsT l) T))) _ (HS.out.rangeB 3 rfl) Tryz.underlying111 rfl (by rw[hI.out,Zai]) ?_;go_simp;exact hK _ _ ⟨_,_,_,_,_,_,_,bn0,g7,c7,rfl,hd6,(by simp),HS.out⟩
      ·obtain rfl:=hall;subst hun;have hS2:=(HS.out.alloc _ rfl (spC (Zan n (tabE n (lsT l) T))) 111).pick [0,1,2,3,5] (by decide);have HhS2:=qh hS2;clear hS2;refine Zj0 (a:=⟨_,_⟩) (by rfl) 140 111 _ (by rfl) (spC (Zan n (tabE n (lsT l) T))) (by rfl) i0 _ 81 Tryz.underlying140 Hhi.out hz0.out Hhz1.out (Zai _) (by omega) (by omega) ?_;go_simp;exact hK _ _ ⟨_,_,_,_,_,_,_,_,g7,c7,rfl,hd6,(by simp),HhS2.out⟩
      ·obtain⟨rfl,rfl⟩:=hall;subst hun;obtain rfl:l6=false:=offR hd6 rfl;refine step_append_lies (a:=⟨_,_⟩) _ (by rfl) _ _ _ (by rfl) w.heap.size 111 i0 (.agg Tryz.zeroCells111) 81 81 Tryz.underlying140 Hhi.out hz0.out Hhz1.out Hhz2.out (by rfl) (by omega) (.slice sa s c) s (tabs n (lsT l) (ds.take s)) (by rfl) (HS.out.row 2 rfl) ⟨bn0,0,none⟩ 1 1 (spC (Zan n (tabE n (lsT l) T))).toList (by rfl) (Zdq _) (World.news_of_block (HS.out.box 4 rfl)) (Zba _) (by omega) (by unfold maxLen;omega) (by omega) HS.out.size _ rfl ?_;intro g8 c8 w8 hown8 hgrow8 hat8 hlt8;have HS8:=qh (HS.out.app 2 rfl hown8 hgrow8 hat8);clear hown8 hgrow8 hat8;go_simp;exact hK _ _ ⟨_,_,_,_,_,_,_,bn0,g8,c8,rfl,by simp,(by simp),HS8.out⟩
      obtain⟨rfl,rfl,rfl,rfl,rfl,rfl,-⟩:=hall;subst hun;go_simp;exact hK _ _ ⟨_,_,_,_,_,_,_,bn0,g7,c7,rfl,by simp,(by simp),HS.out⟩
     ·rintro listed a w' ⟨l0,l1,l2,l3,l4,l5,l6,bn0,g7,c7,rfl,hd6,rfl,hS⟩ hr;obtain⟨rfl,rfl,rfl,rfl,rfl,rfl,rfl,-⟩:=zA (ZaG (by kernel_rfl) rfl hr) rfl;clear hr hd6;simp only[↓reduceIte] at hS ⊢;simp only[w_1,w_2,w_3];have HS9:=qh (hS.pick [0,1,2] (by decide));clear hS;go_wp2
      go_roundg (N-(k+1))
      case measure=>omega
      case rel=>exact⟨k+1,s+1,c7,some ⟨g7,0,none⟩,ds.take s++[T],by omega,by go_num,rfl,Hhl1.out,Hhl2.out,Hhrun.out,by rw[← ZmL];exact HS9.out⟩
     refine⟨false,false,false,false,false,false,false,0,0,0,rfl,by simp,(by simp),?_⟩;exact HS5.out.drew.pick [0,1,2,3,4] (by decide)
  obtain rfl:k=N:=by omega
  have hm1:m=1:=by have:=Hhd1.out;omega
  subst hm1;have hdr:es.drop k=[]:=by rw[HhN.out];exact List.drop_length
  rw[hdr] at hrun
  have hdt:ds=[t]:=by
   have h1:ds.reverse=[t]:=Option.some.inj hrun;have h2:=congrArg List.reverse h1
   rwa [List.reverse_reverse] at h2
  obtain⟨g,c2,he⟩:=hS.rowform 2 rfl (by omega);simp only[Value.slice.injEq,true_and] at he;obtain⟨rfl,rfl⟩:=he;have hrA:=ZjX (n:=n) (ls:=lsT l) (ts:=ds) (i:=0) (m:=1) (by omega) hm;have hg0:ds.getD 0 .zero=t:=by rw[hdt];rfl
  rw[hg0,Nat.zero_mul] at hrA;have HS:=qh hS;have HrA:=qh hrA;have hst:=Zbb (P:=Tryz.prog) (HS.out.box 1 rfl) (cs':=spC (Zan n (tabE n (lsT l) t))) (by rw[Zai,hz.out,Zai]) (Zba _);clear hS hrun hdm hm hlt hdr hdt hg0 hrA;go_wp2;refine ZoP 111 _ rfl g 0 rfl (spC (Zan n (tabE n (lsT l) t))) _ (HS.out.rangeR 2 rfl 0 _ HrA.out) Tryz.underlying111 rfl (by rw[hI.out,Zai]) ?_;go_wp2;have HS8:=qh (HS.out.setAll 1 rfl (spC (Zan n (tabE n (lsT l) t))));refine bodyPost_ret (v:=.agg (spC (Zan n (tabE n (lsT l) t)))) (ZbJ Tryz.results93 _ _ _ (w.heap.size+1) 111 (spC (Zan n (tabE n (lsT l) t))) _ rfl (HS8.out.box 1 rfl) Tryz.underlying111 rfl (by rw[hI.out,Zai])) rfl ?_;exact⟨rfl,HS8.out.bel⟩
def stkB (es:List (Int × Int)):Nat→List Nat
 | 0=>[]
 | k+1=>(stkB es k).take ((stkB es k).length-(Zag (es.getD k (0,0))).toNat)++[if (Zag (es.getD k (0,0))).toNat=0 then k else(stkB es k).getD ((stkB es k).length-(Zag (es.getD k (0,0))).toNat) 0]
def begB (es:List (Int × Int)) (k:Nat):Nat:=if (Zag (es.getD k (0,0))).toNat=0 then k else(stkB es k).getD ((stkB es k).length-(Zag (es.getD k (0,0))).toNat) 0
theorem ZiV (es:List (Int × Int)) (k:Nat):stkB es (k+1)=(stkB es k).take ((stkB es k).length-(Zag (es.getD k (0,0))).toNat)++[begB es k]:=rfl
theorem Zlr {es:List (Int × Int)} {k:Nat}:exAt es k=true↔0≤Zag (es.getD k (0,0))∧Zag (es.getD k (0,0))≤dep es k:=by simp only[exAt,Bool.and_eq_true,decide_eq_true_eq]
theorem ZkV {es:List (Int × Int)}:∀ k:Nat,(∀ j,j<k→exAt es j=true)→((stkB es k).length:Int)=dep es k
 | 0,_=>rfl
 | k+1,h=>by
  have ih:=ZkV k fun j hj=>h j (by omega)
  have h1:=Zlr.1 (h k (by omega));rw[ZiV,List.length_append,List.length_take,List.length_singleton];show _=dep es k-Zag (es.getD k (0,0))+1;omega
def natC (l:List Nat):List Value:=intCells (l.map fun (x:Nat)=>((x:Nat):Int))
theorem Zqm {l:List Nat} {k:Nat} (hk:k<l.length):(natC l)[k]? = some (.int .i64 ((l.getD k 0:Nat):Int)):=by simp[natC,intCells,hk]
theorem Znx (l:List Nat) (m:Nat):(natC l).take (m*1)=natC (l.take m):=by simp[natC,intCells,List.map_take]
theorem Zjb (l:List Nat) (x:Nat):natC l++[.int .i64 ((x:Nat):Int)]=natC (l++[x]):=by simp[natC,intCells]
def RSt (es:List (Int × Int)) (n:Nat) (w:World) (e:Ending) (w':World):Prop :=
 ((∀ k,k<n→exAt es k=true)∧∃ g b,e = .returned (.tuple #[.slice (some ⟨g,0,none⟩) n n,.bool b])∧(b=true↔dep es n=1)∧St w w' [Ent.row 3 1 (.slice (some ⟨g,0,none⟩) n n) n (intCells (clsL n (begB es)))]) ∨
 ((¬ ∀ k,k<n→exAt es k=true)∧e = .returned (.tuple #[.slice none 0 0,.bool false])∧Below w.heap.size w w')
theorem Zg6 (es:List (Int × Int)) (v:Value) (w:World) (hlen:es.length≤1000) (h:Pairs 0 w v es) :
  Calls Tryz.prog 51 #[v] w fun e w'=>RSt es es.length w e w':=by
 obtain⟨av,cv,rfl,hc1,hc2,hrd⟩:=h.form;obtain⟨i0,hi,hz0,hz1,hz2⟩:=info_parts Tryz.infoInt;obtain⟨n,hn⟩:=eI (es.length);rw[← hn] at hc1 hlen hrd;rw[← hn];have Hrd:=qh hrd;have Hhi:=qh hi;clear hi;replace hz0:=qh hz0;have Hhz1:=qh hz1;clear hz1;have Hhz2:=qh hz2;clear hz2;replace hn:=qh hn;clear h hrd
 go_enter Tryz.func51, Tryz.ntmps51
 go_wp2_with (at_make;refine wpList_make_full _ rfl _ _ 59 rfl _ 3 i0 (.int .i64 0) 1 Tryz.underlying59 Hhi.out hz0.out Hhz1.out .i64 .i64 _ _ n rfl rfl rfl rfl (by rw[Hhz2.out];omega) (by unfold maxLen;omega) (Nat.le_refl _) ?_;intro w1 hown hgrow;have HS1:=qh ((St.start w).made ((Below.refl _ _).grown hgrow (Nat.le_refl _) (fun _ h=>by cases h)) (Zgn (begB es) hown));clear hown hgrow)
 go_loopw [5,13] (fun st i wr=>∃ (k m c:Nat) (a:Option Addr),i = .int .i64 (k:Int)∧st = .slice a m c∧k≤n∧(∀ j,j<k→exAt es j=true)∧(stkB es k).length=m∧St w wr [Ent.row 3 1 (.slice (some ⟨w.heap.size,0,none⟩) n n) n (intCells (padL n k (begB es))),Ent.row 3 1 (.slice a m c) m (natC (stkB es k))])
  (fun _ i _=>n-(intOf i).toNat)
 case atStart=>exact⟨0,0,0,none,rfl,rfl,Nat.zero_le _,fun j hj=>absurd hj (by omega),rfl,HS1.out.nilRow 3 1⟩
 case round =>
  obtain⟨k,m,c,a,rfl,rfl,hk,hall,hm,hS⟩:=hrel;have hdl:=ZkV k hall;have hdi:=Zfp es k;by_cases hlt:k<n
  ·have hlt2:(k:Int)<n:=by omega
   obtain⟨b,o,rfl,-,hbl,hcs⟩:=Hrd.out (by omega);obtain⟨g1,g2⟩:=hcs k hlt;have k1:=(bcell hS.bel b _ hbl).trans g1;have k2:=(bcell hS.bel b _ hbl).trans g2;obtain⟨p,hp⟩:=eI (es.getD k (0,0));have hex:=Zlr (es:=es) (k:=k);have hbg:begB es k=if (Zag (es.getD k (0,0))).toNat=0 then k else(stkB es k).getD ((stkB es k).length-(Zag (es.getD k (0,0))).toNat) 0:=rfl;have hsn:=ZiV es k;rw[← hp] at k1 k2 hex hbg hsn;obtain⟨p1,p2⟩:=p;simp only at k1 k2;have hpi:=Zb7 (p1,p2);obtain⟨r,hr⟩:=eJ (Zag (p1,p2));rw[hr] at hex hpi hbg hsn;rw[hm] at hdl hbg hsn;have hmk:m≤2*k:=by omega
   have hmr:m<r∨r≤m:=by omega
   have HS:=qh hS;have Hall:=qh hall;have HSp:=qh (hS.alloc _ rfl #[.int .i64 p1,.int .i64 p2] 55);replace hex:=qh hex;replace hbg:=qh hbg;have Hhsn:=qh hsn;clear hsn;have Hhp:=qh hp;clear hp;have Hhdl:=qh hdl;clear hdl;have Hhdi:=qh hdi;clear hdi;have Hhm:=qh hm;clear hm;clear hS hall hcs g1 g2;cases hpo:pOk (p1,p2)
   ·have hno:r = -1:=by rw[← hr];unfold Zag;rw[if_neg (by rw[hpo];simp)]
    have Hhr:=qh hr;clear hr;have Hhpo:=qh hpo;clear hpo;have hbad:¬ ∀ k,k<n→exAt es k=true:=fun h=>by have:=(hex.out.1 (h k hlt)).1;omega
    replace hbad:=qh hbad;have e0:=HSp.out.cell (v:=.int .i64 p1) 2 0 rfl rfl;have e1:=HSp.out.cell (v:=.int .i64 p2) 2 1 rfl rfl;go_wp2_with fail;refine(Zc0 p1 p2 _ _ Hhpo.out).mono ?_;rintro e w2 ⟨rfl,hb2⟩;have HS2:=qh (HSp.out.call hb2);clear hb2;go_wp2
    go_ret2
    exact .inr ⟨hbad.out,rfl,HS2.out.bel⟩
   have hno:0≤r:=by
    rw[← hr];unfold Zag;rw[if_pos hpo]
    split<;>(try split)<;>omega
   have Hhr:=qh hr;clear hr;have Hhpo:=qh hpo;clear hpo;have e0:=HSp.out.cell (v:=.int .i64 p1) 2 0 rfl rfl;have e1:=HSp.out.cell (v:=.int .i64 p2) 2 1 rfl rfl;go_wp2_with fail;refine(Zc0 p1 p2 _ _ Hhpo.out).mono ?_;rintro e w2 ⟨rfl,hb2⟩;have HS2:=qh (HSp.out.call hb2);clear hb2 e0 e1;have e0:=HS2.out.cell (v:=.int .i64 p1) 2 0 rfl rfl;have e1:=HS2.out.cell (v:=.int .i64 p2) 2 1 rfl rfl;go_wp2_with fail;refine(ZaU p1 p2 _ _ Hhr.out hno).mono ?_;rintro e w3 ⟨rfl,hb3⟩;have HS3:=qh (HS2.out.call hb3);clear hb3 e0 e1;rcases hmr with hmr|hmr
   ·have hbad:¬ ∀ k,k<n→exAt es k=true:=fun h=>by have:=(hex.out.1 (h k hlt)).2;have:=Hhdl.out;omega
    replace hbad:=qh hbad;have q1:((m:Int)<r)=True:=by simp[hmr]
    go_wp2
    go_ret2
    exact .inr ⟨hbad.out,rfl,HS3.out.bel⟩
   have q1:((m:Int)<r)=False:=by simp;omega
   have hexk:exAt es k=true:=hex.out.2 ⟨hno,by have:=Hhdl.out;omega⟩;have Hhexk:=qh hexk;clear hexk;have hS4:=HS3.out.store 0 rfl k (.int .i64 ((k:Nat):Int));rw[Zk7 (begB es) hlt,ZfJ] at hS4;have HS4:=qh hS4;have f0:=HS3.out.rfr 0 k rfl;have k0:=HS3.out.rcell (v:=.int .i64 ((0:Nat):Int)) 0 k rfl (by omega) (by rw[Zk7 (begB es) hlt];exact Zdb _ _);have e0:=HS4.out.cell (v:=.int .i64 p1) 2 0 rfl rfl;have e1:=HS4.out.cell (v:=.int .i64 p2) 2 1 rfl rfl;clear hS4;go_wp2_with fail;refine(ZaU p1 p2 _ _ Hhr.out hno).mono ?_;rintro e w5 ⟨rfl,hb5⟩;have HS5:=qh (HS4.out.call hb5);clear hb5 e0 e1 f0 k0;by_cases hr0:r=0
   ·subst hr0;have hbk:begB es k=k:=by rw[hbg.out];rfl
    have hsk:stkB es (k+1)=stkB es k++[k]:=by rw[Hhsn.out,hbk];congr 1;have:=Hhm.out;show(stkB es k).take (m-0)=_;rw[← this];exact List.take_length
    have Hhbk:=qh hbk;clear hbk;have Hhsk:=qh hsk;clear hsk;have HSa:=qh (HS5.out.alloc_ (.cells #[.int .i64 ((k:Nat):Int)] 3));have HRw:=qh (HSa.out.row 1 rfl);have x1:=HS5.out.rcell (v:=.int .i64 ((k:Nat):Int)) 0 k rfl (by omega) (Zdb _ _);go_wp2_with (at_builtin;refine wpList_append_lies _ rfl _ _ _ rfl _ 3 i0 (.int .i64 0) 1 8 Tryz.underlying59 Hhi.out hz0.out Hhz1.out Hhz2.out rfl (by omega) _ m _ rfl HRw.out ⟨w5.heap.size,0,none⟩ 1 1 [.int .i64 ((k:Nat):Int)] rfl rfl (World.news_of_block (heap_alloc_new w5 _)) Zbn (by omega) (by unfold maxLen;omega) (by omega) HSa.out.size _ rfl ?_;intro g6 c6 w6 hown6 hgrow6 hat6 hlt6;have HS6:=qh (HSa.out.app 1 rfl hown6 hgrow6 hat6);clear hown6 hgrow6 hat6 hlt6);go_roundw
    case rel =>
     refine⟨k+1,m+1,c6,some ⟨g6,0,none⟩,by go_num,rfl,by omega,fun j hj => ?_,?_,?_⟩
     ·by_cases e:j=k
      ·rw[e];exact Hhexk.out
      exact Hall.out j (by omega)
     ·rw[Hhsk.out,List.length_append,List.length_singleton,Hhm.out]
     rw[Hhsk.out,← Zjb,← ZfK,Hhbk.out];exact HS6.out.pick [0,1] (by decide)
    case measure=>simp[intOf];omega
   have hrp:0<r:=by omega
   clear hr0;obtain⟨q,rfl⟩:∃ q:Nat,r=((q:Nat):Int):=⟨r.toNat,by omega⟩;have hq0:0<q:=by omega
   obtain⟨t,hmt⟩:∃ t:Nat,(m:Int)-(q:Int)=((t:Nat):Int):=⟨m-q,by omega⟩;obtain⟨g,c2,he⟩:=HS5.out.rowform 1 rfl (by omega);simp only[Value.slice.injEq,true_and] at he;obtain⟨rfl,rfl⟩:=he;obtain⟨hcc,hcm⟩:=HS5.out.rowcap 1 rfl;have ht0:(0:Int)≤(t:Int):=by omega
   have htc:(t:Int)≤(c:Int):=by omega
   have htm:(t:Int)<(m:Int):=by omega
   have hwt:IntKind.i64.wrap (t:Int)=(t:Int):=IntWalk.i64_in _ (by omega);obtain⟨B,hBd⟩:=eI ((stkB es k).getD t 0);have hB:(natC (stkB es k))[t]? = some (.int .i64 ((B:Nat):Int)):=by rw[hBd];exact Zqm (by rw[Hhm.out];omega)
   have htq:m-q=t:=by omega
   have hbk:begB es k=B:=by rw[hbg.out,Int.toNat_natCast,if_neg (by omega),htq,hBd]
   have hsk:stkB es (k+1)=(stkB es k).take t++[B]:=by rw[Hhsn.out,Int.toNat_natCast,htq,hbk]
   have htl:((stkB es k).take t).length=t:=by rw[List.length_take,Hhm.out];omega
   have Hhbk:=qh hbk;clear hbk;have Hhsk:=qh hsk;clear hsk;have Hhtl:=qh htl;clear htl;replace hB:=qh hB;have HhBd:=qh hBd;clear hBd;go_wp2;refine wp_region_any (by kernel_rfl) ?_
   refine Zao (fun A listed a w'=>∃ (l0 l1 l2 l3 l4 l5 l6 l7 l8 l9 l10 l11 l12 l13 l14 l15 l16 l17 l18 l19:Bool) ,listed=#[l0,l1,l2,l3,l4,l5,l6,l7,l8,l9,l10,l11,l12,l13,l14,l15,l16,l17,l18,l19]∧(l17=true→l2=true∧l3=true∧l9=true∧l10=true) ∧
     a=⟨(((((((((((((((((((A.tmps.setIfInBounds 35 (if l0=true then .slice (some ⟨w.heap.size,0,none⟩) n n else A.tmps.getD 35 undef)).setIfInBounds 36 (if l1=true then .int .i64 ((k:Nat):Int) else A.tmps.getD 36 undef)).setIfInBounds 37 (if l2=true then .slice (some ⟨g,0,none⟩) m c else A.tmps.getD 37 undef)).setIfInBounds 38 (if l3=true then .slice (some ⟨g,0,none⟩) m c else A.tmps.getD 38 undef)).setIfInBounds 39 (if l4=true then .int .i64 (m:Int) else A.tmps.getD 39 undef)).setIfInBounds 40 (if l5=true then .agg #[.int .i64 p1,.int .i64 p2] else A.tmps.getD 40 undef)).setIfInBounds 41 (if l6=true then .int .i64 ((q:Nat):Int) else A.tmps.getD 41 undef)).setIfInBounds 42 (if l7=true then .int .i64 ((t:Nat):Int) else A.tmps.getD 42 undef)).setIfInBounds 43 (if l8=true then .slice (some ⟨g,0,none⟩) t c else A.tmps.getD 43 undef)).setIfInBounds 44 (if l9=true then .slice (some ⟨g,0,none⟩) m c else A.tmps.getD 44 undef)).setIfInBounds 45 (if l10=true then .slice (some ⟨g,0,none⟩) m c else A.tmps.getD 45 undef)).setIfInBounds 46 (if l11=true then .int .i64 (m:Int) else A.tmps.getD 46 undef)).setIfInBounds 47 (if l12=true then .agg #[.int .i64 p1,.int .i64 p2] else A.tmps.getD 47 undef)).setIfInBounds 48 (if l13=true then .int .i64 ((q:Nat):Int) else A.tmps.getD 48 undef)).setIfInBounds 49 (if l14=true then .int .i64 ((t:Nat):Int) else A.tmps.getD 49 undef)).setIfInBounds 50 (if l15=true then .pointer (some ⟨g,t,none⟩) else A.tmps.getD 50 undef)).setIfInBounds 51 (if l16=true then .int .i64 ((B:Nat):Int) else A.tmps.getD 51 undef)).setIfInBounds 5 (if l17=true then .slice (some ⟨g,0,none⟩) t c else A.tmps.getD 5 undef)).setIfInBounds 52 (if l18=true then .pointer (some ⟨w.heap.size,k,none⟩) else A.tmps.getD 52 undef)),A.defers⟩ ∧
     St w w' [(if l19=true then Ent.row 3 1 (.slice (some ⟨w.heap.size,0,none⟩) n n) n ((intCells (padT n k (begB es) k)).set (k) (.int .i64 ((B:Nat):Int))) else Ent.row 3 1 (.slice (some ⟨w.heap.size,0,none⟩) n n) n (intCells (padT n k (begB es) k))),Ent.row 3 1 (.slice (some ⟨g,0,none⟩) m c) m (natC (stkB es k)),Ent.box wr.heap.size #[.int .i64 p1,.int .i64 p2] 55]) ?_ ?_ ?_
   ·rintro listed a w' ⟨l0,l1,l2,l3,l4,l5,l6,l7,l8,l9,l10,l11,l12,l13,l14,l15,l16,l17,l18,l19,rfl,hd17,rfl,hS⟩ i hi;obtain⟨hun,o,ho,hall⟩:=mem_ready.1 hi;have hlt:=(Array.getElem?_eq_some_iff.1 ho).1;refine wpOp_step ho (fun K hK => ?_);clear hi;have HS:=qh hS;clear hS;simp only[w_1,w_2,w_3,w_4,w_5,w_6,w_7,w_8];obtain h|h|h|h|h|h|h|h|h|h|h|h|h|h|h|h|h|h|h|h:i=0∨i=1∨i=2∨i=3∨i=4∨i=5∨i=6∨i=7∨i=8∨i=9∨i=10∨i=11∨i=12∨i=13∨i=14∨i=15∨i=16∨i=17∨i=18∨i=19:=by simp at hlt;omega
    all_goals subst h
    all_goals simp only[w_5,w_6,w_7,w_9] at ho
    all_goals subst ho
    all_goals simp[Region.binds] at hun hall
    ·subst hun;go_simp;exact hK _ _ ⟨_,_,_,_,_,_,_,_,_,_,_,_,_,_,_,_,_,_,_,_,rfl,hd17,(by simp),HS.out⟩
    ·subst hun;go_simp;exact hK _ _ ⟨_,_,_,_,_,_,_,_,_,_,_,_,_,_,_,_,_,_,_,_,rfl,hd17,(by simp),HS.out⟩
    ·subst hun;obtain rfl:l17=false:=by cases l17 with|false=>rfl|true=>simpa using hd17 rfl
     go_simp;exact hK _ _ ⟨_,_,_,_,_,_,_,_,_,_,_,_,_,_,_,_,_,_,_,_,rfl,by simp,(by simp),HS.out⟩
    ·subst hun;obtain rfl:l17=false:=by cases l17 with|false=>rfl|true=>simpa using hd17 rfl
     go_simp;exact hK _ _ ⟨_,_,_,_,_,_,_,_,_,_,_,_,_,_,_,_,_,_,_,_,rfl,by simp,(by simp),HS.out⟩
    ·obtain rfl:=hall;subst hun;go_simp;exact hK _ _ ⟨_,_,_,_,_,_,_,_,_,_,_,_,_,_,_,_,_,_,_,_,rfl,hd17,(by simp),HS.out⟩
    ·subst hun;have e0:=HS.out.cell (v:=.int .i64 p1) 2 0 rfl rfl;have e1:=HS.out.cell (v:=.int .i64 p2) 2 1 rfl rfl;go_simp;exact hK _ _ ⟨_,_,_,_,_,_,_,_,_,_,_,_,_,_,_,_,_,_,_,_,rfl,hd17,(by simp),HS.out⟩
    ·obtain rfl:=hall;subst hun;go_simp
     go_at_call 65
     refine(ZaU p1 p2 _ _ Hhr.out (by omega)).mono ?_;rintro e u1 ⟨rfl,hb⟩;have hS2:=HS.out.call hb;have HhS2:=qh hS2;clear hS2;go_simp;exact hK _ _ ⟨_,_,_,_,_,_,_,_,_,_,_,_,_,_,_,_,_,_,_,_,rfl,hd17,(by simp),HhS2.out⟩
    ·obtain⟨rfl,rfl⟩:=hall;subst hun;go_simp;exact hK _ _ ⟨_,_,_,_,_,_,_,_,_,_,_,_,_,_,_,_,_,_,_,_,rfl,hd17,(by simp),HS.out⟩
    ·obtain⟨rfl,rfl⟩:=hall;subst hun;go_simp;exact hK _ _ ⟨_,_,_,_,_,_,_,_,_,_,_,_,_,_,_,_,_,_,_,_,rfl,hd17,(by simp),HS.out⟩
    ·subst hun;obtain rfl:l17=false:=by cases l17 with|false=>rfl|true=>simpa using hd17 rfl
     go_simp;exact hK _ _ ⟨_,_,_,_,_,_,_,_,_,_,_,_,_,_,_,_,_,_,_,_,rfl,by simp,(by simp),HS.out⟩
    ·subst hun;obtain rfl:l17=false:=by cases l17 with|false=>rfl|true=>simpa using hd17 rfl
     go_simp;exact hK _ _ ⟨_,_,_,_,_,_,_,_,_,_,_,_,_,_,_,_,_,_,_,_,rfl,by simp,(by simp),HS.out⟩
    ·obtain rfl:=hall;subst hun;go_simp;exact hK _ _ ⟨_,_,_,_,_,_,_,_,_,_,_,_,_,_,_,_,_,_,_,_,rfl,hd17,(by simp),HS.out⟩
    ·subst hun;have e0:=HS.out.cell (v:=.int .i64 p1) 2 0 rfl rfl;have e1:=HS.out.cell (v:=.int .i64 p2) 2 1 rfl rfl;go_simp;exact hK _ _ ⟨_,_,_,_,_,_,_,_,_,_,_,_,_,_,_,_,_,_,_,_,rfl,hd17,(by simp),HS.out⟩
    ·obtain⟨rfl,rfl⟩:=hall;subst hun;go_simp
     go_at_call 65
     refine(ZaU p1 p2 _ _ Hhr.out (by omega)).mono ?_;rintro e u1 ⟨rfl,hb⟩;have hS2:=HS.out.call hb;have HhS2:=qh hS2;clear hS2;go_simp;exact hK _ _ ⟨_,_,_,_,_,_,_,_,_,_,_,_,_,_,_,_,_,_,_,_,rfl,hd17,(by simp),HhS2.out⟩
    ·obtain⟨rfl,rfl⟩:=hall;subst hun;go_simp;exact hK _ _ ⟨_,_,_,_,_,_,_,_,_,_,_,_,_,_,_,_,_,_,_,_,rfl,hd17,(by simp),HS.out⟩
    ·obtain⟨rfl,rfl⟩:=hall;subst hun;go_simp;exact hK _ _ ⟨_,_,_,_,_,_,_,_,_,_,_,_,_,_,_,_,_,_,_,_,rfl,hd17,(by simp),HS.out⟩
    ·obtain rfl:=hall;subst hun;have e0:=HS.out.rcell (v:=.int .i64 ((B:Nat):Int)) 1 (t) rfl (by omega) hB.out;go_simp;exact hK _ _ ⟨_,_,_,_,_,_,_,_,_,_,_,_,_,_,_,_,_,_,_,_,rfl,hd17,(by simp),HS.out⟩
    ·obtain⟨rfl,rfl,rfl,rfl,rfl,rfl,rfl,rfl,-,rfl,rfl⟩:=hall;subst hun;go_simp;exact hK _ _ ⟨_,_,_,_,_,_,_,_,_,_,_,_,_,_,_,_,_,_,_,_,rfl,by simp,(by simp),HS.out⟩
    ·obtain⟨rfl,rfl,-,-,rfl,rfl,rfl,rfl,rfl,rfl,rfl,rfl,rfl,rfl,rfl,rfl,rfl,rfl,rfl,rfl⟩:=hall;subst hun;go_simp;exact hK _ _ ⟨_,_,_,_,_,_,_,_,_,_,_,_,_,_,_,_,_,_,_,_,rfl,by simp,(by simp),HS.out⟩
    obtain⟨rfl,rfl,rfl,rfl,rfl,rfl,rfl,rfl,rfl,rfl,rfl,rfl,rfl,rfl,rfl,rfl,rfl,rfl,rfl,-⟩:=hall;subst hun;have f0:=HS.out.rfr 0 (k) rfl;have k0:=HS.out.rcell (v:=.int .i64 ((k:Nat):Int)) 0 (k) rfl (by omega) (Zdb _ _);go_simp;exact hK _ _ ⟨_,_,_,_,_,_,_,_,_,_,_,_,_,_,_,_,_,_,_,_,rfl,by simp,(by simp),(HS.out.store 0 rfl (k) (.int .i64 ((B:Nat):Int)))⟩
   ·rintro listed a w' ⟨l0,l1,l2,l3,l4,l5,l6,l7,l8,l9,l10,l11,l12,l13,l14,l15,l16,l17,l18,l19,rfl,hd17,rfl,hS⟩ hr;obtain⟨rfl,rfl,rfl,rfl,rfl,rfl,rfl,rfl,rfl,rfl,rfl,rfl,rfl,rfl,rfl,rfl,rfl,rfl,rfl,rfl,-⟩:=zA (ZaG (by kernel_rfl) rfl hr) rfl;clear hr hd17;simp only[↓reduceIte] at hS ⊢;simp only[w_1,w_2,w_3];have hS7:=hS.cut 1 rfl t (by omega);rw[ZfJ,Znx] at hS7;have HS7:=qh hS7;clear hS hS7;have HSa:=qh (HS7.out.alloc_ (.cells #[.int .i64 ((B:Nat):Int)] 3));have HRw:=qh (HSa.out.row 1 rfl);have x1:=HS7.out.rcell (v:=.int .i64 ((B:Nat):Int)) 0 k rfl (by omega) (Zdb _ _);go_wp2_with (at_builtin;refine wpList_append_lies _ rfl _ _ _ rfl _ 3 i0 (.int .i64 0) 1 8 Tryz.underlying59 Hhi.out hz0.out Hhz1.out Hhz2.out rfl (by omega) _ t _ rfl HRw.out ⟨w'.heap.size,0,none⟩ 1 1 [.int .i64 ((B:Nat):Int)] rfl rfl (World.news_of_block (heap_alloc_new w' _)) Zbn (by omega) (by unfold maxLen;omega) (by omega) HSa.out.size _ rfl ?_;intro g6 c6 w6 hown6 hgrow6 hat6 hlt6;have HS6:=qh (HSa.out.app 1 rfl hown6 hgrow6 hat6);clear hown6 hgrow6 hat6 hlt6);go_roundw
    case rel =>
     refine⟨k+1,t+1,c6,some ⟨g6,0,none⟩,by go_num,rfl,by omega,fun j hj => ?_,?_,?_⟩
     ·by_cases e:j=k
      ·rw[e];exact Hhexk.out
      exact Hall.out j (by omega)
     ·rw[Hhsk.out,List.length_append,List.length_singleton,Hhtl.out]
     rw[Hhsk.out,← Zjb,← ZfK,Hhbk.out];exact HS6.out.pick [0,1] (by decide)
    case measure=>simp[intOf];omega
   refine⟨false,false,false,false,false,false,false,false,false,false,false,false,false,false,false,false,false,false,false,false,rfl,by simp,(by simp),?_⟩;exact HS5.out.drew.pick [0,1,2] (by decide)
  obtain rfl:k=n:=by omega
  rw[Zid] at hS;have HS:=qh hS;have hgd:∀ j,j<k→exAt es j=true:=hall;have Hhgd:=qh hgd;clear hgd;have Hhdl:=qh hdl;clear hdl;have hdm:(m:Int)=dep es k:=by rw[← Hhdl.out,hm]
  have Hhdm:=qh hdm;clear hdm;clear hS hall hm hdi hlt;by_cases h1:m=1
  ·have hd1:dep es k=1:=by have:=Hhdm.out;omega
   subst h1;have Hhd1:=qh hd1;clear hd1;go_wp2
   go_ret2
   exact .inl ⟨Hhgd.out,_,true,rfl,⟨fun _=>Hhd1.out,fun _=>rfl⟩,HS.out.pick [0] (by decide)⟩
  have hd1:¬ dep es k=1:=by have:=Hhdm.out;omega
  obtain⟨q1,q2,q3,q4⟩:=Zap (show ¬ (m:Int)=1 by omega);have Hhd1:=qh hd1;clear hd1;clear h1;go_wp2
  go_ret2
  exact .inl ⟨Hhgd.out,_,false,rfl,⟨fun h=>(by cases h),fun h=>absurd h Hhd1.out⟩,HS.out.pick [0] (by decide)⟩
theorem ZiC {es:List (Int × Int)}:exOk es=true↔(∀ k,k<es.length→exAt es k=true)∧dep es es.length=1∧es.length≤60:=by simp only[exOk,Bool.and_eq_true,List.all_eq_true,List.mem_range,decide_eq_true_eq,and_assoc]
theorem ZaZ (es:List (Int × Int)) (v:Value) (w:World) (h:Pairs 0 w v es) (r:Bool) (hr:exOk es=r) :
  Calls Tryz.prog 18 #[v] w fun e w'=>e = .returned (.bool r)∧Below w.heap.size w w':=by
 have Hh:=qh h;have Hr:=qh hr;obtain⟨av,cv,rfl,hc1,hc2,-⟩:=h.form;obtain⟨n,hn⟩:=eI (es.length);have hst:=fun (hl:es.length≤1000)=>Zg6 es (.slice av es.length cv) w hl Hh.out
 rw[← hn] at hc1 hst;rw[← hn];have Hst:=qh hst;replace hn:=qh hn;clear hst hr Hh;by_cases h60:n≤60
 ·have q1:(60:Int)<n↔False:=by simp;omega
  go_enter Tryz.func18, Tryz.ntmps18
  go_wp2_with fail;refine(Hst.out (by omega)).mono ?_;rintro e w1 hst;rcases hst with⟨hall,g,b,rfl,hb,hS⟩|⟨hbad,rfl,hb1⟩
  ·have hrb:r=b:=by have h2:=ZiC (es:=es);rw[Hr.out,← hn.out] at h2;rw[Bool.eq_iff_iff,h2,hb];exact⟨fun h=>h.2.1,fun h=>⟨hall,h,h60⟩⟩
   subst hrb;have HS:=qh hS;clear hS hall hb;go_wp2;go_ret;exact⟨rfl,HS.out.bel⟩
  have hrb:r=false:=by
   have h2:=ZiC (es:=es);rw[Hr.out,← hn.out] at h2;cases r with
   | false=>rfl
   | true=>exact absurd (h2.1 rfl).1 hbad
  subst hrb;have Hb1:=qh hb1;clear hbad hb1;go_wp2;go_ret;exact⟨rfl,Hb1.out⟩
 have q1:(60:Int)<n:=by omega
 have hrb:r=false:=by
  have h2:=ZiC (es:=es);rw[Hr.out,← hn.out] at h2;cases r with
  | false=>rfl
  | true=>exact absurd (h2.1 rfl).2.2 h60
 subst hrb;clear h60
 go_enter Tryz.func18, Tryz.ntmps18
 go_wp2;go_ret;exact⟨rfl,Below.refl _ _⟩
theorem Zg1 {P:Program} (t e:TypeId) (n:Nat) (cs:Array Value) (i:Nat) (d:TypeDesc) (sz:Nat) (h:P.underlying t=some (.array n e)) (hi:i<n) (hu:P.underlying e=some d) (hd:d.isRow=true) (hs:(P.info? e).map (·.size)=some sz) (w:World) :
  (Instr.index t (.agg cs) (.int .i64 (i:Int))).run P w = .ok (.agg (cs.extract (i*sz) (i*sz+sz))) w:=by
 cases hq:P.info? e with
 | none=>simp[hq] at hs
 | some ie =>
  have hz:ie.size=sz:=by simpa [hq] using hs
  have hagg:(isAgg e).run P w = .ok true w:=by unfold isAgg;rw[Sem.run_bind,run_underlying hu w];cases d<;>simp_all
  have h0:(0:Int)≤(i:Int)∧(i:Int)<(n:Int):=by omega
  simp[Instr.index,run_underlying h,asIntOf,h0,go_sem,part,hagg,sizeOf,typeInfo,hq,hz];exact fun hle=>absurd hle (by omega)
theorem Zh1 {P:Program} (t e:TypeId) (n:Nat) (cs:Array Value) (i:Nat) (d:TypeDesc) (v:Value) (h:P.underlying t=some (.array n e)) (hi:i<n) (hu:P.underlying e=some d) (hd:d.isRow=false) (hs:(P.info? e).map (·.size)=some 1) (hv:cs[i]? = some v) (w:World) :
  (Instr.index t (.agg cs) (.int .i64 (i:Int))).run P w = .ok v w:=by
 cases hq:P.info? e with
 | none=>simp[hq] at hs
 | some ie =>
  have hz:ie.size=1:=by simpa [hq] using hs
  have hagg:(isAgg e).run P w = .ok false w:=by unfold isAgg;rw[Sem.run_bind,run_underlying hu w];cases d<;>simp_all
  have h0:(0:Int)≤(i:Int)∧(i:Int)<(n:Int):=by omega
  simp[Instr.index,run_underlying h,asIntOf,h0,go_sem,part,hagg,sizeOf,typeInfo,hq,hz,hv];exact fun hle=>absurd hle (by omega)
def accX (l:List Nat) (t:Ex):Bool:=tabE l.length (lsT l) t 0 l.length
def AccO (es:List (Int × Int)) (l:List Nat) (r:Bool):Prop:=(exOk es=true∧wdOk l=true∧∃ t:Ex,t.post=es∧accX l t=r)∨((exOk es=false∨wdOk l=false)∧r=false)
theorem ZqL (es:List (Int × Int)) (l:List Nat):∃ r,AccO es l r:=by
 cases h:exOk es with
 | false=>exact⟨false,.inr ⟨.inl h,rfl⟩⟩
 | true =>
  cases g:wdOk l with
  | false=>exact⟨false,.inr ⟨.inr g,rfl⟩⟩
  | true =>obtain⟨t,ht⟩:=parse h;exact⟨_,.inl ⟨h,g,t,ht,rfl⟩⟩
theorem Zhd (t:Ex) (es:List (Int × Int)) (l:List Nat) (v:Value) (w:World) (r:Bool) (hr:accX l t=r) (hes:t.post=es) (hok:exOk es=true) (h:Pairs 0 w v es) (ht:isT l) (hwd:wdOk l=true) :
  Calls Tryz.prog 52 #[v,.string (txB l)] w fun e w'=>e = .returned (.bool r)∧Below w.heap.size w w':=by
 obtain⟨n,hln⟩:=eJ (l.length);obtain⟨hn8,-⟩:=Zco hwd;have hsz:=Zcj l;rw[hln] at hsz hn8;have hI:(Tryz.prog.info? 109).map (·.size)=some 9:=by kernel_rfl
 have hJ:(Tryz.prog.info? 4).map (·.size)=some 1:=by kernel_rfl
 have hx1:∀ (X:Array Value) (u:World),(Instr.index 111 (.agg X) (.int .i64 0)).run Tryz.prog u = .ok (.agg (X.extract (0*9) (0*9+9))) u:=fun X u=>Zg1 _ 109 9 X 0 _ 9 (by kernel_rfl) (by omega) Tryz.underlying109 rfl hI u
 obtain⟨Y,hY⟩:=eI ((spC (Zan n (tabE n (lsT l) t))).extract (0*9) (0*9+9));have hY1:Y[n]? = some (.bool r):=by rw[hY,Array.getElem?_extract,if_pos (by rw[Zai];omega)];have:=Zm3 (Zan n (tabE n (lsT l) t)) (i:=0) (j:=n) (by omega) (by omega);rw[show 0*9+n=0*9+n from rfl] at this;rw[this,Zbw _ (Nat.zero_le _) (Nat.le_refl _),← hr,← hln];rfl
 have hx2:∀ u:World,(Instr.index 109 (.agg Y) (.int .i64 (n:Int))).run Tryz.prog u = .ok (.bool r) u:=fun u=>Zh1 _ 4 9 Y n _ (.bool r) (by kernel_rfl) (by omega) Tryz.underlying4 rfl hJ hY1 u
 have hx1':=fun u=>hx1 (spC (Zan n (tabE n (lsT l) t))) u
 rw[← hY] at hx1';have Hx1:=qh hx1';have Hx2:=qh hx2;have Hc:=qh (fun u (hp:Pairs 0 u v es)=>Zj3 t es l n v u hes hok hp ht hwd hln);have Hh:=qh h;clear hx1 hx1' hx2 hY hY1 hI hJ hes hok h ht hwd hr
 go_enter Tryz.func52, Tryz.ntmps52
 go_wp2_with fail;refine(Hc.out _ Hh.out).mono ?_;rintro e w1 ⟨rfl,hb1⟩;have hrun1:=Hx1.out w1;have hrun2:=Hx2.out w1;go_wp2;go_ret;exact⟨rfl,hb1⟩
theorem ZcF (es:List (Int × Int)) (l:List Nat) (v:Value) (w:World) (r:Bool) (hr:AccO es l r) (h:Pairs 0 w v es) (ht:isT l) (hlen:l.length≤2000000) :
  Calls Tryz.prog 19 #[v,.string (txB l)] w fun e w'=>e = .returned (.bool r)∧Below w.heap.size w w':=by
 obtain⟨x,hx⟩:=eJ (exOk es);obtain⟨y,hy⟩:=eJ (wdOk l);have Hc1:=qh (fun u (hp:Pairs 0 u v es)=>ZaZ es v u hp x hx);have Hc2:=qh (fun u=>Zbj l u ht hlen y hy);have Hh:=qh h;have Ht:=qh ht;have Hr:=qh hr;replace hx:=qh hx;have Hhy:=qh hy;clear hy;clear h ht hr;cases x with
 | false =>
  have hrf:r=false:=by
   rcases Hr.out with⟨h1,-,-⟩|⟨-,h2⟩
   ·rw[hx.out] at h1;cases h1
   exact h2
  subst hrf
  go_enter Tryz.func19, Tryz.ntmps19
  go_wp2_with fail;refine(Hc1.out _ Hh.out).mono ?_;rintro e w1 ⟨rfl,hb1⟩;go_wp2;go_ret;exact⟨rfl,hb1⟩
 | true =>
  cases y with
  | false =>
   have hrf:r=false:=by
    rcases Hr.out with⟨-,h1,-⟩|⟨-,h2⟩
    ·rw[Hhy.out] at h1;cases h1
    exact h2
   subst hrf
   go_enter Tryz.func19, Tryz.ntmps19
   go_wp2_with fail;refine(Hc1.out _ Hh.out).mono ?_;rintro e w1 ⟨rfl,hb1⟩;go_wp2_with (go_at_call 27;refine(Hc2.out _).mono ?_;rintro e w' ⟨rfl,rfl⟩);go_ret;exact⟨rfl,hb1⟩
  | true =>
   obtain⟨t,ht1,ht2⟩:∃ t:Ex,t.post=es∧accX l t=r:=by
    rcases Hr.out with⟨-,-,h1⟩|⟨h1|h1,-⟩
    ·exact h1
    ·rw[hx.out] at h1;cases h1
    rw[Hhy.out] at h1;cases h1
   have Hc3:=qh (fun u (hp:Pairs 0 u v es)=>Zhd t es l v u r ht2 ht1 hx.out hp Ht.out Hhy.out);clear ht1 ht2
   go_enter Tryz.func19, Tryz.ntmps19
   go_wp2_with fail;refine(Hc1.out _ Hh.out).mono ?_;rintro e w1 ⟨rfl,hb1⟩;go_wp2_with (first|(go_at_call 27;refine(Hc2.out _).mono ?_;rintro e w' ⟨rfl,rfl⟩)|(go_at_call 52;refine(Hc3.out _ (Hh.out.below hb1)).mono ?_;rintro e w2 ⟨rfl,hb2⟩));go_ret;exact⟨rfl,hb1.trans (hb2.mono hb1.size)⟩
theorem Tryz.infoPart:(Tryz.prog.info? 55).map (fun i=>(i.zero,i.size,i.bytes))=some (some (.agg #[.int .i64 0,.int .i64 0]),2,16):=by kernel_rfl
end Go.Proofs.YtehmjmjedopkkaaGreat
