/-
  The walk over the program's spansOf: a stack of tables.
  Conditions: the list of parts is a valid expression and reads as such; the text is a word.
-/
import Derived.Test.YtfanhfcamblghaaPq49Sps
import Derived.Test.YtfanhfcamblghaaPq50Spk
set_option maxHeartbeats 16000000
set_option maxRecDepth 100000
namespace Go.Proofs.Ytfanhfcamblghaa
open Go.RowKit
def tabs (n:Nat) (ls:List Nat) (ts:List Ex):List Value:=ts.flatMap fun t=>(spC (Zak n (tabE n ls t))).toList
theorem ZcO (T:Nat→Nat→Bool):(spC T).toList.length=81:=by rw[Array.length_toList,Zad]
theorem ZjK (n:Nat) (ls:List Nat):∀ (ts:List Ex) (i k:Nat) (v:Value),i<ts.length→(spC (Zak n (tabE n ls (ts.getD i .zero)))).toList[k]? = some v→(tabs n ls ts)[i*81+k]? = some v
 | t::ts,0,k,v,_,h=>by
  have hk:k<81:=by have:=(List.getElem?_eq_some_iff.1 h).1;rwa [ZcO] at this
  show((spC _).toList++tabs n ls ts)[0*81+k]? = _;rw[List.getElem?_append_left (by rw[ZcO];omega),Nat.zero_mul,Nat.zero_add];exact h
 | t::ts,i+1,k,v,hi,h=>by have ih:=ZjK n ls ts i k v (by simpa using hi) h;show((spC _).toList++tabs n ls ts)[(i+1)*81+k]? = _;rw[List.getElem?_append_right (by rw[ZcO];omega),ZcO,← ih];congr 1;omega
theorem Zg1 (n:Nat) (ls:List Nat):∀ (ts:List Ex) (m:Nat),(tabs n ls ts).take (m*81)=tabs n ls (ts.take m)
 | ts,0=>by simp[tabs]
 | [],m+1=>by simp[tabs]
 | t::ts,m+1=>by have ih:=Zg1 n ls ts m;show((spC _).toList++tabs n ls ts).take ((m+1)*81)=(spC _).toList++tabs n ls (ts.take m);rw[List.take_append,ZcO,show(m+1)*81-81=m*81 by omega,ih,List.take_of_length_le (by rw[ZcO];omega)]
theorem ZjJ (n:Nat) (ls:List Nat) (ts:List Ex) (t:Ex):tabs n ls ts++(spC (Zak n (tabE n ls t))).toList=tabs n ls (ts++[t]):=by simp[tabs]
theorem ZhG {n:Nat} {ls:List Nat} {ts:List Ex} {i m:Nat} (hi:i<ts.length) (hm:ts.length=m):∀ k v,(spC (Zak n (tabE n ls (ts.getD i .zero)))).toList[k]? = some v→i*81+k<m*81∧(tabs n ls ts)[i*81+k]? = some v:=fun k v h=>by
 have hk:k<81:=by have:=(List.getElem?_eq_some_iff.1 h).1;rwa [ZcO] at this
 exact⟨by omega,ZjK n ls ts i k v hi h⟩
theorem Try.infoSpans:(Try.prog.info? 137).map (fun i=>(i.zero,i.size,i.bytes))=some (some (.agg Try.zeroCells137),81,81):=by kernel_rfl
theorem ZhM (t:Ex) (es:List (Int × Int)) (l:List Nat) (n:Nat) (v:Value) (w:World) (hes:t.post=es) (hok:exOk es=true) (h:Pairs 0 w v es) (ht:isT l) (hwd:wdOk l=true) (hln:l.length=n) :
  Calls Try.prog 102 #[v,.string (txB l)] w fun e w'=>e = .returned (.agg (spC (Zak n (tabE n (lsT l) t))))∧Below w.heap.size w w':=by
 obtain⟨hall,hd1,hn1,hn60⟩:=ZaF hok;obtain⟨av,cv,rfl,hc1,hc2,hrd⟩:=h.form;obtain⟨hn8,-⟩:=Zc4 hwd;rw[hln] at hn8;obtain⟨N,hN⟩:=eI (es.length);have hrun0:runE es []=some [t]:=by rw[← hes];exact Zi5 t
 rw[← hN] at hc1 hrd hall hd1 hn1 hn60;rw[← hN];have hz:Try.zeroCells137 = spC fun _ _=>false:=by rfl
 have hI:(Try.prog.info? 137).map (·.size)=some 81:=by kernel_rfl
 obtain⟨i0,hi,hz0,hz1,hz2⟩:=info_parts Try.infoSpans;have Hhi:=qh hi;clear hi;replace hz0:=qh hz0;have Hhz1:=qh hz1;clear hz1;have Hhz2:=qh hz2;clear hz2;have HS0:=qh ((((St.start w).alloc w.heap.size rfl #[.string (txB l)] 9).alloc (w.heap.size+1) (by simp) Try.zeroCells137 137).nilRow 137 81);have hsz:=Zcr l;rw[hln] at hsz;have Hrd:=qh hrd;have Hall:=qh hall;have Ht:=qh ht;replace hz:=qh hz;replace hI:=qh hI;have HhN:=qh hN;clear hN;have Hhd1:=qh hd1;clear hd1;have Hhrun0:=qh hrun0;clear hrun0;have Hhwd:=qh hwd;clear hwd;have Hhln:=qh hln;clear hln;have Hhes:=qh hes;clear hes;clear h hrd hall hok ht
 go_enter Try.func102, Try.ntmps102
 go_wp2
 go_loopg [6,17] N (fun gg st i wr=>∃ (k m c:Nat) (a:Option Addr) (ds:List Ex),gg+k=N∧i = .int .i64 (k:Int)∧st = .slice a m c∧ds.length=m∧(m:Int)=dep es k∧runE (es.drop k) ds.reverse=some [t]∧St w wr [Ent.box w.heap.size #[.string (txB l)] 9,Ent.box (w.heap.size+1) Try.zeroCells137 137,Ent.row 137 81 (.slice a m c) m (tabs n (lsT l) ds)])
 case atStart=>exact⟨0,0,0,none,[],by omega,rfl,rfl,rfl,rfl,Hhrun0.out,HS0.out⟩
 case round =>
  obtain⟨k,m,c,a,ds,hgk,rfl,rfl,hm,hdm,hrun,hS⟩:=hrel;by_cases hlt:k<N
  ·have hlt2:(k:Int)<N:=by omega
   obtain⟨b,oo,rfl,-,hbl,hcs⟩:=Hrd.out (by omega);obtain⟨g1,g2⟩:=hcs k hlt;have k1:=(bcell hS.bel b _ hbl).trans g1;have k2:=(bcell hS.bel b _ hbl).trans g2;obtain⟨hp0,hpm⟩:=Hall.out k hlt;have hrs:=Zj4 (es:=es) (k:=k) (by rw[← HhN.out];exact hlt) ds.reverse;rw[hrun] at hrs;have hds:dep es (k+1)=dep es k-Zaa (es.getD k (0,0))+1:=rfl;obtain⟨p,hp⟩:=eI (es.getD k (0,0));rw[← hp] at k1 k2 hp0 hpm hrs hds;obtain⟨p1,p2⟩:=p;simp only at k1 k2;have hpo:=ZbI hp0;obtain⟨r,hr⟩:=eJ (Zaa (p1,p2));rw[hr] at hp0 hpm hds;rw[← hdm] at hds hpm;have hmk:m≤200:=by have:=ZdS es k;omega
   obtain⟨r,rfl⟩:∃ q:Nat,r=((q:Nat):Int):=⟨r.toNat,by omega⟩;obtain⟨s,hmt⟩:∃ s:Nat,(m:Int)-(r:Int)=((s:Nat):Int):=⟨m-r,by omega⟩;have hwt:IntKind.i64.wrap (s:Int)=(s:Int):=IntWalk.i64_in _ (by omega);have HSp:=qh (((hS.alloc wr.heap.size rfl #[.int .i64 p1,.int .i64 p2] 72).alloc (wr.heap.size+1) (by simp) Try.zeroCells137 137).alloc (wr.heap.size+1+1) (by simp) Try.zeroCells137 137);have Hhrs:=qh hrs;clear hrs;have Hhp:=qh hp;clear hp;have Hhm:=qh hm;clear hm;have Hhds:=qh hds;clear hds;have Hhr:=qh hr;clear hr;have Hhpo:=qh hpo;clear hpo;have Hhdm:=qh hdm;clear hdm;clear hS hcs g1 g2 hrun;have e0:=HSp.out.cell (v:=.int .i64 p1) 3 0 rfl rfl;have e1:=HSp.out.cell (v:=.int .i64 p2) 3 1 rfl rfl;go_wp2_with fail;refine(ZaE p1 p2 _ _ Hhr.out (by omega)).mono ?_;rintro e w1 ⟨rfl,hb1⟩;have HS1:=qh (HSp.out.call hb1);clear hb1 HSp e0 e1;have e0:=HS1.out.cell (v:=.int .i64 p1) 3 0 rfl rfl;have e1:=HS1.out.cell (v:=.int .i64 p2) 3 1 rfl rfl;go_wp2_with fail;refine(ZaE p1 p2 _ _ Hhr.out (by omega)).mono ?_;rintro e w2 ⟨rfl,hb2⟩;have HS2:=qh (HS1.out.call hb2);clear hb2 e0 e1 HS1;have hr3:r=0∨r=1∨r=2:=by have:=Zbb (p1,p2);rw[Hhr.out] at this;omega
   go_upto_if 28 with fail
   go_cut [17] from 17 to 82 (fun iv wc=>∃ (X Y:Nat→Nat→Bool),iv = .int .i64 (k:Int)∧(r=0∨(r=1∧X=Zak n (tabE n (lsT l) (ds.getD s .zero)))∨(r=2∧X=Zak n (tabE n (lsT l) (ds.getD s .zero))∧Y=Zak n (tabE n (lsT l) (ds.getD (s+1) .zero))))∧St w wc [Ent.box w.heap.size #[.string (txB l)] 9,Ent.box (w.heap.size+1) Try.zeroCells137 137,Ent.row 137 81 (.slice a m c) m (tabs n (lsT l) ds),Ent.box wr.heap.size #[.int .i64 p1,.int .i64 p2] 72,Ent.box (wr.heap.size+1) (spC X) 137,Ent.box (wr.heap.size+1+1) (spC Y) 137])
   case first =>
    by_cases hr0:r=0
    ·subst hr0;go_wp2;go_meet;refine⟨fun _ _=>false,fun _ _=>false,rfl,.inl trivial,?_⟩;have h:=HS2.out;rw[hz.out] at h ⊢;exact h
    have hgt:(0:Int)<(r:Int):=by omega
    obtain⟨g,c2,he⟩:=HS2.out.rowform 2 rfl (by omega);simp only[Value.slice.injEq,true_and] at he;obtain⟨rfl,rfl⟩:=he;obtain⟨q,hq⟩:∃ q:Nat,(m:Int)-1=((q:Nat):Int):=⟨m-1,by omega⟩;have hwq:IntKind.i64.wrap (q:Int)=(q:Int):=IntWalk.i64_in _ (by omega);have hqm:(q:Int)<(m:Int):=by omega
    have hsm:(s:Int)<(m:Int):=by omega
    have hrA:=ZhG (n:=n) (ls:=lsT l) (ts:=ds) (i:=s) (m:=m) (by have:=Hhm.out;omega) Hhm.out;have hrB:=ZhG (n:=n) (ls:=lsT l) (ts:=ds) (i:=q) (m:=m) (by have:=Hhm.out;omega) Hhm.out;obtain⟨TA,hTA⟩:=eI (Zak n (tabE n (lsT l) (ds.getD s .zero)));obtain⟨TB,hTB⟩:=eI (Zak n (tabE n (lsT l) (ds.getD q .zero)));rw[← hTA] at hrA;rw[← hTB] at hrB;have HrA:=qh hrA;have HrB:=qh hrB
    have HAB:=qh (show(r=0∨(r=1∧TA=Zak n (tabE n (lsT l) (ds.getD s .zero)))∨(r=2∧TA=Zak n (tabE n (lsT l) (ds.getD s .zero))∧TB=Zak n (tabE n (lsT l) (ds.getD (s+1) .zero)))) from by
     rcases hr3 with h|h|h
     ·exact absurd h hr0
     ·exact .inr (.inl ⟨h,hTA⟩)
     exact .inr (.inr ⟨h,hTA,by rw[hTB,show q=s+1 by omega]⟩))
    clear hrA hrB hTA hTB;go_wp2;refine wp_region_any (by kernel_rfl) ?_
    refine Zaf (fun A listed a w'=>∃ (l0 l1 l2 l3 l4 l5 l6 l7 l8 l9 l10 l11:Bool) ,listed=#[l0,l1,l2,l3,l4,l5,l6,l7,l8,l9,l10,l11] ∧
      a=⟨((((((((((A.tmps.setIfInBounds 29 (if l0=true then .slice (some ⟨g,0,none⟩) m c else A.tmps.getD 29 undef)).setIfInBounds 30 (if l1=true then .int .i64 ((s:Nat):Int) else A.tmps.getD 30 undef)).setIfInBounds 31 (if l2=true then .pointer (some ⟨g,s*81,none⟩) else A.tmps.getD 31 undef)).setIfInBounds 32 (if l3=true then .agg (spC TA) else A.tmps.getD 32 undef)).setIfInBounds 33 (if l4=true then .slice (some ⟨g,0,none⟩) m c else A.tmps.getD 33 undef)).setIfInBounds 34 (if l5=true then .slice (some ⟨g,0,none⟩) m c else A.tmps.getD 34 undef)).setIfInBounds 35 (if l6=true then .int .i64 (m:Int) else A.tmps.getD 35 undef)).setIfInBounds 36 (if l7=true then .int .i64 ((q:Nat):Int) else A.tmps.getD 36 undef)).setIfInBounds 37 (if l8=true then .pointer (some ⟨g,q*81,none⟩) else A.tmps.getD 37 undef)).setIfInBounds 38 (if l9=true then .agg (spC TB) else A.tmps.getD 38 undef)),A.defers⟩ ∧
      St w w' [Ent.box w.heap.size #[.string (txB l)] 9,Ent.box (w.heap.size+1) Try.zeroCells137 137,Ent.row 137 81 (.slice (some ⟨g,0,none⟩) m c) m (tabs n (lsT l) ds),Ent.box wr.heap.size #[.int .i64 p1,.int .i64 p2] 72,(if l10=true then Ent.box ((wr.heap.size+1)) (spC TA) 137 else Ent.box ((wr.heap.size+1)) (Try.zeroCells137) 137),(if l11=true then Ent.box ((wr.heap.size+1+1)) (spC TB) 137 else Ent.box ((wr.heap.size+1+1)) (Try.zeroCells137) 137)]) ?_ ?_ ?_
    ·rintro listed a w' ⟨l0,l1,l2,l3,l4,l5,l6,l7,l8,l9,l10,l11,rfl,rfl,hS⟩ i hi;obtain⟨hun,o,ho,hall⟩:=mem_ready.1 hi;have hlt:=(Array.getElem?_eq_some_iff.1 ho).1;refine wpOp_step ho (fun K hK => ?_);clear hi;have HS:=qh hS;clear hS;simp only[List.setIfInBounds_toArray,List.set_cons_zero,List.set_cons_succ,Array.getD_eq_getD_getElem?,List.getElem?_toArray,List.getElem?_cons_zero,List.getElem?_cons_succ,Option.getD_some];obtain h|h|h|h|h|h|h|h|h|h|h|h:i=0∨i=1∨i=2∨i=3∨i=4∨i=5∨i=6∨i=7∨i=8∨i=9∨i=10∨i=11:=by simp at hlt;omega
     all_goals subst h
     all_goals simp only[List.getElem?_toArray,List.getElem?_cons_zero,List.getElem?_cons_succ,Option.some.injEq] at ho
     all_goals subst ho
     all_goals simp[Region.binds] at hun hall
     ·subst hun;go_simp;exact hK _ _ ⟨true,l1,l2,l3,l4,l5,l6,l7,l8,l9,l10,l11,rfl,(by simp<;>omega),HS.out⟩
     ·subst hun;go_simp;exact hK _ _ ⟨l0,true,l2,l3,l4,l5,l6,l7,l8,l9,l10,l11,rfl,(by simp<;>omega),HS.out⟩
     ·obtain⟨rfl,rfl⟩:=hall;subst hun;go_simp;exact hK _ _ ⟨true,true,true,l3,l4,l5,l6,l7,l8,l9,l10,l11,rfl,(by simp<;>omega),HS.out⟩
     ·obtain rfl:=hall;subst hun;refine Zd0 (a:=⟨_,_⟩) (by rfl) 137 _ (by rfl) g (s*81) (by rfl) (spC TA) _ (HS.out.rangeR 2 rfl (s*81) _ HrA.out) Try.underlying137 rfl (by rw[hI.out,Zad]) ?_;go_simp;exact hK _ _ ⟨l0,l1,true,true,l4,l5,l6,l7,l8,l9,l10,l11,rfl,(by simp<;>omega),HS.out⟩
     ·subst hun;go_simp;exact hK _ _ ⟨l0,l1,l2,l3,true,l5,l6,l7,l8,l9,l10,l11,rfl,(by simp<;>omega),HS.out⟩
     ·subst hun;go_simp;exact hK _ _ ⟨l0,l1,l2,l3,l4,true,l6,l7,l8,l9,l10,l11,rfl,(by simp<;>omega),HS.out⟩
     ·obtain rfl:=hall;subst hun;go_simp;exact hK _ _ ⟨l0,l1,l2,l3,l4,true,true,l7,l8,l9,l10,l11,rfl,(by simp<;>omega),HS.out⟩
     ·obtain rfl:=hall;subst hun;go_simp;exact hK _ _ ⟨l0,l1,l2,l3,l4,l5,true,true,l8,l9,l10,l11,rfl,(by simp<;>omega),HS.out⟩
     ·obtain⟨rfl,rfl⟩:=hall;subst hun;go_simp;exact hK _ _ ⟨l0,l1,l2,l3,true,l5,l6,true,true,l9,l10,l11,rfl,(by simp<;>omega),HS.out⟩
     ·obtain rfl:=hall;subst hun;refine Zd0 (a:=⟨_,_⟩) (by rfl) 137 _ (by rfl) g (q*81) (by rfl) (spC TB) _ (HS.out.rangeR 2 rfl (q*81) _ HrB.out) Try.underlying137 rfl (by rw[hI.out,Zad]) ?_;go_simp;exact hK _ _ ⟨l0,l1,l2,l3,l4,l5,l6,l7,true,true,l10,l11,rfl,(by simp<;>omega),HS.out⟩
     ·obtain⟨rfl,rfl,rfl,rfl,-⟩:=hall;subst hun;refine ZeZ (a:=⟨_,_⟩) (by rfl) 137 _ _ (by rfl) (wr.heap.size+1) 137 Try.zeroCells137 (spC TA) (by rfl) (by rfl) (HS.out.box 4 rfl) (by rw[hI.out,Zad]) (by rw[hz.out,Zad,Zad]) (ZaO _) ?_;go_simp;exact hK _ _ ⟨true,true,true,true,l4,l5,l6,l7,l8,l9,true,l11,rfl,(by simp<;>omega),(HS.out.setAll 4 rfl (spC TA))⟩
     obtain⟨rfl,rfl,rfl,rfl,rfl,rfl,rfl,rfl,rfl,rfl,rfl,-⟩:=hall;subst hun;refine ZeZ (a:=⟨_,_⟩) (by rfl) 137 _ _ (by rfl) (wr.heap.size+1+1) 137 Try.zeroCells137 (spC TB) (by rfl) (by rfl) (HS.out.box 5 rfl) (by rw[hI.out,Zad]) (by rw[hz.out,Zad,Zad]) (ZaO _) ?_;go_simp;exact hK _ _ ⟨true,true,true,true,true,true,true,true,true,true,true,true,rfl,(by simp<;>omega),(HS.out.setAll 5 rfl (spC TB))⟩
    ·rintro listed a w' ⟨l0,l1,l2,l3,l4,l5,l6,l7,l8,l9,l10,l11,rfl,rfl,hS⟩ hr;have hall:=Zag (by kernel_rfl) rfl hr;obtain rfl:l0=true:=by simpa using hall 0 (by simp<;>omega)
     obtain rfl:l1=true:=by simpa using hall 1 (by simp<;>omega)
     obtain rfl:l2=true:=by simpa using hall 2 (by simp<;>omega)
     obtain rfl:l3=true:=by simpa using hall 3 (by simp<;>omega)
     obtain rfl:l4=true:=by simpa using hall 4 (by simp<;>omega)
     obtain rfl:l5=true:=by simpa using hall 5 (by simp<;>omega)
     obtain rfl:l6=true:=by simpa using hall 6 (by simp<;>omega)
     obtain rfl:l7=true:=by simpa using hall 7 (by simp<;>omega)
     obtain rfl:l8=true:=by simpa using hall 8 (by simp<;>omega)
     obtain rfl:l9=true:=by simpa using hall 9 (by simp<;>omega)
     obtain rfl:l10=true:=by simpa using hall 10 (by simp<;>omega)
     obtain rfl:l11=true:=by simpa using hall 11 (by simp<;>omega)
     clear hall hr ;simp only[↓reduceIte] at hS ⊢;simp only[List.setIfInBounds_toArray,List.set_cons_zero,List.set_cons_succ];have HS5:=qh hS;clear hS;go_wp2;go_meet;exact⟨TA,TB,rfl,HAB.out,HS5.out⟩
    refine⟨false,false,false,false,false,false,false,false,false,false,false,false,rfl,(by simp<;>omega),?_⟩;exact HS2.out.drew.pick [0,1,2,3,4,5] (by decide)
   case rest =>
    obtain⟨X,Y,rfl,hXY,hS3⟩:=hcut;obtain⟨wx,hwx⟩:∃ wx:World,wx=wc:=⟨_,rfl⟩;subst hwx;have HS3:=qh (hS3.alloc wx.heap.size rfl Try.zeroCells137 137);have HXY:=qh hXY;have e0:=HS3.out.cell (v:=.int .i64 p1) 3 0 rfl rfl;have e1:=HS3.out.cell (v:=.int .i64 p2) 3 1 rfl rfl;clear hS3 hXY HS2
    go_upto_block 2 with fail
    go_cut [17] from 17 to 82 (fun iv wd=>∃ T:Ex,iv = .int .i64 (k:Int)∧stpE (p1,p2) ds.reverse=some ((ds.take s++[T]).reverse)∧St w wd [Ent.box w.heap.size #[.string (txB l)] 9,Ent.box (w.heap.size+1) Try.zeroCells137 137,Ent.row 137 81 (.slice a m c) m (tabs n (lsT l) ds),Ent.box wx.heap.size (spC (Zak n (tabE n (lsT l) T))) 137])
    case first =>
     have h1:=Hhr.out;have h2:=Hhpo.out;unfold Zaa at h1;rw[if_pos h2] at h1;simp only[pOk,inB,Bool.and_eq_true,Bool.or_eq_true,decide_eq_true_eq,Bool.not_eq_true',decide_eq_false_iff_not] at h2;rcases HXY.out with rfl|⟨rfl,rfl⟩|⟨rfl,rfl,rfl⟩
     ·have hk3:p1=1∨p1=2∨(p1=3∧0≤p2∧p2≤2):=by
       split at h1
       ·omega
       split at h1<;>omega
      have hsm:s=m-0:=by omega
      have hst0:=Zn5 (p:=(p1,p2)) Hhr.out ds;rw[Hhm.out,← hsm] at hst0;have Hhst0:=qh hst0;clear hst0;have Hhsm:=qh hsm;clear hsm;clear h1 h2 hr3;rcases hk3 with rfl|rfl|⟨rfl,hp20,hp22⟩
      ·go_wp2;go_meet;refine⟨.zero,rfl,Hhst0.out,?_⟩;have hS:=HS3.out.pick [0,1,2,6] (by decide);have ez:spC (Zak n (tabE n (lsT l) .zero))=Try.zeroCells137:=by rw[hz.out];exact Zb9 fun i j _ _=>by simp[Zak,tabE]
       rw[ez];exact hS
      ·
       go_wp2_with (go_at_call 133;go_loud (refine(Za6 134 #[] n (tabE n (lsT l) .one) _ hn8 (ZaU Try.func134 (by kernel_rfl) rfl) (fun i j hij hj u hu=>Zlz i j u _ (by simp[tabE]) (by omega) (by omega))).mono ?_;rintro e w4 ⟨rfl,hb⟩;have HS4:=qh (HS3.out.call hb);have hst:=ZaQ (P:=Try.prog) (HS4.out.box 6 rfl) (cs':=spC (Zak n (tabE n (lsT l) .one))) (by rw[Zad,hz.out,Zad]) (ZaO _);clear hb));go_meet;exact⟨.one,rfl,Hhst0.out,(HS4.out.setAll 6 rfl (spC (Zak n (tabE n (lsT l) .one)))).pick [0,1,2,6] (by decide)⟩
      obtain⟨c3,rfl⟩:∃ c3:Nat,p2=(c3:Int):=⟨p2.toNat,by omega⟩;obtain⟨cf,hcf⟩:∃ cf:Fin 3,cf.val=c3:=⟨⟨c3,by omega⟩,rfl⟩;go_wp2_with (go_at_call 133;go_loud (refine(Za6 135 #[.pointer (some ⟨w.heap.size,0,none⟩),.pointer (some ⟨wr.heap.size,0,none⟩)] n (tabE n (lsT l) (.ltr cf)) _ hn8 (ZaU Try.func135 (by kernel_rfl) rfl) (fun i j hij hj u hu=>ZkF l _ _ i j c3 u Ht.out Hhwd.out hij (by rw[Hhln.out];exact hj) ((HS3.out.call hu).cell 0 0 rfl rfl) ((HS3.out.call hu).cell 3 1 rfl rfl) _ (by rw[← hcf];rfl))).mono ?_;rintro e w4 ⟨rfl,hb⟩;have HS4:=qh (HS3.out.call hb);have hst:=ZaQ (P:=Try.prog) (HS4.out.box 6 rfl) (cs':=spC (Zak n (tabE n (lsT l) (.ltr cf)))) (by rw[Zad,hz.out,Zad]) (ZaO _);clear hb));go_meet;exact⟨.ltr cf,rfl,by rw[Hhst0.out,← hcf,Zkv],(HS4.out.setAll 6 rfl (spC (Zak n (tabE n (lsT l) (.ltr cf))))).pick [0,1,2,6] (by decide)⟩
     ·have hk7:p1=7∨p1=8:=by
       split at h1
       ·omega
       split at h1<;>omega
      have hsm:m=s+1:=by omega
      have hst0:=Zn4 (p:=(p1,p2)) Hhr.out (t:=s) (by rw[Hhm.out];exact hsm)
      generalize ds.getD s .zero=A at hst0 HS3 HXY
      have Hhst0:=qh hst0;clear hst0;have Hhsm:=qh hsm;clear hsm;clear h1 h2 hr3;rcases hk7 with rfl|rfl
      ·
       go_wp2_with (go_at_call 133;go_loud (refine(Za6 139 #[.pointer (some ⟨wr.heap.size+1,0,none⟩)] n (tabE n (lsT l) (.neg A)) _ hn8 (ZaU Try.func139 (by kernel_rfl) rfl) (fun i j hij hj u hu=>ZlI (Zak n (tabE n (lsT l) A)) _ i j u hij (by omega) (TabAt.of_box ((HS3.out.call hu).box 4 rfl)) _ rfl)).mono ?_;rintro e w4 ⟨rfl,hb⟩;have HS4:=qh (HS3.out.call hb);have hst:=ZaQ (P:=Try.prog) (HS4.out.box 6 rfl) (cs':=spC (Zak n (tabE n (lsT l) (.neg A)))) (by rw[Zad,hz.out,Zad]) (ZaO _);clear hb));go_meet;exact⟨.neg A,rfl,Hhst0.out,(HS4.out.setAll 6 rfl (spC (Zak n (tabE n (lsT l) (.neg A))))).pick [0,1,2,6] (by decide)⟩
      go_wp2;refine Zbg 137 _ rfl (wr.heap.size+1) 137 _ _ rfl (HS3.out.box 4 rfl) Try.underlying137 rfl (by rw[hI.out,Zad]) ?_;go_wp2_with (go_at_call 140;go_loud (refine(Zgn n (Zak n (tabE n (lsT l) A)) _ hn8).mono ?_;rintro e w4 ⟨rfl,hb⟩;have HS4:=qh (HS3.out.call hb);have hst:=ZaQ (P:=Try.prog) (HS4.out.box 6 rfl) (cs':=spC (Zak n (stB n (Zak n (tabE n (lsT l) A)) n))) (by rw[Zad,hz.out,Zad]) (ZaO _);clear hb));go_meet;exact⟨.star A,rfl,Hhst0.out,(HS4.out.setAll 6 rfl (spC (Zak n (stB n (Zak n (tabE n (lsT l) A)) n)))).pick [0,1,2,6] (by decide)⟩
     have hk4:p1=4∨p1=5∨p1=6:=by
      split at h1
      ·omega
      split at h1<;>omega
     have hsm:m=s+1+1:=by omega
     have hst0:=Zn3 (p:=(p1,p2)) Hhr.out (t:=s) (by rw[Hhm.out];exact hsm)
     generalize ds.getD s .zero=A at hst0 HS3 HXY
     generalize ds.getD (s+1) .zero=B at hst0 HS3 HXY
     have Hhst0:=qh hst0;clear hst0;have Hhsm:=qh hsm;clear hsm;clear h1 h2 hr3;rcases hk4 with rfl|rfl|rfl
     ·
      go_wp2;refine Zbg 137 _ rfl (wr.heap.size+1) 137 _ _ rfl (HS3.out.box 4 rfl) Try.underlying137 rfl (by rw[hI.out,Zad]) ?_;go_wp2;refine Zbg 137 _ rfl (wr.heap.size+1+1) 137 _ _ rfl (HS3.out.box 5 rfl) Try.underlying137 rfl (by rw[hI.out,Zad]) ?_;go_wp2_with (go_at_call 136;go_loud (refine(ZcX n (Zak n (tabE n (lsT l) A)) (Zak n (tabE n (lsT l) B)) (tabE n (lsT l) (.join A B)) _ hn8 (fun i j _ hj=>ZdK hn8 hj)).mono ?_;rintro e w4 ⟨rfl,hb⟩;have HS4:=qh (HS3.out.call hb);have hst:=ZaQ (P:=Try.prog) (HS4.out.box 6 rfl) (cs':=spC (Zak n (tabE n (lsT l) (.join A B)))) (by rw[Zad,hz.out,Zad]) (ZaO _);clear hb));go_meet;exact⟨.join A B,rfl,Hhst0.out,(HS4.out.setAll 6 rfl (spC (Zak n (tabE n (lsT l) (.join A B))))).pick [0,1,2,6] (by decide)⟩
     ·
      go_wp2_with (go_at_call 133;go_loud (refine(Za6 137 #[.pointer (some ⟨wr.heap.size+1,0,none⟩),.pointer (some ⟨wr.heap.size+1+1,0,none⟩)] n (tabE n (lsT l) (.alt A B)) _ hn8 (ZaU Try.func137 (by kernel_rfl) rfl) (fun i j hij hj u hu=>Zju (Zak n (tabE n (lsT l) A)) (Zak n (tabE n (lsT l) B)) _ _ i j u hij (by omega) (TabAt.of_box ((HS3.out.call hu).box 4 rfl)) (TabAt.of_box ((HS3.out.call hu).box 5 rfl)) _ rfl)).mono ?_;rintro e w4 ⟨rfl,hb⟩;have HS4:=qh (HS3.out.call hb);have hst:=ZaQ (P:=Try.prog) (HS4.out.box 6 rfl) (cs':=spC (Zak n (tabE n (lsT l) (.alt A B)))) (by rw[Zad,hz.out,Zad]) (ZaO _);clear hb));go_meet;exact⟨.alt A B,rfl,Hhst0.out,(HS4.out.setAll 6 rfl (spC (Zak n (tabE n (lsT l) (.alt A B))))).pick [0,1,2,6] (by decide)⟩
     go_wp2_with (go_at_call 133;go_loud (refine(Za6 138 #[.pointer (some ⟨wr.heap.size+1,0,none⟩),.pointer (some ⟨wr.heap.size+1+1,0,none⟩)] n (tabE n (lsT l) (.both A B)) _ hn8 (ZaU Try.func138 (by kernel_rfl) rfl) (fun i j hij hj u hu=>Zlh (Zak n (tabE n (lsT l) A)) (Zak n (tabE n (lsT l) B)) _ _ i j u hij (by omega) (TabAt.of_box ((HS3.out.call hu).box 4 rfl)) (TabAt.of_box ((HS3.out.call hu).box 5 rfl)) _ rfl)).mono ?_;rintro e w4 ⟨rfl,hb⟩;have HS4:=qh (HS3.out.call hb);have hst:=ZaQ (P:=Try.prog) (HS4.out.box 6 rfl) (cs':=spC (Zak n (tabE n (lsT l) (.both A B)))) (by rw[Zad,hz.out,Zad]) (ZaO _);clear hb));go_meet;exact⟨.both A B,rfl,Hhst0.out,(HS4.out.setAll 6 rfl (spC (Zak n (tabE n (lsT l) (.both A B))))).pick [0,1,2,6] (by decide)⟩
    case rest =>
     obtain⟨T,rfl,hst,hS4⟩:=hcut;have hrun:runE (es.drop (k+1)) (ds.take s++[T]).reverse=some [t]:=by have h:=Hhrs.out;rw[hst] at h;exact h.symm
     have hsm:s≤m:=by omega
     have hl1:(ds.take s++[T]).length=s+1:=by rw[List.length_append,List.length_take,Hhm.out,List.length_singleton];omega
     have hl2:((s+1:Nat):Int)=dep es (k+1):=by have:=Hhds.out;omega
     have hSc:=hS4.cut 2 rfl s hsm;rw[Zg1] at hSc;obtain⟨sa,rfl⟩:∃ z,z=a:=⟨_,rfl⟩;have ht0:(0:Int)≤(s:Int):=by omega
     obtain⟨a',c',he,hcc,hcm⟩:=hS4.rowany 2 rfl;simp only[Value.slice.injEq,true_and] at he;obtain⟨rfl,rfl⟩:=he;have htc:(s:Int)≤(c:Int):=by omega
     have HS5:=qh hSc;have Hhrun:=qh hrun;clear hrun;have Hhl1:=qh hl1;clear hl1;have Hhl2:=qh hl2;clear hl2;have Hhst:=qh hst;clear hst;clear hS4 hSc HS3 HXY e0 e1 hr3;go_wp2;refine wp_region_any (by kernel_rfl) ?_
     refine Zaf (fun A listed a w'=>∃ (l0 l1 l2 l3 l4 l5 l6:Bool) (bn0:Nat) (g7:Nat) (c7:Nat),listed=#[l0,l1,l2,l3,l4,l5,l6]∧(l6=true→l0=true∧l5=true) ∧
       a=⟨(((((((A.tmps.setIfInBounds 76 (if l0=true then .slice sa m c else A.tmps.getD 76 undef)).setIfInBounds 77 (if l1=true then .int .i64 ((s:Nat):Int) else A.tmps.getD 77 undef)).setIfInBounds 78 (if l2=true then .slice sa s c else A.tmps.getD 78 undef)).setIfInBounds 79 (if l3=true then .agg (spC (Zak n (tabE n (lsT l) T))) else A.tmps.getD 79 undef)).setIfInBounds 80 (if l4=true then .slice (some ⟨bn0,0,none⟩) 1 1 else A.tmps.getD 80 undef)).setIfInBounds 81 (if l5=true then .slice (some ⟨g7,0,none⟩) (s+1) c7 else A.tmps.getD 81 undef)).setIfInBounds 6 (if l6=true then .slice (some ⟨g7,0,none⟩) (s+1) c7 else A.tmps.getD 6 undef)),A.defers⟩ ∧
       St w w' [Ent.box w.heap.size #[.string (txB l)] 9,Ent.box (w.heap.size+1) Try.zeroCells137 137,(if l5=true then Ent.row 137 81 (.slice (some ⟨g7,0,none⟩) (s+1) c7) (s+1) (tabs n (lsT l) (ds.take s)++(spC (Zak n (tabE n (lsT l) T))).toList) else Ent.row 137 81 (.slice sa s c) s (tabs n (lsT l) (ds.take s))),Ent.box wx.heap.size (spC (Zak n (tabE n (lsT l) T))) 137,(if l4=true then Ent.box bn0 (spC (Zak n (tabE n (lsT l) T))) 137 else Ent.nil)]) ?_ ?_ ?_
     ·rintro listed a w' ⟨l0,l1,l2,l3,l4,l5,l6,bn0,g7,c7,rfl,hd6,rfl,hS⟩ i hi;obtain⟨hun,o,ho,hall⟩:=mem_ready.1 hi;have hlt:=(Array.getElem?_eq_some_iff.1 ho).1;refine wpOp_step ho (fun K hK => ?_);clear hi;have HS:=qh hS;clear hS;simp only[List.setIfInBounds_toArray,List.set_cons_zero,List.set_cons_succ,Array.getD_eq_getD_getElem?,List.getElem?_toArray,List.getElem?_cons_zero,List.getElem?_cons_succ,Option.getD_some];obtain h|h|h|h|h|h|h:i=0∨i=1∨i=2∨i=3∨i=4∨i=5∨i=6:=by simp at hlt;omega
      all_goals subst h
      all_goals simp only[List.getElem?_toArray,List.getElem?_cons_zero,List.getElem?_cons_succ,Option.some.injEq] at ho
      all_goals subst ho
      all_goals simp[Region.binds] at hun hall
      ·subst hun;obtain rfl:l6=false:=offL hd6 rfl;go_simp;exact hK _ _ ⟨true,l1,l2,l3,l4,l5,false,bn0,g7,c7,rfl,by simp,(by simp),HS.out⟩
      ·subst hun;go_simp;exact hK _ _ ⟨l0,true,l2,l3,l4,l5,l6,bn0,g7,c7,rfl,hd6,(by simp),HS.out⟩
      ·obtain⟨rfl,rfl⟩:=hall;subst hun;go_simp;exact hK _ _ ⟨true,true,true,l3,l4,l5,l6,bn0,g7,c7,rfl,hd6,(by simp),HS.out⟩
      ·subst hun;refine Zd0 (a:=⟨_,_⟩) (by rfl) 137 _ (by rfl) wx.heap.size 0 (by rfl) (spC (Zak n (tabE n (lsT l) T))) _ (HS.out.rangeB 3 rfl) Try.underlying137 rfl (by rw[hI.out,Zad]) ?_;go_simp;exact hK _ _ ⟨l0,l1,l2,true,l4,l5,l6,bn0,g7,c7,rfl,hd6,(by simp),HS.out⟩
      ·obtain rfl:=hall;subst hun;have hS2:=(HS.out.alloc _ rfl (spC (Zak n (tabE n (lsT l) T))) 137).pick [0,1,2,3,5] (by decide);have HhS2:=qh hS2;clear hS2;refine ZhJ (a:=⟨_,_⟩) (by rfl) 162 137 _ (by rfl) (spC (Zak n (tabE n (lsT l) T))) (by rfl) i0 _ 81 Try.underlying162 Hhi.out hz0.out Hhz1.out (Zad _) (by omega) (by omega) ?_;go_simp;exact hK _ _ ⟨l0,l1,l2,true,true,l5,l6,_,g7,c7,rfl,hd6,(by simp),HhS2.out⟩
      ·obtain⟨rfl,rfl⟩:=hall;subst hun;obtain rfl:l6=false:=offR hd6 rfl;refine step_append_lies (a:=⟨_,_⟩) _ (by rfl) _ _ _ (by rfl) w.heap.size 137 i0 (.agg Try.zeroCells137) 81 81 Try.underlying162 Hhi.out hz0.out Hhz1.out Hhz2.out (by rfl) (by omega) (.slice sa s c) s (tabs n (lsT l) (ds.take s)) (by rfl) (HS.out.row 2 rfl) ⟨bn0,0,none⟩ 1 1 (spC (Zak n (tabE n (lsT l) T))).toList (by rfl) (ZcO _) (World.news_of_block (HS.out.box 4 rfl)) (ZaO _) (by omega) (by unfold maxLen;omega) (by omega) HS.out.size _ rfl ?_;intro g8 c8 w8 hown8 hgrow8 hat8 hlt8;have HS8:=qh (HS.out.app 2 rfl hown8 hgrow8 hat8);clear hown8 hgrow8 hat8;go_simp;exact hK _ _ ⟨l0,l1,true,l3,true,true,false,bn0,g8,c8,rfl,by simp,(by simp),HS8.out⟩
      obtain⟨rfl,rfl,rfl,rfl,rfl,rfl,-⟩:=hall;subst hun;go_simp;exact hK _ _ ⟨true,true,true,true,true,true,true,bn0,g7,c7,rfl,by simp,(by simp),HS.out⟩
     ·rintro listed a w' ⟨l0,l1,l2,l3,l4,l5,l6,bn0,g7,c7,rfl,hd6,rfl,hS⟩ hr;have hall:=Zag (by kernel_rfl) rfl hr;obtain rfl:l0=true:=by simpa using hall 0 (by simp)
      obtain rfl:l1=true:=by simpa using hall 1 (by simp)
      obtain rfl:l2=true:=by simpa using hall 2 (by simp)
      obtain rfl:l3=true:=by simpa using hall 3 (by simp)
      obtain rfl:l4=true:=by simpa using hall 4 (by simp)
      obtain rfl:l5=true:=by simpa using hall 5 (by simp)
      obtain rfl:l6=true:=by simpa using hall 6 (by simp)
      clear hall hr hd6;simp only[↓reduceIte] at hS ⊢;simp only[List.setIfInBounds_toArray,List.set_cons_zero,List.set_cons_succ];have HS9:=qh (hS.pick [0,1,2] (by decide));clear hS;go_wp2
      go_roundg (N-(k+1))
      case measure=>omega
      case rel=>exact⟨k+1,s+1,c7,some ⟨g7,0,none⟩,ds.take s++[T],by omega,by go_num,rfl,Hhl1.out,Hhl2.out,Hhrun.out,by rw[← ZjJ];exact HS9.out⟩
     refine⟨false,false,false,false,false,false,false,0,0,0,rfl,by simp,(by simp),?_⟩;exact HS5.out.drew.pick [0,1,2,3,4] (by decide)
  obtain rfl:k=N:=by omega
  have hm1:m=1:=by have:=Hhd1.out;omega
  subst hm1;have hdr:es.drop k=[]:=by rw[HhN.out];exact List.drop_length
  rw[hdr] at hrun
  have hdt:ds=[t]:=by
   have h1:ds.reverse=[t]:=Option.some.inj hrun;have h2:=congrArg List.reverse h1
   rwa [List.reverse_reverse] at h2
  obtain⟨g,c2,he⟩:=hS.rowform 2 rfl (by omega);simp only[Value.slice.injEq,true_and] at he;obtain⟨rfl,rfl⟩:=he;have hrA:=ZhG (n:=n) (ls:=lsT l) (ts:=ds) (i:=0) (m:=1) (by omega) hm;have hg0:ds.getD 0 .zero=t:=by rw[hdt];rfl
  rw[hg0,Nat.zero_mul] at hrA;have HS:=qh hS;have HrA:=qh hrA;have hst:=ZaQ (P:=Try.prog) (HS.out.box 1 rfl) (cs':=spC (Zak n (tabE n (lsT l) t))) (by rw[Zad,hz.out,Zad]) (ZaO _);clear hS hrun hdm hm hlt hdr hdt hg0 hrA;go_wp2;refine Zlr 137 _ rfl g 0 rfl (spC (Zak n (tabE n (lsT l) t))) _ (HS.out.rangeR 2 rfl 0 _ HrA.out) Try.underlying137 rfl (by rw[hI.out,Zad]) ?_;go_wp2;have HS8:=qh (HS.out.setAll 1 rfl (spC (Zak n (tabE n (lsT l) t))));refine bodyPost_ret (v:=.agg (spC (Zak n (tabE n (lsT l) t)))) (Zba Try.results102 _ _ _ (w.heap.size+1) 137 (spC (Zak n (tabE n (lsT l) t))) _ rfl (HS8.out.box 1 rfl) Try.underlying137 rfl (by rw[hI.out,Zad])) rfl ?_;exact⟨rfl,HS8.out.bel⟩
end Go.Proofs.Ytfanhfcamblghaa
