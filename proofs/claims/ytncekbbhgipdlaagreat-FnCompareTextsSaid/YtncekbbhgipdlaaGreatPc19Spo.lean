/-
  The walk over the program's spansOf: a stack of tables.
  Conditions: the list of parts is a valid expression and reads as such; the text is a word.
-/
import Derived.Test.YtncekbbhgipdlaaGreatPc18Spk
set_option maxHeartbeats 16000000
set_option maxRecDepth 100000
namespace Go.Proofs.YtncekbbhgipdlaaGreat
open Go.RowKit
def tabs (n:Nat) (ls:List Nat) (ts:List Ex):List Value:=ts.flatMap fun t=>(spC (Zaq n (tabE n ls t))).toList
theorem Zd5 (T:Nat→Nat→Bool):(spC T).toList.length=81:=by rw[Array.length_toList,Zal]
theorem ZnI (n:Nat) (ls:List Nat):∀ (ts:List Ex) (i k:Nat) (v:Value),i<ts.length→(spC (Zaq n (tabE n ls (ts.getD i .zero)))).toList[k]? = some v→(tabs n ls ts)[i*81+k]? = some v
 | t::ts,0,k,v,_,h=>by
  have hk:k<81:=by have:=(List.getElem?_eq_some_iff.1 h).1;rwa [Zd5] at this
  show((spC _).toList++tabs n ls ts)[0*81+k]? = _;rw[List.getElem?_append_left (by rw[Zd5];omega),Nat.zero_mul,Nat.zero_add];exact h
 | t::ts,i+1,k,v,hi,h=>by have B:=ZnI n ls ts i k v (by simpa using hi) h;show((spC _).toList++tabs n ls ts)[(i+1)*81+k]? = _;rw[List.getElem?_append_right (by rw[Zd5];omega),Zd5,← B];congr 1;omega
theorem ZjY (n:Nat) (ls:List Nat):∀ (ts:List Ex) (m:Nat),(tabs n ls ts).take (m*81)=tabs n ls (ts.take m)
 | ts,0=>by simp[tabs]
 | [],m+1=>by simp[tabs]
 | t::ts,m+1=>by have B:=ZjY n ls ts m;show((spC _).toList++tabs n ls ts).take ((m+1)*81)=(spC _).toList++tabs n ls (ts.take m);rw[List.take_append,Zd5,show(m+1)*81-81=m*81 by omega,B,List.take_of_length_le (by rw[Zd5];omega)]
theorem ZnH (n:Nat) (ls:List Nat) (ts:List Ex) (t:Ex):tabs n ls ts++(spC (Zaq n (tabE n ls t))).toList=tabs n ls (ts++[t]):=by simp[tabs]
theorem ZkX {n:Nat} {ls:List Nat} {ts:List Ex} {i m:Nat} (hi:i<ts.length) (hm:ts.length=m):∀ k v,(spC (Zaq n (tabE n ls (ts.getD i .zero)))).toList[k]? = some v→i*81+k<m*81∧(tabs n ls ts)[i*81+k]? = some v:=fun k v h=>by
 have hk:k<81:=by have:=(List.getElem?_eq_some_iff.1 h).1;rwa [Zd5] at this
 exact⟨by omega,ZnI n ls ts i k v hi h⟩
theorem Tryz.infoSpans:(Tryz.prog.info? 132).map (fun i=>(i.zero,i.size,i.bytes))=some (some (.agg Tryz.zeroCells132),81,81):=by kernel_rfl
theorem Zk5 (t:Ex) (es:List (Int × Int)) (l:List Nat) (n:Nat) (v:Value) (w:World) (aT:t.post=es) (hok:exOk es=true) (h:Pairs 0 w v es) (ht:isT l) (aU:wdOk l=true) (hln:l.length=n) :
  Calls Tryz.prog 118 #[v,.string (txB l)] w fun e w'=>e = .returned (.agg (spC (Zaq n (tabE n (lsT l) t))))∧Below w.heap.size w w':=by
 obtain⟨hall,bE,cL,bR⟩:=Zbh hok;obtain⟨av,cv,rfl,cG,dF,bC⟩:=h.form;obtain⟨R,-⟩:=Zeo aU;rw[hln] at R;obtain⟨N,hN⟩:=eI (es.length);have aC:runE es []=some [t]:=by rw[← aT];exact ZmM t
 rw[← hN] at cG bC hall bE cL bR;rw[← hN];have hz:Tryz.zeroCells132 = spC fun _ _=>false:=by rfl
 have hI:(Tryz.prog.info? 132).map (·.size)=some 81:=by kernel_rfl
 obtain⟨i0,hi,aO,cF,cD⟩:=info_parts Tryz.infoSpans;have cA:=qh hi;clear hi;replace aO:=qh aO;have aQ:=qh cF;clear cF;have bH:=qh cD;clear cD;have cK:=qh ((((St.start w).alloc w.heap.size rfl #[.string (txB l)] 9).alloc (w.heap.size+1) (by simp) Tryz.zeroCells132 132).nilRow 132 81);have cJ:=ZaE l;rw[hln] at cJ;have cM:=qh bC;have bG:=qh hall;have Ht:=qh ht;replace hz:=qh hz;replace hI:=qh hI;have bM:=qh hN;clear hN;have bT:=qh bE;clear bE;have aK:=qh aC;clear aC;have bL:=qh aU;clear aU;have bU:=qh hln;clear hln;have cX:=qh aT;clear aT;clear h bC hall hok ht
 go_enter Tryz.func118, Tryz.ntmps118
 go_wp2
 go_loopg [6,17] N (fun gg st i wr=>∃ (k m c:Nat) (a:Option Addr) (ds:List Ex),gg+k=N∧i = .int .i64 (k:Int)∧st = .slice a m c∧ds.length=m∧(m:Int)=dep es k∧runE (es.drop k) ds.reverse=some [t]∧St w wr [Ent.box w.heap.size #[.string (txB l)] 9,Ent.box (w.heap.size+1) Tryz.zeroCells132 132,Ent.row 132 81 (.slice a m c) m (tabs n (lsT l) ds)])
 case atStart=>exact⟨0,0,0,none,[],by omega,rfl,rfl,rfl,rfl,aK.o,cK.o⟩
 case round =>
  obtain⟨k,m,c,a,ds,dA,rfl,rfl,hm,aJ,J,hS⟩:=hrel;by_cases hlt:k<N
  ·have hlt2:(k:Int)<N:=by omega
   obtain⟨b,oo,rfl,-,bJ,bN⟩:=cM.o (by omega);obtain⟨g1,g2⟩:=bN k hlt;have k1:=(bcell hS.bel b _ bJ).trans g1;have k2:=(bcell hS.bel b _ bJ).trans g2;obtain⟨aZ,aS⟩:=bG.o k hlt;have aG:=Zn0 (es:=es) (k:=k) (by rw[← bM.o];exact hlt) ds.reverse;rw[J] at aG;have hds:dep es (k+1)=dep es k-Zag (es.getD k (0,0))+1:=rfl;obtain⟨p,hp⟩:=eI (es.getD k (0,0));rw[← hp] at k1 k2 aZ aS aG hds;obtain⟨O,S⟩:=p;simp only at k1 k2;have hpo:=Ze8 aZ;obtain⟨r,hr⟩:=eJ (Zag (O,S));rw[hr] at aZ aS hds;rw[← aJ] at hds aS;have hmk:m≤200:=by have:=Zgm es k;omega
   obtain⟨r,rfl⟩:∃ q:Nat,r=((q:Nat):Int):=⟨r.toNat,by omega⟩;obtain⟨s,dG⟩:∃ s:Nat,(m:Int)-(r:Int)=((s:Nat):Int):=⟨m-r,by omega⟩;have dK:IntKind.i64.wrap (s:Int)=(s:Int):=IntWalk.i64_in _ (by omega);have aN:=qh (((hS.alloc wr.heap.size rfl #[.int .i64 O,.int .i64 S] 62).alloc (wr.heap.size+1) (by simp) Tryz.zeroCells132 132).alloc (wr.heap.size+1+1) (by simp) Tryz.zeroCells132 132);have bO:=qh aG;clear aG;have cZ:=qh hp;clear hp;have V:=qh hm;clear hm;have bQ:=qh hds;clear hds;have Z:=qh hr;clear hr;have cB:=qh hpo;clear hpo;have cY:=qh aJ;clear aJ;clear hS bN g1 g2 J;have e0:=aN.o.cell (v:=.int .i64 O) 3 0 rfl rfl;have e1:=aN.o.cell (v:=.int .i64 S) 3 1 rfl rfl;go_wp2_with fail;refine(ZaN O S _ _ Z.o (by omega)).mono ?_;rintro e w1 ⟨rfl,hb1⟩;have aI:=qh (aN.o.call hb1);clear hb1 aN e0 e1;have e0:=aI.o.cell (v:=.int .i64 O) 3 0 rfl rfl;have e1:=aI.o.cell (v:=.int .i64 S) 3 1 rfl rfl;go_wp2_with fail;refine(ZaN O S _ _ Z.o (by omega)).mono ?_;rintro e w2 ⟨rfl,hb2⟩;have aM:=qh (aI.o.call hb2);clear hb2 e0 e1 aI;have aF:r=0∨r=1∨r=2:=by have:=Zcu (O,S);rw[Z.o] at this;omega
   go_upto_if 28 with fail
   go_cut [17] from 17 to 82 (fun iv wc=>∃ (X Y:Nat→Nat→Bool),iv = .int .i64 (k:Int)∧(r=0∨(r=1∧X=Zaq n (tabE n (lsT l) (ds.getD s .zero)))∨(r=2∧X=Zaq n (tabE n (lsT l) (ds.getD s .zero))∧Y=Zaq n (tabE n (lsT l) (ds.getD (s+1) .zero))))∧St w wc [Ent.box w.heap.size #[.string (txB l)] 9,Ent.box (w.heap.size+1) Tryz.zeroCells132 132,Ent.row 132 81 (.slice a m c) m (tabs n (lsT l) ds),Ent.box wr.heap.size #[.int .i64 O,.int .i64 S] 62,Ent.box (wr.heap.size+1) (spC X) 132,Ent.box (wr.heap.size+1+1) (spC Y) 132])
   case first =>
    by_cases hr0:r=0
    ·subst hr0;go_wp2;go_meet;refine⟨fun _ _=>false,fun _ _=>false,rfl,.inl trivial,?_⟩;have h:=aM.o;rw[hz.o] at h ⊢;exact h
    have dC:(0:Int)<(r:Int):=by omega
    obtain⟨g,c2,he⟩:=aM.o.rowform 2 rfl (by omega);simp only[Value.slice.injEq,true_and] at he;obtain⟨rfl,rfl⟩:=he;obtain⟨q,hq⟩:∃ q:Nat,(m:Int)-1=((q:Nat):Int):=⟨m-1,by omega⟩;have dB:IntKind.i64.wrap (q:Int)=(q:Int):=IntWalk.i64_in _ (by omega);have dD:(q:Int)<(m:Int):=by omega
    have I:(s:Int)<(m:Int):=by omega
    have d:=ZkX (n:=n) (ls:=lsT l) (ts:=ds) (i:=s) (m:=m) (by have:=V.o;omega) V.o;have aW:=ZkX (n:=n) (ls:=lsT l) (ts:=ds) (i:=q) (m:=m) (by have:=V.o;omega) V.o;obtain⟨TA,aH⟩:=eI (Zaq n (tabE n (lsT l) (ds.getD s .zero)));obtain⟨TB,bA⟩:=eI (Zaq n (tabE n (lsT l) (ds.getD q .zero)));rw[← aH] at d;rw[← bA] at aW;have bD:=qh d;have cQ:=qh aW
    have cH:=qh (show(r=0∨(r=1∧TA=Zaq n (tabE n (lsT l) (ds.getD s .zero)))∨(r=2∧TA=Zaq n (tabE n (lsT l) (ds.getD s .zero))∧TB=Zaq n (tabE n (lsT l) (ds.getD (s+1) .zero)))) from by
     rcases aF with h|h|h
     ·exact absurd h hr0
     ·exact .inr (.inl ⟨h,aH⟩)
     exact .inr (.inr ⟨h,aH,by rw[bA,show q=s+1 by omega]⟩))
    clear d aW aH bA;go_wp2;refine wp_region_any (by kernel_rfl) ?_
    refine Zay (fun A listed a w'=>∃ (l0 l1 l2 l3 l4 l5 y l7 l8 l9 aD aA:Bool) ,listed=#[l0,l1,l2,l3,l4,l5,y,l7,l8,l9,aD,aA] ∧
      a=⟨((((((((((A.tmps.setIfInBounds 29 (if l0=true then .slice (some ⟨g,0,none⟩) m c else A.tmps.getD 29 undef)).setIfInBounds 30 (if l1=true then .int .i64 ((s:Nat):Int) else A.tmps.getD 30 undef)).setIfInBounds 31 (if l2=true then .pointer (some ⟨g,s*81,none⟩) else A.tmps.getD 31 undef)).setIfInBounds 32 (if l3=true then .agg (spC TA) else A.tmps.getD 32 undef)).setIfInBounds 33 (if l4=true then .slice (some ⟨g,0,none⟩) m c else A.tmps.getD 33 undef)).setIfInBounds 34 (if l5=true then .slice (some ⟨g,0,none⟩) m c else A.tmps.getD 34 undef)).setIfInBounds 35 (if y=true then .int .i64 (m:Int) else A.tmps.getD 35 undef)).setIfInBounds 36 (if l7=true then .int .i64 ((q:Nat):Int) else A.tmps.getD 36 undef)).setIfInBounds 37 (if l8=true then .pointer (some ⟨g,q*81,none⟩) else A.tmps.getD 37 undef)).setIfInBounds 38 (if l9=true then .agg (spC TB) else A.tmps.getD 38 undef)),A.defers⟩ ∧
      St w w' [Ent.box w.heap.size #[.string (txB l)] 9,Ent.box (w.heap.size+1) Tryz.zeroCells132 132,Ent.row 132 81 (.slice (some ⟨g,0,none⟩) m c) m (tabs n (lsT l) ds),Ent.box wr.heap.size #[.int .i64 O,.int .i64 S] 62,(if aD=true then Ent.box ((wr.heap.size+1)) (spC TA) 132 else Ent.box ((wr.heap.size+1)) (Tryz.zeroCells132) 132),(if aA=true then Ent.box ((wr.heap.size+1+1)) (spC TB) 132 else Ent.box ((wr.heap.size+1+1)) (Tryz.zeroCells132) 132)]) ?_ ?_ ?_
    ·rintro listed a w' ⟨l0,l1,l2,l3,l4,l5,y,l7,l8,l9,aD,aA,rfl,rfl,hS⟩ i hi;obtain⟨D,o,ho,hall⟩:=mem_ready.1 hi;have hlt:=(Array.getElem?_eq_some_iff.1 ho).1;refine wpOp_step ho (fun K Q => ?_);clear hi;have H:=qh hS;clear hS;simp only[w_1,w_2,w_3,w_4,w_5,w_6,w_7,w_8];obtain h|h|h|h|h|h|h|h|h|h|h|h:i=0∨i=1∨i=2∨i=3∨i=4∨i=5∨i=6∨i=7∨i=8∨i=9∨i=10∨i=11:=by simp at hlt;omega
     all_goals subst h
     all_goals simp only[w_5,w_6,w_7,w_9] at ho
     all_goals subst ho
     all_goals simp[Region.binds] at D hall
     ·subst D;go_simp;exact Q _ _ ⟨_,_,_,_,_,_,_,_,_,_,_,_,rfl,(by simp<;>omega),H.o⟩
     ·subst D;go_simp;exact Q _ _ ⟨_,_,_,_,_,_,_,_,_,_,_,_,rfl,(by simp<;>omega),H.o⟩
     ·obtain⟨rfl,rfl⟩:=hall;subst D;go_simp;exact Q _ _ ⟨_,_,_,_,_,_,_,_,_,_,_,_,rfl,(by simp<;>omega),H.o⟩
     ·obtain rfl:=hall;subst D;refine ZfH (a:=⟨_,_⟩) (by rfl) 132 _ (by rfl) g (s*81) (by rfl) (spC TA) _ (H.o.rangeR 2 rfl (s*81) _ bD.o) Tryz.underlying132 rfl (by rw[hI.o,Zal]) ?_;go_simp;exact Q _ _ ⟨_,_,_,_,_,_,_,_,_,_,_,_,rfl,(by simp<;>omega),H.o⟩
     ·subst D;go_simp;exact Q _ _ ⟨_,_,_,_,_,_,_,_,_,_,_,_,rfl,(by simp<;>omega),H.o⟩
     ·subst D;go_simp;exact Q _ _ ⟨_,_,_,_,_,_,_,_,_,_,_,_,rfl,(by simp<;>omega),H.o⟩
     ·obtain rfl:=hall;subst D;go_simp;exact Q _ _ ⟨_,_,_,_,_,_,_,_,_,_,_,_,rfl,(by simp<;>omega),H.o⟩
     ·obtain rfl:=hall;subst D;go_simp;exact Q _ _ ⟨_,_,_,_,_,_,_,_,_,_,_,_,rfl,(by simp<;>omega),H.o⟩
     ·obtain⟨rfl,rfl⟩:=hall;subst D;go_simp;exact Q _ _ ⟨_,_,_,_,_,_,_,_,_,_,_,_,rfl,(by simp<;>omega),H.o⟩
     ·obtain rfl:=hall;subst D;refine ZfH (a:=⟨_,_⟩) (by rfl) 132 _ (by rfl) g (q*81) (by rfl) (spC TB) _ (H.o.rangeR 2 rfl (q*81) _ cQ.o) Tryz.underlying132 rfl (by rw[hI.o,Zal]) ?_;go_simp;exact Q _ _ ⟨_,_,_,_,_,_,_,_,_,_,_,_,rfl,(by simp<;>omega),H.o⟩
     ·obtain⟨rfl,rfl,rfl,rfl,-⟩:=hall;subst D;refine ZgY (a:=⟨_,_⟩) (by rfl) 132 _ _ (by rfl) (wr.heap.size+1) 132 Tryz.zeroCells132 (spC TA) (by rfl) (by rfl) (H.o.box 4 rfl) (by rw[hI.o,Zal]) (by rw[hz.o,Zal,Zal]) (Zbr _) ?_;go_simp;exact Q _ _ ⟨_,_,_,_,_,_,_,_,_,_,_,_,rfl,(by simp<;>omega),(H.o.setAll 4 rfl (spC TA))⟩
     obtain⟨rfl,rfl,rfl,rfl,rfl,rfl,rfl,rfl,rfl,rfl,rfl,-⟩:=hall;subst D;refine ZgY (a:=⟨_,_⟩) (by rfl) 132 _ _ (by rfl) (wr.heap.size+1+1) 132 Tryz.zeroCells132 (spC TB) (by rfl) (by rfl) (H.o.box 5 rfl) (by rw[hI.o,Zal]) (by rw[hz.o,Zal,Zal]) (Zbr _) ?_;go_simp;exact Q _ _ ⟨_,_,_,_,_,_,_,_,_,_,_,_,rfl,(by simp<;>omega),(H.o.setAll 5 rfl (spC TB))⟩
    ·rintro listed a w' ⟨l0,l1,l2,l3,l4,l5,y,l7,l8,l9,aD,aA,rfl,rfl,hS⟩ hr;have hall:=Za1 (by kernel_rfl) rfl hr;obtain rfl:l0=true:=by simpa using hall 0 (by simp<;>omega)
     obtain rfl:l1=true:=by simpa using hall 1 (by simp<;>omega)
     obtain rfl:l2=true:=by simpa using hall 2 (by simp<;>omega)
     obtain rfl:l3=true:=by simpa using hall 3 (by simp<;>omega)
     obtain rfl:l4=true:=by simpa using hall 4 (by simp<;>omega)
     obtain rfl:l5=true:=by simpa using hall 5 (by simp<;>omega)
     obtain rfl:y=true:=by simpa using hall 6 (by simp<;>omega)
     obtain rfl:l7=true:=by simpa using hall 7 (by simp<;>omega)
     obtain rfl:l8=true:=by simpa using hall 8 (by simp<;>omega)
     obtain rfl:l9=true:=by simpa using hall 9 (by simp<;>omega)
     obtain rfl:aD=true:=by simpa using hall 10 (by simp<;>omega)
     obtain rfl:aA=true:=by simpa using hall 11 (by simp<;>omega)
     clear hall hr ;simp only[↓reduceIte] at hS ⊢;simp only[w_1,w_2,w_3];have bB:=qh hS;clear hS;go_wp2;go_meet;exact⟨TA,TB,rfl,cH.o,bB.o⟩
    refine⟨false,false,false,false,false,false,false,false,false,false,false,false,rfl,(by simp<;>omega),?_⟩;exact aM.o.drew.pick [0,1,2,3,4,5] (by decide)
   case rest =>
    obtain⟨X,Y,rfl,bY,bP⟩:=hcut;obtain⟨wx,cI⟩:∃ wx:World,wx=wc:=⟨_,rfl⟩;subst cI;have C:=qh (bP.alloc wx.heap.size rfl Tryz.zeroCells132 132);have aE:=qh bY;have e0:=C.o.cell (v:=.int .i64 O) 3 0 rfl rfl;have e1:=C.o.cell (v:=.int .i64 S) 3 1 rfl rfl;clear bP bY aM
    go_upto_block 2 with fail
    go_cut [17] from 17 to 82 (fun iv wd=>∃ T:Ex,iv = .int .i64 (k:Int)∧stpE (O,S) ds.reverse=some ((ds.take s++[T]).reverse)∧St w wd [Ent.box w.heap.size #[.string (txB l)] 9,Ent.box (w.heap.size+1) Tryz.zeroCells132 132,Ent.row 132 81 (.slice a m c) m (tabs n (lsT l) ds),Ent.box wx.heap.size (spC (Zaq n (tabE n (lsT l) T))) 132])
    case first =>
     have h1:=Z.o;have h2:=cB.o;unfold Zag at h1;rw[if_pos h2] at h1;simp only[pOk,inB,Bool.and_eq_true,Bool.or_eq_true,decide_eq_true_eq,Bool.not_eq_true',decide_eq_false_iff_not] at h2;rcases aE.o with rfl|⟨rfl,rfl⟩|⟨rfl,rfl,rfl⟩
     ·have cO:O=1∨O=2∨(O=3∧0≤S∧S≤2):=by
       split at h1
       ·omega
       split at h1<;>omega
      have I:s=m-0:=by omega
      have G:=ZsI (p:=(O,S)) Z.o ds;rw[V.o,← I] at G;have E:=qh G;clear G;have aP:=qh I;clear I;clear h1 h2 aF;rcases cO with rfl|rfl|⟨rfl,cT,cV⟩
      ·go_wp2;go_meet;refine⟨.zero,rfl,E.o,?_⟩;have hS:=C.o.pick [0,1,2,6] (by decide);have ez:spC (Zaq n (tabE n (lsT l) .zero))=Tryz.zeroCells132:=by rw[hz.o];exact Zdo fun i j _ _=>by simp[Zaq,tabE]
       rw[ez];exact hS
      ·
       go_wp2_with (go_at_call 144;go_loud (refine(Zb1 145 #[] n (tabE n (lsT l) .one) _ R (Zbz Tryz.func145 (by kernel_rfl) rfl) (fun i j hij hj u hu=>Zqo i j u _ (by simp[tabE]) (by omega) (by omega))).mono ?_;rintro e w4 ⟨rfl,hb⟩;have F:=qh (C.o.call hb);have M:=Zbu (P:=Tryz.prog) (F.o.box 6 rfl) (cs':=spC (Zaq n (tabE n (lsT l) .one))) (by rw[Zal,hz.o,Zal]) (Zbr _);clear hb));go_meet;exact⟨.one,rfl,E.o,(F.o.setAll 6 rfl (spC (Zaq n (tabE n (lsT l) .one)))).pick [0,1,2,6] (by decide)⟩
      obtain⟨c3,rfl⟩:∃ c3:Nat,S=(c3:Int):=⟨S.toNat,by omega⟩;obtain⟨cf,bX⟩:∃ cf:Fin 3,cf.val=c3:=⟨⟨c3,by omega⟩,rfl⟩;go_wp2_with (go_at_call 144;go_loud (refine(Zb1 146 #[.pointer (some ⟨w.heap.size,0,none⟩),.pointer (some ⟨wr.heap.size,0,none⟩)] n (tabE n (lsT l) (.ltr cf)) _ R (Zbz Tryz.func146 (by kernel_rfl) rfl) (fun i j hij hj u hu=>ZoN l _ _ i j c3 u Ht.o bL.o hij (by rw[bU.o];exact hj) ((C.o.call hu).cell 0 0 rfl rfl) ((C.o.call hu).cell 3 1 rfl rfl) _ (by rw[← bX];rfl))).mono ?_;rintro e w4 ⟨rfl,hb⟩;have F:=qh (C.o.call hb);have M:=Zbu (P:=Tryz.prog) (F.o.box 6 rfl) (cs':=spC (Zaq n (tabE n (lsT l) (.ltr cf)))) (by rw[Zal,hz.o,Zal]) (Zbr _);clear hb));go_meet;exact⟨.ltr cf,rfl,by rw[E.o,← bX,Zoz],(F.o.setAll 6 rfl (spC (Zaq n (tabE n (lsT l) (.ltr cf))))).pick [0,1,2,6] (by decide)⟩
     ·have cS:O=7∨O=8:=by
       split at h1
       ·omega
       split at h1<;>omega
      have I:m=s+1:=by omega
      have G:=ZsH (p:=(O,S)) Z.o (t:=s) (by rw[V.o];exact I)
      generalize ds.getD s .zero=A at G C aE
      have E:=qh G;clear G;have aP:=qh I;clear I;clear h1 h2 aF;rcases cS with rfl|rfl
      ·
       go_wp2_with (go_at_call 144;go_loud (refine(Zb1 150 #[.pointer (some ⟨wr.heap.size+1,0,none⟩)] n (tabE n (lsT l) (.neg A)) _ R (Zbz Tryz.func150 (by kernel_rfl) rfl) (fun i j hij hj u hu=>Zqv (Zaq n (tabE n (lsT l) A)) _ i j u hij (by omega) (TabAt.of_box ((C.o.call hu).box 4 rfl)) _ rfl)).mono ?_;rintro e w4 ⟨rfl,hb⟩;have F:=qh (C.o.call hb);have M:=Zbu (P:=Tryz.prog) (F.o.box 6 rfl) (cs':=spC (Zaq n (tabE n (lsT l) (.neg A)))) (by rw[Zal,hz.o,Zal]) (Zbr _);clear hb));go_meet;exact⟨.neg A,rfl,E.o,(F.o.setAll 6 rfl (spC (Zaq n (tabE n (lsT l) (.neg A))))).pick [0,1,2,6] (by decide)⟩
      go_wp2;refine Zce 132 _ rfl (wr.heap.size+1) 132 _ _ rfl (C.o.box 4 rfl) Tryz.underlying132 rfl (by rw[hI.o,Zal]) ?_;go_wp2_with (go_at_call 151;go_loud (refine(Zi2 n (Zaq n (tabE n (lsT l) A)) _ R).mono ?_;rintro e w4 ⟨rfl,hb⟩;have F:=qh (C.o.call hb);have M:=Zbu (P:=Tryz.prog) (F.o.box 6 rfl) (cs':=spC (Zaq n (stB n (Zaq n (tabE n (lsT l) A)) n))) (by rw[Zal,hz.o,Zal]) (Zbr _);clear hb));go_meet;exact⟨.star A,rfl,E.o,(F.o.setAll 6 rfl (spC (Zaq n (stB n (Zaq n (tabE n (lsT l) A)) n)))).pick [0,1,2,6] (by decide)⟩
     have cR:O=4∨O=5∨O=6:=by
      split at h1
      ·omega
      split at h1<;>omega
     have I:m=s+1+1:=by omega
     have G:=ZsG (p:=(O,S)) Z.o (t:=s) (by rw[V.o];exact I)
     generalize ds.getD s .zero=A at G C aE
     generalize ds.getD (s+1) .zero=B at G C aE
     have E:=qh G;clear G;have aP:=qh I;clear I;clear h1 h2 aF;rcases cR with rfl|rfl|rfl
     ·
      go_wp2;refine Zce 132 _ rfl (wr.heap.size+1) 132 _ _ rfl (C.o.box 4 rfl) Tryz.underlying132 rfl (by rw[hI.o,Zal]) ?_;go_wp2;refine Zce 132 _ rfl (wr.heap.size+1+1) 132 _ _ rfl (C.o.box 5 rfl) Tryz.underlying132 rfl (by rw[hI.o,Zal]) ?_;go_wp2_with (go_at_call 147;go_loud (refine(Zee n (Zaq n (tabE n (lsT l) A)) (Zaq n (tabE n (lsT l) B)) (tabE n (lsT l) (.join A B)) _ R (fun i j _ hj=>Zfl R hj)).mono ?_;rintro e w4 ⟨rfl,hb⟩;have F:=qh (C.o.call hb);have M:=Zbu (P:=Tryz.prog) (F.o.box 6 rfl) (cs':=spC (Zaq n (tabE n (lsT l) (.join A B)))) (by rw[Zal,hz.o,Zal]) (Zbr _);clear hb));go_meet;exact⟨.join A B,rfl,E.o,(F.o.setAll 6 rfl (spC (Zaq n (tabE n (lsT l) (.join A B))))).pick [0,1,2,6] (by decide)⟩
     ·
      go_wp2_with (go_at_call 144;go_loud (refine(Zb1 148 #[.pointer (some ⟨wr.heap.size+1,0,none⟩),.pointer (some ⟨wr.heap.size+1+1,0,none⟩)] n (tabE n (lsT l) (.alt A B)) _ R (Zbz Tryz.func148 (by kernel_rfl) rfl) (fun i j hij hj u hu=>Znl (Zaq n (tabE n (lsT l) A)) (Zaq n (tabE n (lsT l) B)) _ _ i j u hij (by omega) (TabAt.of_box ((C.o.call hu).box 4 rfl)) (TabAt.of_box ((C.o.call hu).box 5 rfl)) _ rfl)).mono ?_;rintro e w4 ⟨rfl,hb⟩;have F:=qh (C.o.call hb);have M:=Zbu (P:=Tryz.prog) (F.o.box 6 rfl) (cs':=spC (Zaq n (tabE n (lsT l) (.alt A B)))) (by rw[Zal,hz.o,Zal]) (Zbr _);clear hb));go_meet;exact⟨.alt A B,rfl,E.o,(F.o.setAll 6 rfl (spC (Zaq n (tabE n (lsT l) (.alt A B))))).pick [0,1,2,6] (by decide)⟩
     go_wp2_with (go_at_call 144;go_loud (refine(Zb1 149 #[.pointer (some ⟨wr.heap.size+1,0,none⟩),.pointer (some ⟨wr.heap.size+1+1,0,none⟩)] n (tabE n (lsT l) (.both A B)) _ R (Zbz Tryz.func149 (by kernel_rfl) rfl) (fun i j hij hj u hu=>ZpM (Zaq n (tabE n (lsT l) A)) (Zaq n (tabE n (lsT l) B)) _ _ i j u hij (by omega) (TabAt.of_box ((C.o.call hu).box 4 rfl)) (TabAt.of_box ((C.o.call hu).box 5 rfl)) _ rfl)).mono ?_;rintro e w4 ⟨rfl,hb⟩;have F:=qh (C.o.call hb);have M:=Zbu (P:=Tryz.prog) (F.o.box 6 rfl) (cs':=spC (Zaq n (tabE n (lsT l) (.both A B)))) (by rw[Zal,hz.o,Zal]) (Zbr _);clear hb));go_meet;exact⟨.both A B,rfl,E.o,(F.o.setAll 6 rfl (spC (Zaq n (tabE n (lsT l) (.both A B))))).pick [0,1,2,6] (by decide)⟩
    case rest =>
     obtain⟨T,rfl,M,aY⟩:=hcut;have J:runE (es.drop (k+1)) (ds.take s++[T]).reverse=some [t]:=by have h:=bO.o;rw[M] at h;exact h.symm
     have I:s≤m:=by omega
     have bI:(ds.take s++[T]).length=s+1:=by rw[List.length_append,List.length_take,V.o,List.length_singleton];omega
     have bZ:((s+1:Nat):Int)=dep es (k+1):=by have:=bQ.o;omega
     have aV:=aY.cut 2 rfl s I;rw[ZjY] at aV;obtain⟨sa,rfl⟩:∃ z,z=a:=⟨_,rfl⟩;have dE:(0:Int)≤(s:Int):=by omega
     obtain⟨a',c',he,dJ,dI⟩:=aY.rowany 2 rfl;simp only[Value.slice.injEq,true_and] at he;obtain⟨rfl,rfl⟩:=he;have dH:(s:Int)≤(c:Int):=by omega
     have bB:=qh aV;have aX:=qh J;clear J;have bF:=qh bI;clear bI;have bW:=qh bZ;clear bZ;have cW:=qh M;clear M;clear aY aV C aE e0 e1 aF;go_wp2;refine wp_region_any (by kernel_rfl) ?_
     refine Zay (fun A listed a w'=>∃ (l0 l1 l2 l3 l4 l5 y:Bool) (L:Nat) (g7:Nat) (c7:Nat),listed=#[l0,l1,l2,l3,l4,l5,y]∧(y=true→l0=true∧l5=true) ∧
       a=⟨(((((((A.tmps.setIfInBounds 76 (if l0=true then .slice sa m c else A.tmps.getD 76 undef)).setIfInBounds 77 (if l1=true then .int .i64 ((s:Nat):Int) else A.tmps.getD 77 undef)).setIfInBounds 78 (if l2=true then .slice sa s c else A.tmps.getD 78 undef)).setIfInBounds 79 (if l3=true then .agg (spC (Zaq n (tabE n (lsT l) T))) else A.tmps.getD 79 undef)).setIfInBounds 80 (if l4=true then .slice (some ⟨L,0,none⟩) 1 1 else A.tmps.getD 80 undef)).setIfInBounds 81 (if l5=true then .slice (some ⟨g7,0,none⟩) (s+1) c7 else A.tmps.getD 81 undef)).setIfInBounds 6 (if y=true then .slice (some ⟨g7,0,none⟩) (s+1) c7 else A.tmps.getD 6 undef)),A.defers⟩ ∧
       St w w' [Ent.box w.heap.size #[.string (txB l)] 9,Ent.box (w.heap.size+1) Tryz.zeroCells132 132,(if l5=true then Ent.row 132 81 (.slice (some ⟨g7,0,none⟩) (s+1) c7) (s+1) (tabs n (lsT l) (ds.take s)++(spC (Zaq n (tabE n (lsT l) T))).toList) else Ent.row 132 81 (.slice sa s c) s (tabs n (lsT l) (ds.take s))),Ent.box wx.heap.size (spC (Zaq n (tabE n (lsT l) T))) 132,(if l4=true then Ent.box L (spC (Zaq n (tabE n (lsT l) T))) 132 else Ent.nil)]) ?_ ?_ ?_
     ·rintro listed a w' ⟨l0,l1,l2,l3,l4,l5,y,L,g7,c7,rfl,U,rfl,hS⟩ i hi;obtain⟨D,o,ho,hall⟩:=mem_ready.1 hi;have hlt:=(Array.getElem?_eq_some_iff.1 ho).1;refine wpOp_step ho (fun K Q => ?_);clear hi;have H:=qh hS;clear hS;simp only[w_1,w_2,w_3,w_4,w_5,w_6,w_7,w_8];obtain h|h|h|h|h|h|h:i=0∨i=1∨i=2∨i=3∨i=4∨i=5∨i=6:=by simp at hlt;omega
      all_goals subst h
      all_goals simp only[w_5,w_6,w_7,w_9] at ho
      all_goals subst ho
      all_goals simp[Region.binds] at D hall
      ·subst D;obtain rfl:y=false:=offL U rfl;go_simp;exact Q _ _ ⟨_,_,_,_,_,_,_,L,g7,c7,rfl,by simp,(by simp),H.o⟩
      ·subst D;go_simp;exact Q _ _ ⟨_,_,_,_,_,_,_,L,g7,c7,rfl,U,(by simp),H.o⟩
      ·obtain⟨rfl,rfl⟩:=hall;subst D;go_simp;exact Q _ _ ⟨_,_,_,_,_,_,_,L,g7,c7,rfl,U,(by simp),H.o⟩
      ·subst D;refine ZfH (a:=⟨_,_⟩) (by rfl) 132 _ (by rfl) wx.heap.size 0 (by rfl) (spC (Zaq n (tabE n (lsT l) T))) _ (H.o.rangeB 3 rfl) Tryz.underlying132 rfl (by rw[hI.o,Zal]) ?_;go_simp;exact Q _ _ ⟨_,_,_,_,_,_,_,L,g7,c7,rfl,U,(by simp),H.o⟩
      ·obtain rfl:=hall;subst D;have cC:=(H.o.alloc _ rfl (spC (Zaq n (tabE n (lsT l) T))) 132).pick [0,1,2,3,5] (by decide);have bK:=qh cC;clear cC;refine Zk2 (a:=⟨_,_⟩) (by rfl) 163 132 _ (by rfl) (spC (Zaq n (tabE n (lsT l) T))) (by rfl) i0 _ 81 Tryz.underlying163 cA.o aO.o aQ.o (Zal _) (by omega) (by omega) ?_;go_simp;exact Q _ _ ⟨_,_,_,_,_,_,_,_,g7,c7,rfl,U,(by simp),bK.o⟩
      ·obtain⟨rfl,rfl⟩:=hall;subst D;obtain rfl:y=false:=offR U rfl;refine step_append_lies (a:=⟨_,_⟩) _ (by rfl) _ _ _ (by rfl) w.heap.size 132 i0 (.agg Tryz.zeroCells132) 81 81 Tryz.underlying163 cA.o aO.o aQ.o bH.o (by rfl) (by omega) (.slice sa s c) s (tabs n (lsT l) (ds.take s)) (by rfl) (H.o.row 2 rfl) ⟨L,0,none⟩ 1 1 (spC (Zaq n (tabE n (lsT l) T))).toList (by rfl) (Zd5 _) (World.news_of_block (H.o.box 4 rfl)) (Zbr _) (by omega) (by unfold maxLen;omega) (by omega) H.o.size _ rfl ?_;intro g8 c8 w8 aB x aR cU;have aL:=qh (H.o.app 2 rfl aB x aR);clear aB x aR;go_simp;exact Q _ _ ⟨_,_,_,_,_,_,_,L,g8,c8,rfl,by simp,(by simp),aL.o⟩
      obtain⟨rfl,rfl,rfl,rfl,rfl,rfl,-⟩:=hall;subst D;go_simp;exact Q _ _ ⟨_,_,_,_,_,_,_,L,g7,c7,rfl,by simp,(by simp),H.o⟩
     ·rintro listed a w' ⟨l0,l1,l2,l3,l4,l5,y,L,g7,c7,rfl,U,rfl,hS⟩ hr;obtain⟨rfl,rfl,rfl,rfl,rfl,rfl,rfl,-⟩:=zA (Za1 (by kernel_rfl) rfl hr) rfl;clear hr U;simp only[↓reduceIte] at hS ⊢;simp only[w_1,w_2,w_3];have cP:=qh (hS.pick [0,1,2] (by decide));clear hS;go_wp2
      go_roundg (N-(k+1))
      case measure=>omega
      case rel=>exact⟨k+1,s+1,c7,some ⟨g7,0,none⟩,ds.take s++[T],by omega,by go_num,rfl,bF.o,bW.o,aX.o,by rw[← ZnH];exact cP.o⟩
     refine⟨false,false,false,false,false,false,false,0,0,0,rfl,by simp,(by simp),?_⟩;exact bB.o.drew.pick [0,1,2,3,4] (by decide)
  obtain rfl:k=N:=by omega
  have cN:m=1:=by have:=bT.o;omega
  subst cN;have bS:es.drop k=[]:=by rw[bM.o];exact List.drop_length
  rw[bS] at J
  have bV:ds=[t]:=by
   have h1:ds.reverse=[t]:=Option.some.inj J;have h2:=congrArg List.reverse h1
   rwa [List.reverse_reverse] at h2
  obtain⟨g,c2,he⟩:=hS.rowform 2 rfl (by omega);simp only[Value.slice.injEq,true_and] at he;obtain⟨rfl,rfl⟩:=he;have d:=ZkX (n:=n) (ls:=lsT l) (ts:=ds) (i:=0) (m:=1) (by omega) hm;have cE:ds.getD 0 .zero=t:=by rw[bV];rfl
  rw[cE,Nat.zero_mul] at d;have H:=qh hS;have bD:=qh d;have M:=Zbu (P:=Tryz.prog) (H.o.box 1 rfl) (cs':=spC (Zaq n (tabE n (lsT l) t))) (by rw[Zal,hz.o,Zal]) (Zbr _);clear hS J aJ hm hlt bS bV cE d;go_wp2;refine Zp0 132 _ rfl g 0 rfl (spC (Zaq n (tabE n (lsT l) t))) _ (H.o.rangeR 2 rfl 0 _ bD.o) Tryz.underlying132 rfl (by rw[hI.o,Zal]) ?_;go_wp2;have aL:=qh (H.o.setAll 1 rfl (spC (Zaq n (tabE n (lsT l) t))));refine bodyPost_ret (v:=.agg (spC (Zaq n (tabE n (lsT l) t)))) (Zb6 Tryz.results118 _ _ _ (w.heap.size+1) 132 (spC (Zaq n (tabE n (lsT l) t))) _ rfl (aL.o.box 1 rfl) Tryz.underlying132 rfl (by rw[hI.o,Zal])) rfl ?_;exact⟨rfl,aL.o.bel⟩
end Go.Proofs.YtncekbbhgipdlaaGreat
