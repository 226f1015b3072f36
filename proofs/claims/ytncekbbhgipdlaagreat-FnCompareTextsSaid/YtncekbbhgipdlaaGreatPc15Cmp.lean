/-
  The walk over the program's compile: a stack of automata.
  Conditions: the list of parts is a valid expression and reads as such.
-/
import Derived.Test.YtncekbbhgipdlaaGreatPc09Ot
set_option maxHeartbeats 16000000
set_option maxRecDepth 100000
namespace Go.Proofs.YtncekbbhgipdlaaGreat
open Go.RowKit
theorem DfaH.left {E F:Ent} {v1 v2:Value} {vs:List Value} {D:DfaD} (h:DfaH E v1 v2 vs D):DfaH (Ent.all [E,F]) v1 v2 vs D :=
 ⟨fun w h1 h2=>h.rd w (h1 _ (by simp)) fun k hk=>h2 k ⟨E,by simp,hk⟩⟩
theorem DfaH.right {E F:Ent} {v1 v2:Value} {vs:List Value} {D:DfaD} (h:DfaH F v1 v2 vs D):DfaH (Ent.all [E,F]) v1 v2 vs D :=
 ⟨fun w h1 h2=>h.rd w (h1 _ (by simp)) fun k hk=>h2 k ⟨F,by simp,hk⟩⟩
theorem DfaH.flip {E:Ent} {v1 v2 C:Value} {vs:List Value} {D:DfaD} (h:DfaH E v1 v2 vs D) {w w':World} (hu:Bools w.heap.size w' C (flB true D).ends) (hn:0<D.ends.length):DfaH (Ent.all [E,DfaE w w']) v1 C vs (flB true D):=by
 have B:0<(flB true D).ends.length:=by show 0<(D.ends.map (xb true)).length;rw[List.length_map];exact hn
 refine⟨fun u h1 h2 => ?_⟩;obtain⟨g1,g2,-⟩:=h.rd u (h1 _ (by simp)) fun k hk=>h2 k ⟨E,by simp,hk⟩
 refine⟨g1,g2,?_⟩;have F:(DfaE w w').holds u:=h1 _ (by simp);have hlt:w.heap.size<w'.heap.size:=by obtain⟨-,a,cap,-,-,-,h4⟩:=hu;obtain⟨b,off,-,h5,h6,-⟩:=h4 B;omega
 have hs:w'.heap.size≤u.heap.size:=by have:w'.heap.size-1<u.heap.size:=h2 (w'.heap.size-1) ⟨DfaE w w',by simp,show w.heap.size≤w'.heap.size-1∧w'.heap.size-1<w'.heap.size by omega⟩;omega
 exact Sl.keptJ hu (Nat.zero_le _) hs F
def stkC (ps:List (Value × Value)):List Value:=ps.flatMap fun p=>[p.1,p.2]
theorem ZgX:∀ (ps:List (Value × Value)) (i:Nat),i<ps.length→(stkC ps)[i*2]? = some (ps.getD i (undef,undef)).1∧(stkC ps)[i*2+1]? = some (ps.getD i (undef,undef)).2
 | p::ps,0,_=>⟨rfl,rfl⟩
 | p::ps,i+1,h=>by
  have B:=ZgX ps i (by simpa using h);have e1:(stkC (p::ps))[(i+1)*2]? = (stkC ps)[i*2]?:=by rw[show(i+1)*2=i*2+2 by omega];rfl
  have e2:(stkC (p::ps))[(i+1)*2+1]? = (stkC ps)[i*2+1]?:=by rw[show(i+1)*2+1=i*2+1+2 by omega];rfl
  rw[e1,e2];exact B
theorem Zj2:∀ (ps:List (Value × Value)) (m:Nat),(stkC ps).take (m*2)=stkC (ps.take m)
 | ps,0=>by simp[stkC]
 | [],m+1=>by simp[stkC]
 | p::ps,m+1=>by have B:=Zj2 ps m;show(p.1::p.2::stkC ps).take ((m+1)*2)=p.1::p.2::stkC (ps.take m);rw[show(m+1)*2=m*2+1+1 by omega,List.take_succ_cons,List.take_succ_cons,B]
theorem ZnM (ps:List (Value × Value)) (x y:Value):stkC ps++[x,y]=stkC (ps++[(x,y)]):=by simp[stkC]
structure StkR (X:Ent) (ps:List (Value × Value)) (ds:List DfaD):Prop where
 len:ps.length=ds.length
 rd:∀ i,i<ds.length→∃ vs,DfaH X (ps.getD i (undef,undef)).1 (ps.getD i (undef,undef)).2 vs (ds.getD i ⟨[],[]⟩)
 ok:∀ i,i<ds.length→Zac (ds.getD i ⟨[],[]⟩).next (ds.getD i ⟨[],[]⟩).ends=true
theorem StkR.nil (X:Ent):StkR X [] []:=⟨rfl,fun i hi=>absurd hi (by simp),fun i hi=>absurd hi (by simp)⟩
theorem StkR.left {X F:Ent} {ps:List (Value × Value)} {ds:List DfaD} (h:StkR X ps ds):StkR (Ent.all [X,F]) ps ds :=
 ⟨h.len,fun i hi=>(h.rd i hi).imp fun _ g=>g.left,h.ok⟩
theorem Zpc {α:Type} {l:List α} {i t:Nat} (h:i<t) (d:α):(l.take t).getD i d=l.getD i d:=by simp only[List.getD_eq_getElem?_getD];rw[List.getElem?_take,if_pos h]
theorem StkR.push {X:Ent} {ps:List (Value × Value)} {ds:List DfaD} (h:StkR X ps ds) {t:Nat} (ht:t≤ds.length) {x y:Value} {vs:List Value} {D:DfaD} (B:DfaH X x y vs D) (hok:Zac D.next D.ends=true):StkR X (ps.take t++[(x,y)]) (ds.take t++[D]):=by
 have hl:=h.len;have hp:(ps.take t).length=t:=by rw[List.length_take];omega
 have hd:(ds.take t).length=t:=by rw[List.length_take];omega
 have key:∀ i,i<(ds.take t++[D]).length→(i<t∧(ps.take t++[(x,y)]).getD i (undef,undef)=ps.getD i (undef,undef)∧(ds.take t++[D]).getD i ⟨[],[]⟩=ds.getD i ⟨[],[]⟩)∨(i=t∧(ps.take t++[(x,y)]).getD i (undef,undef)=(x,y)∧(ds.take t++[D]).getD i ⟨[],[]⟩=D):=fun i hi=>by
  rw[List.length_append,hd,List.length_singleton] at hi;by_cases hit:i<t
  ·refine .inl ⟨hit,?_,?_⟩
   ·simp only[List.getD_eq_getElem?_getD];rw[List.getElem?_append_left (by omega),List.getElem?_take,if_pos hit]
   simp only[List.getD_eq_getElem?_getD];rw[List.getElem?_append_left (by omega),List.getElem?_take,if_pos hit]
  obtain rfl:i=t:=by omega
  refine .inr ⟨rfl,?_,?_⟩
  ·simp only[List.getD_eq_getElem?_getD];rw[List.getElem?_append_right (by omega),hp,Nat.sub_self];rfl
  simp only[List.getD_eq_getElem?_getD];rw[List.getElem?_append_right (by omega),hd,Nat.sub_self];rfl
 refine⟨by rw[List.length_append,List.length_append,hp,hd];rfl,fun i hi => ?_,fun i hi => ?_⟩
 ·rcases key i hi with⟨h1,e1,e2⟩|⟨-,e1,e2⟩
  ·rw[e1,e2];exact h.rd i (by omega)
  rw[e1,e2];exact⟨vs,B⟩
 rcases key i hi with⟨h1,-,e2⟩|⟨-,-,e2⟩
 ·rw[e2];exact h.ok i (by omega)
 rw[e2];exact hok
theorem StkR.at {X:Ent} {ps:List (Value × Value)} {ds:List DfaD} (h:StkR X ps ds) {i:Nat} (hi:i<ds.length) {w0 w:World} {L:List Ent} (hS:St w0 w L) (j:Nat) (hx:L[j]? = some X):DfaR 0 w (.agg #[(ps.getD i (undef,undef)).1,(ps.getD i (undef,undef)).2]) (ds.getD i ⟨[],[]⟩):=by obtain⟨vs,hd⟩:=h.rd i hi;exact hd.r hS j hx
-- steps, over a stack whose top is its end
theorem ZsM {K:Nat} {p:Int × Int} (hp:Zag p=0) (ds:List DfaD):Zgr K p ds.reverse=some ((ds.take (ds.length-0)++[Zkn p]).reverse):=by unfold Zgr;rw[if_pos hp,Nat.sub_zero,List.take_length,List.reverse_append];rfl
theorem Zjm {l:List DfaD} {t:Nat} (h:l.length=t+1):l=l.take t++[l.getD t ⟨[],[]⟩]:=by
 have e:l.take (t+1)=l:=by rw[← h];exact List.take_length
 rw[List.take_succ_eq_append_getElem (by omega)] at e;have e2:l.getD t ⟨[],[]⟩=l[t]:=by simp[show t<l.length by omega]
 rw[e2];exact e.symm
theorem ZsL {K:Nat} {p:Int × Int} (hp:Zag p=1) {ds:List DfaD} {t:Nat} (h:ds.length=t+1):Zgr K p ds.reverse=(oneQ K p.1 (ds.getD t ⟨[],[]⟩)).map fun D=>(ds.take t++[D]).reverse:=by
 have e:=Zjm h;have er:ds.reverse=ds.getD t ⟨[],[]⟩::(ds.take t).reverse:=by rw[show ds.reverse=(ds.take t++[ds.getD t ⟨[],[]⟩]).reverse by rw[← e]];simp
 rw[er];unfold Zgr;rw[if_neg (by omega),if_pos hp];show(oneQ K p.1 (ds.getD t ⟨[],[]⟩)).map (·::(ds.take t).reverse)=_;congr 1
 funext D
 simp
theorem ZsK {K:Nat} {p:Int × Int} (hp:Zag p=2) {ds:List DfaD} {t:Nat} (h:ds.length=t+1+1):Zgr K p ds.reverse=(twoQ K p.1 (ds.getD t ⟨[],[]⟩) (ds.getD (t+1) ⟨[],[]⟩)).map fun D=>(ds.take t++[D]).reverse:=by
 have e:=Zjm h;have hl:(ds.take (t+1)).length=t+1:=by rw[List.length_take];omega
 have e2:=Zjm hl;rw[List.take_take,Nat.min_eq_left (by omega),Zpc (by omega)] at e2;have er:ds.reverse=ds.getD (t+1) ⟨[],[]⟩::ds.getD t ⟨[],[]⟩::(ds.take t).reverse:=by rw[show ds.reverse=(ds.take (t+1)++[ds.getD (t+1) ⟨[],[]⟩]).reverse by rw[← e],e2];simp
 rw[er];unfold Zgr;rw[if_neg (by omega),if_neg (by omega)];show(twoQ K p.1 (ds.getD t ⟨[],[]⟩) (ds.getD (t+1) ⟨[],[]⟩)).map (·::(ds.take t).reverse)=_;congr 1
 funext D
 simp
theorem Zn3 {K:Nat} {es:List (Int × Int)} {k:Nat} (hk:k<es.length) (st:List DfaD):runC K (es.drop k) st=(Zgr K (es.getD k (0,0)) st).bind (runC K (es.drop (k+1))):=by
 have e:es.drop k=es.getD k (0,0)::es.drop (k+1):=by rw[show es.getD k (0,0)=es[k] by simp[hk]];exact(List.getElem_cons_drop hk).symm
 rw[e];rfl
theorem Zqj {a:DfaD} (ha:Zac a.next a.ends=true):DetOkW 81 (Zc0 (ZaL a)):=by have B:=Zaf ha;have h1:=ZcA a a.next.length;have h3:(eds a a.next.length).length≤40:=Nat.le_trans (Zdk a _) B.2.1;rw[Zg0];refine⟨Zhp (ZiV ha) (by omega),?_,fun s hs=>by have:=Zdm (a:=a) s hs;omega,by simp[Zd0],fun s hs=>by have:=Zdm (a:=a) s hs;omega,by simp[Zd0]⟩;simp only[Zd0,List.length_append,List.length_map,List.length_cons,List.length_nil];omega
theorem Zqt {x y:Value} (hx:x.oneCell'=true) (hy:y.oneCell'=true):∀ u∈[x,y],u.oneCell'=true:=by
 intro u hu;simp only[List.mem_cons,List.not_mem_nil,or_false] at hu;rcases hu with rfl|rfl
 ·exact hx
 exact hy
theorem St.dfaXh {w0 w:World} {L:List Ent} (h:St w0 w L) (i:Nat) {B0 B H:Nat} {v1 v2:Value} {D:DfaD} (hx:L[i]? = some (DfaX B0 B H v1 v2 D)) (h0:0<D.next.length):∃ (E:Ent) (vs:List Value),DfaH E v1 v2 vs D∧St w0 w (L.set i E):=by
 obtain⟨-,w',h1,⟨x1,x2,C,⟨vs,h2,h3⟩,h4⟩,h5⟩:=(h.has i _ hx).1;simp only[Value.agg.injEq,Array.mk.injEq,List.cons.injEq,and_true] at C;obtain⟨rfl,rfl⟩:=C;refine⟨⟨fun k=>B≤k∧k<H,fun u=>∀ k,B≤k→k<H→u.heap[k]? = w'.heap[k]?,fun _ _ g hk k p q=>(hk k ⟨p,q⟩).trans (g k p q)⟩,vs,⟨fun u hu hf => ?_⟩,h.same i hx _ (fun _=>h5) fun k hk=>hk⟩;have hlt:B<H:=by obtain⟨-,a,cap,-,-,-,g4⟩:=h2;obtain⟨b,off,-,G,F,-⟩:=g4 h0;omega
 have hs:w'.heap.size≤u.heap.size:=by have:H-1<u.heap.size:=hf (H-1) (show B≤H-1∧H-1<H by omega);omega
 have hk:∀ k,B≤k→k<w'.heap.size→u.heap[k]? = w'.heap[k]?:=fun k p q=>hu k p (by omega)
 exact⟨h2.keptJ (Nat.zero_le _) hs hk,fun i hi=>Sl.keptJ (h3 i hi) (Nat.zero_le _) hs hk,Sl.keptJ h4 (Nat.zero_le _) hs hk⟩
theorem Zgv (K:Nat) (S:K=40) (es:List (Int × Int)) (o:Option DfaD) (ho:runC K es []=o.map fun d=>[d]) (cG:∀ d,o=some d→minD d=d) (v:Value) (w:World) (hok:exOk es=true) (h:Pairs 0 w v es) :
  Calls Tryz.prog 24 #[v] w fun e w'=>RTt (o.getD zeD) o.isSome w.heap.size e w'∧Below w.heap.size w w':=by
 obtain⟨hall,bY,eT,eA⟩:=Zbh hok;obtain⟨av,cv,rfl,fC,fW,cW⟩:=h.form;obtain⟨i0,hi,cX,dO,dT⟩:=info_parts Tryz.infoDfa;obtain⟨n,hn⟩:=eI (es.length);rw[← hn] at fC cW hall bY eT eA;rw[← hn];have dH:=(((St.start w).alloc _ rfl #[.slice none 0 0,.slice none 0 0] 44).nilRow 44 2).add (Below.refl _ _) Ent.nil trivial fun k hk=>hk.elim
 have fA:=qh cW;have dF:=qh hall;have eS:=qh dH;have eW:=qh hi;clear hi;replace cX:=qh cX;have dG:=qh dO;clear dO;have eE:=qh dT;clear dT;replace hn:=qh hn;replace bY:=qh bY;have dY:=qh ho;clear ho;replace S:=qh S;have cQ:=qh cG;clear cG;clear h cW hall hok dH
 go_enter Tryz.func24, Tryz.ntmps24
 go_wp2
 go_loopg [4,12] n (fun gg st i wr=>∃ (k m c:Nat) (a:Option Addr) (ds:List DfaD) (ps:List (Value × Value)) (X:Ent),gg+k=n∧i = .int .i64 (k:Int)∧st = .slice a m c∧ds.length=m∧(m:Int)=dep es k∧runC K (es.drop k) ds.reverse=runC K es []∧StkR X ps ds∧St w wr [Ent.box w.heap.size #[.slice none 0 0,.slice none 0 0] 44,Ent.row 44 2 (.slice a m c) m (stkC ps),X])
 case atStart=>exact⟨0,0,0,none,[],[],Ent.nil,by omega,rfl,rfl,rfl,rfl,rfl,StkR.nil _,eS.o⟩
 case round =>
  obtain⟨k,m,c,a,ds,ps,X,fT,rfl,rfl,hm,bZ,Z,hR,hS⟩:=hrel;by_cases hlt:k<n
  ·have hlt2:(k:Int)<n:=by omega
   obtain⟨b,oo,rfl,-,dP,dX⟩:=fA.o (by omega);obtain⟨g1,g2⟩:=dX k hlt;have k1:=(bcell hS.bel b _ dP).trans g1;have k2:=(bcell hS.bel b _ dP).trans g2;obtain⟨dC,cM⟩:=dF.o k hlt;have aG:=Zn3 (K:=K) (es:=es) (k:=k) (by rw[← hn.o];exact hlt) ds.reverse;rw[Z] at aG;have hds:dep es (k+1)=dep es k-Zag (es.getD k (0,0))+1:=rfl;obtain⟨p,hp⟩:=eI (es.getD k (0,0));rw[← hp] at k1 k2 dC cM aG hds;obtain⟨T,p2⟩:=p;simp only at k1 k2;have hpo:=Ze8 dC;have dN:=Zcu (T,p2);obtain⟨r,hr⟩:=eJ (Zag (T,p2));rw[hr] at dC cM dN hds;rw[← bZ] at hds cM;have hmk:m≤200:=by have:=Zgm es k;omega
   obtain⟨r,rfl⟩:∃ q:Nat,r=((q:Nat):Int):=⟨r.toNat,by omega⟩;obtain⟨t,gC⟩:∃ t:Nat,(m:Int)-(r:Int)=((t:Nat):Int):=⟨m-r,by omega⟩;have gF:IntKind.i64.wrap (t:Int)=(t:Int):=IntWalk.i64_in _ (by omega);have bV:=qh (hS.alloc _ rfl #[.int .i64 T,.int .i64 p2] 62);have HR:=qh hR;have dI:=qh aG;clear aG;have fZ:=qh hp;clear hp;have aI:=qh hm;clear hm;have dQ:=qh hds;clear hds;have aH:=qh hr;clear hr;have bN:=qh hpo;clear hpo;have fO:=qh bZ;clear bZ;clear hS dX g1 g2 Z hR dN;have e0:=bV.o.cell (v:=.int .i64 T) 3 0 rfl rfl;have e1:=bV.o.cell (v:=.int .i64 p2) 3 1 rfl rfl;go_wp2_with fail;refine(ZaN T p2 _ _ aH.o (by omega)).mono ?_;rintro e w1 ⟨rfl,hb1⟩;have dZ:=bV.o.call hb1;have bC:=qh (dZ.alloc _ rfl #[.slice none 0 0,.slice none 0 0] 44);clear hb1 dZ e0 e1;have e0:=bC.o.cell (v:=.int .i64 T) 3 0 rfl rfl;have e1:=bC.o.cell (v:=.int .i64 p2) 3 1 rfl rfl;go_wp2_with fail;refine(ZaN T p2 _ _ aH.o (by omega)).mono ?_;rintro e w2 ⟨rfl,hb2⟩;have V:=qh (bC.o.call hb2);clear hb2 e0 e1
   go_upto_block 2 with fail
   go_cut [9,12] from 12 to 74 (fun eN iv wc=>∃ (q:Option DfaD) (b1 b2:Option Addr) (n1 d1 n2 d2:Nat) (X':Ent),iv = .int .i64 (k:Int)∧eN = .bool q.isSome∧Zgr K (T,p2) ds.reverse=q.map (fun D=>(ds.take t++[D]).reverse)∧(∀ D,q=some D→Zac D.next D.ends=true∧∃ vs,DfaH X' (.slice b1 n1 d1) (.slice b2 n2 d2) vs D)∧StkR X' ps ds∧St w wc [Ent.box w.heap.size #[.slice none 0 0,.slice none 0 0] 44,Ent.row 44 2 (.slice a m c) m (stkC ps),Ent.box w1.heap.size #[.slice b1 n1 d1,.slice b2 n2 d2] 44,X'])
   case first =>
    have hlen:=HR.o.len;rw[aI.o] at hlen;have eY:r=0∨r=1∨r=2:=by have:=Zcu (T,p2);rw[aH.o] at this;omega
    rcases eY with rfl|rfl|rfl
    ·have aN:t=m-0:=by omega
     obtain⟨D,hD⟩:=eJ (Zkn (T,p2));have j:Zac D.next D.ends=true:=by rw[← hD];exact ZqP bN.o aH.o
     have M:=ZsM (K:=K) (p:=(T,p2)) aH.o ds;rw[aI.o,← aN,hD] at M;have e0:=V.o.cell (v:=.int .i64 T) 3 0 rfl rfl;have e1:=V.o.cell (v:=.int .i64 p2) 3 1 rfl rfl;have Q:=qh M;clear M;replace j:=qh j;have bL:=qh hD;clear hD;have fM:=qh aN;clear aN;have bK:=qh hlen;clear hlen;go_wp2_with fail;refine(Zkv T p2 _ bN.o aH.o D bL.o).mono ?_;rintro e w3 ⟨a1,c1,a2,c2,rfl,aQ,bT⟩;have U:=V.o.dfaX bT aQ;have f0:=U.fr 4 0 rfl;have f1:=U.fr 4 1 rfl;have k0:=U.cell (v:=.slice none 0 0) 4 0 rfl rfl;have k1:=U.cell (v:=.slice none 0 0) 4 1 rfl rfl;have eO:=qh U;clear U aQ bT e0 e1;go_wp2;go_meet;obtain⟨E,vs,hH,bI⟩:=((eO.o.set 4 rfl 0 (.slice a1 D.next.length c1)).set 4 rfl 1 (.slice a2 D.ends.length c2)).dfaXh 5 rfl (Zaf j.o).1;exact⟨some D,_,_,_,_,_,_,Ent.all [X,E],rfl,rfl,Q.o,fun D' h=>by obtain rfl:=Option.some.inj h;exact⟨j.o,vs,hH.right⟩,HR.o.left,St.pack (A:=[Ent.box w.heap.size #[.slice none 0 0,.slice none 0 0] 44,Ent.row 44 2 (.slice a m c) m (stkC ps),Ent.box w1.heap.size #[.slice a1 D.next.length c1,.slice a2 D.ends.length c2] 44]) (R:=[X,E]) (bI.pick [0,1,4,2,5] (by decide))⟩
    ·have aC:m=t+1:=by omega
     obtain⟨g,c2,he⟩:=V.o.rowform 1 rfl (by omega);simp only[Value.slice.injEq,true_and] at he;obtain⟨rfl,rfl⟩:=he;have aT:t<ds.length:=by rw[aI.o];omega
     have M:=ZsL (K:=K) (p:=(T,p2)) aH.o (ds:=ds) (t:=t) (by rw[aI.o];exact aC);have x:=HR.o.ok t aT;have I:=fun (u:World) (L:List Ent) (hS:St w u L) (hx:L[2]? = some X)=>HR.o.at aT hS 2 hx
     obtain⟨hc1',O⟩:=ZgX ps t (by omega);obtain⟨vs,hH⟩:=HR.o.rd t aT;obtain⟨A,hA⟩:=eJ (ds.getD t ⟨[],[]⟩);obtain⟨y1,aE⟩:∃ y,(ps.getD t (undef,undef)).1=y:=⟨_,rfl⟩;obtain⟨y2,aD⟩:∃ y,(ps.getD t (undef,undef)).2=y:=⟨_,rfl⟩;rw[hA] at M x I hH;rw[aE] at hc1' I hH;rw[aD] at O I hH;obtain⟨_,_,hv,⟨gD,⟨-,s1,z1,rfl,-,-,-⟩,-⟩,⟨-,s2,z2,rfl,-,-,-⟩⟩:=I _ _ V.o rfl;simp only[Value.agg.injEq,Array.mk.injEq,List.cons.injEq,and_true] at hv;obtain⟨rfl,rfl⟩:=hv;obtain⟨l1,aY⟩:∃ l,A.next.length=l:=⟨_,rfl⟩;obtain⟨l2,bA⟩:∃ l,A.ends.length=l:=⟨_,rfl⟩;rw[aY] at hc1' I hH aE;rw[bA] at O I hH aD;have aN:(t:Int)<(m:Int):=by omega
     have eR:0<A.ends.length:=by have:=Zaf x;omega
     have fK:t+1≤m:=by omega
     have cR:=qh aC;clear aC;have Q:=qh M;clear M;have aB:=qh x;clear x;replace I:=qh I;have eX:=qh hH;clear hH;replace hA:=qh hA;have fS:=qh aE;clear aE;have fN:=qh aD;clear aD;have aJ:=qh hc1';clear hc1';have aL:=qh O;clear O;have cI:=qh aY;clear aY;have cH:=qh bA;clear bA;have bK:=qh hlen;clear hlen;have r0:=V.o.rcell (v:=(.slice s1 l1 z1)) 1 (t*2) rfl (by omega) aJ.o;have r1:=V.o.rcell (v:=(.slice s2 l2 z2)) 1 (t*2+1) rfl (by omega) aL.o;go_wp2_with fail;refine(Zh8 A (.slice s1 l1 z1) (.slice s2 l2 z2) _ aB.o (I.o _ _ V.o rfl)).mono ?_;rintro e w3 ⟨u2,rfl,hu,bT⟩;obtain⟨a2,c2,rfl,-,-,-⟩:=hu.form;have U:=V.o.dfaE bT;have f0:=U.fr 4 0 rfl;have f1:=U.fr 4 1 rfl;have k0:=U.cell (v:=.slice none 0 0) 4 0 rfl rfl;have k1:=U.cell (v:=.slice none 0 0) 4 1 rfl rfl;obtain⟨L2,fB⟩:=eJ ((flB true A).ends.length);rw[fB] at hu ⊢;have cU:=(U.set 4 rfl 0 (.slice s1 l1 z1)).set 4 rfl 1 (.slice a2 L2 c2);have e0:=cU.cell (v:=.int .i64 T) 3 0 rfl rfl;have bE:=qh cU;have Hu:=qh hu;clear U cU hu bT r0 r1;by_cases h8:T=8
     ·subst h8;have r0:=bE.o.rcell (v:=(.slice s1 l1 z1)) 1 (t*2) rfl (by omega) aJ.o;have r1:=bE.o.rcell (v:=(.slice s2 l2 z2)) 1 (t*2+1) rfl (by omega) aL.o;have cB:=Zqj aB.o;have hok:=Zfd aB.o;obtain⟨P,hP⟩:=eJ (ZaL A);have cS:=ZeV A (.agg #[.slice s1 l1 z1,.slice s2 l2 z2]) _ aB.o (I.o _ _ bE.o rfl);rw[hP] at cS cB hok;have eM:=qh cS;obtain⟨q,hq⟩:=eJ (oneQ K 8 A);have M:=Q.o;rw[hq] at M;have bH:(ZgA 81 K (Zc0 P)).map minD=q:=by rw[← hq,← hP];rfl
      obtain⟨J,hJ⟩:=eJ (Zc0 P);obtain⟨PM,dV,cL,-,fL,-,eD,-,eC⟩:=ZdK hok;have bG:=fun (W:World) (v1 v2 v3:Value) (h:Moves 0 W v1 P.moves∧Ints 0 W v2 P.firsts∧Ints 0 W v3 P.ends)=>Zk3 P PM v1 v2 v3 W dV (by omega) (by omega) (by omega) (by omega) h.1 h.2.1 h.2.2
      rw[hJ] at cB bH bG;have eG:=qh bG;obtain⟨D,hD⟩:=eJ (q.getD zeD);obtain⟨fb,aS⟩:=eJ (q.isSome);have dD:=fun (W:World) (v1 v2 v3:Value) (h:Moves 0 W v1 J.moves∧Ints 0 W v2 J.firsts∧Ints 0 W v3 J.ends)=>(ZeF 81 (by omega) J K S.o D fb (by rw[bH];exact hD) (by rw[bH];exact aS) v1 v2 v3 W cB h.1 h.2.1 h.2.2).mono fun e w' h=>RTt.s h
      have eV:=qh dD;have bS:∀ D',q=some D'→Zac D'.next D'.ends=true:=fun D' h=>by rw[← bH,Option.map_eq_some_iff] at h;obtain⟨z,hz,rfl⟩:=h;exact ZoA (ZjI S.o hz)
      have bO:=qh bS;clear bS;have Q:=qh M;clear M;have bL:=qh hD;clear hD;have aO:=qh aS;clear aS;clear cS bG dD cB hok hq bH hP hJ dV cL fL eD eC;go_wp2_with fail;refine(eM.o).mono ?_;rintro e w5 h5;obtain⟨b1,d1,b2,d2,b3,d3,rfl,aF⟩:=RNfaS.t h5;have aR:=qh (bE.o.cat aF);clear h5 aF r0 r1;go_wp2_with fail;refine(eG.o _ _ _ _ (aR.o.nfaT 6 rfl)).mono ?_;rintro e w6 h6;obtain⟨m1,m2,m3,m4,m5,m6,rfl,dK⟩:=RNfaS.t h6;have eB:=qh (aR.o.cat dK);clear h6 dK;go_wp2_with fail;refine(eV.o _ _ _ _ (eB.o.nfaT 7 rfl)).mono ?_;rintro e w7 ⟨a1,c1,a3,c3,rfl,aQ,dS⟩;have aZ:=eB.o.dfaX dS aQ;have f0:=aZ.fr 4 0 rfl;have f1:=aZ.fr 4 1 rfl;have k0:=aZ.cell (v:=(.slice s1 l1 z1)) 4 0 rfl rfl;have k1:=aZ.cell (v:=.slice a2 L2 c2) 4 1 rfl rfl;have fJ:=qh aZ;clear aZ aQ dS;go_wp2;go_meet;have bD:=(fJ.o.set 4 rfl 0 (.slice a1 D.next.length c1)).set 4 rfl 1 (.slice a3 D.ends.length c3);cases q with
      | none=>exact⟨none,a1,a3,D.next.length,c1,D.ends.length,c3,X,rfl,by rw[← aO.o],Q.o,fun D' h=>(by cases h),HR.o,bD.pick [0,1,4,2] (by decide)⟩
      | some D0 =>obtain rfl:D0=D:=bL.o;have j:=bO.o D0 rfl;obtain⟨E,vs,hH,bI⟩:=bD.dfaXh 8 rfl (Zaf j).1;exact⟨some D0,_,_,_,_,_,_,Ent.all [X,E],rfl,by rw[← aO.o],Q.o,fun D' h=>by obtain rfl:=Option.some.inj h;exact⟨j,vs,hH.right⟩,HR.o.left,St.pack (A:=[Ent.box w.heap.size #[.slice none 0 0,.slice none 0 0] 44,Ent.row 44 2 (.slice (some ⟨g,0,none⟩) m c) m (stkC ps),Ent.box w1.heap.size #[.slice a1 D0.next.length c1,.slice a3 D0.ends.length c3] 44]) (R:=[X,E]) (bI.pick [0,1,4,2,8] (by decide))⟩
     obtain⟨q1,q2,q3,q4⟩:=Zaw h8;replace h8:=qh h8;go_wp2;go_meet;refine⟨some (flB true A),s1,a2,l1,z1,L2,c2,Ent.all [X,DfaE w2 w3],rfl,rfl,?_,fun D' h => ?_,HR.o.left,St.pack (A:=[Ent.box w.heap.size #[.slice none 0 0,.slice none 0 0] 44,Ent.row 44 2 (.slice (some ⟨g,0,none⟩) m c) m (stkC ps),Ent.box w1.heap.size #[.slice s1 l1 z1,.slice a2 L2 c2] 44]) (R:=[X,DfaE w2 w3]) (bE.o.pick [0,1,4,2,5] (by decide))⟩
     ·rw[Q.o];unfold oneQ;rw[if_neg h8.o]
     obtain rfl:=Option.some.inj h;exact⟨Zrw aB.o,vs,eX.o.flip Hu.o eR⟩
    have aC:m=t+1+1:=by omega
    obtain⟨g,c2,he⟩:=V.o.rowform 1 rfl (by omega);simp only[Value.slice.injEq,true_and] at he;obtain⟨rfl,rfl⟩:=he;obtain⟨s,gB⟩:∃ s:Nat,(t:Int)+1=((s:Nat):Int):=⟨t+1,by omega⟩;have gG:IntKind.i64.wrap (s:Int)=(s:Int):=IntWalk.i64_in _ (by omega);have cO:s=t+1:=by omega
    have aT:t<ds.length:=by rw[aI.o];omega
    have cZ:s<ds.length:=by rw[aI.o];omega
    have M:=ZsK (K:=K) (p:=(T,p2)) aH.o (ds:=ds) (t:=t) (by rw[aI.o];exact aC);rw[← cO] at M;have x:=HR.o.ok t aT;have cJ:=HR.o.ok s cZ;have I:=fun (u:World) (L:List Ent) (hS:St w u L) (hx:L[2]? = some X)=>HR.o.at aT hS 2 hx
    have bP:=fun (u:World) (L:List Ent) (hS:St w u L) (hx:L[2]? = some X)=>HR.o.at cZ hS 2 hx
    obtain⟨hc1',O⟩:=ZgX ps t (by omega);obtain⟨bF,bR⟩:=ZgX ps s (by omega);obtain⟨A,hA⟩:=eJ (ds.getD t ⟨[],[]⟩);obtain⟨B,hB⟩:=eJ (ds.getD s ⟨[],[]⟩);obtain⟨y1,aE⟩:∃ y,(ps.getD t (undef,undef)).1=y:=⟨_,rfl⟩;obtain⟨y2,aD⟩:∃ y,(ps.getD t (undef,undef)).2=y:=⟨_,rfl⟩;obtain⟨y3,dW⟩:∃ y,(ps.getD s (undef,undef)).1=y:=⟨_,rfl⟩;obtain⟨y4,eF⟩:∃ y,(ps.getD s (undef,undef)).2=y:=⟨_,rfl⟩;rw[hA,hB] at M;rw[hA] at x I;rw[hB] at cJ bP;rw[aE] at hc1' I;rw[aD] at O I;rw[dW] at bF bP;rw[eF] at bR bP;have aN:(t:Int)<(m:Int):=by omega
    have dD:(s:Int)<(m:Int):=by omega
    have fK:t+1≤m:=by omega
    have gA:s+1≤m:=by omega
    have fU:(0:Int)≤(s:Int):=by omega
    have dU:T=4∨T=5∨T=6:=by
     have h1:=aH.o;have h2:=bN.o;unfold Zag at h1;rw[if_pos h2] at h1;simp only[pOk,inB,Bool.and_eq_true,Bool.or_eq_true,decide_eq_true_eq,Bool.not_eq_true',decide_eq_false_iff_not] at h2
     split at h1
     ·omega
     split at h1<;>omega
    obtain⟨q,hq⟩:=eJ (twoQ K T A B);rw[show((T,p2):Int × Int).1=T from rfl,hq] at M;obtain⟨D,hD⟩:=eJ (q.getD zeD);obtain⟨fb,aS⟩:=eJ (q.isSome)
    have bS:∀ D',q=some D'→Zac D'.next D'.ends=true:=fun D' h=>by
     rw[← hq] at h;unfold twoQ at h
     split at h
     ·rw[Option.map_eq_some_iff] at h;obtain⟨z,hz,rfl⟩:=h;exact ZoA (ZjI S.o hz)
     split at h <;>
     ·rw[Option.map_eq_some_iff] at h;obtain⟨z,hz,rfl⟩:=h;exact ZoA (ZbP S.o hz)
    have eH:=fun (u:World) (L:List Ent) (hS:St w u L) (hx:L[2]? = some X)=>ZhD K S.o T dU A B D fb (by rw[hq];exact hD) (by rw[hq];exact aS) (.agg #[y1,y2]) (.agg #[y3,y4]) u x cJ (I u L hS hx) (bP u L hS hx)
    have fH:=qh eH;have cR:=qh aC;clear aC;have Q:=qh M;clear M;have bO:=qh bS;clear bS;have bL:=qh hD;clear hD;have aO:=qh aS;clear aS;have bK:=qh hlen;clear hlen;have aJ:=qh hc1';clear hc1';have aL:=qh O;clear O;have cP:=qh bF;clear bF;have cV:=qh bR;clear bR;have fR:=qh cO;clear cO;clear eH I bP x cJ hA hB aE aD dW eF hq dU aT cZ;go_wp2;refine wp_region_any (by kernel_rfl) ?_
    refine Zay (fun A listed a w'=>∃ (l0 l1 l2 l3 l4 l5 l6 l7 l8 l9 cA aM aW aV bW aU cC:Bool) (v1:Option Addr) (v2:Nat) (v3:Option Addr) (Y:Nat) (BB:Nat) (HH:Nat),listed=#[l0,l1,l2,l3,l4,l5,l6,l7,l8,l9,cA,aM,aW,aV,bW,aU,cC]∧(aW=true→aM=true)∧(aV=true→aM=true)∧(aU=true→aM=true) ∧
      a=⟨((((((((((((((((A.tmps.setIfInBounds 51 (if l0=true then .pointer (some ⟨wr.heap.size,0,none⟩) else A.tmps.getD 51 undef)).setIfInBounds 52 (if l1=true then .int .i64 T else A.tmps.getD 52 undef)).setIfInBounds 53 (if l2=true then .slice (some ⟨g,0,none⟩) m c else A.tmps.getD 53 undef)).setIfInBounds 54 (if l3=true then .int .i64 ((t:Nat):Int) else A.tmps.getD 54 undef)).setIfInBounds 55 (if l4=true then .pointer (some ⟨g,t*2,none⟩) else A.tmps.getD 55 undef)).setIfInBounds 56 (if l5=true then .agg #[y1,y2] else A.tmps.getD 56 undef)).setIfInBounds 57 (if l6=true then .slice (some ⟨g,0,none⟩) m c else A.tmps.getD 57 undef)).setIfInBounds 58 (if l7=true then .int .i64 ((t:Nat):Int) else A.tmps.getD 58 undef)).setIfInBounds 59 (if l8=true then .int .i64 ((s:Nat):Int) else A.tmps.getD 59 undef)).setIfInBounds 60 (if l9=true then .pointer (some ⟨g,s*2,none⟩) else A.tmps.getD 60 undef)).setIfInBounds 61 (if cA=true then .agg #[y3,y4] else A.tmps.getD 61 undef)).setIfInBounds 62 (if aM=true then .tuple #[.agg #[.slice v1 D.next.length v2,.slice v3 D.ends.length Y],.bool fb] else A.tmps.getD 62 undef)).setIfInBounds 50 (if aW=true then .tuple #[.agg #[.slice v1 D.next.length v2,.slice v3 D.ends.length Y],.bool fb] else A.tmps.getD 50 undef)).setIfInBounds 63 (if aV=true then .agg #[.slice v1 D.next.length v2,.slice v3 D.ends.length Y] else A.tmps.getD 63 undef)).setIfInBounds 64 (if bW=true then .bool fb else A.tmps.getD 64 undef)).setIfInBounds 9 (if cC=true then .bool fb else A.tmps.getD 9 undef)),A.defers⟩ ∧
      St w w' [Ent.box w.heap.size #[.slice none 0 0,.slice none 0 0] 44,Ent.row 44 2 (.slice (some ⟨g,0,none⟩) m c) m (stkC ps),X,Ent.box wr.heap.size #[.int .i64 T,.int .i64 p2] 62,(if aU=true then Ent.box w1.heap.size #[.slice v1 D.next.length v2,.slice v3 D.ends.length Y] 44 else Ent.box w1.heap.size #[.slice none 0 0,.slice none 0 0] 44),(if aM=true then DfaX w.heap.size BB HH (.slice v1 D.next.length v2) (.slice v3 D.ends.length Y) D else Ent.nil)]) ?_ ?_ ?_
    ·rintro listed a w' ⟨l0,l1,l2,l3,l4,l5,l6,l7,l8,l9,cA,aM,aW,aV,bW,aU,cC,v1,v2,v3,Y,BB,HH,rfl,H,G,F,rfl,hS⟩ i hi;obtain⟨C,o,ho,hall⟩:=mem_ready.1 hi;have hlt:=(Array.getElem?_eq_some_iff.1 ho).1;refine wpOp_step ho (fun K S => ?_);clear hi;have N:=qh hS;clear hS;simp only[w_1,w_2,w_3,w_4,w_5,w_6,w_7,w_8];obtain h|h|h|h|h|h|h|h|h|h|h|h|h|h|h|h|h:i=0∨i=1∨i=2∨i=3∨i=4∨i=5∨i=6∨i=7∨i=8∨i=9∨i=10∨i=11∨i=12∨i=13∨i=14∨i=15∨i=16:=by simp at hlt;omega
     all_goals subst h
     all_goals simp only[w_5,w_6,w_7,w_9] at ho
     all_goals subst ho
     all_goals simp[Region.binds] at C hall
     ·subst C;go_simp;exact S _ _ ⟨_,_,_,_,_,_,_,_,_,_,_,_,_,_,_,_,_,v1,v2,v3,Y,BB,HH,rfl,H,G,F,(by simp),N.o⟩
     ·obtain rfl:=hall;subst C;have e0:=N.o.cell (v:=.int .i64 T) 3 0 rfl rfl;go_simp;exact S _ _ ⟨_,_,_,_,_,_,_,_,_,_,_,_,_,_,_,_,_,v1,v2,v3,Y,BB,HH,rfl,H,G,F,(by simp),N.o⟩
     ·subst C;go_simp;exact S _ _ ⟨_,_,_,_,_,_,_,_,_,_,_,_,_,_,_,_,_,v1,v2,v3,Y,BB,HH,rfl,H,G,F,(by simp),N.o⟩
     ·subst C;go_simp;exact S _ _ ⟨_,_,_,_,_,_,_,_,_,_,_,_,_,_,_,_,_,v1,v2,v3,Y,BB,HH,rfl,H,G,F,(by simp),N.o⟩
     ·obtain⟨rfl,rfl⟩:=hall;subst C;go_simp;exact S _ _ ⟨_,_,_,_,_,_,_,_,_,_,_,_,_,_,_,_,_,v1,v2,v3,Y,BB,HH,rfl,H,G,F,(by simp),N.o⟩
     ·obtain rfl:=hall;subst C;have e0:=N.o.rcell (v:=y1) 1 (t*2) rfl (by omega) aJ.o;have e1:=N.o.rcell (v:=y2) 1 (t*2+1) rfl (by omega) aL.o;go_simp;exact S _ _ ⟨_,_,_,_,_,_,_,_,_,_,_,_,_,_,_,_,_,v1,v2,v3,Y,BB,HH,rfl,H,G,F,(by simp),N.o⟩
     ·subst C;go_simp;exact S _ _ ⟨_,_,_,_,_,_,_,_,_,_,_,_,_,_,_,_,_,v1,v2,v3,Y,BB,HH,rfl,H,G,F,(by simp),N.o⟩
     ·subst C;go_simp;exact S _ _ ⟨_,_,_,_,_,_,_,_,_,_,_,_,_,_,_,_,_,v1,v2,v3,Y,BB,HH,rfl,H,G,F,(by simp),N.o⟩
     ·obtain rfl:=hall;subst C;go_simp;exact S _ _ ⟨_,_,_,_,_,_,_,_,_,_,_,_,_,_,_,_,_,v1,v2,v3,Y,BB,HH,rfl,H,G,F,(by simp),N.o⟩
     ·obtain⟨rfl,rfl⟩:=hall;subst C;go_simp;exact S _ _ ⟨_,_,_,_,_,_,_,_,_,_,_,_,_,_,_,_,_,v1,v2,v3,Y,BB,HH,rfl,H,G,F,(by simp),N.o⟩
     ·obtain rfl:=hall;subst C;have e0:=N.o.rcell (v:=y3) 1 (s*2) rfl (by omega) cP.o;have e1:=N.o.rcell (v:=y4) 1 (s*2+1) rfl (by omega) cV.o;go_simp;exact S _ _ ⟨_,_,_,_,_,_,_,_,_,_,_,_,_,_,_,_,_,v1,v2,v3,Y,BB,HH,rfl,H,G,F,(by simp),N.o⟩
     ·obtain⟨rfl,rfl,rfl⟩:=hall;subst C;obtain rfl:aW=false:=by cases aW with|false=>rfl|true=>simpa using H rfl
      obtain rfl:aV=false:=by cases aV with|false=>rfl|true=>simpa using G rfl
      obtain rfl:aU=false:=by cases aU with|false=>rfl|true=>simpa using F rfl
      go_simp
      go_at_call 62
      refine(fH.o _ _ N.o rfl).mono ?_;rintro e u1 ⟨fF,eP,eZ,fE,rfl,hr,hb⟩;have bU:=(N.o.dfaX hb hr).pick [0,1,2,3,4,6] (by decide);have bB:=qh bU;clear bU;go_simp;exact S _ _ ⟨_,_,_,_,_,_,_,_,_,_,_,_,_,_,_,_,_,fF,eP,eZ,fE,_,_,rfl,by simp,by simp,by simp,(by simp),bB.o⟩
     ·obtain rfl:=hall;subst C;go_simp;exact S _ _ ⟨_,_,_,_,_,_,_,_,_,_,_,_,_,_,_,_,_,v1,v2,v3,Y,BB,HH,rfl,by simp,G,F,(by simp),N.o⟩
     ·obtain rfl:=hall;subst C;obtain rfl:=H rfl;go_simp;exact S _ _ ⟨_,_,_,_,_,_,_,_,_,_,_,_,_,_,_,_,_,v1,v2,v3,Y,BB,HH,rfl,by simp,by simp,F,(by simp),N.o⟩
     ·obtain rfl:=hall;subst C;obtain rfl:=H rfl;go_simp;exact S _ _ ⟨_,_,_,_,_,_,_,_,_,_,_,_,_,_,_,_,_,v1,v2,v3,Y,BB,HH,rfl,by simp,G,F,(by simp),N.o⟩
     ·obtain⟨rfl,rfl,rfl,rfl,rfl,rfl,rfl,rfl,rfl,rfl,rfl,rfl,rfl,-,rfl,-⟩:=hall;subst C;have f0:=N.o.fr 4 0 rfl;have k0:=N.o.cell (v:=.slice none 0 0) 4 0 rfl rfl;have f1:=N.o.fr 4 1 rfl;have k1:=N.o.cell (v:=.slice none 0 0) 4 1 rfl rfl;go_simp;exact S _ _ ⟨_,_,_,_,_,_,_,_,_,_,_,_,_,_,_,_,_,v1,v2,v3,Y,BB,HH,rfl,by simp,by simp,by simp,(by simp),((N.o.set 4 rfl 0 (.slice v1 D.next.length v2)).set 4 rfl 1 (.slice v3 D.ends.length Y))⟩
     obtain⟨rfl,rfl,rfl,rfl,rfl,rfl,rfl,rfl,rfl,rfl,rfl,rfl,rfl,rfl,rfl,rfl,-⟩:=hall;subst C;go_simp;exact S _ _ ⟨_,_,_,_,_,_,_,_,_,_,_,_,_,_,_,_,_,v1,v2,v3,Y,BB,HH,rfl,by simp,by simp,by simp,(by simp),N.o⟩
    ·rintro listed a w' ⟨l0,l1,l2,l3,l4,l5,l6,l7,l8,l9,cA,aM,aW,aV,bW,aU,cC,v1,v2,v3,Y,BB,HH,rfl,H,G,F,rfl,hS⟩ hr;obtain⟨rfl,rfl,rfl,rfl,rfl,rfl,rfl,rfl,rfl,rfl,rfl,rfl,rfl,rfl,rfl,rfl,rfl,-⟩:=zA (Za1 (by kernel_rfl) rfl hr) rfl;clear hr H G F;simp only[↓reduceIte] at hS ⊢;simp only[w_1,w_2,w_3];have bD:=hS.pick [0,1,2,3,4,5] (by decide);have bX:=qh bD;clear hS bD;go_wp2;go_meet;cases q with
     | none=>exact⟨none,v1,v3,D.next.length,v2,D.ends.length,Y,X,rfl,by rw[← aO.o],Q.o,fun D' h=>(by cases h),HR.o,bX.o.pick [0,1,4,2] (by decide)⟩
     | some D0 =>obtain rfl:D0=D:=bL.o;have j:=bO.o D0 rfl;obtain⟨E,vs,hH,bI⟩:=bX.o.dfaXh 5 rfl (Zaf j).1;exact⟨some D0,_,_,_,_,_,_,Ent.all [X,E],rfl,by rw[← aO.o],Q.o,fun D' h=>by obtain rfl:=Option.some.inj h;exact⟨j,vs,hH.right⟩,HR.o.left,St.pack (A:=[Ent.box w.heap.size #[.slice none 0 0,.slice none 0 0] 44,Ent.row 44 2 (.slice (some ⟨g,0,none⟩) m c) m (stkC ps),Ent.box w1.heap.size #[.slice v1 D0.next.length v2,.slice v3 D0.ends.length Y] 44]) (R:=[X,E]) (bI.pick [0,1,4,2,5] (by decide))⟩
    refine⟨false,false,false,false,false,false,false,false,false,false,false,false,false,false,false,false,false,none,0,none,0,0,0,rfl,by simp,by simp,by simp,(by simp),?_⟩;exact V.o.drew.pick [0,1,2,3,4,5] (by decide)
   case rest =>
    obtain⟨q,b1,b2,n1,d1,n2,d2,X',rfl,rfl,M,cY,cK,aK⟩:=hcut;have aG:=dI.o;rw[M] at aG;cases q with
    | none =>
     have eQ:o=none:=by
      have:=dY.o;rw[aG] at this;cases o with
      | none=>rfl
      | some d=>cases this
     subst eQ;have f0:=aK.fr 0 0 rfl;have f1:=aK.fr 0 1 rfl;have k0:=aK.cell (v:=.slice none 0 0) 0 0 rfl rfl;have k1:=aK.cell (v:=.slice none 0 0) 0 1 rfl rfl;have aR:=qh aK;clear aK cK cY M aG V bC bV;go_wp2;have hq:=(aR.o.set 0 rfl 0 (.slice none 0 0)).set 0 rfl 1 (.slice none 0 0);have q0:=hq.cell (v:=.slice none 0 0) 0 0 rfl rfl;have q1:=hq.cell (v:=.slice none 0 0) 0 1 rfl rfl;refine bodyPost_ret (v:=.tuple #[.agg #[.slice none 0 0,.slice none 0 0],.bool false]) (by simp[results,Tryz.results24,go_sem,q0,q1]) rfl ⟨?_,hq.bel⟩;exact⟨none,0,none,0,rfl,ZiT _ _ _ _ _⟩
    | some D =>
     obtain⟨j,vs,hH⟩:=cY D rfl;have aN:t≤m:=by omega
     have dR:=cK.push (t:=t) (by rw[aI.o];exact aN) hH j;have Z:runC K (es.drop (k+1)) (ds.take t++[D]).reverse=runC K es []:=by rw[aG];rfl
     have aY:(ds.take t++[D]).length=t+1:=by rw[List.length_append,List.length_take,aI.o,List.length_singleton];omega
     have bA:((t+1:Nat):Int)=dep es (k+1):=by have:=dQ.o;omega
     have dB:(stkC ps).take (t*2)=stkC (ps.take t):=Zj2 ps t;have cT:=aK.cut 1 rfl t aN;rw[dB] at cT;obtain⟨a',c',he,gE,fY⟩:=aK.rowany 1 rfl;simp only[Value.slice.injEq,true_and] at he;obtain⟨rfl,rfl⟩:=he;obtain⟨sa,rfl⟩:∃ z,z=a:=⟨_,rfl⟩;have fV:(0:Int)≤(t:Int):=by omega
     have fX:(t:Int)≤(c:Int):=by omega
     have aR:=qh cT;have fG:=qh dR;have dA:=qh Z;clear Z;have cI:=qh aY;clear aY;have cH:=qh bA;clear bA;have fQ:=qh dB;clear dB;have Q:=qh M;clear M;clear aK cK cY aG V bC bV cT dR hH;go_wp2;refine wp_region_any (by kernel_rfl) ?_
     refine Zay (fun A listed a w'=>∃ (l0 l1 l2 l3 l4 l5 l6:Bool) (aA:Nat) (g7:Nat) (c7:Nat),listed=#[l0,l1,l2,l3,l4,l5,l6]∧(l6=true→l0=true∧l5=true) ∧
       a=⟨(((((((A.tmps.setIfInBounds 68 (if l0=true then .slice sa m c else A.tmps.getD 68 undef)).setIfInBounds 69 (if l1=true then .int .i64 ((t:Nat):Int) else A.tmps.getD 69 undef)).setIfInBounds 70 (if l2=true then .slice sa t c else A.tmps.getD 70 undef)).setIfInBounds 71 (if l3=true then .agg #[.slice b1 n1 d1,.slice b2 n2 d2] else A.tmps.getD 71 undef)).setIfInBounds 72 (if l4=true then .slice (some ⟨aA,0,none⟩) 1 1 else A.tmps.getD 72 undef)).setIfInBounds 73 (if l5=true then .slice (some ⟨g7,0,none⟩) (t+1) c7 else A.tmps.getD 73 undef)).setIfInBounds 4 (if l6=true then .slice (some ⟨g7,0,none⟩) (t+1) c7 else A.tmps.getD 4 undef)),A.defers⟩ ∧
       St w w' [Ent.box w.heap.size #[.slice none 0 0,.slice none 0 0] 44,(if l5=true then Ent.row 44 2 (.slice (some ⟨g7,0,none⟩) (t+1) c7) (t+1) (stkC (ps.take t)++[.slice b1 n1 d1,.slice b2 n2 d2]) else Ent.row 44 2 (.slice sa t c) t (stkC (ps.take t))),Ent.box w1.heap.size #[.slice b1 n1 d1,.slice b2 n2 d2] 44,X',(if l4=true then Ent.box aA #[.slice b1 n1 d1,.slice b2 n2 d2] 44 else Ent.nil)]) ?_ ?_ ?_
     ·rintro listed a w' ⟨l0,l1,l2,l3,l4,l5,l6,aA,g7,c7,rfl,aP,rfl,hS⟩ i hi;obtain⟨C,o,ho,hall⟩:=mem_ready.1 hi;have hlt:=(Array.getElem?_eq_some_iff.1 ho).1;refine wpOp_step ho (fun K S => ?_);clear hi;have N:=qh hS;clear hS;simp only[w_1,w_2,w_3,w_4,w_5,w_6,w_7,w_8];obtain h|h|h|h|h|h|h:i=0∨i=1∨i=2∨i=3∨i=4∨i=5∨i=6:=by simp at hlt;omega
      all_goals subst h
      all_goals simp only[w_5,w_6,w_7,w_9] at ho
      all_goals subst ho
      all_goals simp[Region.binds] at C hall
      ·subst C;obtain rfl:l6=false:=offL aP rfl;go_simp;exact S _ _ ⟨_,_,_,_,_,_,_,aA,g7,c7,rfl,by simp,(by simp),N.o⟩
      ·subst C;go_simp;exact S _ _ ⟨_,_,_,_,_,_,_,aA,g7,c7,rfl,aP,(by simp),N.o⟩
      ·obtain⟨rfl,rfl⟩:=hall;subst C;go_simp;exact S _ _ ⟨_,_,_,_,_,_,_,aA,g7,c7,rfl,aP,(by simp),N.o⟩
      ·subst C;have e0:=N.o.cell (v:=.slice b1 n1 d1) 2 0 rfl rfl;have e1:=N.o.cell (v:=.slice b2 n2 d2) 2 1 rfl rfl;go_simp;exact S _ _ ⟨_,_,_,_,_,_,_,aA,g7,c7,rfl,aP,(by simp),N.o⟩
      ·obtain rfl:=hall;subst C;have bU:=(N.o.alloc _ rfl #[.slice b1 n1 d1,.slice b2 n2 d2] 44).pick [0,1,2,3,5] (by decide);have bB:=qh bU;clear bU;go_simp;exact S _ _ ⟨_,_,_,_,_,_,_,_,g7,c7,rfl,aP,(by simp),bB.o⟩
      ·obtain⟨rfl,rfl⟩:=hall;subst C;obtain rfl:l6=false:=offR aP rfl;refine step_append_lies (a:=⟨_,_⟩) _ (by rfl) _ _ _ (by rfl) w.heap.size 44 i0 (.agg #[.slice none 0 0,.slice none 0 0]) 2 48 Tryz.underlying75 eW.o cX.o dG.o eE.o (by rfl) (by omega) (.slice sa t c) t (stkC (ps.take t)) (by rfl) (N.o.row 1 rfl) ⟨aA,0,none⟩ 1 1 [.slice b1 n1 d1,.slice b2 n2 d2] (by rfl) (by rfl) (World.news_of_block (N.o.box 4 rfl)) (Zqt rfl rfl) (by omega) (by unfold maxLen;omega) (by omega) N.o.size _ rfl ?_;intro g8 c8 w8 bQ aX cF fP;have bX:=qh (N.o.app 1 rfl bQ aX cF);clear bQ aX cF;go_simp;exact S _ _ ⟨_,_,_,_,_,_,_,aA,g8,c8,rfl,by simp,(by simp),bX.o⟩
      obtain⟨rfl,rfl,rfl,rfl,rfl,rfl,-⟩:=hall;subst C;go_simp;exact S _ _ ⟨_,_,_,_,_,_,_,aA,g7,c7,rfl,by simp,(by simp),N.o⟩
     ·rintro listed a w' ⟨l0,l1,l2,l3,l4,l5,l6,aA,g7,c7,rfl,aP,rfl,hS⟩ hr;obtain⟨rfl,rfl,rfl,rfl,rfl,rfl,rfl,-⟩:=zA (Za1 (by kernel_rfl) rfl hr) rfl;clear hr aP;simp only[↓reduceIte] at hS ⊢;simp only[w_1,w_2,w_3];have eU:=qh (hS.pick [0,1,3] (by decide));clear hS;go_wp2
      go_roundg (n-(k+1))
      case measure=>omega
      case rel=>exact⟨k+1,t+1,c7,some ⟨g7,0,none⟩,ds.take t++[D],ps.take t++[(.slice b1 n1 d1,.slice b2 n2 d2)],X',by omega,by go_num,rfl,cI.o,cH.o,dA.o,fG.o,by rw[← ZnM];exact eU.o⟩
     refine⟨false,false,false,false,false,false,false,0,0,0,rfl,by simp,(by simp),?_⟩;exact aR.o.drew.pick [0,1,2,3,4] (by decide)
  obtain rfl:k=n:=by omega
  have fI:m=1:=by have:=bY.o;omega
  subst fI;have aQ:es.drop k=[]:=by rw[hn.o];exact List.drop_length
  rw[aQ] at Z;have bM:0<ds.length:=by rw[hm];exact Nat.one_pos
  have cN:ds=[ds.getD 0 ⟨[],[]⟩]:=by
   have:=Zjm (t:=0) hm
   rwa [List.take_zero,List.nil_append] at this
  have x:=hR.ok 0 bM;have I:=hR.at bM hS 2 rfl;have hlen:=hR.len;rw[hm] at hlen;obtain⟨hc1',O⟩:=ZgX ps 0 (by omega);obtain⟨A,hA⟩:=eJ (ds.getD 0 ⟨[],[]⟩);obtain⟨y1,aE⟩:∃ y,(ps.getD 0 (undef,undef)).1=y:=⟨_,rfl⟩;obtain⟨y2,aD⟩:∃ y,(ps.getD 0 (undef,undef)).2=y:=⟨_,rfl⟩;rw[hA] at x I cN;rw[aE] at hc1' I;rw[aD] at O I
  have dM:o=some A:=by
   have h1:=dY.o;rw[← Z,cN] at h1;cases o with
   | none=>cases h1
   | some d =>have h2:=Option.some.inj h1;simp only[List.reverse_cons,List.reverse_nil,List.nil_append,List.cons.injEq,and_true] at h2;rw[h2]
  have dJ:=cQ.o A dM;subst dM;obtain⟨g,c2,he⟩:=hS.rowform 1 rfl (by omega);simp only[Value.slice.injEq,true_and] at he;obtain⟨rfl,rfl⟩:=he;have r0:=hS.rcell (v:=y1) 1 0 rfl (by omega) hc1';have r1:=hS.rcell (v:=y2) 1 1 rfl (by omega) O;have N:=qh hS;have eL:=qh I;have aB:=qh x;clear x;have cD:=qh dJ;clear dJ;clear hS hR Z bZ hm hlt aQ cN hlen hc1' O hA aE aD bM I;go_wp2_with fail;refine(Zck A _ _ aB.o eL.o).mono ?_;rintro e w5 ⟨a1,c1,a2,c2,rfl,bJ,dL⟩;rw[cD.o] at bJ;rw[cD.o];have aF:=N.o.call dL;have f0:=aF.fr 0 0 rfl;have f1:=aF.fr 0 1 rfl;have k0:=aF.cell (v:=.slice none 0 0) 0 0 rfl rfl;have k1:=aF.cell (v:=.slice none 0 0) 0 1 rfl rfl;have dE:=DMem.of bJ N.o.size;have eK:=aF.box 0 rfl;have aR:=qh aF;have fD:=qh dE;have cE:=qh eK;clear eK;clear aF bJ dL dE r0 r1;go_wp2;have hq:=(aR.o.set 0 rfl 0 (.slice a1 A.next.length c1)).set 0 rfl 1 (.slice a2 A.ends.length c2);have q0:=hq.cell (v:=.slice a1 A.next.length c1) 0 0 rfl rfl;have q1:=hq.cell (v:=.slice a2 A.ends.length c2) 0 1 rfl rfl;have hm:=(fD.o.set cE.o 0 (.slice a1 A.next.length c1)).set (cE.o.set 0 _) 1 (.slice a2 A.ends.length c2);refine bodyPost_ret (v:=.tuple #[.agg #[.slice a1 A.next.length c1,.slice a2 A.ends.length c2],.bool true]) (by simp[results,Tryz.results24,go_sem,q0,q1]) rfl ⟨?_,hq.bel⟩;exact⟨a1,c1,a2,c2,rfl,_,_,rfl,hm.1,hm.2⟩
end Go.Proofs.YtncekbbhgipdlaaGreat
