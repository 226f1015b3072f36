/-
  The walk over the program's compile: a stack of automata.
  Conditions: the list of parts is a valid expression and reads as such.
-/
import Derived.Test.YtncekbbhgipdlaaGreatPs17Ot
set_option maxHeartbeats 16000000
set_option maxRecDepth 100000
namespace Go.Proofs.YtncekbbhgipdlaaGreat
open Go.RowKit
theorem DfaH.left {E F:Ent} {v1 v2:Value} {vs:List Value} {D:DfaD} (h:DfaH E v1 v2 vs D):DfaH (Ent.all [E,F]) v1 v2 vs D :=
 ⟨fun w h1 h2=>h.rd w (h1 _ (by simp)) fun k hk=>h2 k ⟨E,by simp,hk⟩⟩
theorem DfaH.right {E F:Ent} {v1 v2:Value} {vs:List Value} {D:DfaD} (h:DfaH F v1 v2 vs D):DfaH (Ent.all [E,F]) v1 v2 vs D :=
 ⟨fun w h1 h2=>h.rd w (h1 _ (by simp)) fun k hk=>h2 k ⟨F,by simp,hk⟩⟩
theorem DfaH.flip {E:Ent} {v1 v2 u2:Value} {vs:List Value} {D:DfaD} (h:DfaH E v1 v2 vs D) {w w':World} (hu:Bools w.heap.size w' u2 (flB true D).ends) (hn:0<D.ends.length):DfaH (Ent.all [E,DfaE w w']) v1 u2 vs (flB true D):=by
 have hn2:0<(flB true D).ends.length:=by show 0<(D.ends.map (xb true)).length;rw[List.length_map];exact hn
 refine⟨fun u h1 h2 => ?_⟩;obtain⟨g1,g2,-⟩:=h.rd u (h1 _ (by simp)) fun k hk=>h2 k ⟨E,by simp,hk⟩
 refine⟨g1,g2,?_⟩;have hE:(DfaE w w').holds u:=h1 _ (by simp);have hlt:w.heap.size<w'.heap.size:=by obtain⟨-,a,cap,-,-,-,h4⟩:=hu;obtain⟨b,off,-,h5,h6,-⟩:=h4 hn2;omega
 have hs:w'.heap.size≤u.heap.size:=by have:w'.heap.size-1<u.heap.size:=h2 (w'.heap.size-1) ⟨DfaE w w',by simp,show w.heap.size≤w'.heap.size-1∧w'.heap.size-1<w'.heap.size by omega⟩;omega
 exact Sl.keptJ hu (Nat.zero_le _) hs hE
def stkC (ps:List (Value × Value)):List Value:=ps.flatMap fun p=>[p.1,p.2]
theorem ZfZ:∀ (ps:List (Value × Value)) (i:Nat),i<ps.length→(stkC ps)[i*2]? = some (ps.getD i (undef,undef)).1∧(stkC ps)[i*2+1]? = some (ps.getD i (undef,undef)).2
 | p::ps,0,_=>⟨rfl,rfl⟩
 | p::ps,i+1,h=>by
  have ih:=ZfZ ps i (by simpa using h);have e1:(stkC (p::ps))[(i+1)*2]? = (stkC ps)[i*2]?:=by rw[show(i+1)*2=i*2+2 by omega];rfl
  have e2:(stkC (p::ps))[(i+1)*2+1]? = (stkC ps)[i*2+1]?:=by rw[show(i+1)*2+1=i*2+1+2 by omega];rfl
  rw[e1,e2];exact ih
theorem ZiJ:∀ (ps:List (Value × Value)) (m:Nat),(stkC ps).take (m*2)=stkC (ps.take m)
 | ps,0=>by simp[stkC]
 | [],m+1=>by simp[stkC]
 | p::ps,m+1=>by have ih:=ZiJ ps m;show(p.1::p.2::stkC ps).take ((m+1)*2)=p.1::p.2::stkC (ps.take m);rw[show(m+1)*2=m*2+1+1 by omega,List.take_succ_cons,List.take_succ_cons,ih]
theorem Zmc (ps:List (Value × Value)) (x y:Value):stkC ps++[x,y]=stkC (ps++[(x,y)]):=by simp[stkC]
structure StkR (X:Ent) (ps:List (Value × Value)) (ds:List DfaD):Prop where
 len:ps.length=ds.length
 rd:∀ i,i<ds.length→∃ vs,DfaH X (ps.getD i (undef,undef)).1 (ps.getD i (undef,undef)).2 vs (ds.getD i ⟨[],[]⟩)
 ok:∀ i,i<ds.length→Zah (ds.getD i ⟨[],[]⟩).next (ds.getD i ⟨[],[]⟩).ends=true
theorem StkR.nil (X:Ent):StkR X [] []:=⟨rfl,fun i hi=>absurd hi (by simp),fun i hi=>absurd hi (by simp)⟩
theorem StkR.left {X F:Ent} {ps:List (Value × Value)} {ds:List DfaD} (h:StkR X ps ds):StkR (Ent.all [X,F]) ps ds :=
 ⟨h.len,fun i hi=>(h.rd i hi).imp fun _ g=>g.left,h.ok⟩
theorem Znh {α:Type} {l:List α} {i t:Nat} (h:i<t) (d:α):(l.take t).getD i d=l.getD i d:=by simp only[List.getD_eq_getElem?_getD];rw[List.getElem?_take,if_pos h]
theorem StkR.push {X:Ent} {ps:List (Value × Value)} {ds:List DfaD} (h:StkR X ps ds) {t:Nat} (ht:t≤ds.length) {x y:Value} {vs:List Value} {D:DfaD} (hD:DfaH X x y vs D) (hok:Zah D.next D.ends=true):StkR X (ps.take t++[(x,y)]) (ds.take t++[D]):=by
 have hl:=h.len;have hp:(ps.take t).length=t:=by rw[List.length_take];omega
 have hd:(ds.take t).length=t:=by rw[List.length_take];omega
 have key:∀ i,i<(ds.take t++[D]).length→(i<t∧(ps.take t++[(x,y)]).getD i (undef,undef)=ps.getD i (undef,undef)∧(ds.take t++[D]).getD i ⟨[],[]⟩=ds.getD i ⟨[],[]⟩)∨(i=t∧(ps.take t++[(x,y)]).getD i (undef,undef)=(x,y)∧(ds.take t++[D]).getD i ⟨[],[]⟩=D):=fun i hi=>by
  rw[List.length_append,hd,List.length_singleton] at hi;by_cases hit:i<t
  ·refine .inl ⟨hit,?_,?_⟩
   ·simp only[List.getD_eq_getElem?_getD];rw[List.getElem?_append_left (by omega),List.getElem?_take,if_pos hit]
   simp only[List.getD_eq_getElem?_getD];rw[List.getElem?_append_left (by omega),List.getElem?_take,if_pos hit]
  obtain rfl:i=t:=by omega
  refine .inr ⟨rfl,?_,?_⟩
  ·simp only[List.getD_eq_getElem?_getD];rw[List.getElem?_append_right (by omega),hp,Nat.sub_self];rfl
  simp only[List.getD_eq_getElem?_getD];rw[List.getElem?_append_right (by omega),hd,Nat.sub_self];rfl
 refine⟨by rw[List.length_append,List.length_append,hp,hd];rfl,fun i hi => ?_,fun i hi => ?_⟩
 ·rcases key i hi with⟨h1,e1,e2⟩|⟨-,e1,e2⟩
  ·rw[e1,e2];exact h.rd i (by omega)
  rw[e1,e2];exact⟨vs,hD⟩
 rcases key i hi with⟨h1,-,e2⟩|⟨-,-,e2⟩
 ·rw[e2];exact h.ok i (by omega)
 rw[e2];exact hok
theorem StkR.at {X:Ent} {ps:List (Value × Value)} {ds:List DfaD} (h:StkR X ps ds) {i:Nat} (hi:i<ds.length) {w0 w:World} {L:List Ent} (hS:St w0 w L) (j:Nat) (hx:L[j]? = some X):DfaR 0 w (.agg #[(ps.getD i (undef,undef)).1,(ps.getD i (undef,undef)).2]) (ds.getD i ⟨[],[]⟩):=by obtain⟨vs,hd⟩:=h.rd i hi;exact hd.r hS j hx
-- steps, over a stack whose top is its end
theorem Zp6 {K:Nat} {p:Int × Int} (hp:Zae p=0) (ds:List DfaD):Zfn K p ds.reverse=some ((ds.take (ds.length-0)++[Zi8 p]).reverse):=by unfold Zfn;rw[if_pos hp,Nat.sub_zero,List.take_length,List.reverse_append];rfl
theorem Zia {l:List DfaD} {t:Nat} (h:l.length=t+1):l=l.take t++[l.getD t ⟨[],[]⟩]:=by
 have e:l.take (t+1)=l:=by rw[← h];exact List.take_length
 rw[List.take_succ_eq_append_getElem (by omega)] at e;have e2:l.getD t ⟨[],[]⟩=l[t]:=by simp[show t<l.length by omega]
 rw[e2];exact e.symm
theorem Zp5 {K:Nat} {p:Int × Int} (hp:Zae p=1) {ds:List DfaD} {t:Nat} (h:ds.length=t+1):Zfn K p ds.reverse=(oneQ K p.1 (ds.getD t ⟨[],[]⟩)).map fun D=>(ds.take t++[D]).reverse:=by
 have e:=Zia h;have er:ds.reverse=ds.getD t ⟨[],[]⟩::(ds.take t).reverse:=by rw[show ds.reverse=(ds.take t++[ds.getD t ⟨[],[]⟩]).reverse by rw[← e]];simp
 rw[er];unfold Zfn;rw[if_neg (by omega),if_pos hp];show(oneQ K p.1 (ds.getD t ⟨[],[]⟩)).map (·::(ds.take t).reverse)=_;congr 1
 funext D
 simp
theorem Zp4 {K:Nat} {p:Int × Int} (hp:Zae p=2) {ds:List DfaD} {t:Nat} (h:ds.length=t+1+1):Zfn K p ds.reverse=(twoQ K p.1 (ds.getD t ⟨[],[]⟩) (ds.getD (t+1) ⟨[],[]⟩)).map fun D=>(ds.take t++[D]).reverse:=by
 have e:=Zia h;have hl:(ds.take (t+1)).length=t+1:=by rw[List.length_take];omega
 have e2:=Zia hl;rw[List.take_take,Nat.min_eq_left (by omega),Znh (by omega)] at e2;have er:ds.reverse=ds.getD (t+1) ⟨[],[]⟩::ds.getD t ⟨[],[]⟩::(ds.take t).reverse:=by rw[show ds.reverse=(ds.take (t+1)++[ds.getD (t+1) ⟨[],[]⟩]).reverse by rw[← e],e2];simp
 rw[er];unfold Zfn;rw[if_neg (by omega),if_neg (by omega)];show(twoQ K p.1 (ds.getD t ⟨[],[]⟩) (ds.getD (t+1) ⟨[],[]⟩)).map (·::(ds.take t).reverse)=_;congr 1
 funext D
 simp
theorem Zmn {K:Nat} {es:List (Int × Int)} {k:Nat} (hk:k<es.length) (st:List DfaD):runC K (es.drop k) st=(Zfn K (es.getD k (0,0)) st).bind (runC K (es.drop (k+1))):=by
 have e:es.drop k=es.getD k (0,0)::es.drop (k+1):=by rw[show es.getD k (0,0)=es[k] by simp[hk]];exact(List.getElem_cons_drop hk).symm
 rw[e];rfl
theorem ZnW {a:DfaD} (ha:Zah a.next a.ends=true):DetOkW 81 (ZhU (Za1 a)):=by have hla:=Zaj ha;have h1:=Zcd a a.next.length;have h3:(eds a a.next.length).length≤40:=Nat.le_trans (ZcN a _) hla.2.1;rw[ZiK];refine⟨Zi4 (Zkn ha) (by omega),?_,fun s hs=>by have:=ZeI (a:=a) s hs;omega,by simp[Zeb],fun s hs=>by have:=ZeI (a:=a) s hs;omega,by simp[Zeb]⟩;simp only[Zeb,List.length_append,List.length_map,List.length_cons,List.length_nil];omega
theorem Zoa {x y:Value} (hx:x.oneCell'=true) (hy:y.oneCell'=true):∀ u∈[x,y],u.oneCell'=true:=by
 intro u hu;simp only[List.mem_cons,List.not_mem_nil,or_false] at hu;rcases hu with rfl|rfl
 ·exact hx
 exact hy
theorem St.dfaXh {w0 w:World} {L:List Ent} (h:St w0 w L) (i:Nat) {B0 B H:Nat} {v1 v2:Value} {D:DfaD} (hx:L[i]? = some (DfaX B0 B H v1 v2 D)) (h0:0<D.next.length):∃ (E:Ent) (vs:List Value),DfaH E v1 v2 vs D∧St w0 w (L.set i E):=by
 obtain⟨-,w',h1,⟨x1,x2,hv,⟨vs,h2,h3⟩,h4⟩,h5⟩:=(h.has i _ hx).1;simp only[Value.agg.injEq,Array.mk.injEq,List.cons.injEq,and_true] at hv;obtain⟨rfl,rfl⟩:=hv;refine⟨⟨fun k=>B≤k∧k<H,fun u=>∀ k,B≤k→k<H→u.heap[k]? = w'.heap[k]?,fun _ _ g hk k p q=>(hk k ⟨p,q⟩).trans (g k p q)⟩,vs,⟨fun u hu hf => ?_⟩,h.same i hx _ (fun _=>h5) fun k hk=>hk⟩;have hlt:B<H:=by obtain⟨-,a,cap,-,-,-,g4⟩:=h2;obtain⟨b,off,-,g5,g6,-⟩:=g4 h0;omega
 have hs:w'.heap.size≤u.heap.size:=by have:H-1<u.heap.size:=hf (H-1) (show B≤H-1∧H-1<H by omega);omega
 have hk:∀ k,B≤k→k<w'.heap.size→u.heap[k]? = w'.heap[k]?:=fun k p q=>hu k p (by omega)
 exact⟨h2.keptJ (Nat.zero_le _) hs hk,fun i hi=>Sl.keptJ (h3 i hi) (Nat.zero_le _) hs hk,Sl.keptJ h4 (Nat.zero_le _) hs hk⟩
theorem Zfr (K:Nat) (hK:K=40) (es:List (Int × Int)) (o:Option DfaD) (ho:runC K es []=o.map fun d=>[d]) (hmin:∀ d,o=some d→minD d=d) (v:Value) (w:World) (hok:exOk es=true) (h:Pairs 0 w v es) :
  Calls Tryz.prog 24 #[v] w fun e w'=>RTt (o.getD zeD) o.isSome w.heap.size e w'∧Below w.heap.size w w':=by
 obtain⟨hall,hd1,hn1,hn60⟩:=Zbk hok;obtain⟨av,cv,rfl,hc1,hc2,hrd⟩:=h.form;obtain⟨i0,hi,hz0,hz1,hz2⟩:=info_parts Tryz.infoDfa;obtain⟨n,hn⟩:=eI (es.length);rw[← hn] at hc1 hrd hall hd1 hn1 hn60;rw[← hn];have hS0:=(((St.start w).alloc _ rfl #[.slice none 0 0,.slice none 0 0] 44).nilRow 44 2).add (Below.refl _ _) Ent.nil trivial fun k hk=>hk.elim
 have Hrd:=qh hrd;have Hall:=qh hall;have HS0:=qh hS0;have Hhi:=qh hi;clear hi;replace hz0:=qh hz0;have Hhz1:=qh hz1;clear hz1;have Hhz2:=qh hz2;clear hz2;replace hn:=qh hn;replace hd1:=qh hd1;have Hho:=qh ho;clear ho;replace hK:=qh hK;have Hhmin:=qh hmin;clear hmin;clear h hrd hall hok hS0
 go_enter Tryz.func24, Tryz.ntmps24
 go_wp2
 go_loopg [4,12] n (fun gg st i wr=>∃ (k m c:Nat) (a:Option Addr) (ds:List DfaD) (ps:List (Value × Value)) (X:Ent),gg+k=n∧i = .int .i64 (k:Int)∧st = .slice a m c∧ds.length=m∧(m:Int)=dep es k∧runC K (es.drop k) ds.reverse=runC K es []∧StkR X ps ds∧St w wr [Ent.box w.heap.size #[.slice none 0 0,.slice none 0 0] 44,Ent.row 44 2 (.slice a m c) m (stkC ps),X])
 case atStart=>exact⟨0,0,0,none,[],[],Ent.nil,by omega,rfl,rfl,rfl,rfl,rfl,StkR.nil _,HS0.out⟩
 case round =>
  obtain⟨k,m,c,a,ds,ps,X,hgk,rfl,rfl,hm,hdm,hrun,hR,hS⟩:=hrel;by_cases hlt:k<n
  ·have hlt2:(k:Int)<n:=by omega
   obtain⟨b,oo,rfl,-,hbl,hcs⟩:=Hrd.out (by omega);obtain⟨g1,g2⟩:=hcs k hlt;have k1:=(bcell hS.bel b _ hbl).trans g1;have k2:=(bcell hS.bel b _ hbl).trans g2;obtain⟨hp0,hpm⟩:=Hall.out k hlt;have hrs:=Zmn (K:=K) (es:=es) (k:=k) (by rw[← hn.out];exact hlt) ds.reverse;rw[hrun] at hrs;have hds:dep es (k+1)=dep es k-Zae (es.getD k (0,0))+1:=rfl;obtain⟨p,hp⟩:=eI (es.getD k (0,0));rw[← hp] at k1 k2 hp0 hpm hrs hds;obtain⟨p1,p2⟩:=p;simp only at k1 k2;have hpo:=Zgh hp0;have hpi:=Zcv (p1,p2);obtain⟨r,hr⟩:=eJ (Zae (p1,p2));rw[hr] at hp0 hpm hpi hds;rw[← hdm] at hds hpm;have hmk:m≤200:=by have:=ZgO es k;omega
   obtain⟨r,rfl⟩:∃ q:Nat,r=((q:Nat):Int):=⟨r.toNat,by omega⟩;obtain⟨t,hmt⟩:∃ t:Nat,(m:Int)-(r:Int)=((t:Nat):Int):=⟨m-r,by omega⟩;have hwt:IntKind.i64.wrap (t:Int)=(t:Int):=IntWalk.i64_in _ (by omega);have HSp:=qh (hS.alloc _ rfl #[.int .i64 p1,.int .i64 p2] 62);have HR:=qh hR;have Hhrs:=qh hrs;clear hrs;have Hhp:=qh hp;clear hp;have Hhm:=qh hm;clear hm;have Hhds:=qh hds;clear hds;have Hhr:=qh hr;clear hr;have Hhpo:=qh hpo;clear hpo;have Hhdm:=qh hdm;clear hdm;clear hS hcs g1 g2 hrun hR hpi;have e0:=HSp.out.cell (v:=.int .i64 p1) 3 0 rfl rfl;have e1:=HSp.out.cell (v:=.int .i64 p2) 3 1 rfl rfl;go_wp2_with fail;refine(ZaL p1 p2 _ _ Hhr.out (by omega)).mono ?_;rintro e w1 ⟨rfl,hb1⟩;have hS1:=HSp.out.call hb1;have HS1:=qh (hS1.alloc _ rfl #[.slice none 0 0,.slice none 0 0] 44);clear hb1 hS1 e0 e1;have e0:=HS1.out.cell (v:=.int .i64 p1) 3 0 rfl rfl;have e1:=HS1.out.cell (v:=.int .i64 p2) 3 1 rfl rfl;go_wp2_with fail;refine(ZaL p1 p2 _ _ Hhr.out (by omega)).mono ?_;rintro e w2 ⟨rfl,hb2⟩;have HS2:=qh (HS1.out.call hb2);clear hb2 e0 e1
   go_upto_block 2 with fail
   go_cut [9,12] from 12 to 74 (fun okv iv wc=>∃ (q:Option DfaD) (b1 b2:Option Addr) (n1 d1 n2 d2:Nat) (X':Ent),iv = .int .i64 (k:Int)∧okv = .bool q.isSome∧Zfn K (p1,p2) ds.reverse=q.map (fun D=>(ds.take t++[D]).reverse)∧(∀ D,q=some D→Zah D.next D.ends=true∧∃ vs,DfaH X' (.slice b1 n1 d1) (.slice b2 n2 d2) vs D)∧StkR X' ps ds∧St w wc [Ent.box w.heap.size #[.slice none 0 0,.slice none 0 0] 44,Ent.row 44 2 (.slice a m c) m (stkC ps),Ent.box w1.heap.size #[.slice b1 n1 d1,.slice b2 n2 d2] 44,X'])
   case first =>
    have hlen:=HR.out.len;rw[Hhm.out] at hlen;have hr3:r=0∨r=1∨r=2:=by have:=Zcv (p1,p2);rw[Hhr.out] at this;omega
    rcases hr3 with rfl|rfl|rfl
    ·have htm:t=m-0:=by omega
     obtain⟨D,hD⟩:=eJ (Zi8 (p1,p2));have hDo:Zah D.next D.ends=true:=by rw[← hD];exact Zop Hhpo.out Hhr.out
     have hst:=Zp6 (K:=K) (p:=(p1,p2)) Hhr.out ds;rw[Hhm.out,← htm,hD] at hst;have e0:=HS2.out.cell (v:=.int .i64 p1) 3 0 rfl rfl;have e1:=HS2.out.cell (v:=.int .i64 p2) 3 1 rfl rfl;have Hhst:=qh hst;clear hst;replace hDo:=qh hDo;have HhD:=qh hD;clear hD;have Hhtm:=qh htm;clear htm;have Hhlen:=qh hlen;clear hlen;go_wp2_with fail;refine(Zjk p1 p2 _ Hhpo.out Hhr.out D HhD.out).mono ?_;rintro e w3 ⟨a1,c1,a2,c2,rfl,hdr,hb3⟩;have hS3:=HS2.out.dfaX hb3 hdr;have f0:=hS3.fr 4 0 rfl;have f1:=hS3.fr 4 1 rfl;have k0:=hS3.cell (v:=.slice none 0 0) 4 0 rfl rfl;have k1:=hS3.cell (v:=.slice none 0 0) 4 1 rfl rfl;have HS3:=qh hS3;clear hS3 hdr hb3 e0 e1;go_wp2;go_meet;obtain⟨E,vs,hH,hSE⟩:=((HS3.out.set 4 rfl 0 (.slice a1 D.next.length c1)).set 4 rfl 1 (.slice a2 D.ends.length c2)).dfaXh 5 rfl (Zaj hDo.out).1;exact⟨some D,_,_,_,_,_,_,Ent.all [X,E],rfl,rfl,Hhst.out,fun D' h=>by obtain rfl:=Option.some.inj h;exact⟨hDo.out,vs,hH.right⟩,HR.out.left,St.pack (A:=[Ent.box w.heap.size #[.slice none 0 0,.slice none 0 0] 44,Ent.row 44 2 (.slice a m c) m (stkC ps),Ent.box w1.heap.size #[.slice a1 D.next.length c1,.slice a2 D.ends.length c2] 44]) (R:=[X,E]) (hSE.pick [0,1,4,2,5] (by decide))⟩
    ·have htm1:m=t+1:=by omega
     obtain⟨g,c2,he⟩:=HS2.out.rowform 1 rfl (by omega);simp only[Value.slice.injEq,true_and] at he;obtain⟨rfl,rfl⟩:=he;have htl:t<ds.length:=by rw[Hhm.out];omega
     have hst:=Zp5 (K:=K) (p:=(p1,p2)) Hhr.out (ds:=ds) (t:=t) (by rw[Hhm.out];exact htm1);have hAo:=HR.out.ok t htl;have hAd:=fun (u:World) (L:List Ent) (hS:St w u L) (hx:L[2]? = some X)=>HR.out.at htl hS 2 hx
     obtain⟨hc1',hc2'⟩:=ZfZ ps t (by omega);obtain⟨vs,hH⟩:=HR.out.rd t htl;obtain⟨A,hA⟩:=eJ (ds.getD t ⟨[],[]⟩);obtain⟨y1,hy1⟩:∃ y,(ps.getD t (undef,undef)).1=y:=⟨_,rfl⟩;obtain⟨y2,hy2⟩:∃ y,(ps.getD t (undef,undef)).2=y:=⟨_,rfl⟩;rw[hA] at hst hAo hAd hH;rw[hy1] at hc1' hAd hH;rw[hy2] at hc2' hAd hH;obtain⟨_,_,hv,⟨vs',⟨-,s1,z1,rfl,-,-,-⟩,-⟩,⟨-,s2,z2,rfl,-,-,-⟩⟩:=hAd _ _ HS2.out rfl;simp only[Value.agg.injEq,Array.mk.injEq,List.cons.injEq,and_true] at hv;obtain⟨rfl,rfl⟩:=hv;obtain⟨l1,hl1⟩:∃ l,A.next.length=l:=⟨_,rfl⟩;obtain⟨l2,hl2⟩:∃ l,A.ends.length=l:=⟨_,rfl⟩;rw[hl1] at hc1' hAd hH hy1;rw[hl2] at hc2' hAd hH hy2;have htm:(t:Int)<(m:Int):=by omega
     have hAe:0<A.ends.length:=by have:=Zaj hAo;omega
     have ht2:t+1≤m:=by omega
     have Hhtm1:=qh htm1;clear htm1;have Hhst:=qh hst;clear hst;have HhAo:=qh hAo;clear hAo;replace hAd:=qh hAd;have HhH:=qh hH;clear hH;replace hA:=qh hA;have Hhy1:=qh hy1;clear hy1;have Hhy2:=qh hy2;clear hy2;have Hhc1':=qh hc1';clear hc1';have Hhc2':=qh hc2';clear hc2';have Hhl1:=qh hl1;clear hl1;have Hhl2:=qh hl2;clear hl2;have Hhlen:=qh hlen;clear hlen;have r0:=HS2.out.rcell (v:=(.slice s1 l1 z1)) 1 (t*2) rfl (by omega) Hhc1'.out;have r1:=HS2.out.rcell (v:=(.slice s2 l2 z2)) 1 (t*2+1) rfl (by omega) Hhc2'.out;go_wp2_with fail;refine(Zg8 A (.slice s1 l1 z1) (.slice s2 l2 z2) _ HhAo.out (hAd.out _ _ HS2.out rfl)).mono ?_;rintro e w3 ⟨u2,rfl,hu,hb3⟩;obtain⟨a2,c2,rfl,-,-,-⟩:=hu.form;have hS3:=HS2.out.dfaE hb3;have f0:=hS3.fr 4 0 rfl;have f1:=hS3.fr 4 1 rfl;have k0:=hS3.cell (v:=.slice none 0 0) 4 0 rfl rfl;have k1:=hS3.cell (v:=.slice none 0 0) 4 1 rfl rfl;obtain⟨L2,hL2⟩:=eJ ((flB true A).ends.length);rw[hL2] at hu ⊢;have hS4:=(hS3.set 4 rfl 0 (.slice s1 l1 z1)).set 4 rfl 1 (.slice a2 L2 c2);have e0:=hS4.cell (v:=.int .i64 p1) 3 0 rfl rfl;have HS4:=qh hS4;have Hu:=qh hu;clear hS3 hS4 hu hb3 r0 r1;by_cases h8:p1=8
     ·subst h8;have r0:=HS4.out.rcell (v:=(.slice s1 l1 z1)) 1 (t*2) rfl (by omega) Hhc1'.out;have r1:=HS4.out.rcell (v:=(.slice s2 l2 z2)) 1 (t*2+1) rfl (by omega) Hhc2'.out;have hsd:=ZnW HhAo.out;have hok:=Zh7 HhAo.out;obtain⟨P,hP⟩:=eJ (Za1 A);have hnf:=Zd7 A (.agg #[.slice s1 l1 z1,.slice s2 l2 z2]) _ HhAo.out (hAd.out _ _ HS4.out rfl);rw[hP] at hnf hsd hok;have Hnf:=qh hnf;obtain⟨q,hq⟩:=eJ (oneQ K 8 A);have hst:=Hhst.out;rw[hq] at hst;have hq2:(Zfy 81 K (ZhU P)).map minD=q:=by rw[← hq,← hP];rfl
      obtain⟨J,hJ⟩:=eJ (ZhU P);obtain⟨PM,hPM,hPM40,-,hpl,-,hpfl,-,hpel⟩:=Zd5 hok;have hstn:=fun (W:World) (v1 v2 v3:Value) (h:Moves 0 W v1 P.moves∧Ints 0 W v2 P.firsts∧Ints 0 W v3 P.ends)=>ZjN P PM v1 v2 v3 W hPM (by omega) (by omega) (by omega) (by omega) h.1 h.2.1 h.2.2
      rw[hJ] at hsd hq2 hstn;have Hstn:=qh hstn;obtain⟨D,hD⟩:=eJ (q.getD zeD);obtain⟨fb,hfb⟩:=eJ (q.isSome);have hsm:=fun (W:World) (v1 v2 v3:Value) (h:Moves 0 W v1 J.moves∧Ints 0 W v2 J.firsts∧Ints 0 W v3 J.ends)=>(ZdV 81 (by omega) J K hK.out D fb (by rw[hq2];exact hD) (by rw[hq2];exact hfb) v1 v2 v3 W hsd h.1 h.2.1 h.2.2).mono fun e w' h=>RTt.s h
      have Hsm:=qh hsm;have hqo:∀ D',q=some D'→Zah D'.next D'.ends=true:=fun D' h=>by rw[← hq2,Option.map_eq_some_iff] at h;obtain⟨z,hz,rfl⟩:=h;exact Zi5 (Ziv hK.out hz)
      have Hhqo:=qh hqo;clear hqo;have Hhst:=qh hst;clear hst;have HhD:=qh hD;clear hD;have Hhfb:=qh hfb;clear hfb;clear hnf hstn hsm hsd hok hq hq2 hP hJ hPM hPM40 hpl hpfl hpel;go_wp2_with fail;refine(Hnf.out).mono ?_;rintro e w5 h5;obtain⟨b1,d1,b2,d2,b3,d3,rfl,hS5⟩:=RNfaS.t h5;have HS5:=qh (HS4.out.cat hS5);clear h5 hS5 r0 r1;go_wp2_with fail;refine(Hstn.out _ _ _ _ (HS5.out.nfaT 6 rfl)).mono ?_;rintro e w6 h6;obtain⟨m1,m2,m3,m4,m5,m6,rfl,hS6⟩:=RNfaS.t h6;have HS6:=qh (HS5.out.cat hS6);clear h6 hS6;go_wp2_with fail;refine(Hsm.out _ _ _ _ (HS6.out.nfaT 7 rfl)).mono ?_;rintro e w7 ⟨a1,c1,a3,c3,rfl,hdr,hb7⟩;have hS7:=HS6.out.dfaX hb7 hdr;have f0:=hS7.fr 4 0 rfl;have f1:=hS7.fr 4 1 rfl;have k0:=hS7.cell (v:=(.slice s1 l1 z1)) 4 0 rfl rfl;have k1:=hS7.cell (v:=.slice a2 L2 c2) 4 1 rfl rfl;have HS7:=qh hS7;clear hS7 hdr hb7;go_wp2;go_meet;have hS8:=(HS7.out.set 4 rfl 0 (.slice a1 D.next.length c1)).set 4 rfl 1 (.slice a3 D.ends.length c3);cases q with
      | none=>exact⟨none,a1,a3,D.next.length,c1,D.ends.length,c3,X,rfl,by rw[← Hhfb.out],Hhst.out,fun D' h=>(by cases h),HR.out,hS8.pick [0,1,4,2] (by decide)⟩
      | some D0 =>obtain rfl:D0=D:=HhD.out;have hDo:=Hhqo.out D0 rfl;obtain⟨E,vs,hH,hSE⟩:=hS8.dfaXh 8 rfl (Zaj hDo).1;exact⟨some D0,_,_,_,_,_,_,Ent.all [X,E],rfl,by rw[← Hhfb.out],Hhst.out,fun D' h=>by obtain rfl:=Option.some.inj h;exact⟨hDo,vs,hH.right⟩,HR.out.left,St.pack (A:=[Ent.box w.heap.size #[.slice none 0 0,.slice none 0 0] 44,Ent.row 44 2 (.slice (some ⟨g,0,none⟩) m c) m (stkC ps),Ent.box w1.heap.size #[.slice a1 D0.next.length c1,.slice a3 D0.ends.length c3] 44]) (R:=[X,E]) (hSE.pick [0,1,4,2,8] (by decide))⟩
     obtain⟨q1,q2,q3,q4⟩:=ZaH h8;replace h8:=qh h8;go_wp2;go_meet;refine⟨some (flB true A),s1,a2,l1,z1,L2,c2,Ent.all [X,DfaE w2 w3],rfl,rfl,?_,fun D' h => ?_,HR.out.left,St.pack (A:=[Ent.box w.heap.size #[.slice none 0 0,.slice none 0 0] 44,Ent.row 44 2 (.slice (some ⟨g,0,none⟩) m c) m (stkC ps),Ent.box w1.heap.size #[.slice s1 l1 z1,.slice a2 L2 c2] 44]) (R:=[X,DfaE w2 w3]) (HS4.out.pick [0,1,4,2,5] (by decide))⟩
     ·rw[Hhst.out];unfold oneQ;rw[if_neg h8.out]
     obtain rfl:=Option.some.inj h;exact⟨Zo2 HhAo.out,vs,HhH.out.flip Hu.out hAe⟩
    have htm1:m=t+1+1:=by omega
    obtain⟨g,c2,he⟩:=HS2.out.rowform 1 rfl (by omega);simp only[Value.slice.injEq,true_and] at he;obtain⟨rfl,rfl⟩:=he;obtain⟨s,hts⟩:∃ s:Nat,(t:Int)+1=((s:Nat):Int):=⟨t+1,by omega⟩;have hws:IntKind.i64.wrap (s:Int)=(s:Int):=IntWalk.i64_in _ (by omega);have hs1:s=t+1:=by omega
    have htl:t<ds.length:=by rw[Hhm.out];omega
    have hsl:s<ds.length:=by rw[Hhm.out];omega
    have hst:=Zp4 (K:=K) (p:=(p1,p2)) Hhr.out (ds:=ds) (t:=t) (by rw[Hhm.out];exact htm1);rw[← hs1] at hst;have hAo:=HR.out.ok t htl;have hBo:=HR.out.ok s hsl;have hAd:=fun (u:World) (L:List Ent) (hS:St w u L) (hx:L[2]? = some X)=>HR.out.at htl hS 2 hx
    have hBd:=fun (u:World) (L:List Ent) (hS:St w u L) (hx:L[2]? = some X)=>HR.out.at hsl hS 2 hx
    obtain⟨hc1',hc2'⟩:=ZfZ ps t (by omega);obtain⟨hc3',hc4'⟩:=ZfZ ps s (by omega);obtain⟨A,hA⟩:=eJ (ds.getD t ⟨[],[]⟩);obtain⟨B,hB⟩:=eJ (ds.getD s ⟨[],[]⟩);obtain⟨y1,hy1⟩:∃ y,(ps.getD t (undef,undef)).1=y:=⟨_,rfl⟩;obtain⟨y2,hy2⟩:∃ y,(ps.getD t (undef,undef)).2=y:=⟨_,rfl⟩;obtain⟨y3,hy3⟩:∃ y,(ps.getD s (undef,undef)).1=y:=⟨_,rfl⟩;obtain⟨y4,hy4⟩:∃ y,(ps.getD s (undef,undef)).2=y:=⟨_,rfl⟩;rw[hA,hB] at hst;rw[hA] at hAo hAd;rw[hB] at hBo hBd;rw[hy1] at hc1' hAd;rw[hy2] at hc2' hAd;rw[hy3] at hc3' hBd;rw[hy4] at hc4' hBd;have htm:(t:Int)<(m:Int):=by omega
    have hsm:(s:Int)<(m:Int):=by omega
    have ht2:t+1≤m:=by omega
    have hs2:s+1≤m:=by omega
    have hs0:(0:Int)≤(s:Int):=by omega
    have hk4:p1=4∨p1=5∨p1=6:=by
     have h1:=Hhr.out;have h2:=Hhpo.out;unfold Zae at h1;rw[if_pos h2] at h1;simp only[pOk,inB,Bool.and_eq_true,Bool.or_eq_true,decide_eq_true_eq,Bool.not_eq_true',decide_eq_false_iff_not] at h2
     split at h1
     ·omega
     split at h1<;>omega
    obtain⟨q,hq⟩:=eJ (twoQ K p1 A B);rw[show((p1,p2):Int × Int).1=p1 from rfl,hq] at hst;obtain⟨D,hD⟩:=eJ (q.getD zeD);obtain⟨fb,hfb⟩:=eJ (q.isSome)
    have hqo:∀ D',q=some D'→Zah D'.next D'.ends=true:=fun D' h=>by
     rw[← hq] at h;unfold twoQ at h
     split at h
     ·rw[Option.map_eq_some_iff] at h;obtain⟨z,hz,rfl⟩:=h;exact Zi5 (Ziv hK.out hz)
     split at h <;>
     ·rw[Option.map_eq_some_iff] at h;obtain⟨z,hz,rfl⟩:=h;exact Zi5 (Zb2 hK.out hz)
    have hcb:=fun (u:World) (L:List Ent) (hS:St w u L) (hx:L[2]? = some X)=>ZgE K hK.out p1 hk4 A B D fb (by rw[hq];exact hD) (by rw[hq];exact hfb) (.agg #[y1,y2]) (.agg #[y3,y4]) u hAo hBo (hAd u L hS hx) (hBd u L hS hx)
    have Hcb:=qh hcb;have Hhtm1:=qh htm1;clear htm1;have Hhst:=qh hst;clear hst;have Hhqo:=qh hqo;clear hqo;have HhD:=qh hD;clear hD;have Hhfb:=qh hfb;clear hfb;have Hhlen:=qh hlen;clear hlen;have Hhc1':=qh hc1';clear hc1';have Hhc2':=qh hc2';clear hc2';have Hhc3':=qh hc3';clear hc3';have Hhc4':=qh hc4';clear hc4';have Hhs1:=qh hs1;clear hs1;clear hcb hAd hBd hAo hBo hA hB hy1 hy2 hy3 hy4 hq hk4 htl hsl;go_wp2;refine wp_region_any (by kernel_rfl) ?_
    refine Zar (fun A listed a w'=>∃ (l0 l1 l2 l3 l4 l5 l6 l7 l8 l9 l10 l11 l12 l13 l14 l15 l16:Bool) (v1:Option Addr) (v2:Nat) (v3:Option Addr) (v4:Nat) (BB:Nat) (HH:Nat),listed=#[l0,l1,l2,l3,l4,l5,l6,l7,l8,l9,l10,l11,l12,l13,l14,l15,l16]∧(l12=true→l11=true)∧(l13=true→l11=true)∧(l15=true→l11=true) ∧
      a=⟨((((((((((((((((A.tmps.setIfInBounds 51 (if l0=true then .pointer (some ⟨wr.heap.size,0,none⟩) else A.tmps.getD 51 undef)).setIfInBounds 52 (if l1=true then .int .i64 p1 else A.tmps.getD 52 undef)).setIfInBounds 53 (if l2=true then .slice (some ⟨g,0,none⟩) m c else A.tmps.getD 53 undef)).setIfInBounds 54 (if l3=true then .int .i64 ((t:Nat):Int) else A.tmps.getD 54 undef)).setIfInBounds 55 (if l4=true then .pointer (some ⟨g,t*2,none⟩) else A.tmps.getD 55 undef)).setIfInBounds 56 (if l5=true then .agg #[y1,y2] else A.tmps.getD 56 undef)).setIfInBounds 57 (if l6=true then .slice (some ⟨g,0,none⟩) m c else A.tmps.getD 57 undef)).setIfInBounds 58 (if l7=true then .int .i64 ((t:Nat):Int) else A.tmps.getD 58 undef)).setIfInBounds 59 (if l8=true then .int .i64 ((s:Nat):Int) else A.tmps.getD 59 undef)).setIfInBounds 60 (if l9=true then .pointer (some ⟨g,s*2,none⟩) else A.tmps.getD 60 undef)).setIfInBounds 61 (if l10=true then .agg #[y3,y4] else A.tmps.getD 61 undef)).setIfInBounds 62 (if l11=true then .tuple #[.agg #[.slice v1 D.next.length v2,.slice v3 D.ends.length v4],.bool fb] else A.tmps.getD 62 undef)).setIfInBounds 50 (if l12=true then .tuple #[.agg #[.slice v1 D.next.length v2,.slice v3 D.ends.length v4],.bool fb] else A.tmps.getD 50 undef)).setIfInBounds 63 (if l13=true then .agg #[.slice v1 D.next.length v2,.slice v3 D.ends.length v4] else A.tmps.getD 63 undef)).setIfInBounds 64 (if l14=true then .bool fb else A.tmps.getD 64 undef)).setIfInBounds 9 (if l16=true then .bool fb else A.tmps.getD 9 undef)),A.defers⟩ ∧
      St w w' [Ent.box w.heap.size #[.slice none 0 0,.slice none 0 0] 44,Ent.row 44 2 (.slice (some ⟨g,0,none⟩) m c) m (stkC ps),X,Ent.box wr.heap.size #[.int .i64 p1,.int .i64 p2] 62,(if l15=true then Ent.box w1.heap.size #[.slice v1 D.next.length v2,.slice v3 D.ends.length v4] 44 else Ent.box w1.heap.size #[.slice none 0 0,.slice none 0 0] 44),(if l11=true then DfaX w.heap.size BB HH (.slice v1 D.next.length v2) (.slice v3 D.ends.length v4) D else Ent.nil)]) ?_ ?_ ?_
    ·rintro listed a w' ⟨l0,l1,l2,l3,l4,l5,l6,l7,l8,l9,l10,l11,l12,l13,l14,l15,l16,v1,v2,v3,v4,BB,HH,rfl,hd12,hd13,hd15,rfl,hS⟩ i hi;obtain⟨hun,o,ho,hall⟩:=mem_ready.1 hi;have hlt:=(Array.getElem?_eq_some_iff.1 ho).1;refine wpOp_step ho (fun K hK => ?_);clear hi;have HS:=qh hS;clear hS;simp only[w_1,w_2,w_3,w_4,w_5,w_6,w_7,w_8];obtain h|h|h|h|h|h|h|h|h|h|h|h|h|h|h|h|h:i=0∨i=1∨i=2∨i=3∨i=4∨i=5∨i=6∨i=7∨i=8∨i=9∨i=10∨i=11∨i=12∨i=13∨i=14∨i=15∨i=16:=by simp at hlt;omega
     all_goals subst h
     all_goals simp only[w_5,w_6,w_7,w_9] at ho
     all_goals subst ho
     all_goals simp[Region.binds] at hun hall
     ·subst hun;go_simp;exact hK _ _ ⟨_,_,_,_,_,_,_,_,_,_,_,_,_,_,_,_,_,v1,v2,v3,v4,BB,HH,rfl,hd12,hd13,hd15,(by simp),HS.out⟩
     ·obtain rfl:=hall;subst hun;have e0:=HS.out.cell (v:=.int .i64 p1) 3 0 rfl rfl;go_simp;exact hK _ _ ⟨_,_,_,_,_,_,_,_,_,_,_,_,_,_,_,_,_,v1,v2,v3,v4,BB,HH,rfl,hd12,hd13,hd15,(by simp),HS.out⟩
     ·subst hun;go_simp;exact hK _ _ ⟨_,_,_,_,_,_,_,_,_,_,_,_,_,_,_,_,_,v1,v2,v3,v4,BB,HH,rfl,hd12,hd13,hd15,(by simp),HS.out⟩
     ·subst hun;go_simp;exact hK _ _ ⟨_,_,_,_,_,_,_,_,_,_,_,_,_,_,_,_,_,v1,v2,v3,v4,BB,HH,rfl,hd12,hd13,hd15,(by simp),HS.out⟩
     ·obtain⟨rfl,rfl⟩:=hall;subst hun;go_simp;exact hK _ _ ⟨_,_,_,_,_,_,_,_,_,_,_,_,_,_,_,_,_,v1,v2,v3,v4,BB,HH,rfl,hd12,hd13,hd15,(by simp),HS.out⟩
     ·obtain rfl:=hall;subst hun;have e0:=HS.out.rcell (v:=y1) 1 (t*2) rfl (by omega) Hhc1'.out;have e1:=HS.out.rcell (v:=y2) 1 (t*2+1) rfl (by omega) Hhc2'.out;go_simp;exact hK _ _ ⟨_,_,_,_,_,_,_,_,_,_,_,_,_,_,_,_,_,v1,v2,v3,v4,BB,HH,rfl,hd12,hd13,hd15,(by simp),HS.out⟩
     ·subst hun;go_simp;exact hK _ _ ⟨_,_,_,_,_,_,_,_,_,_,_,_,_,_,_,_,_,v1,v2,v3,v4,BB,HH,rfl,hd12,hd13,hd15,(by simp),HS.out⟩
     ·subst hun;go_simp;exact hK _ _ ⟨_,_,_,_,_,_,_,_,_,_,_,_,_,_,_,_,_,v1,v2,v3,v4,BB,HH,rfl,hd12,hd13,hd15,(by simp),HS.out⟩
     ·obtain rfl:=hall;subst hun;go_simp;exact hK _ _ ⟨_,_,_,_,_,_,_,_,_,_,_,_,_,_,_,_,_,v1,v2,v3,v4,BB,HH,rfl,hd12,hd13,hd15,(by simp),HS.out⟩
     ·obtain⟨rfl,rfl⟩:=hall;subst hun;go_simp;exact hK _ _ ⟨_,_,_,_,_,_,_,_,_,_,_,_,_,_,_,_,_,v1,v2,v3,v4,BB,HH,rfl,hd12,hd13,hd15,(by simp),HS.out⟩
     ·obtain rfl:=hall;subst hun;have e0:=HS.out.rcell (v:=y3) 1 (s*2) rfl (by omega) Hhc3'.out;have e1:=HS.out.rcell (v:=y4) 1 (s*2+1) rfl (by omega) Hhc4'.out;go_simp;exact hK _ _ ⟨_,_,_,_,_,_,_,_,_,_,_,_,_,_,_,_,_,v1,v2,v3,v4,BB,HH,rfl,hd12,hd13,hd15,(by simp),HS.out⟩
     ·obtain⟨rfl,rfl,rfl⟩:=hall;subst hun;obtain rfl:l12=false:=by cases l12 with|false=>rfl|true=>simpa using hd12 rfl
      obtain rfl:l13=false:=by cases l13 with|false=>rfl|true=>simpa using hd13 rfl
      obtain rfl:l15=false:=by cases l15 with|false=>rfl|true=>simpa using hd15 rfl
      go_simp
      go_at_call 62
      refine(Hcb.out _ _ HS.out rfl).mono ?_;rintro e u1 ⟨dz1,dz2,dz3,dz4,rfl,hr,hb⟩;have hS2:=(HS.out.dfaX hb hr).pick [0,1,2,3,4,6] (by decide);have HhS2:=qh hS2;clear hS2;go_simp;exact hK _ _ ⟨_,_,_,_,_,_,_,_,_,_,_,_,_,_,_,_,_,dz1,dz2,dz3,dz4,_,_,rfl,by simp,by simp,by simp,(by simp),HhS2.out⟩
     ·obtain rfl:=hall;subst hun;go_simp;exact hK _ _ ⟨_,_,_,_,_,_,_,_,_,_,_,_,_,_,_,_,_,v1,v2,v3,v4,BB,HH,rfl,by simp,hd13,hd15,(by simp),HS.out⟩
     ·obtain rfl:=hall;subst hun;obtain rfl:=hd12 rfl;go_simp;exact hK _ _ ⟨_,_,_,_,_,_,_,_,_,_,_,_,_,_,_,_,_,v1,v2,v3,v4,BB,HH,rfl,by simp,by simp,hd15,(by simp),HS.out⟩
     ·obtain rfl:=hall;subst hun;obtain rfl:=hd12 rfl;go_simp;exact hK _ _ ⟨_,_,_,_,_,_,_,_,_,_,_,_,_,_,_,_,_,v1,v2,v3,v4,BB,HH,rfl,by simp,hd13,hd15,(by simp),HS.out⟩
     ·obtain⟨rfl,rfl,rfl,rfl,rfl,rfl,rfl,rfl,rfl,rfl,rfl,rfl,rfl,-,rfl,-⟩:=hall;subst hun;have f0:=HS.out.fr 4 0 rfl;have k0:=HS.out.cell (v:=.slice none 0 0) 4 0 rfl rfl;have f1:=HS.out.fr 4 1 rfl;have k1:=HS.out.cell (v:=.slice none 0 0) 4 1 rfl rfl;go_simp;exact hK _ _ ⟨_,_,_,_,_,_,_,_,_,_,_,_,_,_,_,_,_,v1,v2,v3,v4,BB,HH,rfl,by simp,by simp,by simp,(by simp),((HS.out.set 4 rfl 0 (.slice v1 D.next.length v2)).set 4 rfl 1 (.slice v3 D.ends.length v4))⟩
     obtain⟨rfl,rfl,rfl,rfl,rfl,rfl,rfl,rfl,rfl,rfl,rfl,rfl,rfl,rfl,rfl,rfl,-⟩:=hall;subst hun;go_simp;exact hK _ _ ⟨_,_,_,_,_,_,_,_,_,_,_,_,_,_,_,_,_,v1,v2,v3,v4,BB,HH,rfl,by simp,by simp,by simp,(by simp),HS.out⟩
    ·rintro listed a w' ⟨l0,l1,l2,l3,l4,l5,l6,l7,l8,l9,l10,l11,l12,l13,l14,l15,l16,v1,v2,v3,v4,BB,HH,rfl,hd12,hd13,hd15,rfl,hS⟩ hr;obtain⟨rfl,rfl,rfl,rfl,rfl,rfl,rfl,rfl,rfl,rfl,rfl,rfl,rfl,rfl,rfl,rfl,rfl,-⟩:=zA (ZaK (by kernel_rfl) rfl hr) rfl;clear hr hd12 hd13 hd15;simp only[↓reduceIte] at hS ⊢;simp only[w_1,w_2,w_3];have hS8:=hS.pick [0,1,2,3,4,5] (by decide);have HS8:=qh hS8;clear hS hS8;go_wp2;go_meet;cases q with
     | none=>exact⟨none,v1,v3,D.next.length,v2,D.ends.length,v4,X,rfl,by rw[← Hhfb.out],Hhst.out,fun D' h=>(by cases h),HR.out,HS8.out.pick [0,1,4,2] (by decide)⟩
     | some D0 =>obtain rfl:D0=D:=HhD.out;have hDo:=Hhqo.out D0 rfl;obtain⟨E,vs,hH,hSE⟩:=HS8.out.dfaXh 5 rfl (Zaj hDo).1;exact⟨some D0,_,_,_,_,_,_,Ent.all [X,E],rfl,by rw[← Hhfb.out],Hhst.out,fun D' h=>by obtain rfl:=Option.some.inj h;exact⟨hDo,vs,hH.right⟩,HR.out.left,St.pack (A:=[Ent.box w.heap.size #[.slice none 0 0,.slice none 0 0] 44,Ent.row 44 2 (.slice (some ⟨g,0,none⟩) m c) m (stkC ps),Ent.box w1.heap.size #[.slice v1 D0.next.length v2,.slice v3 D0.ends.length v4] 44]) (R:=[X,E]) (hSE.pick [0,1,4,2,5] (by decide))⟩
    refine⟨false,false,false,false,false,false,false,false,false,false,false,false,false,false,false,false,false,none,0,none,0,0,0,rfl,by simp,by simp,by simp,(by simp),?_⟩;exact HS2.out.drew.pick [0,1,2,3,4,5] (by decide)
   case rest =>
    obtain⟨q,b1,b2,n1,d1,n2,d2,X',rfl,rfl,hst,hqD,hR',hS'⟩:=hcut;have hrs:=Hhrs.out;rw[hst] at hrs;cases q with
    | none =>
     have hon:o=none:=by
      have:=Hho.out;rw[hrs] at this;cases o with
      | none=>rfl
      | some d=>cases this
     subst hon;have f0:=hS'.fr 0 0 rfl;have f1:=hS'.fr 0 1 rfl;have k0:=hS'.cell (v:=.slice none 0 0) 0 0 rfl rfl;have k1:=hS'.cell (v:=.slice none 0 0) 0 1 rfl rfl;have HS5:=qh hS';clear hS' hR' hqD hst hrs HS2 HS1 HSp;go_wp2;have hq:=(HS5.out.set 0 rfl 0 (.slice none 0 0)).set 0 rfl 1 (.slice none 0 0);have q0:=hq.cell (v:=.slice none 0 0) 0 0 rfl rfl;have q1:=hq.cell (v:=.slice none 0 0) 0 1 rfl rfl;refine bodyPost_ret (v:=.tuple #[.agg #[.slice none 0 0,.slice none 0 0],.bool false]) (by simp[results,Tryz.results24,go_sem,q0,q1]) rfl ⟨?_,hq.bel⟩;exact⟨none,0,none,0,rfl,ZjG _ _ _ _ _⟩
    | some D =>
     obtain⟨hDo,vs,hH⟩:=hqD D rfl;have htm:t≤m:=by omega
     have hR2:=hR'.push (t:=t) (by rw[Hhm.out];exact htm) hH hDo;have hrun:runC K (es.drop (k+1)) (ds.take t++[D]).reverse=runC K es []:=by rw[hrs];rfl
     have hl1:(ds.take t++[D]).length=t+1:=by rw[List.length_append,List.length_take,Hhm.out,List.length_singleton];omega
     have hl2:((t+1:Nat):Int)=dep es (k+1):=by have:=Hhds.out;omega
     have hpt:(stkC ps).take (t*2)=stkC (ps.take t):=ZiJ ps t;have hSc:=hS'.cut 1 rfl t htm;rw[hpt] at hSc;obtain⟨a',c',he,hcc,hcm⟩:=hS'.rowany 1 rfl;simp only[Value.slice.injEq,true_and] at he;obtain⟨rfl,rfl⟩:=he;obtain⟨sa,rfl⟩:∃ z,z=a:=⟨_,rfl⟩;have ht0:(0:Int)≤(t:Int):=by omega
     have htc:(t:Int)≤(c:Int):=by omega
     have HS5:=qh hSc;have HR2:=qh hR2;have Hhrun:=qh hrun;clear hrun;have Hhl1:=qh hl1;clear hl1;have Hhl2:=qh hl2;clear hl2;have Hhpt:=qh hpt;clear hpt;have Hhst:=qh hst;clear hst;clear hS' hR' hqD hrs HS2 HS1 HSp hSc hR2 hH;go_wp2;refine wp_region_any (by kernel_rfl) ?_
     refine Zar (fun A listed a w'=>∃ (l0 l1 l2 l3 l4 l5 l6:Bool) (bn0:Nat) (g7:Nat) (c7:Nat),listed=#[l0,l1,l2,l3,l4,l5,l6]∧(l6=true→l0=true∧l5=true) ∧
       a=⟨(((((((A.tmps.setIfInBounds 68 (if l0=true then .slice sa m c else A.tmps.getD 68 undef)).setIfInBounds 69 (if l1=true then .int .i64 ((t:Nat):Int) else A.tmps.getD 69 undef)).setIfInBounds 70 (if l2=true then .slice sa t c else A.tmps.getD 70 undef)).setIfInBounds 71 (if l3=true then .agg #[.slice b1 n1 d1,.slice b2 n2 d2] else A.tmps.getD 71 undef)).setIfInBounds 72 (if l4=true then .slice (some ⟨bn0,0,none⟩) 1 1 else A.tmps.getD 72 undef)).setIfInBounds 73 (if l5=true then .slice (some ⟨g7,0,none⟩) (t+1) c7 else A.tmps.getD 73 undef)).setIfInBounds 4 (if l6=true then .slice (some ⟨g7,0,none⟩) (t+1) c7 else A.tmps.getD 4 undef)),A.defers⟩ ∧
       St w w' [Ent.box w.heap.size #[.slice none 0 0,.slice none 0 0] 44,(if l5=true then Ent.row 44 2 (.slice (some ⟨g7,0,none⟩) (t+1) c7) (t+1) (stkC (ps.take t)++[.slice b1 n1 d1,.slice b2 n2 d2]) else Ent.row 44 2 (.slice sa t c) t (stkC (ps.take t))),Ent.box w1.heap.size #[.slice b1 n1 d1,.slice b2 n2 d2] 44,X',(if l4=true then Ent.box bn0 #[.slice b1 n1 d1,.slice b2 n2 d2] 44 else Ent.nil)]) ?_ ?_ ?_
     ·rintro listed a w' ⟨l0,l1,l2,l3,l4,l5,l6,bn0,g7,c7,rfl,hd6,rfl,hS⟩ i hi;obtain⟨hun,o,ho,hall⟩:=mem_ready.1 hi;have hlt:=(Array.getElem?_eq_some_iff.1 ho).1;refine wpOp_step ho (fun K hK => ?_);clear hi;have HS:=qh hS;clear hS;simp only[w_1,w_2,w_3,w_4,w_5,w_6,w_7,w_8];obtain h|h|h|h|h|h|h:i=0∨i=1∨i=2∨i=3∨i=4∨i=5∨i=6:=by simp at hlt;omega
      all_goals subst h
      all_goals simp only[w_5,w_6,w_7,w_9] at ho
      all_goals subst ho
      all_goals simp[Region.binds] at hun hall
      ·subst hun;obtain rfl:l6=false:=offL hd6 rfl;go_simp;exact hK _ _ ⟨_,_,_,_,_,_,_,bn0,g7,c7,rfl,by simp,(by simp),HS.out⟩
      ·subst hun;go_simp;exact hK _ _ ⟨_,_,_,_,_,_,_,bn0,g7,c7,rfl,hd6,(by simp),HS.out⟩
      ·obtain⟨rfl,rfl⟩:=hall;subst hun;go_simp;exact hK _ _ ⟨_,_,_,_,_,_,_,bn0,g7,c7,rfl,hd6,(by simp),HS.out⟩
      ·subst hun;have e0:=HS.out.cell (v:=.slice b1 n1 d1) 2 0 rfl rfl;have e1:=HS.out.cell (v:=.slice b2 n2 d2) 2 1 rfl rfl;go_simp;exact hK _ _ ⟨_,_,_,_,_,_,_,bn0,g7,c7,rfl,hd6,(by simp),HS.out⟩
      ·obtain rfl:=hall;subst hun;have hS2:=(HS.out.alloc _ rfl #[.slice b1 n1 d1,.slice b2 n2 d2] 44).pick [0,1,2,3,5] (by decide);have HhS2:=qh hS2;clear hS2;go_simp;exact hK _ _ ⟨_,_,_,_,_,_,_,_,g7,c7,rfl,hd6,(by simp),HhS2.out⟩
      ·obtain⟨rfl,rfl⟩:=hall;subst hun;obtain rfl:l6=false:=offR hd6 rfl;refine step_append_lies (a:=⟨_,_⟩) _ (by rfl) _ _ _ (by rfl) w.heap.size 44 i0 (.agg #[.slice none 0 0,.slice none 0 0]) 2 48 Tryz.underlying75 Hhi.out hz0.out Hhz1.out Hhz2.out (by rfl) (by omega) (.slice sa t c) t (stkC (ps.take t)) (by rfl) (HS.out.row 1 rfl) ⟨bn0,0,none⟩ 1 1 [.slice b1 n1 d1,.slice b2 n2 d2] (by rfl) (by rfl) (World.news_of_block (HS.out.box 4 rfl)) (Zoa rfl rfl) (by omega) (by unfold maxLen;omega) (by omega) HS.out.size _ rfl ?_;intro g8 c8 w8 hown8 hgrow8 hat8 hlt8;have HS8:=qh (HS.out.app 1 rfl hown8 hgrow8 hat8);clear hown8 hgrow8 hat8;go_simp;exact hK _ _ ⟨_,_,_,_,_,_,_,bn0,g8,c8,rfl,by simp,(by simp),HS8.out⟩
      obtain⟨rfl,rfl,rfl,rfl,rfl,rfl,-⟩:=hall;subst hun;go_simp;exact hK _ _ ⟨_,_,_,_,_,_,_,bn0,g7,c7,rfl,by simp,(by simp),HS.out⟩
     ·rintro listed a w' ⟨l0,l1,l2,l3,l4,l5,l6,bn0,g7,c7,rfl,hd6,rfl,hS⟩ hr;obtain⟨rfl,rfl,rfl,rfl,rfl,rfl,rfl,-⟩:=zA (ZaK (by kernel_rfl) rfl hr) rfl;clear hr hd6;simp only[↓reduceIte] at hS ⊢;simp only[w_1,w_2,w_3];have HS9:=qh (hS.pick [0,1,3] (by decide));clear hS;go_wp2
      go_roundg (n-(k+1))
      case measure=>omega
      case rel=>exact⟨k+1,t+1,c7,some ⟨g7,0,none⟩,ds.take t++[D],ps.take t++[(.slice b1 n1 d1,.slice b2 n2 d2)],X',by omega,by go_num,rfl,Hhl1.out,Hhl2.out,Hhrun.out,HR2.out,by rw[← Zmc];exact HS9.out⟩
     refine⟨false,false,false,false,false,false,false,0,0,0,rfl,by simp,(by simp),?_⟩;exact HS5.out.drew.pick [0,1,2,3,4] (by decide)
  obtain rfl:k=n:=by omega
  have hm1:m=1:=by have:=hd1.out;omega
  subst hm1;have hdr:es.drop k=[]:=by rw[hn.out];exact List.drop_length
  rw[hdr] at hrun;have hlt0:0<ds.length:=by rw[hm];exact Nat.one_pos
  have hdl:ds=[ds.getD 0 ⟨[],[]⟩]:=by
   have:=Zia (t:=0) hm
   rwa [List.take_zero,List.nil_append] at this
  have hAo:=hR.ok 0 hlt0;have hAd:=hR.at hlt0 hS 2 rfl;have hlen:=hR.len;rw[hm] at hlen;obtain⟨hc1',hc2'⟩:=ZfZ ps 0 (by omega);obtain⟨A,hA⟩:=eJ (ds.getD 0 ⟨[],[]⟩);obtain⟨y1,hy1⟩:∃ y,(ps.getD 0 (undef,undef)).1=y:=⟨_,rfl⟩;obtain⟨y2,hy2⟩:∃ y,(ps.getD 0 (undef,undef)).2=y:=⟨_,rfl⟩;rw[hA] at hAo hAd hdl;rw[hy1] at hc1' hAd;rw[hy2] at hc2' hAd
  have hoA:o=some A:=by
   have h1:=Hho.out;rw[← hrun,hdl] at h1;cases o with
   | none=>cases h1
   | some d =>have h2:=Option.some.inj h1;simp only[List.reverse_cons,List.reverse_nil,List.nil_append,List.cons.injEq,and_true] at h2;rw[h2]
  have hmA:=Hhmin.out A hoA;subst hoA;obtain⟨g,c2,he⟩:=hS.rowform 1 rfl (by omega);simp only[Value.slice.injEq,true_and] at he;obtain⟨rfl,rfl⟩:=he;have r0:=hS.rcell (v:=y1) 1 0 rfl (by omega) hc1';have r1:=hS.rcell (v:=y2) 1 1 rfl (by omega) hc2';have HS:=qh hS;have HAd:=qh hAd;have HhAo:=qh hAo;clear hAo;have HhmA:=qh hmA;clear hmA;clear hS hR hrun hdm hm hlt hdr hdl hlen hc1' hc2' hA hy1 hy2 hlt0 hAd;go_wp2_with fail;refine(ZbC A _ _ HhAo.out HAd.out).mono ?_;rintro e w5 ⟨a1,c1,a2,c2,rfl,hown,hb5⟩;rw[HhmA.out] at hown;rw[HhmA.out];have hS5:=HS.out.call hb5;have f0:=hS5.fr 0 0 rfl;have f1:=hS5.fr 0 1 rfl;have k0:=hS5.cell (v:=.slice none 0 0) 0 0 rfl rfl;have k1:=hS5.cell (v:=.slice none 0 0) 0 1 rfl rfl;have hDM:=DMem.of hown HS.out.size;have hb0:=hS5.box 0 rfl;have HS5:=qh hS5;have HDM:=qh hDM;have Hhb0:=qh hb0;clear hb0;clear hS5 hown hb5 hDM r0 r1;go_wp2;have hq:=(HS5.out.set 0 rfl 0 (.slice a1 A.next.length c1)).set 0 rfl 1 (.slice a2 A.ends.length c2);have q0:=hq.cell (v:=.slice a1 A.next.length c1) 0 0 rfl rfl;have q1:=hq.cell (v:=.slice a2 A.ends.length c2) 0 1 rfl rfl;have hm:=(HDM.out.set Hhb0.out 0 (.slice a1 A.next.length c1)).set (Hhb0.out.set 0 _) 1 (.slice a2 A.ends.length c2);refine bodyPost_ret (v:=.tuple #[.agg #[.slice a1 A.next.length c1,.slice a2 A.ends.length c2],.bool true]) (by simp[results,Tryz.results24,go_sem,q0,q1]) rfl ⟨?_,hq.bel⟩;exact⟨a1,c1,a2,c2,rfl,_,_,rfl,hm.1,hm.2⟩
end Go.Proofs.YtncekbbhgipdlaaGreat
