/-
  The walk over the program's BuildNfa: a stack of automata with choices.
  Conditions: the list of parts reads as such.
-/
import Derived.Test.YtfanhfcamblghaaPq13Bli
import Derived.Test.YtfanhfcamblghaaPq40Bns
import Derived.Test.YtfanhfcamblghaaPq43Cmb
set_option maxHeartbeats 16000000
set_option maxRecDepth 100000
namespace Go.Proofs.Ytfanhfcamblghaa
open Go.RowKit
abbrev QN:=NfaD × Value × Value × Value
def dq:QN:=(zeN,undef,undef,undef)
def vN (q:QN):Value:=.agg #[.int .i64 q.1.states,q.2.1,q.2.2.1,q.2.2.2]
def stkN (qs:List QN):List Value:=qs.flatMap fun q=>[.int .i64 q.1.states,q.2.1,q.2.2.1,q.2.2.2]
theorem Zgm:∀ (qs:List QN) (i:Nat),i<qs.length→(stkN qs)[i*4]? = some (.int .i64 (qs.getD i dq).1.states)∧(stkN qs)[i*4+1]? = some (qs.getD i dq).2.1∧(stkN qs)[i*4+2]? = some (qs.getD i dq).2.2.1∧(stkN qs)[i*4+3]? = some (qs.getD i dq).2.2.2
 | q::qs,0,_=>⟨rfl,rfl,rfl,rfl⟩
 | q::qs,i+1,h=>by
  have ih:=Zgm qs i (by simpa using h);have e:∀ j,(stkN (q::qs))[(i+1)*4+j]? = (stkN qs)[i*4+j]?:=fun j=>by rw[show(i+1)*4+j=i*4+j+1+1+1+1 by omega];rfl
  have e0:=e 0;rw[Nat.add_zero,Nat.add_zero] at e0;rw[e0,e,e,e];exact ih
theorem Zg2:∀ (qs:List QN) (m:Nat),(stkN qs).take (m*4)=stkN (qs.take m)
 | qs,0=>by simp[stkN]
 | [],m+1=>by simp[stkN]
 | q::qs,m+1=>by have ih:=Zg2 qs m;show(.int .i64 q.1.states::q.2.1::q.2.2.1::q.2.2.2::stkN qs).take ((m+1)*4) = .int .i64 q.1.states::q.2.1::q.2.2.1::q.2.2.2::stkN (qs.take m);rw[show(m+1)*4=m*4+1+1+1+1 by omega,List.take_succ_cons,List.take_succ_cons,List.take_succ_cons,List.take_succ_cons,ih]
theorem ZjN (qs:List QN) (D:NfaD) (x y z:Value):stkN qs++[.int .i64 D.states,x,y,z]=stkN (qs++[(D,x,y,z)]):=by simp[stkN]
def NfH (E:Ent) (v:Value) (n:NfaD):Prop:=∀ w,E.holds w→(∀ k,E.foot k→k<w.heap.size)→NfaR 0 w v n
theorem NfH.left {E F:Ent} {v:Value} {n:NfaD} (h:NfH E v n):NfH (Ent.all [E,F]) v n:=fun w h1 h2=>h w (h1 _ (by simp)) fun k hk=>h2 k ⟨E,by simp,hk⟩
theorem NfH.right {E F:Ent} {v:Value} {n:NfaD} (h:NfH F v n):NfH (Ent.all [E,F]) v n:=fun w h1 h2=>h w (h1 _ (by simp)) fun k hk=>h2 k ⟨F,by simp,hk⟩
theorem NfH.r {w0 w:World} {L:List Ent} {E:Ent} {v:Value} {n:NfaD} (h:NfH E v n) (hS:St w0 w L) (i:Nat) (hx:L[i]? = some E):NfaR 0 w v n :=
 h w (hS.has i _ hx).1 fun k hk=>((hS.has i _ hx).2 k hk).2
theorem ZlJ {X:Ent} {n:NfaD} {a1 a2 a3:Option Addr} {c1 c2 c3:Nat} (h0:0≤n.states) (h1:n.states≤40):NfH (Ent.all [X,NfaT n (.slice a1 n.moves.length c1) (.slice a2 n.firsts.length c2) (.slice a3 n.ends.length c3)]) (.agg #[.int .i64 n.states,.slice a1 n.moves.length c1,.slice a2 n.firsts.length c2,.slice a3 n.ends.length c3]) n:=by
 refine NfH.right fun w h _ => ?_
 have g1:(Ent.row 34 3 (.slice a1 n.moves.length c1) n.moves.length (n.moves.flatMap Zab)).holds w:=h _ (by simp);have g2:(Ent.row 3 1 (.slice a2 n.firsts.length c2) n.firsts.length (intCells n.firsts)).holds w:=h _ (by simp);have g3:(Ent.row 3 1 (.slice a3 n.ends.length c3) n.ends.length (intCells n.ends)).holds w:=h _ (by simp);exact Za1 (Zau g1) (Zah g2) (Zah g3) (by omega) (by omega)
def StkN (X:Ent) (qs:List QN):Prop:=∀ q∈qs,NfH X (vN q) q.1
theorem StkN.left {X F:Ent} {qs:List QN} (h:StkN X qs):StkN (Ent.all [X,F]) qs:=fun q hq=>(h q hq).left
theorem StkN.push {X:Ent} {qs:List QN} (h:StkN X qs) (t:Nat) {q:QN} (hq:NfH X (vN q) q.1):StkN X (qs.take t++[q]):=fun x hx=>by
 rcases List.mem_append.1 hx with h1|h1
 ·exact h x (List.mem_of_mem_take h1)
 rw[List.mem_singleton.1 h1];exact hq
theorem StkN.at {X:Ent} {qs:List QN} (h:StkN X qs) {i:Nat} (hi:i<qs.length):NfH X (vN (qs.getD i dq)) (qs.getD i dq).1:=h _ (by rw[List.getD_eq_getElem?_getD,List.getElem?_eq_getElem hi];exact List.getElem_mem _)
def nsN (qs:List QN):List NfaD:=qs.map Prod.fst
theorem Zkn {qs:List QN} {i:Nat} (hi:i<qs.length):(nsN qs).getD i zeN=(qs.getD i dq).1:=by unfold nsN;rw[List.getD_eq_getElem?_getD,List.getElem?_map,List.getElem?_eq_getElem hi,List.getD_eq_getElem?_getD,List.getElem?_eq_getElem hi];rfl
theorem ZgH {l:List NfaD} {t:Nat} (h:l.length=t+1):l=l.take t++[l.getD t zeN]:=by
 have e:l.take (t+1)=l:=by rw[← h];exact List.take_length
 rw[List.take_succ_eq_append_getElem (by omega)] at e;have e2:l.getD t zeN=l[t]:=by simp[show t<l.length by omega]
 rw[e2];exact e.symm
theorem Zjn {l:List NfaD} {i t:Nat} (h:i<t) (d:NfaD):(l.take t).getD i d=l.getD i d:=by simp only[List.getD_eq_getElem?_getD];rw[List.getElem?_take,if_pos h]
theorem ZnL {p:Int × Int} (hp:Zaa p=0) (ds:List NfaD):Zev p ds.reverse=some ((ds.take (ds.length-0)++[Zcg p]).reverse):=by unfold Zev;rw[if_pos hp,Nat.sub_zero,List.take_length,List.reverse_append];rfl
theorem ZnK {p:Int × Int} (hp:Zaa p=1) {ds:List NfaD} {t:Nat} (h:ds.length=t+1):Zev p ds.reverse=(optN (ZbP (ds.getD t zeN))).map fun D=>(ds.take t++[D]).reverse:=by
 have e:=ZgH h;have er:ds.reverse=ds.getD t zeN::(ds.take t).reverse:=by rw[show ds.reverse=(ds.take t++[ds.getD t zeN]).reverse by rw[← e]];simp
 rw[er];unfold Zev;rw[if_neg (by omega),if_pos hp];show(optN (ZbP (ds.getD t zeN))).map (·::(ds.take t).reverse)=_;congr 1
 funext D
 simp
theorem ZnJ {p:Int × Int} (hp:Zaa p=2) {ds:List NfaD} {t:Nat} (h:ds.length=t+1+1):Zev p ds.reverse=(ZcL p.1 (ds.getD t zeN) (ds.getD (t+1) zeN)).map fun D=>(ds.take t++[D]).reverse:=by
 have e:=ZgH h;have hl:(ds.take (t+1)).length=t+1:=by rw[List.length_take];omega
 have e2:=ZgH hl;rw[List.take_take,Nat.min_eq_left (by omega),Zjn (by omega)] at e2;have er:ds.reverse=ds.getD (t+1) zeN::ds.getD t zeN::(ds.take t).reverse:=by rw[show ds.reverse=(ds.take (t+1)++[ds.getD (t+1) zeN]).reverse by rw[← e],e2];simp
 rw[er];unfold Zev;rw[if_neg (by omega),if_neg (by omega)];show(ZcL p.1 (ds.getD t zeN) (ds.getD (t+1) zeN)).map (·::(ds.take t).reverse)=_;congr 1
 funext D
 simp
theorem Zj7 {es:List (Int × Int)} {k:Nat} (hk:k<es.length) (st:List NfaD):runB (es.drop k) st=(Zev (es.getD k (0,0)) st).bind (runB (es.drop (k+1))):=by
 have e:es.drop k=es.getD k (0,0)::es.drop (k+1):=by rw[show es.getD k (0,0)=es[k] by simp[hk]];exact(List.getElem_cons_drop hk).symm
 rw[e];rfl
theorem ZmV {x:Int} {a1 a2 a3:Option Addr} {l1 c1 l2 c2 l3 c3:Nat}:∀ u∈[Value.int .i64 x,.slice a1 l1 c1,.slice a2 l2 c2,.slice a3 l3 c3],u.oneCell'=true:=by intro u hu;simp only[List.mem_cons,List.not_mem_nil,or_false] at hu;rcases hu with rfl|rfl|rfl|rfl<;>rfl
def RNr (n:NfaD) (b:Bool) (w:World) (e:Ending) (w':World):Prop:=∃ a1 c1 a2 c2 a3 c3,e = .returned (.tuple #[.agg #[.int .i64 n.states,.slice a1 n.moves.length c1,.slice a2 n.firsts.length c2,.slice a3 n.ends.length c3],.bool b])∧NfaR 0 w' (.agg #[.int .i64 n.states,.slice a1 n.moves.length c1,.slice a2 n.firsts.length c2,.slice a3 n.ends.length c3]) n∧Below w.heap.size w w'
def RNT (n:NfaD) (b:Bool) (w:World) (e:Ending) (w':World):Prop:=∃ a1 c1 a2 c2 a3 c3,e = .returned (.tuple #[.agg #[.int .i64 n.states,.slice a1 n.moves.length c1,.slice a2 n.firsts.length c2,.slice a3 n.ends.length c3],.bool b]) ∧
 St w w' [NfaT n (.slice a1 n.moves.length c1) (.slice a2 n.firsts.length c2) (.slice a3 n.ends.length c3)]
theorem ZmT {n:NfaD} {b:Bool} {w:World} {e:Ending} {w':World} (h:RNt n b w e w'):RNT n b w e w':=by obtain⟨a1,c1,a2,c2,a3,c3,rfl,hS⟩:=h;exact⟨a1,c1,a2,c2,a3,c3,rfl,St.pack (A:=[]) hS⟩
theorem Zir {w w':World} (h:Below w.heap.size w w'):RNr zeN false w (.returned (.tuple #[.agg #[.int .i64 0,.slice none 0 0,.slice none 0 0,.slice none 0 0],.bool false])) w':=by have hS:=((((St.start w).call h).nilRow 34 3).nilRow 3 1).nilRow 3 1;exact⟨none,0,none,0,none,0,rfl,Za1 (Zau (xs:=[]) (hS.row 0 rfl)) (Zah (xs:=[]) (hS.row 1 rfl)) (Zah (xs:=[]) (hS.row 2 rfl)) (by decide) (by decide),h⟩
theorem Try.infoNfa1:(Try.prog.info? 28).map (fun i=>(i.zero,i.size,i.bytes))=some (some (.agg #[.int .i64 0,.slice none 0 0,.slice none 0 0,.slice none 0 0]),4,80):=by kernel_rfl
theorem Zfh {q:NfaD × Bool} (hz:q.2=false→q.1=zeN) {D:NfaD} {fb:Bool} (hD:(optN q).getD zeN=D) (hfb:(optN q).isSome=fb):q=(D,fb):=by obtain⟨h1,h2⟩:=ZnN hz;rw[← hD,← hfb,h1,h2]
theorem lt_7 {i:Nat} (h:i<7):i=0∨i=1∨i=2∨i=3∨i=4∨i=5∨i=6:=by omega
theorem ZnQ {i:Nat} (h:i<15):i=0∨i=1∨i=2∨i=3∨i=4∨i=5∨i=6∨i=7∨i=8∨i=9∨i=10∨i=11∨i=12∨i=13∨i=14:=by omega
theorem ZjQ (A:QN) (D:NfaD) (fb:Bool) (hX:ZbP A.1=(D,fb)) (w:World) (h:NfaR 0 w (vN A) A.1):Calls Try.prog 60 #[vN A] w fun e w'=>RNT D fb w e w':=by obtain⟨v1,v2,v3,he,h1,h2,h3,hs0,hs1⟩:=h;have g:=Zhl A.1 v1 v2 v3 w h1 h2 h3 hs0 hs1;rw[hX] at g;rw[he];exact g.mono fun _ _ h=>ZmT h
theorem Zjg {k z:Int} (hk:k=1∨k=2∨k=3):0≤(Zcg (k,z)).states∧(Zcg (k,z)).states≤40:=by
 unfold Zcg;rcases hk with rfl|rfl|rfl
 ·rw[if_pos rfl];decide
 ·rw[if_neg (by show ¬ (2:Int)=1;omega),if_pos rfl];decide
 rw[if_neg (by show ¬ (3:Int)=1;omega),if_neg (by show ¬ (3:Int)=2;omega)];show(0:Int)≤2∧(2:Int)≤40;omega
theorem ZgM (es:List (Int × Int)) (o:Option NfaD) (ho:BldQ es o) (v:Value) (w:World) (h:Pairs 0 w v es) :
  Calls Try.prog 17 #[v] w fun e w'=>RNr (o.getD zeN) o.isSome w e w':=by
 obtain⟨av,cv,rfl,hc1,hc2,hrd⟩:=h.form;have HP:=qh h;have HS0:=qh ((St.start w).alloc w.heap.size rfl #[.int .i64 0,.slice none 0 0,.slice none 0 0,.slice none 0 0] 28);clear h;by_cases hpl0:(exOk es&&Zaw es)=true
 ·obtain⟨hok,hpl⟩:exOk es=true∧Zaw es=true:=by rwa [Bool.and_eq_true] at hpl0
  obtain⟨hall,hd1,hn1,hn60⟩:=ZaF hok;obtain⟨i0,hi,hz0,hz1,hz2⟩:=info_parts Try.infoNfa1
  have hrunw:runB es []=o.map fun d=>[d]:=by
   rcases ho with⟨-,-,t,rfl,rfl⟩|⟨h1,-⟩
   ·exact Zi6 t (Zcb t hpl)
   rw[hok,hpl] at h1;rcases h1 with h|h<;>cases h
  obtain⟨n,hn⟩:=eI (es.length);rw[← hn] at hc1 hrd hall hd1 hn1 hn60 HP;rw[← hn];have Hrd:=qh hrd;have Hall:=qh hall;have Hhi:=qh hi;clear hi;replace hz0:=qh hz0;have Hhz1:=qh hz1;clear hz1;have Hhz2:=qh hz2;clear hz2;replace hn:=qh hn;have Hhd1:=qh hd1;clear hd1;have Hhrunw:=qh hrunw;clear hrunw;have Hhpl:=qh hpl;clear hpl;have Hhpl0:=qh hpl0;clear hpl0;clear hrd hall hok ho
  go_enter Try.func17, Try.ntmps17
  go_wp2_with fail;refine(Zbi es _ _ (HP.out.below HS0.out.bel) true Hhpl0.out).mono ?_;rintro e w0 ⟨rfl,hb0⟩;have HSa:Hid (St w w0 [Ent.box w.heap.size #[.int .i64 0,.slice none 0 0,.slice none 0 0,.slice none 0 0] 28,Ent.row 28 4 (.slice none 0 0) 0 [],Ent.nil]):=qh (((HS0.out.call hb0).nilRow 28 4).add (Below.refl _ _) Ent.nil trivial fun k hk=>hk.elim);clear hb0 HS0;go_wp2
  go_loopw [4,16] (fun st i wr=>∃ (k m c:Nat) (a:Option Addr) (qs:List QN) (X:Ent),i = .int .i64 (k:Int)∧st = .slice a m c∧k≤n∧qs.length=m∧(m:Int)=dep es k∧runB (es.drop k) (nsN qs).reverse=runB es []∧StkN X qs∧St w wr [Ent.box w.heap.size #[.int .i64 0,.slice none 0 0,.slice none 0 0,.slice none 0 0] 28,Ent.row 28 4 (.slice a m c) m (stkN qs),X]) (fun _ i _=>n-(intOf i).toNat)
  case atStart=>exact⟨0,0,0,none,[],Ent.nil,rfl,rfl,Nat.zero_le _,rfl,rfl,rfl,fun q hq=>(by cases hq),HSa.out⟩
  case round =>
   obtain⟨k,m,c,a,qs,X,rfl,rfl,hkn,hm,hdm,hrun,hR,hS⟩:=hrel;clear HSa;by_cases hlt:k<n
   ·have hlt2:(k:Int)<n:=by omega
    have hwk:IntKind.i64.wrap ((k:Int)+1)=(k:Int)+1:=IntWalk.i64_in _ (by omega);obtain⟨b,oo,rfl,-,hbl,hcs⟩:=Hrd.out (by omega);obtain⟨g1,g2⟩:=hcs k hlt;have k1:=(bcell hS.bel b _ hbl).trans g1;have k2:=(bcell hS.bel b _ hbl).trans g2;obtain⟨hp0,hpm⟩:=Hall.out k hlt;have hrs:=Zj7 (es:=es) (k:=k) (by rw[← hn.out];exact hlt) (nsN qs).reverse;rw[hrun] at hrs;have hds:dep es (k+1)=dep es k-Zaa (es.getD k (0,0))+1:=rfl;have hk67:(es.getD k (0,0)).1≠6∧(es.getD k (0,0)).1≠7:=by have h3:=List.all_eq_true.1 Hhpl.out _ (Zc8 (d:=(0,0)) (show k<es.length by rw[← hn.out];exact hlt));simp only[Bool.not_eq_true',Bool.or_eq_false_iff,decide_eq_false_iff_not] at h3;exact h3
    obtain⟨p,hp⟩:=eI (es.getD k (0,0));rw[← hp] at k1 k2 hp0 hpm hrs hds hk67;obtain⟨p1,p2⟩:=p;simp only at k1 k2 hk67;have hpo:=ZbI hp0;have hpi:=Zbb (p1,p2);have hkk:=hpo;unfold pOk at hkk;rw[Bool.and_eq_true] at hkk;have hk18:=ZdL hkk.1;have hnk:Zaa (p1,p2)=if p1=1∨p1=2∨p1=3 then 0 else if p1=7∨p1=8 then 1 else 2:=by unfold Zaa;rw[if_pos hpo]
    obtain⟨r,hr⟩:=eJ (Zaa (p1,p2));rw[hr] at hp0 hpm hpi hds hnk;rw[← hdm] at hds hpm;have hmk:m≤200:=by have:=ZdS es k;omega
    obtain⟨r,rfl⟩:∃ q:Nat,r=((q:Nat):Int):=⟨r.toNat,by omega⟩;obtain⟨t,hmt⟩:∃ t:Nat,(m:Int)-(r:Int)=((t:Nat):Int):=⟨m-r,by omega⟩;have hwt:IntKind.i64.wrap (t:Int)=(t:Int):=IntWalk.i64_in _ (by omega);have HSp:=qh (hS.alloc _ rfl #[.int .i64 p1,.int .i64 p2] 72);have HR:=qh hR;have Hhrs:=qh hrs;clear hrs;have Hhp:=qh hp;clear hp;replace hm:=qh hm;replace hds:=qh hds;have Hhr:=qh hr;clear hr;have Hhpo:=qh hpo;clear hpo;replace hdm:=qh hdm;have Hhnk:=qh hnk;clear hnk;have Hhk67:=qh hk67;clear hk67;have Hhk18:=qh hk18;clear hk18;clear hS hcs g1 g2 hrun hR hpi hkk;have e0:=HSp.out.cell (v:=.int .i64 p1) 3 0 rfl rfl;have e1:=HSp.out.cell (v:=.int .i64 p2) 3 1 rfl rfl;go_wp2_with fail;refine(ZaE p1 p2 _ _ Hhr.out (by omega)).mono ?_;rintro e w1 ⟨rfl,hb1⟩;have HS2:=qh ((HSp.out.call hb1).alloc _ rfl #[.int .i64 0,.slice none 0 0,.slice none 0 0,.slice none 0 0] 28);clear hb1 e0 e1 HSp;have e0:=HS2.out.cell (v:=.int .i64 p1) 3 0 rfl rfl;have e1:=HS2.out.cell (v:=.int .i64 p2) 3 1 rfl rfl
    go_upto_block 2 with fail
    go_cut [9,16] from 17 to 79 (fun okv iv wc=>∃ (q:Option NfaD) (b1 b2 b3:Option Addr) (n1 d1 n2 d2 n3 d3:Nat) (X':Ent),iv = .int .i64 (k:Int)∧okv = .bool q.isSome∧Zev (p1,p2) (nsN qs).reverse=q.map (fun D=>((nsN qs).take t++[D]).reverse)∧(∃ D,q.getD zeN=D∧NfH X' (.agg #[.int .i64 D.states,.slice b1 n1 d1,.slice b2 n2 d2,.slice b3 n3 d3]) D∧StkN X' qs∧St w wc [Ent.box w.heap.size #[.int .i64 0,.slice none 0 0,.slice none 0 0,.slice none 0 0] 28,Ent.row 28 4 (.slice a m c) m (stkN qs),Ent.box w1.heap.size #[.int .i64 D.states,.slice b1 n1 d1,.slice b2 n2 d2,.slice b3 n3 d3] 28,X']))
    case first =>
     have hlen:(nsN qs).length=m:=by unfold nsN;rw[List.length_map,hm.out]
     have hr3:r=0∨r=1∨r=2:=by have:=Zbb (p1,p2);rw[Hhr.out] at this;omega
     rcases hr3 with rfl|rfl|rfl
     ·as_aux_lemma =>
      have hk3:p1=1∨p1=2∨p1=3:=by
       have h1:=Hhnk.out
       split at h1
       ·assumption
       split at h1<;>omega
      have htm:t=m-0:=by omega
      have hDs0:=Zjg (z:=p2) hk3;obtain⟨D,hD⟩:=eJ (Zcg (p1,p2));have hst:=ZnL (p:=(p1,p2)) Hhr.out (nsN qs);rw[hlen,← htm,hD] at hst;rw[hD] at hDs0;have hlf:=fun u=>Zh2 p1 p2 u hk3
      rw[hD] at hlf;have Hlf:=qh hlf;obtain⟨x1,x2,x3,x4⟩:=Zan (show p1≠5 by omega);obtain⟨y1,y2,y3,y4⟩:=Zan (show p1≠4 by omega);obtain⟨z1,z2,z3,z4⟩:=Zan (show p1≠8 by omega);have HhDs:=qh hDs0;have Hhst:=qh hst;clear hst;have Hhk3:=qh hk3;clear hk3;have Hhtm:=qh htm;clear htm;have Hhlen:=qh hlen;clear hlen;clear hlf hDs0 hD;go_wp2_with fail;refine(Hlf.out _).mono ?_;rintro e w3 h3;obtain⟨a1,a2,a3,a4,a5,a6,rfl,hS3'⟩:=RNfaS.t h3;have hS3:=HS2.out.cat hS3';have f0:=hS3.fr 4 0 rfl;have f1:=hS3.fr 4 1 rfl;have f2:=hS3.fr 4 2 rfl;have f3:=hS3.fr 4 3 rfl;have k0:=hS3.cell (v:=.int .i64 0) 4 0 rfl rfl;have k1:=hS3.cell (v:=.slice none 0 0) 4 1 rfl rfl;have k2:=hS3.cell (v:=.slice none 0 0) 4 2 rfl rfl;have k3:=hS3.cell (v:=.slice none 0 0) 4 3 rfl rfl;have HS3:=qh hS3;clear h3 hS3' hS3 e0 e1;go_wp2;go_meet;have hS4:=((((HS3.out.set 4 rfl 0 (.int .i64 D.states)).set 4 rfl 1 (.slice a1 D.moves.length a2)).set 4 rfl 2 (.slice a3 D.firsts.length a4)).set 4 rfl 3 (.slice a5 D.ends.length a6))
      exact⟨some D,_,_,_,_,_,_,_,_,_,Ent.all [X,NfaT D (.slice a1 D.moves.length a2) (.slice a3 D.firsts.length a4) (.slice a5 D.ends.length a6)],rfl,rfl,Hhst.out,D,rfl,ZlJ HhDs.out.1 HhDs.out.2,HR.out.left,St.pack (A:=[Ent.box w.heap.size #[.int .i64 0,.slice none 0 0,.slice none 0 0,.slice none 0 0] 28,Ent.row 28 4 (.slice a m c) m (stkN qs),Ent.box w1.heap.size #[.int .i64 D.states,.slice a1 D.moves.length a2,.slice a3 D.firsts.length a4,.slice a5 D.ends.length a6] 28]) (R:=[X,NfaT D (.slice a1 D.moves.length a2) (.slice a3 D.firsts.length a4) (.slice a5 D.ends.length a6)]) (hS4.pick [0,1,4,2,5] (by decide))⟩
     ·as_aux_lemma =>
      have hp8:p1=8:=by
       have h1:=Hhnk.out;have h2:=Hhk67.out
       split at h1
       ·omega
       split at h1<;>omega
      subst hp8;have htm1:m=t+1:=by omega
      obtain⟨g,c2,he⟩:=HS2.out.rowform 1 rfl (by omega);simp only[Value.slice.injEq,true_and] at he;obtain⟨rfl,rfl⟩:=he;have htl:t<qs.length:=by rw[hm.out];omega
      have hst:=ZnK (p:=(8,p2)) Hhr.out (ds:=nsN qs) (t:=t) (by rw[hlen];exact htm1);rw[Zkn htl] at hst;have hAt:=HR.out.at htl;obtain⟨hc0,hc1',hc2',hc3'⟩:=Zgm qs t htl;obtain⟨A,hA⟩:=eJ (qs.getD t dq);rw[hA] at hst hAt hc0 hc1' hc2' hc3';obtain⟨q,hq⟩:=eJ (optN (ZbP A.1));rw[hq] at hst;have hsm0:=Zi1 A.1;obtain⟨D,hD⟩:=eJ (q.getD zeN);obtain⟨fb,hfb⟩:=eJ (q.isSome);have hX:=Zfh (D:=D) (fb:=fb) (ZmO A.1) (by rw[hq];exact hD) (by rw[hq];exact hfb);have hDs0:0≤D.states∧D.states≤40:=by rw[hX] at hsm0;exact⟨hsm0.1,hsm0.2.1⟩
      have hcb:=fun (u:World) (L:List Ent) (hS:St w u L) (hx:L[2]? = some X)=>ZjQ A D fb hX u (hAt.r hS 2 hx)
      have Hcb:=qh hcb;have htm:(t:Int)<(m:Int):=by omega
      have HhDs:=qh hDs0;have Hhtm1:=qh htm1;clear htm1;have Hhlen:=qh hlen;clear hlen;have Hhst:=qh hst;clear hst;replace hD:=qh hD;have Hhfb:=qh hfb;clear hfb;have Hhc0:=qh hc0;clear hc0;have Hhc1':=qh hc1';clear hc1';have Hhc2':=qh hc2';clear hc2';have Hhc3':=qh hc3';clear hc3';clear hcb hAt hA hq hX hsm0 hDs0;have r0:=HS2.out.rcell (v:=.int .i64 A.1.states) 1 (t*4) rfl (by omega) Hhc0.out;have r1:=HS2.out.rcell (v:=A.2.1) 1 (t*4+1) rfl (by omega) Hhc1'.out;have r2:=HS2.out.rcell (v:=A.2.2.1) 1 (t*4+2) rfl (by omega) Hhc2'.out;have r3:=HS2.out.rcell (v:=A.2.2.2) 1 (t*4+3) rfl (by omega) Hhc3'.out;go_wp2_with fail;refine(Hcb.out _ _ HS2.out rfl).mono ?_;rintro e w3 ⟨a1,a2,a3,a4,a5,a6,rfl,hS3'⟩;have hS3:=HS2.out.cat hS3';have f0:=hS3.fr 4 0 rfl;have f1:=hS3.fr 4 1 rfl;have f2:=hS3.fr 4 2 rfl;have f3:=hS3.fr 4 3 rfl;have k0:=hS3.cell (v:=.int .i64 0) 4 0 rfl rfl;have k1:=hS3.cell (v:=.slice none 0 0) 4 1 rfl rfl;have k2:=hS3.cell (v:=.slice none 0 0) 4 2 rfl rfl;have k3:=hS3.cell (v:=.slice none 0 0) 4 3 rfl rfl;have HS3:=qh hS3;clear hS3' hS3 e0 e1 r0 r1 r2 r3;go_wp2;go_meet;have hS4:=((((HS3.out.set 4 rfl 0 (.int .i64 D.states)).set 4 rfl 1 (.slice a1 D.moves.length a2)).set 4 rfl 2 (.slice a3 D.firsts.length a4)).set 4 rfl 3 (.slice a5 D.ends.length a6))
      exact⟨q,_,_,_,_,_,_,_,_,_,Ent.all [X,NfaT D (.slice a1 D.moves.length a2) (.slice a3 D.firsts.length a4) (.slice a5 D.ends.length a6)],rfl,by rw[← Hhfb.out],Hhst.out,D,hD.out,ZlJ HhDs.out.1 HhDs.out.2,HR.out.left,St.pack (A:=[Ent.box w.heap.size #[.int .i64 0,.slice none 0 0,.slice none 0 0,.slice none 0 0] 28,Ent.row 28 4 (.slice (some ⟨g,0,none⟩) m c) m (stkN qs),Ent.box w1.heap.size #[.int .i64 D.states,.slice a1 D.moves.length a2,.slice a3 D.firsts.length a4,.slice a5 D.ends.length a6] 28]) (R:=[X,NfaT D (.slice a1 D.moves.length a2) (.slice a3 D.firsts.length a4) (.slice a5 D.ends.length a6)]) (hS4.pick [0,1,4,2,5] (by decide))⟩
     have hk45:p1=4∨p1=5:=by
      have h1:=Hhnk.out;have h2:=Hhk67.out;have h3:=Hhk18.out
      split at h1
      ·omega
      split at h1<;>omega
     have htm1:m=t+1+1:=by omega
     obtain⟨g,c2,he⟩:=HS2.out.rowform 1 rfl (by omega);simp only[Value.slice.injEq,true_and] at he;obtain⟨rfl,rfl⟩:=he;obtain⟨s,hts⟩:∃ s:Nat,(t:Int)+1=((s:Nat):Int):=⟨t+1,by omega⟩;have hws:IntKind.i64.wrap (s:Int)=(s:Int):=IntWalk.i64_in _ (by omega);have hs1:s=t+1:=by omega
     have htl:t<qs.length:=by rw[hm.out];omega
     have hsl:s<qs.length:=by rw[hm.out];omega
     have hst:=ZnJ (p:=(p1,p2)) Hhr.out (ds:=nsN qs) (t:=t) (by rw[hlen];exact htm1);rw[← hs1,Zkn htl,Zkn hsl] at hst;have hAt:=HR.out.at htl;have hBt:=HR.out.at hsl;obtain⟨hA0,hA1,hA2,hA3⟩:=Zgm qs t htl;obtain⟨hB0,hB1,hB2,hB3⟩:=Zgm qs s hsl;obtain⟨QA,hA⟩:=eJ (qs.getD t dq);obtain⟨QB,hB⟩:=eJ (qs.getD s dq);rw[hA,hB] at hst;rw[hA] at hAt hA0 hA1 hA2 hA3;rw[hB] at hBt hB0 hB1 hB2 hB3;have htm:(t:Int)<(m:Int):=by omega
     have hsm:(s:Int)<(m:Int):=by omega
     have ht2:t+1≤m:=by omega
     have hs2:s+1≤m:=by omega
     have hs0:(0:Int)≤(s:Int):=by omega
     obtain⟨q,hq⟩:=eJ (ZcL p1 QA.1 QB.1);rw[show((p1,p2):Int × Int).1=p1 from rfl,hq] at hst;obtain⟨D,hD⟩:=eJ (q.getD zeN);obtain⟨fb,hfb⟩:=eJ (q.isSome);have HA0:=qh hA0;have HA1:=qh hA1;have HA2:=qh hA2;have HA3:=qh hA3;have HB0:=qh hB0;have HB1:=qh hB1;have HB2:=qh hB2;have HB3:=qh hB3;have Hhtm1:=qh htm1;clear htm1;have Hhst:=qh hst;clear hst;have Hhs1:=qh hs1;clear hs1;have Hhlen:=qh hlen;clear hlen;clear hA0 hA1 hA2 hA3 hB0 hB1 hB2 hB3 hA hB htl hsl;rcases hk45 with rfl|rfl
     ·have hsm0:=Zi2 QA.1 QB.1;have hq4:optN (ZcM QA.1 QB.1)=q:=hq;have hX:=Zfh (D:=D) (fb:=fb) (Zm2 QA.1 QB.1) (by rw[hq4];exact hD) (by rw[hq4];exact hfb);have hDs:0≤D.states∧D.states≤40:=by rw[hX] at hsm0;exact⟨hsm0.1,hsm0.2.1⟩
      have hcb:=fun (u:World) (L:List Ent) (hS:St w u L) (hx:L[2]? = some X)=>(ZgL QA.1 QB.1 D fb (vN QA) (vN QB) u hX (hAt.r hS 2 hx) (hBt.r hS 2 hx)).mono fun _ _ h=>ZmT h
      have Hcb:=qh hcb;have HhDs:=qh hDs;clear hDs;replace hD:=qh hD;have Hhfb:=qh hfb;clear hfb;clear hcb hAt hBt hq hq4 hX hsm0;go_wp2;refine wp_region_any (by kernel_rfl) ?_
      refine Zaf (fun A listed a w'=>∃ (l0 l1 l2 l3 l4 l5 l6 l7 l8 l9 l10 l11 l12 l13 l14:Bool) (v1:Option Addr) (v2:Nat) (v3:Option Addr) (v4:Nat) (v5:Option Addr) (v6:Nat),listed=#[l0,l1,l2,l3,l4,l5,l6,l7,l8,l9,l10,l11,l12,l13,l14]∧(l10=true→l9=true)∧(l11=true→l9=true)∧(l13=true→l9=true) ∧
        a=⟨((((((((((((((A.tmps.setIfInBounds 48 (if l0=true then .slice (some ⟨g,0,none⟩) m c else A.tmps.getD 48 undef)).setIfInBounds 49 (if l1=true then .int .i64 ((t:Nat):Int) else A.tmps.getD 49 undef)).setIfInBounds 50 (if l2=true then .pointer (some ⟨g,t*4,none⟩) else A.tmps.getD 50 undef)).setIfInBounds 51 (if l3=true then .agg #[.int .i64 QA.1.states,QA.2.1,QA.2.2.1,QA.2.2.2] else A.tmps.getD 51 undef)).setIfInBounds 52 (if l4=true then .slice (some ⟨g,0,none⟩) m c else A.tmps.getD 52 undef)).setIfInBounds 53 (if l5=true then .int .i64 ((t:Nat):Int) else A.tmps.getD 53 undef)).setIfInBounds 54 (if l6=true then .int .i64 ((s:Nat):Int) else A.tmps.getD 54 undef)).setIfInBounds 55 (if l7=true then .pointer (some ⟨g,s*4,none⟩) else A.tmps.getD 55 undef)).setIfInBounds 56 (if l8=true then .agg #[.int .i64 QB.1.states,QB.2.1,QB.2.2.1,QB.2.2.2] else A.tmps.getD 56 undef)).setIfInBounds 57 (if l9=true then .tuple #[.agg #[.int .i64 D.states,.slice v1 D.moves.length v2,.slice v3 D.firsts.length v4,.slice v5 D.ends.length v6],.bool fb] else A.tmps.getD 57 undef)).setIfInBounds 47 (if l10=true then .tuple #[.agg #[.int .i64 D.states,.slice v1 D.moves.length v2,.slice v3 D.firsts.length v4,.slice v5 D.ends.length v6],.bool fb] else A.tmps.getD 47 undef)).setIfInBounds 58 (if l11=true then .agg #[.int .i64 D.states,.slice v1 D.moves.length v2,.slice v3 D.firsts.length v4,.slice v5 D.ends.length v6] else A.tmps.getD 58 undef)).setIfInBounds 59 (if l12=true then .bool fb else A.tmps.getD 59 undef)).setIfInBounds 9 (if l14=true then .bool fb else A.tmps.getD 9 undef)),A.defers⟩ ∧
        St w w' [Ent.box w.heap.size #[.int .i64 0,.slice none 0 0,.slice none 0 0,.slice none 0 0] 28,Ent.row 28 4 (.slice (some ⟨g,0,none⟩) m c) m (stkN qs),X,Ent.box wr.heap.size #[.int .i64 4,.int .i64 p2] 72,(if l13=true then Ent.box w1.heap.size #[.int .i64 D.states,.slice v1 D.moves.length v2,.slice v3 D.firsts.length v4,.slice v5 D.ends.length v6] 28 else Ent.box w1.heap.size #[.int .i64 0,.slice none 0 0,.slice none 0 0,.slice none 0 0] 28),(if l9=true then NfaT D (.slice v1 D.moves.length v2) (.slice v3 D.firsts.length v4) (.slice v5 D.ends.length v6) else Ent.nil)]) ?_ ?_ ?_
      ·rintro listed a w' ⟨l0,l1,l2,l3,l4,l5,l6,l7,l8,l9,l10,l11,l12,l13,l14,v1,v2,v3,v4,v5,v6,rfl,hd10,hd11,hd13,rfl,hS⟩ i hi;obtain⟨hun,o,ho,hall⟩:=mem_ready.1 hi;have hlt:=(Array.getElem?_eq_some_iff.1 ho).1;refine wpOp_step ho (fun K hK => ?_);clear hi;have HS:=qh hS;clear hS;simp only[List.setIfInBounds_toArray,List.set_cons_zero,List.set_cons_succ,Array.getD_eq_getD_getElem?,List.getElem?_toArray,List.getElem?_cons_zero,List.getElem?_cons_succ,Option.getD_some];obtain h|h|h|h|h|h|h|h|h|h|h|h|h|h|h:=ZnQ (by simpa using hlt)
       all_goals subst h
       all_goals simp only[List.getElem?_toArray,List.getElem?_cons_zero,List.getElem?_cons_succ,Option.some.injEq] at ho
       all_goals subst ho
       all_goals simp[Region.binds] at hun hall
       ·subst hun;go_simp;exact hK _ _ ⟨true,l1,l2,l3,l4,l5,l6,l7,l8,l9,l10,l11,l12,l13,l14,v1,v2,v3,v4,v5,v6,rfl,hd10,hd11,hd13,(by simp),HS.out⟩
       ·subst hun;go_simp;exact hK _ _ ⟨l0,true,l2,l3,l4,l5,l6,l7,l8,l9,l10,l11,l12,l13,l14,v1,v2,v3,v4,v5,v6,rfl,hd10,hd11,hd13,(by simp),HS.out⟩
       ·obtain⟨rfl,rfl⟩:=hall;subst hun;go_simp;exact hK _ _ ⟨true,true,true,l3,l4,l5,l6,l7,l8,l9,l10,l11,l12,l13,l14,v1,v2,v3,v4,v5,v6,rfl,hd10,hd11,hd13,(by simp),HS.out⟩
       ·obtain rfl:=hall;subst hun;have e0:=HS.out.rcell (v:=.int .i64 QA.1.states) 1 (t*4) rfl (by omega) HA0.out;have e1:=HS.out.rcell (v:=QA.2.1) 1 (t*4+1) rfl (by omega) HA1.out;have e2:=HS.out.rcell (v:=QA.2.2.1) 1 (t*4+2) rfl (by omega) HA2.out;have e3:=HS.out.rcell (v:=QA.2.2.2) 1 (t*4+3) rfl (by omega) HA3.out;go_simp;exact hK _ _ ⟨l0,l1,true,true,l4,l5,l6,l7,l8,l9,l10,l11,l12,l13,l14,v1,v2,v3,v4,v5,v6,rfl,hd10,hd11,hd13,(by simp),HS.out⟩
       ·subst hun;go_simp;exact hK _ _ ⟨l0,l1,l2,l3,true,l5,l6,l7,l8,l9,l10,l11,l12,l13,l14,v1,v2,v3,v4,v5,v6,rfl,hd10,hd11,hd13,(by simp),HS.out⟩
       ·subst hun;go_simp;exact hK _ _ ⟨l0,l1,l2,l3,l4,true,l6,l7,l8,l9,l10,l11,l12,l13,l14,v1,v2,v3,v4,v5,v6,rfl,hd10,hd11,hd13,(by simp),HS.out⟩
       ·obtain rfl:=hall;subst hun;go_simp;exact hK _ _ ⟨l0,l1,l2,l3,l4,true,true,l7,l8,l9,l10,l11,l12,l13,l14,v1,v2,v3,v4,v5,v6,rfl,hd10,hd11,hd13,(by simp),HS.out⟩
       ·obtain⟨rfl,rfl⟩:=hall;subst hun;go_simp;exact hK _ _ ⟨l0,l1,l2,l3,true,l5,true,true,l8,l9,l10,l11,l12,l13,l14,v1,v2,v3,v4,v5,v6,rfl,hd10,hd11,hd13,(by simp),HS.out⟩
       ·obtain rfl:=hall;subst hun;have e0:=HS.out.rcell (v:=.int .i64 QB.1.states) 1 (s*4) rfl (by omega) HB0.out;have e1:=HS.out.rcell (v:=QB.2.1) 1 (s*4+1) rfl (by omega) HB1.out;have e2:=HS.out.rcell (v:=QB.2.2.1) 1 (s*4+2) rfl (by omega) HB2.out;have e3:=HS.out.rcell (v:=QB.2.2.2) 1 (s*4+3) rfl (by omega) HB3.out;go_simp;exact hK _ _ ⟨l0,l1,l2,l3,l4,l5,l6,true,true,l9,l10,l11,l12,l13,l14,v1,v2,v3,v4,v5,v6,rfl,hd10,hd11,hd13,(by simp),HS.out⟩
       ·obtain⟨rfl,rfl⟩:=hall;subst hun;obtain rfl:l10=false:=by cases l10 with|false=>rfl|true=>simpa using hd10 rfl
        obtain rfl:l11=false:=by cases l11 with|false=>rfl|true=>simpa using hd11 rfl
        obtain rfl:l13=false:=by cases l13 with|false=>rfl|true=>simpa using hd13 rfl
        go_simp
        go_at_call 59
        refine(Hcb.out _ _ HS.out rfl).mono ?_;rintro e u1 ⟨dz1,dz2,dz3,dz4,dz5,dz6,rfl,hb⟩;have hS2:=(HS.out.cat hb).pick [0,1,2,3,4,6] (by decide);have HhS2:=qh hS2;clear hS2;go_simp;exact hK _ _ ⟨l0,l1,l2,true,l4,l5,l6,l7,true,true,false,false,l12,false,l14,dz1,dz2,dz3,dz4,dz5,dz6,rfl,by simp,by simp,by simp,(by simp),HhS2.out⟩
       ·obtain rfl:=hall;subst hun;go_simp;exact hK _ _ ⟨l0,l1,l2,l3,l4,l5,l6,l7,l8,true,true,l11,l12,l13,l14,v1,v2,v3,v4,v5,v6,rfl,by simp,hd11,hd13,(by simp),HS.out⟩
       ·obtain rfl:=hall;subst hun;obtain rfl:=hd10 rfl;go_simp;exact hK _ _ ⟨l0,l1,l2,l3,l4,l5,l6,l7,l8,true,true,true,l12,l13,l14,v1,v2,v3,v4,v5,v6,rfl,by simp,by simp,hd13,(by simp),HS.out⟩
       ·obtain rfl:=hall;subst hun;obtain rfl:=hd10 rfl;go_simp;exact hK _ _ ⟨l0,l1,l2,l3,l4,l5,l6,l7,l8,true,true,l11,true,l13,l14,v1,v2,v3,v4,v5,v6,rfl,by simp,hd11,hd13,(by simp),HS.out⟩
       ·obtain⟨rfl,rfl,rfl,rfl,rfl,rfl,rfl,rfl,rfl,rfl,rfl,-,rfl,-⟩:=hall;subst hun;have f0:=HS.out.fr 4 0 rfl;have k0:=HS.out.cell (v:=.int .i64 0) 4 0 rfl rfl;have f1:=HS.out.fr 4 1 rfl;have k1:=HS.out.cell (v:=.slice none 0 0) 4 1 rfl rfl;have f2:=HS.out.fr 4 2 rfl;have k2:=HS.out.cell (v:=.slice none 0 0) 4 2 rfl rfl;have f3:=HS.out.fr 4 3 rfl;have k3:=HS.out.cell (v:=.slice none 0 0) 4 3 rfl rfl;go_simp;exact hK _ _ ⟨true,true,true,true,true,true,true,true,true,true,true,true,l12,true,l14,v1,v2,v3,v4,v5,v6,rfl,by simp,by simp,by simp,(by simp),((((HS.out.set 4 rfl 0 (.int .i64 D.states)).set 4 rfl 1 (.slice v1 D.moves.length v2)).set 4 rfl 2 (.slice v3 D.firsts.length v4)).set 4 rfl 3 (.slice v5 D.ends.length v6))⟩
       obtain⟨rfl,rfl,rfl,rfl,rfl,rfl,rfl,rfl,rfl,rfl,rfl,rfl,rfl,rfl,-⟩:=hall;subst hun;go_simp;exact hK _ _ ⟨true,true,true,true,true,true,true,true,true,true,true,true,true,true,true,v1,v2,v3,v4,v5,v6,rfl,by simp,by simp,by simp,(by simp),HS.out⟩
      ·rintro listed a w' ⟨l0,l1,l2,l3,l4,l5,l6,l7,l8,l9,l10,l11,l12,l13,l14,v1,v2,v3,v4,v5,v6,rfl,hd10,hd11,hd13,rfl,hS⟩ hr;have hall:=Zag (by kernel_rfl) rfl hr;obtain rfl:l0=true:=by simpa using hall 0 (by simp)
       obtain rfl:l1=true:=by simpa using hall 1 (by simp)
       obtain rfl:l2=true:=by simpa using hall 2 (by simp)
       obtain rfl:l3=true:=by simpa using hall 3 (by simp)
       obtain rfl:l4=true:=by simpa using hall 4 (by simp)
       obtain rfl:l5=true:=by simpa using hall 5 (by simp)
       obtain rfl:l6=true:=by simpa using hall 6 (by simp)
       obtain rfl:l7=true:=by simpa using hall 7 (by simp)
       obtain rfl:l8=true:=by simpa using hall 8 (by simp)
       obtain rfl:l9=true:=by simpa using hall 9 (by simp)
       obtain rfl:l10=true:=by simpa using hall 10 (by simp)
       obtain rfl:l11=true:=by simpa using hall 11 (by simp)
       obtain rfl:l12=true:=by simpa using hall 12 (by simp)
       obtain rfl:l13=true:=by simpa using hall 13 (by simp)
       obtain rfl:l14=true:=by simpa using hall 14 (by simp)
       clear hall hr hd10 hd11 hd13;simp only[↓reduceIte] at hS ⊢;simp only[List.setIfInBounds_toArray,List.set_cons_zero,List.set_cons_succ];have hS8:=hS.pick [0,1,2,3,4,5] (by decide);have HS8:=qh hS8;clear hS hS8;go_wp2;go_meet;exact⟨q,_,_,_,_,_,_,_,_,_,Ent.all [X,NfaT D (.slice v1 D.moves.length v2) (.slice v3 D.firsts.length v4) (.slice v5 D.ends.length v6)],rfl,by rw[← Hhfb.out],Hhst.out,D,hD.out,ZlJ HhDs.out.1 HhDs.out.2,HR.out.left,St.pack (A:=[Ent.box w.heap.size #[.int .i64 0,.slice none 0 0,.slice none 0 0,.slice none 0 0] 28,Ent.row 28 4 (.slice (some ⟨g,0,none⟩) m c) m (stkN qs),Ent.box w1.heap.size #[.int .i64 D.states,.slice v1 D.moves.length v2,.slice v3 D.firsts.length v4,.slice v5 D.ends.length v6] 28]) (R:=[X,NfaT D (.slice v1 D.moves.length v2) (.slice v3 D.firsts.length v4) (.slice v5 D.ends.length v6)]) (HS8.out.pick [0,1,4,2,5] (by decide))⟩
      refine⟨false,false,false,false,false,false,false,false,false,false,false,false,false,false,false,none,0,none,0,none,0,rfl,by simp,by simp,by simp,(by simp),?_⟩;exact HS2.out.drew.pick [0,1,2,3,4,5] (by decide)
     have hsm0:=Zi3 QA.1 QB.1;have hq4:optN (ZcN QA.1 QB.1)=q:=hq;have hX:=Zfh (D:=D) (fb:=fb) (Znp QA.1 QB.1) (by rw[hq4];exact hD) (by rw[hq4];exact hfb);have hDs:0≤D.states∧D.states≤40:=by rw[hX] at hsm0;exact⟨hsm0.1,hsm0.2.1⟩
     have hcb:=fun (u:World) (L:List Ent) (hS:St w u L) (hx:L[2]? = some X)=>(Zfw QA.1 QB.1 D fb (vN QA) (vN QB) u hX (hAt.r hS 2 hx) (hBt.r hS 2 hx)).mono fun _ _ h=>ZmT h
     have Hcb:=qh hcb;have HhDs:=qh hDs;clear hDs;replace hD:=qh hD;have Hhfb:=qh hfb;clear hfb;clear hcb hAt hBt hq hq4 hX hsm0;go_wp2;refine wp_region_any (by kernel_rfl) ?_
     refine Zaf (fun A listed a w'=>∃ (l0 l1 l2 l3 l4 l5 l6 l7 l8 l9 l10 l11 l12 l13 l14:Bool) (v1:Option Addr) (v2:Nat) (v3:Option Addr) (v4:Nat) (v5:Option Addr) (v6:Nat),listed=#[l0,l1,l2,l3,l4,l5,l6,l7,l8,l9,l10,l11,l12,l13,l14]∧(l10=true→l9=true)∧(l11=true→l9=true)∧(l13=true→l9=true) ∧
       a=⟨((((((((((((((A.tmps.setIfInBounds 33 (if l0=true then .slice (some ⟨g,0,none⟩) m c else A.tmps.getD 33 undef)).setIfInBounds 34 (if l1=true then .int .i64 ((t:Nat):Int) else A.tmps.getD 34 undef)).setIfInBounds 35 (if l2=true then .pointer (some ⟨g,t*4,none⟩) else A.tmps.getD 35 undef)).setIfInBounds 36 (if l3=true then .agg #[.int .i64 QA.1.states,QA.2.1,QA.2.2.1,QA.2.2.2] else A.tmps.getD 36 undef)).setIfInBounds 37 (if l4=true then .slice (some ⟨g,0,none⟩) m c else A.tmps.getD 37 undef)).setIfInBounds 38 (if l5=true then .int .i64 ((t:Nat):Int) else A.tmps.getD 38 undef)).setIfInBounds 39 (if l6=true then .int .i64 ((s:Nat):Int) else A.tmps.getD 39 undef)).setIfInBounds 40 (if l7=true then .pointer (some ⟨g,s*4,none⟩) else A.tmps.getD 40 undef)).setIfInBounds 41 (if l8=true then .agg #[.int .i64 QB.1.states,QB.2.1,QB.2.2.1,QB.2.2.2] else A.tmps.getD 41 undef)).setIfInBounds 42 (if l9=true then .tuple #[.agg #[.int .i64 D.states,.slice v1 D.moves.length v2,.slice v3 D.firsts.length v4,.slice v5 D.ends.length v6],.bool fb] else A.tmps.getD 42 undef)).setIfInBounds 32 (if l10=true then .tuple #[.agg #[.int .i64 D.states,.slice v1 D.moves.length v2,.slice v3 D.firsts.length v4,.slice v5 D.ends.length v6],.bool fb] else A.tmps.getD 32 undef)).setIfInBounds 43 (if l11=true then .agg #[.int .i64 D.states,.slice v1 D.moves.length v2,.slice v3 D.firsts.length v4,.slice v5 D.ends.length v6] else A.tmps.getD 43 undef)).setIfInBounds 44 (if l12=true then .bool fb else A.tmps.getD 44 undef)).setIfInBounds 9 (if l14=true then .bool fb else A.tmps.getD 9 undef)),A.defers⟩ ∧
       St w w' [Ent.box w.heap.size #[.int .i64 0,.slice none 0 0,.slice none 0 0,.slice none 0 0] 28,Ent.row 28 4 (.slice (some ⟨g,0,none⟩) m c) m (stkN qs),X,Ent.box wr.heap.size #[.int .i64 5,.int .i64 p2] 72,(if l13=true then Ent.box w1.heap.size #[.int .i64 D.states,.slice v1 D.moves.length v2,.slice v3 D.firsts.length v4,.slice v5 D.ends.length v6] 28 else Ent.box w1.heap.size #[.int .i64 0,.slice none 0 0,.slice none 0 0,.slice none 0 0] 28),(if l9=true then NfaT D (.slice v1 D.moves.length v2) (.slice v3 D.firsts.length v4) (.slice v5 D.ends.length v6) else Ent.nil)]) ?_ ?_ ?_
     ·rintro listed a w' ⟨l0,l1,l2,l3,l4,l5,l6,l7,l8,l9,l10,l11,l12,l13,l14,v1,v2,v3,v4,v5,v6,rfl,hd10,hd11,hd13,rfl,hS⟩ i hi;obtain⟨hun,o,ho,hall⟩:=mem_ready.1 hi;have hlt:=(Array.getElem?_eq_some_iff.1 ho).1;refine wpOp_step ho (fun K hK => ?_);clear hi;have HS:=qh hS;clear hS;simp only[List.setIfInBounds_toArray,List.set_cons_zero,List.set_cons_succ,Array.getD_eq_getD_getElem?,List.getElem?_toArray,List.getElem?_cons_zero,List.getElem?_cons_succ,Option.getD_some];obtain h|h|h|h|h|h|h|h|h|h|h|h|h|h|h:=ZnQ (by simpa using hlt)
      all_goals subst h
      all_goals simp only[List.getElem?_toArray,List.getElem?_cons_zero,List.getElem?_cons_succ,Option.some.injEq] at ho
      all_goals subst ho
      all_goals simp[Region.binds] at hun hall
      ·subst hun;go_simp;exact hK _ _ ⟨true,l1,l2,l3,l4,l5,l6,l7,l8,l9,l10,l11,l12,l13,l14,v1,v2,v3,v4,v5,v6,rfl,hd10,hd11,hd13,(by simp),HS.out⟩
      ·subst hun;go_simp;exact hK _ _ ⟨l0,true,l2,l3,l4,l5,l6,l7,l8,l9,l10,l11,l12,l13,l14,v1,v2,v3,v4,v5,v6,rfl,hd10,hd11,hd13,(by simp),HS.out⟩
      ·obtain⟨rfl,rfl⟩:=hall;subst hun;go_simp;exact hK _ _ ⟨true,true,true,l3,l4,l5,l6,l7,l8,l9,l10,l11,l12,l13,l14,v1,v2,v3,v4,v5,v6,rfl,hd10,hd11,hd13,(by simp),HS.out⟩
      ·obtain rfl:=hall;subst hun;have e0:=HS.out.rcell (v:=.int .i64 QA.1.states) 1 (t*4) rfl (by omega) HA0.out;have e1:=HS.out.rcell (v:=QA.2.1) 1 (t*4+1) rfl (by omega) HA1.out;have e2:=HS.out.rcell (v:=QA.2.2.1) 1 (t*4+2) rfl (by omega) HA2.out;have e3:=HS.out.rcell (v:=QA.2.2.2) 1 (t*4+3) rfl (by omega) HA3.out;go_simp;exact hK _ _ ⟨l0,l1,true,true,l4,l5,l6,l7,l8,l9,l10,l11,l12,l13,l14,v1,v2,v3,v4,v5,v6,rfl,hd10,hd11,hd13,(by simp),HS.out⟩
      ·subst hun;go_simp;exact hK _ _ ⟨l0,l1,l2,l3,true,l5,l6,l7,l8,l9,l10,l11,l12,l13,l14,v1,v2,v3,v4,v5,v6,rfl,hd10,hd11,hd13,(by simp),HS.out⟩
      ·subst hun;go_simp;exact hK _ _ ⟨l0,l1,l2,l3,l4,true,l6,l7,l8,l9,l10,l11,l12,l13,l14,v1,v2,v3,v4,v5,v6,rfl,hd10,hd11,hd13,(by simp),HS.out⟩
      ·obtain rfl:=hall;subst hun;go_simp;exact hK _ _ ⟨l0,l1,l2,l3,l4,true,true,l7,l8,l9,l10,l11,l12,l13,l14,v1,v2,v3,v4,v5,v6,rfl,hd10,hd11,hd13,(by simp),HS.out⟩
      ·obtain⟨rfl,rfl⟩:=hall;subst hun;go_simp;exact hK _ _ ⟨l0,l1,l2,l3,true,l5,true,true,l8,l9,l10,l11,l12,l13,l14,v1,v2,v3,v4,v5,v6,rfl,hd10,hd11,hd13,(by simp),HS.out⟩
      ·obtain rfl:=hall;subst hun;have e0:=HS.out.rcell (v:=.int .i64 QB.1.states) 1 (s*4) rfl (by omega) HB0.out;have e1:=HS.out.rcell (v:=QB.2.1) 1 (s*4+1) rfl (by omega) HB1.out;have e2:=HS.out.rcell (v:=QB.2.2.1) 1 (s*4+2) rfl (by omega) HB2.out;have e3:=HS.out.rcell (v:=QB.2.2.2) 1 (s*4+3) rfl (by omega) HB3.out;go_simp;exact hK _ _ ⟨l0,l1,l2,l3,l4,l5,l6,true,true,l9,l10,l11,l12,l13,l14,v1,v2,v3,v4,v5,v6,rfl,hd10,hd11,hd13,(by simp),HS.out⟩
      ·obtain⟨rfl,rfl⟩:=hall;subst hun;obtain rfl:l10=false:=by cases l10 with|false=>rfl|true=>simpa using hd10 rfl
       obtain rfl:l11=false:=by cases l11 with|false=>rfl|true=>simpa using hd11 rfl
       obtain rfl:l13=false:=by cases l13 with|false=>rfl|true=>simpa using hd13 rfl
       go_simp
       go_at_call 58
       refine(Hcb.out _ _ HS.out rfl).mono ?_;rintro e u1 ⟨dz1,dz2,dz3,dz4,dz5,dz6,rfl,hb⟩;have hS2:=(HS.out.cat hb).pick [0,1,2,3,4,6] (by decide);have HhS2:=qh hS2;clear hS2;go_simp;exact hK _ _ ⟨l0,l1,l2,true,l4,l5,l6,l7,true,true,false,false,l12,false,l14,dz1,dz2,dz3,dz4,dz5,dz6,rfl,by simp,by simp,by simp,(by simp),HhS2.out⟩
      ·obtain rfl:=hall;subst hun;go_simp;exact hK _ _ ⟨l0,l1,l2,l3,l4,l5,l6,l7,l8,true,true,l11,l12,l13,l14,v1,v2,v3,v4,v5,v6,rfl,by simp,hd11,hd13,(by simp),HS.out⟩
      ·obtain rfl:=hall;subst hun;obtain rfl:=hd10 rfl;go_simp;exact hK _ _ ⟨l0,l1,l2,l3,l4,l5,l6,l7,l8,true,true,true,l12,l13,l14,v1,v2,v3,v4,v5,v6,rfl,by simp,by simp,hd13,(by simp),HS.out⟩
      ·obtain rfl:=hall;subst hun;obtain rfl:=hd10 rfl;go_simp;exact hK _ _ ⟨l0,l1,l2,l3,l4,l5,l6,l7,l8,true,true,l11,true,l13,l14,v1,v2,v3,v4,v5,v6,rfl,by simp,hd11,hd13,(by simp),HS.out⟩
      ·obtain⟨rfl,rfl,rfl,rfl,rfl,rfl,rfl,rfl,rfl,rfl,rfl,-,rfl,-⟩:=hall;subst hun;have f0:=HS.out.fr 4 0 rfl;have k0:=HS.out.cell (v:=.int .i64 0) 4 0 rfl rfl;have f1:=HS.out.fr 4 1 rfl;have k1:=HS.out.cell (v:=.slice none 0 0) 4 1 rfl rfl;have f2:=HS.out.fr 4 2 rfl;have k2:=HS.out.cell (v:=.slice none 0 0) 4 2 rfl rfl;have f3:=HS.out.fr 4 3 rfl;have k3:=HS.out.cell (v:=.slice none 0 0) 4 3 rfl rfl;go_simp;exact hK _ _ ⟨true,true,true,true,true,true,true,true,true,true,true,true,l12,true,l14,v1,v2,v3,v4,v5,v6,rfl,by simp,by simp,by simp,(by simp),((((HS.out.set 4 rfl 0 (.int .i64 D.states)).set 4 rfl 1 (.slice v1 D.moves.length v2)).set 4 rfl 2 (.slice v3 D.firsts.length v4)).set 4 rfl 3 (.slice v5 D.ends.length v6))⟩
      obtain⟨rfl,rfl,rfl,rfl,rfl,rfl,rfl,rfl,rfl,rfl,rfl,rfl,rfl,rfl,-⟩:=hall;subst hun;go_simp;exact hK _ _ ⟨true,true,true,true,true,true,true,true,true,true,true,true,true,true,true,v1,v2,v3,v4,v5,v6,rfl,by simp,by simp,by simp,(by simp),HS.out⟩
     ·rintro listed a w' ⟨l0,l1,l2,l3,l4,l5,l6,l7,l8,l9,l10,l11,l12,l13,l14,v1,v2,v3,v4,v5,v6,rfl,hd10,hd11,hd13,rfl,hS⟩ hr;have hall:=Zag (by kernel_rfl) rfl hr;obtain rfl:l0=true:=by simpa using hall 0 (by simp)
      obtain rfl:l1=true:=by simpa using hall 1 (by simp)
      obtain rfl:l2=true:=by simpa using hall 2 (by simp)
      obtain rfl:l3=true:=by simpa using hall 3 (by simp)
      obtain rfl:l4=true:=by simpa using hall 4 (by simp)
      obtain rfl:l5=true:=by simpa using hall 5 (by simp)
      obtain rfl:l6=true:=by simpa using hall 6 (by simp)
      obtain rfl:l7=true:=by simpa using hall 7 (by simp)
      obtain rfl:l8=true:=by simpa using hall 8 (by simp)
      obtain rfl:l9=true:=by simpa using hall 9 (by simp)
      obtain rfl:l10=true:=by simpa using hall 10 (by simp)
      obtain rfl:l11=true:=by simpa using hall 11 (by simp)
      obtain rfl:l12=true:=by simpa using hall 12 (by simp)
      obtain rfl:l13=true:=by simpa using hall 13 (by simp)
      obtain rfl:l14=true:=by simpa using hall 14 (by simp)
      clear hall hr hd10 hd11 hd13;simp only[↓reduceIte] at hS ⊢;simp only[List.setIfInBounds_toArray,List.set_cons_zero,List.set_cons_succ];have hS8:=hS.pick [0,1,2,3,4,5] (by decide);have HS8:=qh hS8;clear hS hS8;go_wp2;go_meet;exact⟨q,_,_,_,_,_,_,_,_,_,Ent.all [X,NfaT D (.slice v1 D.moves.length v2) (.slice v3 D.firsts.length v4) (.slice v5 D.ends.length v6)],rfl,by rw[← Hhfb.out],Hhst.out,D,hD.out,ZlJ HhDs.out.1 HhDs.out.2,HR.out.left,St.pack (A:=[Ent.box w.heap.size #[.int .i64 0,.slice none 0 0,.slice none 0 0,.slice none 0 0] 28,Ent.row 28 4 (.slice (some ⟨g,0,none⟩) m c) m (stkN qs),Ent.box w1.heap.size #[.int .i64 D.states,.slice v1 D.moves.length v2,.slice v3 D.firsts.length v4,.slice v5 D.ends.length v6] 28]) (R:=[X,NfaT D (.slice v1 D.moves.length v2) (.slice v3 D.firsts.length v4) (.slice v5 D.ends.length v6)]) (HS8.out.pick [0,1,4,2,5] (by decide))⟩
     refine⟨false,false,false,false,false,false,false,false,false,false,false,false,false,false,false,none,0,none,0,none,0,rfl,by simp,by simp,by simp,(by simp),?_⟩;exact HS2.out.drew.pick [0,1,2,3,4,5] (by decide)
    case rest =>
     obtain⟨q,b1,b2,b3,n1,d1,n2,d2,n3,d3,X',rfl,rfl,hst,D,hD,hH,hR',hS'⟩:=hcut;have hrs:=Hhrs.out;rw[hst] at hrs;cases q with
     | none =>
      as_aux_lemma =>
      have hon:o=none:=by
       have:=Hhrunw.out;rw[hrs] at this;cases o with
       | none=>rfl
       | some d=>cases this
      subst hon;have f0:=hS'.fr 0 0 rfl;have f1:=hS'.fr 0 1 rfl;have f2:=hS'.fr 0 2 rfl;have f3:=hS'.fr 0 3 rfl;have k0:=hS'.cell (v:=.int .i64 0) 0 0 rfl rfl;have k1:=hS'.cell (v:=.slice none 0 0) 0 1 rfl rfl;have k2:=hS'.cell (v:=.slice none 0 0) 0 2 rfl rfl;have k3:=hS'.cell (v:=.slice none 0 0) 0 3 rfl rfl;have HS5:=qh hS';clear hS' hR' hH hst hrs HS2;go_wp2;have hq:=((((HS5.out.set 0 rfl 0 (.int .i64 0)).set 0 rfl 1 (.slice none 0 0)).set 0 rfl 2 (.slice none 0 0)).set 0 rfl 3 (.slice none 0 0));have q0:=hq.cell (v:=.int .i64 0) 0 0 rfl rfl;have q1:=hq.cell (v:=.slice none 0 0) 0 1 rfl rfl;have q2:=hq.cell (v:=.slice none 0 0) 0 2 rfl rfl;have q3:=hq.cell (v:=.slice none 0 0) 0 3 rfl rfl;refine bodyPost_ret (v:=.tuple #[.agg #[.int .i64 0,.slice none 0 0,.slice none 0 0,.slice none 0 0],.bool false]) (by simp[results,Try.results17,go_sem,q0,q1,q2,q3]) rfl ?_;exact Zir hq.bel
     | some D0 =>
      have hD2:D=D0:=hD.symm;subst hD2;have htm:t≤m:=by omega
      have hR2:=hR'.push t (q:=(D,.slice b1 n1 d1,.slice b2 n2 d2,.slice b3 n3 d3)) hH;have hns:nsN (qs.take t++[(D,.slice b1 n1 d1,.slice b2 n2 d2,.slice b3 n3 d3)])=(nsN qs).take t++[D]:=by simp[nsN,List.map_take]
      have hrun:runB (es.drop (k+1)) (nsN (qs.take t++[(D,.slice b1 n1 d1,.slice b2 n2 d2,.slice b3 n3 d3)])).reverse=runB es []:=by rw[hns,hrs];rfl
      have hl1:(qs.take t++[((D,.slice b1 n1 d1,.slice b2 n2 d2,.slice b3 n3 d3):QN)]).length=t+1:=by rw[List.length_append,List.length_take,hm.out,List.length_singleton];omega
      have hl2:((t+1:Nat):Int)=dep es (k+1):=by have:=hds.out;omega
      have hpt:(stkN qs).take (t*4)=stkN (qs.take t):=Zg2 qs t;have hSc:=hS'.cut 1 rfl t htm;rw[hpt] at hSc;obtain⟨a',c',he,hcc,hcm⟩:=hS'.rowany 1 rfl;simp only[Value.slice.injEq,true_and] at he;obtain⟨rfl,rfl⟩:=he;obtain⟨sa,rfl⟩:∃ z,z=a:=⟨_,rfl⟩;have ht0:(0:Int)≤(t:Int):=by omega
      have htc:(t:Int)≤(c:Int):=by omega
      have HS5:=qh hSc;have HR2:=qh hR2;have Hhrun:=qh hrun;clear hrun;have Hhl1:=qh hl1;clear hl1;have Hhl2:=qh hl2;clear hl2;have Hhpt:=qh hpt;clear hpt;have Hhst:=qh hst;clear hst;clear hS' hR' hrs HS2 hSc hR2 hH hns;go_wp2;refine wp_region_any (by kernel_rfl) ?_
      refine Zaf (fun A listed a w'=>∃ (l0 l1 l2 l3 l4 l5 l6:Bool) (bn0:Nat) (g7:Nat) (c7:Nat),listed=#[l0,l1,l2,l3,l4,l5,l6]∧(l6=true→l0=true∧l5=true) ∧
        a=⟨(((((((A.tmps.setIfInBounds 73 (if l0=true then .slice sa m c else A.tmps.getD 73 undef)).setIfInBounds 74 (if l1=true then .int .i64 ((t:Nat):Int) else A.tmps.getD 74 undef)).setIfInBounds 75 (if l2=true then .slice sa t c else A.tmps.getD 75 undef)).setIfInBounds 76 (if l3=true then .agg #[.int .i64 D.states,.slice b1 n1 d1,.slice b2 n2 d2,.slice b3 n3 d3] else A.tmps.getD 76 undef)).setIfInBounds 77 (if l4=true then .slice (some ⟨bn0,0,none⟩) 1 1 else A.tmps.getD 77 undef)).setIfInBounds 78 (if l5=true then .slice (some ⟨g7,0,none⟩) (t+1) c7 else A.tmps.getD 78 undef)).setIfInBounds 4 (if l6=true then .slice (some ⟨g7,0,none⟩) (t+1) c7 else A.tmps.getD 4 undef)),A.defers⟩ ∧
        St w w' [Ent.box w.heap.size #[.int .i64 0,.slice none 0 0,.slice none 0 0,.slice none 0 0] 28,(if l5=true then Ent.row 28 4 (.slice (some ⟨g7,0,none⟩) (t+1) c7) (t+1) (stkN (qs.take t)++[.int .i64 D.states,.slice b1 n1 d1,.slice b2 n2 d2,.slice b3 n3 d3]) else Ent.row 28 4 (.slice sa t c) t (stkN (qs.take t))),Ent.box w1.heap.size #[.int .i64 D.states,.slice b1 n1 d1,.slice b2 n2 d2,.slice b3 n3 d3] 28,X',(if l4=true then Ent.box bn0 #[.int .i64 D.states,.slice b1 n1 d1,.slice b2 n2 d2,.slice b3 n3 d3] 28 else Ent.nil)]) ?_ ?_ ?_
      ·rintro listed a w' ⟨l0,l1,l2,l3,l4,l5,l6,bn0,g7,c7,rfl,hd6,rfl,hS⟩ i hi;obtain⟨hun,o,ho,hall⟩:=mem_ready.1 hi;have hlt:=(Array.getElem?_eq_some_iff.1 ho).1;refine wpOp_step ho (fun K hK => ?_);clear hi;have HS:=qh hS;clear hS;simp only[List.setIfInBounds_toArray,List.set_cons_zero,List.set_cons_succ,Array.getD_eq_getD_getElem?,List.getElem?_toArray,List.getElem?_cons_zero,List.getElem?_cons_succ,Option.getD_some];obtain h|h|h|h|h|h|h:=lt_7 (by simpa using hlt)
       all_goals subst h
       all_goals simp only[List.getElem?_toArray,List.getElem?_cons_zero,List.getElem?_cons_succ,Option.some.injEq] at ho
       all_goals subst ho
       all_goals simp[Region.binds] at hun hall
       ·subst hun;obtain rfl:l6=false:=offL hd6 rfl;go_simp;exact hK _ _ ⟨true,l1,l2,l3,l4,l5,false,bn0,g7,c7,rfl,by simp,(by simp),HS.out⟩
       ·subst hun;go_simp;exact hK _ _ ⟨l0,true,l2,l3,l4,l5,l6,bn0,g7,c7,rfl,hd6,(by simp),HS.out⟩
       ·obtain⟨rfl,rfl⟩:=hall;subst hun;go_simp;exact hK _ _ ⟨true,true,true,l3,l4,l5,l6,bn0,g7,c7,rfl,hd6,(by simp),HS.out⟩
       ·subst hun;have e0:=HS.out.cell (v:=.int .i64 D.states) 2 0 rfl rfl;have e1:=HS.out.cell (v:=.slice b1 n1 d1) 2 1 rfl rfl;have e2:=HS.out.cell (v:=.slice b2 n2 d2) 2 2 rfl rfl;have e3:=HS.out.cell (v:=.slice b3 n3 d3) 2 3 rfl rfl;go_simp;exact hK _ _ ⟨l0,l1,l2,true,l4,l5,l6,bn0,g7,c7,rfl,hd6,(by simp),HS.out⟩
       ·obtain rfl:=hall;subst hun;have hS2:=(HS.out.alloc _ rfl #[.int .i64 D.states,.slice b1 n1 d1,.slice b2 n2 d2,.slice b3 n3 d3] 28).pick [0,1,2,3,5] (by decide);have HhS2:=qh hS2;clear hS2;go_simp;exact hK _ _ ⟨l0,l1,l2,true,true,l5,l6,_,g7,c7,rfl,hd6,(by simp),HhS2.out⟩
       ·obtain⟨rfl,rfl⟩:=hall;subst hun;obtain rfl:l6=false:=offR hd6 rfl;refine step_append_lies (a:=⟨_,_⟩) _ (by rfl) _ _ _ (by rfl) w.heap.size 28 i0 (.agg #[.int .i64 0,.slice none 0 0,.slice none 0 0,.slice none 0 0]) 4 80 Try.underlying89 Hhi.out hz0.out Hhz1.out Hhz2.out (by rfl) (by omega) (.slice sa t c) t (stkN (qs.take t)) (by rfl) (HS.out.row 1 rfl) ⟨bn0,0,none⟩ 1 1 [.int .i64 D.states,.slice b1 n1 d1,.slice b2 n2 d2,.slice b3 n3 d3] (by rfl) (by rfl) (World.news_of_block (HS.out.box 4 rfl)) ZmV (by omega) (by unfold maxLen;omega) (by omega) HS.out.size _ rfl ?_;intro g8 c8 w8 hown8 hgrow8 hat8 hlt8;have HS8:=qh (HS.out.app 1 rfl hown8 hgrow8 hat8);clear hown8 hgrow8 hat8;go_simp;exact hK _ _ ⟨l0,l1,true,l3,true,true,false,bn0,g8,c8,rfl,by simp,(by simp),HS8.out⟩
       obtain⟨rfl,rfl,rfl,rfl,rfl,rfl,-⟩:=hall;subst hun;go_simp;exact hK _ _ ⟨true,true,true,true,true,true,true,bn0,g7,c7,rfl,by simp,(by simp),HS.out⟩
      ·rintro listed a w' ⟨l0,l1,l2,l3,l4,l5,l6,bn0,g7,c7,rfl,hd6,rfl,hS⟩ hr;have hall:=Zag (by kernel_rfl) rfl hr;obtain rfl:l0=true:=by simpa using hall 0 (by simp)
       obtain rfl:l1=true:=by simpa using hall 1 (by simp)
       obtain rfl:l2=true:=by simpa using hall 2 (by simp)
       obtain rfl:l3=true:=by simpa using hall 3 (by simp)
       obtain rfl:l4=true:=by simpa using hall 4 (by simp)
       obtain rfl:l5=true:=by simpa using hall 5 (by simp)
       obtain rfl:l6=true:=by simpa using hall 6 (by simp)
       clear hall hr hd6;simp only[↓reduceIte] at hS ⊢;simp only[List.setIfInBounds_toArray,List.set_cons_zero,List.set_cons_succ];have HS9:=qh (hS.pick [0,1,3] (by decide));clear hS;go_wp2;go_roundw
       case rel=>exact⟨k+1,t+1,c7,some ⟨g7,0,none⟩,qs.take t++[(D,.slice b1 n1 d1,.slice b2 n2 d2,.slice b3 n3 d3)],X',by go_num,rfl,by omega,Hhl1.out,Hhl2.out,Hhrun.out,HR2.out,by rw[← ZjN];exact HS9.out⟩
       case measure=>simp[intOf]<;>omega
      refine⟨false,false,false,false,false,false,false,0,0,0,rfl,by simp,(by simp),?_⟩;exact HS5.out.drew.pick [0,1,2,3,4] (by decide)
   obtain rfl:k=n:=by omega
   have hkI:¬ (k:Int)<(k:Int):=by omega
   have hd1:=Hhd1.out;have hm1:m=1:=by rw[← hdm] at hd1;omega
   subst hm1;obtain⟨x,rfl⟩:=List.length_eq_one_iff.1 hm;have hdr:es.drop k=[]:=by rw[hn.out];exact List.drop_length
   rw[hdr] at hrun
   have hox:o=some x.1:=by
    have h1:=Hhrunw.out;rw[← hrun] at h1;cases o with
    | none=>cases h1
    | some d =>have h2:[x.1]=[d]:=Option.some.inj h1;rw[List.cons.inj h2 |>.1]
   subst hox;obtain⟨D,u1,u2,u3⟩:=x;obtain⟨g,c2,he⟩:=hS.rowform 1 rfl (by omega);simp only[Value.slice.injEq,true_and] at he;obtain⟨rfl,rfl⟩:=he;have hN:NfaR 0 wr (vN (D,u1,u2,u3)) D:=(hR _ (List.mem_singleton.2 rfl)).r hS 2 rfl;obtain⟨x1,x2,x3,he,m1,m2,m3,hs0,hs1⟩:=hN;simp only[vN,Value.agg.injEq,Array.mk.injEq,List.cons.injEq,and_true,true_and] at he;obtain⟨rfl,rfl,rfl⟩:=he;obtain⟨a1,c1,rfl,-⟩:=m1.form;obtain⟨a2,c2,rfl,-⟩:=m2.form;obtain⟨a3,c3,rfl,-⟩:=m3.form;have hNr:=Za1 m1 m2 m3 hs0 hs1;have r0:=hS.rcell (v:=.int .i64 D.states) 1 0 rfl (by omega) rfl;have r1:=hS.rcell (v:=.slice a1 D.moves.length c1) 1 1 rfl (by omega) rfl;have r2:=hS.rcell (v:=.slice a2 D.firsts.length c2) 1 2 rfl (by omega) rfl;have r3:=hS.rcell (v:=.slice a3 D.ends.length c3) 1 3 rfl (by omega) rfl;have f0:=hS.fr 0 0 rfl;have f1:=hS.fr 0 1 rfl;have f2:=hS.fr 0 2 rfl;have f3:=hS.fr 0 3 rfl;have k0:=hS.cell (v:=.int .i64 0) 0 0 rfl rfl;have k1:=hS.cell (v:=.slice none 0 0) 0 1 rfl rfl;have k2:=hS.cell (v:=.slice none 0 0) 0 2 rfl rfl;have k3:=hS.cell (v:=.slice none 0 0) 0 3 rfl rfl;have HR:=qh hR;have HS5:=qh hS;clear hS hR hrun hdr hd1 hm m1 m2 m3 hNr;go_wp2;have hq:=((((HS5.out.set 0 rfl 0 (.int .i64 D.states)).set 0 rfl 1 (.slice a1 D.moves.length c1)).set 0 rfl 2 (.slice a2 D.firsts.length c2)).set 0 rfl 3 (.slice a3 D.ends.length c3));have q0:=hq.cell (v:=.int .i64 D.states) 0 0 rfl rfl;have q1:=hq.cell (v:=.slice a1 D.moves.length c1) 0 1 rfl rfl
   have q2:=hq.cell (v:=.slice a2 D.firsts.length c2) 0 2 rfl rfl;have q3:=hq.cell (v:=.slice a3 D.ends.length c3) 0 3 rfl rfl;refine bodyPost_ret (v:=.tuple #[.agg #[.int .i64 D.states,.slice a1 D.moves.length c1,.slice a2 D.firsts.length c2,.slice a3 D.ends.length c3],.bool true]) (by simp[results,Try.results17,go_sem,q0,q1,q2,q3]) rfl ?_;exact⟨a1,c1,a2,c2,a3,c3,rfl,(HR.out _ (List.mem_singleton.2 rfl)).r hq 2 rfl,hq.bel⟩
 have hon:o=none:=by
  rcases ho with⟨h1,h2,-⟩|⟨-,h⟩
  ·rw[h1,h2] at hpl0;exact absurd rfl hpl0
  exact h
 subst hon;have hplf:(exOk es&&Zaw es)=false:=by simpa using hpl0
 have Hhplf:=qh hplf;clear hplf;clear hpl0 ho hrd
 go_enter Try.func17, Try.ntmps17
 go_wp2_with fail;refine(Zbi es _ _ (HP.out.below HS0.out.bel) false Hhplf.out).mono ?_;rintro e w0 ⟨rfl,hb0⟩;have HSa:=qh (HS0.out.call hb0);clear hb0 HS0;have f0:=HSa.out.fr 0 0 rfl;have f1:=HSa.out.fr 0 1 rfl;have f2:=HSa.out.fr 0 2 rfl;have f3:=HSa.out.fr 0 3 rfl;have k0:=HSa.out.cell (v:=.int .i64 0) 0 0 rfl rfl;have k1:=HSa.out.cell (v:=.slice none 0 0) 0 1 rfl rfl;have k2:=HSa.out.cell (v:=.slice none 0 0) 0 2 rfl rfl;have k3:=HSa.out.cell (v:=.slice none 0 0) 0 3 rfl rfl;go_wp2;have hq:=((((HSa.out.set 0 rfl 0 (.int .i64 0)).set 0 rfl 1 (.slice none 0 0)).set 0 rfl 2 (.slice none 0 0)).set 0 rfl 3 (.slice none 0 0));have q0:=hq.cell (v:=.int .i64 0) 0 0 rfl rfl;have q1:=hq.cell (v:=.slice none 0 0) 0 1 rfl rfl;have q2:=hq.cell (v:=.slice none 0 0) 0 2 rfl rfl;have q3:=hq.cell (v:=.slice none 0 0) 0 3 rfl rfl;refine bodyPost_ret (v:=.tuple #[.agg #[.int .i64 0,.slice none 0 0,.slice none 0 0,.slice none 0 0],.bool false]) (by simp[results,Try.results17,go_sem,q0,q1,q2,q3]) rfl ?_;exact Zir hq.bel
end Go.Proofs.Ytfanhfcamblghaa
