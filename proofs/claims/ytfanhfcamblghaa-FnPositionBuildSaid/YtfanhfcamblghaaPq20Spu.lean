/-
  Plain: how the reference makes the automaton of positions.
  Condition: the expression is valid.
-/
import Derived.Test.YtfanhfcamblghaaPq19End
set_option maxHeartbeats 4000000
set_option maxRecDepth 100000
namespace Go.Proofs.Ytfanhfcamblghaa
open Go.RowKit
theorem ZbG {P:List Nat} (hs:P.Pairwise (·<·)) {j:Nat} (hj:j<P.length):sidx P (P.getD j 0)=j+1:=by
 have hm:P.getD j 0∈P:=by rw[List.getD_eq_getElem?_getD,List.getElem?_eq_getElem hj];exact List.getElem_mem hj
 have h1:=List.idxOf_lt_length_of_mem hm;have h2:P[P.idxOf (P.getD j 0)]=P.getD j 0:=List.getElem_idxOf h1;have h3:P.getD j 0=P[j]:=by rw[List.getD_eq_getElem?_getD,List.getElem?_eq_getElem hj];rfl
 unfold sidx
 have h4:P.idxOf (P.getD j 0)=j:=by
  rcases Nat.lt_trichotomy (P.idxOf (P.getD j 0)) j with h|h|h
  ·have:=List.pairwise_iff_getElem.1 hs _ j h1 hj h;rw[h2,h3] at this;exact absurd this (Nat.lt_irrefl _)
  ·exact h
  have:=List.pairwise_iff_getElem.1 hs j _ hj h1 h;rw[h2,h3] at this;exact absurd this (Nat.lt_irrefl _)
 rw[h4]
theorem Zcj {P:List Nat} {j:Nat} (hj:j<P.length):P.getD j 0∈P:=by rw[List.getD_eq_getElem?_getD,List.getElem?_eq_getElem hj];exact List.getElem_mem hj
theorem Zhc {l:List Nat} {x:Nat}:0≤ZcG (l.map fun (y:Nat)=>(y:Int)) (x:Int)↔x∈l:=by
 have hm:(x:Int)∈(l.map fun (y:Nat)=>(y:Int))↔x∈l:=by
  rw[List.mem_map];constructor
  ·rintro⟨y,h1,h2⟩;have:y=x:=by have h:(y:Int)=(x:Int):=h2;omega
   exact this ▸ h1
  intro h;exact⟨x,h,rfl⟩
 unfold ZcG;constructor
 ·intro h
  split at h
  ·rename_i h1;exact hm.1 h1
  exact absurd h (by decide)
 intro h;rw[if_pos (hm.2 h)];omega
theorem ZjC {t:Ex} {P:List Nat} (hP:lpF t.post t.post.length=P) {j:Nat} (hj:j<P.length):posT t P 0 (j+1)=decide (P.getD j 0∈edP true t 0):=by
 have hs:P.Pairwise (·<·):=hP ▸ Zcf _ _;rw[Bool.eq_iff_iff,ZdB,decide_eq_true_eq];constructor
 ·rintro(⟨-,p,h1,h2⟩|⟨p,q,-,h2,-⟩)
  ·have hp:p∈P:=hP ▸ ZcZ true t h1;have:p=P.getD j 0:=ZeF hp (Zcj hj) (by rw[h2,ZbG hs hj]);exact this ▸ h1
  unfold sidx at h2;omega
 intro h;exact .inl ⟨rfl,_,h,ZbG hs hj⟩
theorem Zlq {t:Ex} {P:List Nat} (hP:lpF t.post t.post.length=P) {i j:Nat} (hi:i<P.length) (hj:j<P.length):posT t P (i+1) (j+1)=(flP t 0).any fun x=>decide (x.1=P.getD i 0)&&decide (x.2=P.getD j 0):=by
 have hs:P.Pairwise (·<·):=hP ▸ Zcf _ _;rw[Bool.eq_iff_iff,ZdB,List.any_eq_true];simp only[Bool.and_eq_true,decide_eq_true_eq];constructor
 ·rintro(⟨h,-⟩|⟨p,q,h1,h2,h3⟩)
  ·omega
  have hp:p∈P∧q∈P:=hP ▸ ZfA t h1;exact⟨(p,q),h1,ZeF hp.1 (Zcj hi) (by rw[h2,ZbG hs hi]),ZeF hp.2 (Zcj hj) (by rw[h3,ZbG hs hj])⟩
 rintro⟨⟨p,q⟩,h1,h2,h3⟩;have h2:p=P.getD i 0:=h2;have h3:q=P.getD j 0:=h3;exact .inr ⟨p,q,h1,by rw[h2,ZbG hs hi],by rw[h3,ZbG hs hj]⟩
def eL (P LA:List Nat):Nat→List Int
 | 0=>[]
 | i+1=>if i≠0∧P.getD (i-1) 0∈LA then eL P LA i++[(i:Int)] else eL P LA i
theorem Zf3:∀ {xs ys:List Nat},xs.Pairwise (·<·)→ys.Pairwise (·<·)→(∀ x,x∈xs↔x∈ys)→xs=ys
 | [],[],_,_,_=>rfl
 | [],y::ys,_,_,h=>by cases (h y).2 (List.mem_cons_self ..)
 | x::xs,[],_,_,h=>by cases (h x).1 (List.mem_cons_self ..)
 | x::xs,y::ys,hx,hy,h=>by
  rw[List.pairwise_cons] at hx hy
  have hxy:x=y:=by
   rcases List.mem_cons.1 ((h x).1 (List.mem_cons_self ..)) with h1|h1
   ·exact h1
   rcases List.mem_cons.1 ((h y).2 (List.mem_cons_self ..)) with h2|h2
   ·exact h2.symm
   have:=hx.1 y h2;have:=hy.1 x h1;omega
  subst hxy;rw[Zf3 hx.2 hy.2 fun z => ?_];constructor
  ·intro hz;rcases List.mem_cons.1 ((h z).1 (List.mem_cons_of_mem _ hz)) with h1|h1
   ·exact absurd (hx.1 z hz) (by rw[h1];exact Nat.lt_irrefl _)
   exact h1
  intro hz;rcases List.mem_cons.1 ((h z).2 (List.mem_cons_of_mem _ hz)) with h1|h1
  ·exact absurd (hy.1 z hz) (by rw[h1];exact Nat.lt_irrefl _)
  exact h1
theorem Zhu {P LA:List Nat} (hs:P.Pairwise (·<·)):∀ i,i≤P.length→eL P LA (i+1)=((P.take i).filter fun p=>decide (p∈LA)).map fun p=>(sidx P p:Int)
 | 0,_=>rfl
 | i+1,h=>by
  have ih:=Zhu (LA:=LA) hs i (by omega);have hcut:P.take (i+1)=P.take i++[P.getD i 0]:=by rw[List.take_succ_eq_append_getElem (by omega),List.getD_eq_getElem?_getD,List.getElem?_eq_getElem (by omega)];rfl
  show(if i+1≠0∧P.getD (i+1-1) 0∈LA then eL P LA (i+1)++[((i+1:Nat):Int)] else eL P LA (i+1))=_;rw[hcut,List.filter_append,List.map_append,ih,Nat.add_sub_cancel];by_cases hm:P.getD i 0∈LA
  ·rw[if_pos ⟨by omega,hm⟩,List.filter_cons_of_pos (by simpa using hm)];simp only[List.filter_nil,List.map_cons,List.map_nil];rw[ZbG hs (by omega)]
  rw[if_neg fun h=>hm h.2,List.filter_cons_of_neg (by simpa using hm)];simp
theorem ZnV {P LA:List Nat} (hs:P.Pairwise (·<·)) (hl:LA.Pairwise (·<·)) (hin:∀ p,p∈LA→p∈P):eL P LA (P.length+1)=LA.map fun p=>(sidx P p:Int):=by
 rw[Zhu hs P.length (Nat.le_refl _),List.take_length];congr 1;refine Zf3 (hs.filter _) hl fun x => ?_
 rw[List.mem_filter,decide_eq_true_eq];exact⟨fun h=>h.2,fun h=>⟨hin x h,h⟩⟩
theorem ZmH (P LA:List Nat):∀ i,(eL P LA i).length≤i
 | 0=>Nat.le_refl _
 | i+1=>by
  have ih:=ZmH P LA i;unfold eL
  split
  ·rw[List.length_append];simp;omega
  omega
theorem ZjV {l:List Int} {n:Int} (hs:l.Pairwise (·<·)) (hb:∀ x,x∈l→0≤x∧x≤n-1):stOk l n=true:=by
 unfold stOk;rw[List.all_eq_true];intro j hj;have hj:=List.mem_range.1 hj;have hg:∀ i,i<l.length→l.getD i 0∈l:=fun i hi=>by rw[List.getD_eq_getElem?_getD,List.getElem?_eq_getElem hi];exact List.getElem_mem hi
 unfold okAt;rw[Bool.and_eq_true,Bool.or_eq_true,decide_eq_true_eq,decide_eq_true_eq];obtain⟨h1,h2⟩:=hb _ (hg j hj);refine⟨by simp only[inB,Bool.and_eq_true,decide_eq_true_eq];exact⟨h1,h2⟩,?_⟩;rcases Nat.eq_zero_or_pos j with h0|h0
 ·exact .inl h0
 refine .inr ?_;have:=List.pairwise_iff_getElem.1 hs (j-1) j (by omega) hj (by omega);rw[List.getD_eq_getElem?_getD,List.getD_eq_getElem?_getD,List.getElem?_eq_getElem (by omega),List.getElem?_eq_getElem hj];exact this
theorem ZmI (P LA:List Nat):∀ i,(eL P LA i).Pairwise (·<·)∧∀ x,x∈eL P LA i→1≤x∧x<(i:Int)
 | 0=>⟨List.Pairwise.nil,fun x h=>by cases h⟩
 | i+1=>by
  obtain⟨h1,h2⟩:=ZmI P LA i;unfold eL
  split
  ·rename_i h;refine⟨List.pairwise_append.2 ⟨h1,List.pairwise_singleton ..,fun x hx y hy => ?_⟩,fun x hx => ?_⟩
   ·rw[List.mem_singleton.1 hy];exact(h2 x hx).2
   rcases List.mem_append.1 hx with hx|hx
   ·have:=h2 x hx;omega
   rw[List.mem_singleton.1 hx];omega
  exact⟨h1,fun x hx=>by have:=h2 x hx;omega⟩
theorem Zk1 {t:Ex} {P:List Nat} (hP:lpF t.post t.post.length=P):endL t P=(if hasE t=true then [0] else [])++eL P (edP false t 0) (P.length+1):=by have hs:P.Pairwise (·<·):=hP ▸ Zcf _ _;unfold endL;rw[ZnV hs (Zed false t 0) fun p h=>hP ▸ ZcZ false t h]
theorem Zko {t:Ex} (h60:t.post.length≤60) {P:List Nat} (hP:lpF t.post t.post.length=P) (hk:P.length<40):Zaq (posN t)=decide ((sqP t.post P (posT t P) (P.length+1) (P.length+1)).length≤400):=by
 have hok:=Zal t h60;have hn:posN t=⟨(P.length:Int)+1,sqP t.post P (posT t P) (P.length+1) (P.length+1),[0],endL t P⟩:=by rw[← hP];rfl
 obtain⟨h1,h2⟩:=ZmI P (edP false t 0) (P.length+1)
 have hend:stOk (endL t P) ((P.length:Int)+1)=true:=by
  rw[Zk1 hP];refine ZjV ?_ fun x hx => ?_
  ·refine List.pairwise_append.2 ⟨?_,h1,fun x hx y hy => ?_⟩
   ·split
    ·exact List.pairwise_singleton ..
    exact List.Pairwise.nil
   have:=h2 y hy
   split at hx
   ·rw[List.mem_singleton.1 hx];omega
   cases hx
  rcases List.mem_append.1 hx with hx|hx
  ·split at hx
   ·rw[List.mem_singleton.1 hx];omega
   cases hx
  have:=h2 x hx;omega
 have hmv:(sqP t.post P (posT t P) (P.length+1) (P.length+1)).all (mvOk ((P.length:Int)+1))=true:=by
  rw[List.all_eq_true];intro x hx;obtain⟨i,j,hi,hj,hT,rfl⟩:=ZgG.1 hx;have hj0:j≠0:=fun h=>by rw[h,ZdA] at hT;cases hT
  have hpm:P.getD (j-1) 0∈P:=Zcj (by omega);have hl:0≤ltP t.post P j∧ltP t.post P j≤2:=by unfold ltP;have h:=hP ▸ hpm;have h3:=Zb4.1 (show P.getD (j-1) 0∈lpF t.post t.post.length by rw[hP];exact hpm);exact Zfp hok h3.1 h3.2
  unfold mvOk;simp only[inB,Bool.and_eq_true,decide_eq_true_eq];omega
 rw[hn];unfold Zaq;simp only;rw[hend,hmv,show stOk [0] ((P.length:Int)+1)=true from ZjV (List.pairwise_singleton ..) fun x hx=>by rw[List.mem_singleton.1 hx];omega];rw[show inB ((P.length:Int)+1) 0 40=true by simp only[inB,Bool.and_eq_true,decide_eq_true_eq];omega];simp
theorem Za5 (es:List (Int × Int)) (v:Value) (w:World) (hok:exOk es=true) (h:Pairs 0 w v es) :
  Calls Try.prog 91 #[v] w fun e w'=>∃ vx vy xs ys,splits es xs ys∧e = .returned (.tuple #[vx,vy])∧(∀ u,Pairs 0 u v es→Pairs 0 u vx xs∧Pairs 0 u vy ys)∧Below w.heap.size w w':=by
 obtain⟨hall,hd1,hl1,hl60⟩:=ZaF hok;have Hp:=qh h;obtain⟨a,c,rfl,hc1,hc2,hrd⟩:=h.form;obtain⟨b,o,rfl,-,hbl,hcs⟩:=hrd (by omega);obtain⟨m,hm⟩:∃ m,es.length=m+1:=⟨es.length-1,by omega⟩;obtain⟨g1,g2⟩:=hcs m (by omega);have hpn:=hall m (by omega);have hpi:=Zbb (es.getD m (0,0));have hdm:dep es (m+1)=dep es m-Zaa (es.getD m (0,0))+1:=rfl;rw[← hm,hd1] at hdm;have hbeg:Zaa (es.getD m (0,0))=2→∃ a,Zbd es m a:=fun h2=>ZhD (fun k hk=>(hall k (by omega)).1) (by omega)
 have hsp:∀ xs ys,splits es xs ys↔(Zaa (es.getD m (0,0))=0→xs=[]∧ys=[])∧(Zaa (es.getD m (0,0))=1→xs=es.take m∧ys=[])∧(Zaa (es.getD m (0,0))=2→∃ a,Zbd es m a∧xs=es.take a∧ys=(es.drop a).take (m-a)):=fun xs ys=>by unfold splits;rw[show es.length-1=m by omega]
 obtain⟨p,hp⟩:=eI (es.getD m (0,0));rw[← hp] at g1 g2 hpi hpn hbeg hsp;obtain⟨p1,p2⟩:=p;simp only at g1 g2;obtain⟨n,hn⟩:=eI (Zaa (p1,p2));rw[← hn] at hpi hpn hbeg hsp;have hn3:n=0∨n=1∨n=2:=by omega
 have Hbeg:=qh hbeg;have Hsp:=qh hsp;have hml:(m:Int)<es.length:=by omega
 replace hn:=qh hn;have Hhp:=qh hp;clear hp;clear hall hd1 h hok hcs hrd hdm hbeg hsp hpn hpi;have hlen:(es.length:Int)-1=(m:Int):=by omega
 replace hm:=qh hm
 go_enter Try.func91, Try.ntmps91
 rcases hn3 with rfl|rfl|rfl
 ·go_wp2_with fail;refine(ZaI p1 p2 _ _ hn.out.symm).mono ?_;rintro e w1 ⟨rfl,hb1⟩;have HS:=qh (((((St.start w).call hb1).alloc_ (.cells #[] 72)).alloc_ (.cells #[] 72)).bel);clear hb1;go_wp2;refine bodyPost_ret (v:=.tuple #[.slice (some ⟨w1.heap.size,0,none⟩) 0 0,.slice (some ⟨w1.heap.size+1,0,none⟩) 0 0]) (by simp[results,Try.results91,go_sem]) rfl ?_;exact⟨_,_,[],[],(Hsp.out _ _).2 ⟨fun _=>⟨rfl,rfl⟩,fun h=>absurd h (by omega),fun h=>absurd h (by omega)⟩,rfl,(fun _ _=>⟨Zcd _ _ (by unfold maxLen;omega),Zcd _ _ (by unfold maxLen;omega)⟩),HS.out⟩
 ·have hcI:(m:Int)≤c:=by omega
  go_wp2_with fail;refine(ZaI p1 p2 _ _ hn.out.symm).mono ?_;rintro e w1 ⟨rfl,hb1⟩;have HS:=qh ((((St.start w).call hb1).alloc_ (.cells #[] 72)).bel);clear hb1;go_wp2;refine bodyPost_ret (v:=.tuple #[.slice (some ⟨b,o,none⟩) m c,.slice (some ⟨w1.heap.size,0,none⟩) 0 0]) (by simp[results,Try.results91,go_sem]) rfl ?_;exact⟨_,_,es.take m,[],(Hsp.out _ _).2 ⟨fun h=>absurd h (by omega),fun _=>⟨rfl,rfl⟩,fun h=>absurd h (by omega)⟩,rfl,(fun _ hu=>⟨hu.take (by have:=hm.out;omega),Zcd _ _ (by unfold maxLen;omega)⟩),HS.out⟩
 obtain⟨at',hat⟩:=Hbeg.out rfl;have ha1:=hat.1;obtain⟨q,hqm⟩:∃ q,m=q+1:=⟨m-1,by omega⟩;have hq:(m:Int)-1=(q:Int):=by omega
 have haI:(at':Int)≤(m:Int):=by omega
 have haC:(at':Int)≤c:=by omega
 have hqC:(m:Int)≤c:=by omega
 rw[hqm] at hat;have Hhqm:=qh hqm;clear hqm;have Hat:=qh hat;clear hat;go_wp2_with fail;refine(ZaI p1 p2 _ _ hn.out.symm).mono ?_;rintro e w1 ⟨rfl,hb1⟩;have HS:=qh ((St.start w).call hb1);clear hb1;go_wp2_with fail;refine(Zfq es q at' _ _ (by have:=hm.out;omega) (by have:=hm.out;have:=Hhqm.out;omega) (Hp.out.below HS.out.bel) Hat.out).mono ?_;rintro e w2 ⟨rfl,hb2⟩;have HS2:=qh (HS.out.call hb2);clear hb2;go_wp2
 go_quiet (fail)
 go_wp2;have HS3:=qh (HS2.out.drewN nq);refine bodyPost_ret (v:=.tuple #[.slice (some ⟨b,o,none⟩) at' c,.slice (some ⟨b,o+at'*2,none⟩) (m-at') (c-at')]) (by simp[results,Try.results91,go_sem]) rfl ?_;have hml2:=hm.out
 exact⟨_,_,es.take at',(es.drop at').take (m-at'),(Hsp.out _ _).2 ⟨fun h=>absurd h (by omega),fun h=>absurd h (by omega),fun _=>⟨at',by rw[Hhqm.out];exact Hat.out,rfl,rfl⟩⟩,rfl,
  (fun _ hu=>⟨hu.take (by omega),(hu.drop (by omega)).take (by rw[List.length_drop];omega)⟩),HS3.out.bel⟩
end Go.Proofs.Ytfanhfcamblghaa
