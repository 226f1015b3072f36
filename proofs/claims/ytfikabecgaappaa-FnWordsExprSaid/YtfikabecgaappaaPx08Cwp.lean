/-
  An automaton without choices meets singletons only, plain.
  No condition: this text speaks of no program.
  The walks over SubsetCount, of the program and of the reference.
  Condition: the automaton is readable.
-/
import Derived.Test.YtfikabecgaappaaPx07Tx
namespace Go.Proofs.Ytfikabecgaappaa
open Go.RowKit
theorem ZiE {l:List Int} {m:Int} (h:∀ j,j<l.length→(0≤l.getD j 0∧l.getD j 0≤m-1)∧(0<j→l.getD (j-1) 0<l.getD j 0)):stOk l m=true:=by
 unfold stOk;rw[List.all_eq_true];intro j hj;obtain⟨h1,h2⟩:=h j (List.mem_range.1 hj);unfold okAt;rw[Bool.and_eq_true,Bool.or_eq_true];refine⟨by simp only[inB,Bool.and_eq_true,decide_eq_true_eq];exact h1,?_⟩;by_cases h0:j=0
 ·exact .inl (decide_eq_true h0)
 exact .inr (decide_eq_true (h2 (by omega)))
theorem ZcK {s t:Nat}:(2 ^ s).testBit t=decide (s=t):=by rw[Nat.testBit_two_pow]
theorem Zc2 {d:DfaD}:∀ {k:Nat} {m:Int × Int × Int},m∈mvs d k↔∃ s c:Nat,s<k∧c<3∧m=((s:Int),(c:Int),(d.next.getD s []).getD c 0)
 | 0,m=>by simp[mvs]
 | k+1,m=>by
  rw[show mvs d (k+1)=mvs d k++rowM d k from rfl,List.mem_append,Zc2];constructor
  ·rintro(⟨s,c,h1,h2,h3⟩|h)
   ·exact⟨s,c,by omega,h2,h3⟩
   obtain⟨c,hc,rfl⟩:=List.mem_map.1 h;exact⟨k,c,by omega,List.mem_range.1 hc,rfl⟩
  rintro⟨s,c,h1,h2,h3⟩;by_cases h:s=k
  ·subst h;exact .inr (List.mem_map.2 ⟨c,List.mem_range.2 h2,h3.symm⟩)
  exact .inl ⟨s,c,by omega,h2,h3⟩
theorem ZbS {d:DfaD} (k u:Nat):Zbl (mvs d k) u:=by intro m hm he;obtain⟨s,c,-,-,rfl⟩:=Zc2.1 hm;simp only at he;omega
theorem ZlA {a b:Nat} (h:∀ t,a.testBit t=true↔b.testBit t=true):a=b:=by apply Nat.eq_of_testBit_eq;intro t;rw[Bool.eq_iff_iff];exact h t
theorem ZmV {d:DfaD} (hd:Zaf d.next d.ends=true) {s c:Nat} (hs:s<d.next.length) (hc:c<3):∃ q:Nat,q<d.next.length∧stV 40 (mvs d d.next.length) (2 ^ s) (c:Int)=2 ^ q:=by
 have hr:=(ZaE hd hs).2 c hc;obtain⟨q,hq⟩:=Int.eq_ofNat_of_zero_le hr.1;refine⟨q,by omega,?_⟩;unfold stV;rw[Zez (ZbS _ _)];apply ZlA;intro t;rw[Zbi,ZcK,decide_eq_true_eq];constructor
 ·rintro(h|⟨m,hm,h1,h2,h3⟩)
  ·simp at h
  obtain⟨s',c',h4,h5,rfl⟩:=Zc2.1 hm;rw[ZcK,decide_eq_true_eq] at h2;simp only[Int.toNat_natCast] at h2;subst h2;have:c'=c:=by simp only at h1;omega
  subst this;simp only[hq] at h3;omega
 rintro rfl;right;refine⟨_,Zc2.2 ⟨s,c,hs,hc,rfl⟩,rfl,?_,?_⟩
 ·rw[ZcK];simp
 simp only[hq];omega
theorem Zm8 {d:DfaD} (hd:Zaf d.next d.ends=true) (K:Nat):(metS (ZaM d) K).length≤d.next.length:=by
 have hl:=Zae hd;have hf:fstV (ZaM d)=2 ^ 0:=by unfold fstV;rw[show(ZaM d).moves=mvs d d.next.length from rfl,Zez (ZbS _ _)];rfl
 have hall:∀ x∈metS (ZaM d) K,∃ s:Nat,s<d.next.length∧x=(((2 ^ s:Nat):Int),0):=by refine ZbP (Q:=fun x=>∃ s:Nat,s<d.next.length∧x=(((2 ^ s:Nat):Int),0)) ⟨0,by omega,by rw[hf]⟩ ?_ K;rintro x c hc ⟨s,hs,rfl⟩;obtain⟨q,hq,h⟩:=ZmV hd hs hc;refine⟨q,hq,?_⟩;unfold nxS;rw[show(ZaM d).moves=mvs d d.next.length from rfl];simp only[Int.toNat_natCast];rw[h]
 have:=ZcQ (ZaY (nx:=nxS (ZaM d)) (a:=(((fstV (ZaM d):Nat):Int),0)) K).1 (m:=(List.range d.next.length).map fun s=>(((2 ^ s:Nat):Int),(0:Int))) fun x hx=>by obtain⟨s,hs,rfl⟩:=hall x hx;exact List.mem_map.2 ⟨s,List.mem_range.2 hs,rfl⟩
 simpa using this
theorem ZgN (d:DfaD):∀ k,(eds d k).Pairwise (·<·)
 | 0=>List.Pairwise.nil
 | k+1=>by
  unfold eds
  split
  ·rw[List.pairwise_append];refine⟨ZgN d k,List.pairwise_singleton _ _,fun x hx y hy => ?_⟩;rw[List.mem_singleton.1 hy];exact(Zfc d k x hx).2
  exact ZgN d k
theorem Zdg {d:DfaD} (hd:Zaf d.next d.ends=true):Zgv (ZaM d)=true:=by
 have hl:=Zae hd;unfold Zgv;simp only[Bool.and_eq_true,decide_eq_true_eq];refine⟨⟨⟨⟨?_,?_⟩,?_⟩,?_⟩,?_⟩
 ·show inB (d.next.length:Int) 0 40=true;simp only[inB,Bool.and_eq_true,decide_eq_true_eq];exact⟨by omega,by omega⟩
 ·show(mvs d d.next.length).length≤400;rw[Zc3];omega
 ·refine ZiE fun j hj => ?_
  have hj:j<1:=hj;obtain rfl:j=0:=by omega
  refine⟨?_,fun h=>by omega⟩;simp only[ZaM,List.getD_cons_zero];omega
 ·refine ZiE fun j hj => ?_
  have hj:j<(eds d d.next.length).length:=hj;have h1:=Zfc d _ _ (memD (d:=(0:Int)) hj);refine⟨?_,fun h => ?_⟩
  ·show 0≤(eds d d.next.length).getD j 0∧(eds d d.next.length).getD j 0≤(d.next.length:Int)-1;omega
  have:=List.pairwise_iff_getElem.1 (ZgN d d.next.length) (j-1) j (by omega) hj (by omega);show(eds d d.next.length).getD (j-1) 0<(eds d d.next.length).getD j 0;rw[Zbg (by omega),Zbg hj];exact this
 rw[List.all_eq_true];intro m hm;obtain⟨s,c,h1,h2,rfl⟩:=Zc2.1 (show m∈mvs d d.next.length from hm);have hr:=(ZaE hd h1).2 c h2;show mvOk (d.next.length:Int) _=true;simp only[mvOk,inB,Bool.and_eq_true,decide_eq_true_eq];exact⟨⟨⟨by omega,by omega⟩,by omega,by omega⟩,by omega,by omega⟩
end Go.Proofs.Ytfikabecgaappaa
namespace Go.Proofs.Ytfikabecgaappaa
open Go.RowKit
end Go.Proofs.Ytfikabecgaappaa
namespace Go.Proofs.Ytfikabecgaappaa
section
variable (n:Nat) (nx:Nat→Nat→Nat)
def Zbu (cl:Nat→Nat) (t s:Nat):Bool:=decide (cl t=cl s)&&(List.range 3).all fun c=>decide (cl (nx t c)=cl (nx s c))
theorem Zas {cl:Nat→Nat} {t s:Nat}:Zbu nx cl t s=true↔cl t=cl s∧∀ c,c<3→cl (nx t c)=cl (nx s c):=by simp[Zbu]
theorem Zh0 (cl:Nat→Nat) (s:Nat):Zbu nx cl s s=true:=(Zas nx).2 ⟨rfl,fun _ _=>rfl⟩
theorem ZeL {cl:Nat→Nat} {t s:Nat} (h:Zbu nx cl t s=true):Zbu nx cl s t=true:=by obtain⟨h1,h2⟩:=(Zas nx).1 h;exact(Zas nx).2 ⟨h1.symm,fun c hc=>(h2 c hc).symm⟩
theorem Zct {cl:Nat→Nat} {t s r:Nat} (h:Zbu nx cl t s=true) (h':Zbu nx cl s r=true):Zbu nx cl t r=true:=by obtain⟨h1,h2⟩:=(Zas nx).1 h;obtain⟨h3,h4⟩:=(Zas nx).1 h';exact(Zas nx).2 ⟨h1.trans h3,fun c hc=>(h2 c hc).trans (h4 c hc)⟩
def ZaN (p:Nat→Bool):Nat→Nat
 | 0=>0
 | k+1=>if p (ZaN p k)&&decide (ZaN p k<k) then ZaN p k else if p k then k else k+1
end
theorem ZfP (p:Nat→Bool):∀ k,(ZaN p k<k∧p (ZaN p k)=true∧∀ j,j<ZaN p k→p j=false)∨(ZaN p k=k∧∀ j,j<k→p j=false)
 | 0=>Or.inr ⟨rfl,fun j hj=>absurd hj (by omega)⟩
 | k+1=>by
  rcases ZfP p k with⟨h1,h2,h3⟩|⟨h1,h2⟩
  ·left;have e:ZaN p (k+1)=ZaN p k:=by simp[ZaN,h1,h2]
   rw[e];exact⟨by omega,h2,h3⟩
  by_cases hp:p k=true
  ·left;have e:ZaN p (k+1)=k:=by simp[ZaN,h1,hp]
   rw[e];exact⟨by omega,hp,h2⟩
  right;have e:ZaN p (k+1)=k+1:=by simp[ZaN,h1,hp]
  refine⟨e,fun j hj => ?_⟩;by_cases hjk:j=k
  ·subst hjk;simpa using hp
  exact h2 j (by omega)
theorem ZiU {p:Nat→Bool} {k s:Nat} (hs:s<k) (hp:p s=true):ZaN p k≤s∧p (ZaN p k)=true∧∀ j,j<ZaN p k→p j=false:=by
 rcases ZfP p k with⟨h1,h2,h3⟩|⟨h1,h2⟩
 ·refine⟨?_,h2,h3⟩;rcases Nat.lt_or_ge s (ZaN p k) with h|h
  ·rw[h3 s h] at hp;cases hp
  exact h
 rw[h2 s hs] at hp;cases hp
section
variable {n:Nat} {nx:Nat→Nat→Nat}
structure GoodC (n:Nat) (cl:Nat→Nat):Prop where
 le:∀ s,s<n→cl s≤s
 id:∀ s,s<n→cl (cl s)=cl s
def Zaq (n:Nat) (nx:Nat→Nat→Nat) (cl:Nat→Nat) (s:Nat):Nat:=ZaN (fun t=>Zbu nx cl t s) n
theorem ZaU {cl:Nat→Nat} {s:Nat} (hs:s<n):Zaq n nx cl s≤s∧Zbu nx cl (Zaq n nx cl s) s=true∧∀ j,j<Zaq n nx cl s→Zbu nx cl j s=false :=
 ZiU hs (Zh0 nx cl s)
theorem Zb2 {cl:Nat→Nat} {s t:Nat} (hs:s<n) (ht:t<n):Zaq n nx cl s=Zaq n nx cl t↔Zbu nx cl s t=true:=by
 obtain⟨a1,a2,a3⟩:=ZaU (nx:=nx) (cl:=cl) hs;obtain⟨b1,b2,b3⟩:=ZaU (nx:=nx) (cl:=cl) ht;constructor
 ·intro h;rw[h] at a2;exact Zct nx (ZeL nx a2) b2
 intro h;have h1:¬ Zaq n nx cl s<Zaq n nx cl t:=fun hlt=>by have:=b3 _ hlt;rw[Zct nx a2 h] at this;cases this
 have h2:¬ Zaq n nx cl t<Zaq n nx cl s:=fun hlt=>by have:=a3 _ hlt;rw[Zct nx b2 (ZeL nx h)] at this;cases this
 omega
theorem ZeP {cl:Nat→Nat}:GoodC n (Zaq n nx cl):=by refine⟨fun s hs=>(ZaU hs).1,fun s hs => ?_⟩;obtain⟨a1,a2,a3⟩:=ZaU (nx:=nx) (cl:=cl) hs;exact(Zb2 (by omega) hs).2 a2
theorem Zjq {cl:Nat→Nat} (hg:GoodC n cl) {s:Nat} (hs:s<n) (h:cl s=s):Zaq n nx cl s=s:=by obtain⟨a1,a2,a3⟩:=ZaU (nx:=nx) (cl:=cl) hs;have e:=((Zas nx).1 a2).1;have:=hg.le (Zaq n nx cl s) (by omega);omega
def reps (n:Nat) (cl:Nat→Nat):Nat:=((List.range n).filter fun s=>decide (cl s=s)).length
theorem ZeO {cl:Nat→Nat} (hg:GoodC n cl) {s:Nat} (hs:s<n) (hne:Zaq n nx cl s≠cl s):reps n cl<reps n (Zaq n nx cl):=by
 obtain⟨a1,a2,a3⟩:=ZaU (nx:=nx) (cl:=cl) hs;have e:=((Zas nx).1 a2).1;have hr:Zaq n nx cl s<n:=by omega
 refine Zdv (a:=Zaq n nx cl s) ?_ ?_ (List.mem_range.2 hr) fun x hx h => ?_
 ·have:cl (Zaq n nx cl s)≠Zaq n nx cl s:=by rw[e];exact fun h=>hne h.symm
  simpa using this
 ·simpa using ZeP.id s hs
 simp only[decide_eq_true_eq] at h ⊢;exact Zjq hg (List.mem_range.1 hx) h
theorem Zh3 (n:Nat) (cl:Nat→Nat):reps n cl≤n:=by have:=List.length_filter_le (fun s=>decide (cl s=s)) (List.range n);simpa [reps] using this
def clAt (n:Nat) (nx:Nat→Nat→Nat) (en:Nat→Bool):Nat→Nat→Nat
 | 0=>fun s=>ZaN (fun t=>en t==en s) n
 | i+1=>Zaq n nx (clAt n nx en i)
theorem ZcI {en:Nat→Bool} {s:Nat} (hs:s<n):clAt n nx en 0 s≤s∧en (clAt n nx en 0 s)=en s∧∀ j,j<clAt n nx en 0 s→en j≠en s:=by
 obtain⟨a,b,c⟩:=ZiU (p:=fun t=>en t==en s) hs (by simp);have b':en (ZaN (fun t=>en t==en s) n)=en s:=by simpa using b
 exact⟨a,b',fun j hj=>by simpa using c j hj⟩
theorem ZhF {en:Nat→Bool} {s t:Nat} (hs:s<n) (ht:t<n):clAt n nx en 0 s=clAt n nx en 0 t↔en s=en t:=by
 obtain⟨a1,a2,a3⟩:=ZcI (nx:=nx) (en:=en) hs;obtain⟨b1,b2,b3⟩:=ZcI (nx:=nx) (en:=en) ht;constructor
 ·intro h;rw[← a2,← b2,h]
 intro h;have h1:¬ clAt n nx en 0 s<clAt n nx en 0 t:=fun hlt=>b3 _ hlt (a2.trans h)
 have h2:¬ clAt n nx en 0 t<clAt n nx en 0 s:=fun hlt=>a3 _ hlt (b2.trans h.symm)
 omega
theorem Zfh (en:Nat→Bool):∀ i,GoodC n (clAt n nx en i)
 | 0=>⟨fun s hs=>(ZcI hs).1,fun s hs=>by obtain⟨a1,a2,a3⟩:=ZcI (nx:=nx) (en:=en) hs;exact(ZhF (by omega) hs).2 a2⟩
 | _+1=>ZeP
def stays (n:Nat) (nx:Nat→Nat→Nat) (en:Nat→Bool) (i:Nat):Prop:=∀ s,s<n→clAt n nx en (i+1) s=clAt n nx en i s
theorem ZiD (en:Nat→Bool):∃ i,i≤n∧stays n nx en i∧∀ j,j<i→¬ stays n nx en j:=by
 have key:∀ k,(∀ j,j<k→¬ stays n nx en j)→k≤reps n (clAt n nx en k):=by
  intro k
  induction k with
  | zero=>intro _;exact Nat.zero_le _
  | succ k ih =>
   intro h;have h1:=ih fun j hj=>h j (by omega)
   have h2:=h k (by omega);have h3:∃ s,s<n∧clAt n nx en (k+1) s≠clAt n nx en k s:=Classical.byContradiction fun hn=>h2 fun s hs=>Classical.byContradiction fun hne=>hn ⟨s,hs,hne⟩
   obtain⟨s,hs,hne⟩:=h3;have:=ZeO (nx:=nx) (Zfh (nx:=nx) en k) hs hne;show k+1≤reps n (Zaq n nx (clAt n nx en k));omega
 have hex:∃ i,i≤n∧stays n nx en i:=Classical.byContradiction fun hn=>by
  have:=key (n+1) fun j hj hs=>hn ⟨j,by omega,hs⟩
  have:=Zh3 n (clAt n nx en (n+1));omega
 obtain⟨i,hi,hs⟩:=hex
 have key2:∀ k,(∃ j,j<k∧stays n nx en j)→∃ i,i<k∧stays n nx en i∧∀ j,j<i→¬ stays n nx en j:=by
  intro k
  induction k with
  | zero=>rintro⟨j,hj,-⟩;omega
  | succ k ih =>
   rintro⟨j,hj,hs⟩;by_cases h:∃ j,j<k∧stays n nx en j
   ·obtain⟨i,h1,h2⟩:=ih h;exact⟨i,by omega,h2⟩
   have:j=k:=Classical.byContradiction fun hne=>h ⟨j,by omega,hs⟩
   subst this;exact⟨j,by omega,hs,fun i hi hs'=>h ⟨i,hi,hs'⟩⟩
 obtain⟨i',h1,h2⟩:=key2 (n+1) ⟨i,by omega,hs⟩;exact⟨i',by omega,h2⟩
theorem Zd9 {p q:Nat→Bool}:∀ {k:Nat},(∀ t,t<k→p t=q t)→ZaN p k=ZaN q k
 | 0,_=>rfl
 | k+1,h=>by
  have ih:=Zd9 (k:=k) fun t ht=>h t (by omega)
  have hk:=h k (by omega);unfold ZaN;rw[← ih,← hk];by_cases hl:ZaN p k<k
  ·rw[h _ (by omega)]
  simp[hl]
theorem Zg7 (hnx:∀ s c,s<n→c<3→nx s c<n) {cl cl':Nat→Nat} (h:∀ s,s<n→cl s=cl' s) {s:Nat} (hs:s<n):Zaq n nx cl s=Zaq n nx cl' s:=by
 unfold Zaq;refine Zd9 fun t ht => ?_
 rw[Bool.eq_iff_iff,Zas,Zas,h t ht,h s hs];constructor
 ·rintro⟨h1,h2⟩;exact⟨h1,fun c hc=>by rw[← h _ (hnx t c ht hc),← h _ (hnx s c hs hc)];exact h2 c hc⟩
 rintro⟨h1,h2⟩;exact⟨h1,fun c hc=>by rw[h _ (hnx t c ht hc),h _ (hnx s c hs hc)];exact h2 c hc⟩
theorem Zcp (hnx:∀ s c,s<n→c<3→nx s c<n) {en:Nat→Bool} {i:Nat} (h:stays n nx en i):∀ j,i≤j→∀ s,s<n→clAt n nx en j s=clAt n nx en i s:=by
 intro j
 induction j with
 | zero =>
  intro hj s _;obtain rfl:i=0:=by omega
  rfl
 | succ j ih =>
  intro hj s hs;by_cases hij:i=j+1
  ·subst hij;rfl
  have e:clAt n nx en (j+1) s=Zaq n nx (clAt n nx en j) s:=rfl;rw[e,Zg7 hnx (ih (by omega)) hs];exact h s hs
def ZdA (n:Nat) (nx:Nat→Nat→Nat) (en:Nat→Bool):Nat→Nat:=clAt n nx en n
theorem Zmv (hnx:∀ s c,s<n→c<3→nx s c<n) {en:Nat→Bool} {i:Nat} (hi:i≤n) (h:stays n nx en i) {s:Nat} (hs:s<n):ZdA n nx en s=clAt n nx en i s:=Zcp hnx h n hi s hs
theorem Zfg (hnx:∀ s c,s<n→c<3→nx s c<n) (en:Nat→Bool):stays n nx en n:=by obtain⟨i,hi,hs,-⟩:=ZiD (n:=n) (nx:=nx) en;intro s hsn;rw[Zcp hnx hs (n+1) (by omega) s hsn,Zcp hnx hs n hi s hsn]
theorem ZgT (hnx:∀ s c,s<n→c<3→nx s c<n) {en:Nat→Bool} {s t:Nat} (hs:s<n) (ht:t<n):ZdA n nx en s=ZdA n nx en t→∀ c,c<3→ZdA n nx en (nx s c)=ZdA n nx en (nx t c):=by
 intro h;have h1:=Zfg hnx en;have h2:Zaq n nx (ZdA n nx en) s=Zaq n nx (ZdA n nx en) t:=by have a:=h1 s hs;have b:=h1 t ht;exact a.trans (h.trans b.symm)
 exact((Zas nx).1 ((Zb2 hs ht).1 h2)).2
theorem ZhE {en:Nat→Bool}:∀ (i:Nat) {s t:Nat},s<n→t<n→clAt n nx en i s=clAt n nx en i t→en s=en t
 | 0,_,_,hs,ht,h=>(ZhF hs ht).1 h
 | i+1,_,_,hs,ht,h=>ZhE i hs ht ((Zas nx).1 ((Zb2 hs ht).1 h)).1
theorem Zca {en:Nat→Bool} {s t:Nat} (hs:s<n) (ht:t<n) (h:ZdA n nx en s=ZdA n nx en t):en s=en t:=ZhE n hs ht h
end
end Go.Proofs.Ytfikabecgaappaa
namespace Go.Proofs.Ytfikabecgaappaa
open Go.RowKit
def nxD (d:DfaD) (s c:Nat):Nat:=((d.next.getD s []).getD c 0).toNat
def enD (d:DfaD) (s:Nat):Bool:=d.ends.getD s false
def Za0 (d:DfaD):DfaD:=Zam (dnx d) (den d) (bat (dnx d) 0 d.next.length).met
theorem ZbL {d:DfaD} (hd:fine d) {s c:Nat} (hs:s<d.next.length) (hc:c<3):nxD d s c<d.next.length∧dnx d (s:Int) c=((nxD d s c:Nat):Int):=by obtain⟨-,-,-,h⟩:=hd;obtain⟨-,h2⟩:=h s hs;obtain⟨a,b⟩:=h2 c hc;unfold nxD dnx;rw[Int.toNat_natCast];omega
theorem Zb5 {d:DfaD} (hd:fine d) (K:Nat):(∀ x∈(bat (dnx d) 0 K).met,0≤x∧x<(d.next.length:Int))∧(bat (dnx d) 0 K).met.length≤d.next.length:=by
 have h1:∀ x∈(bat (dnx d) 0 K).met,0≤x∧x<(d.next.length:Int):=by refine ZbP (Q:=fun x=>0≤x∧x<(d.next.length:Int)) ⟨by omega,by have:=hd.1;omega⟩ (fun x c hc hx => ?_) K;obtain⟨s,rfl⟩:=Int.eq_ofNat_of_zero_le hx.1;obtain⟨a,b⟩:=ZbL hd (s:=s) (by omega) hc;rw[b];omega
 refine⟨h1,?_⟩;have:=ZcQ (ZaY (nx:=dnx d) (a:=0) K).1 (m:=ZaH d.next.length) fun x hx=>by obtain⟨a,b⟩:=h1 x hx;obtain⟨s,rfl⟩:=Int.eq_ofNat_of_zero_le a;exact ZbE.2 (by omega)
 rwa [ZbB] at this
theorem ZaB {d:DfaD} (h:Zaf d.next d.ends=true):fine d:=by have:=Zae h;exact⟨by omega,by omega,by omega,fun i hi=>ZaE h hi⟩
theorem ZlJ {α:Type} [DecidableEq α] {nx:α→Nat→α} {a:α} {en:α→Bool} {K:Nat} (hK:(bat nx a K).met.length≤K):Za0 (Zam nx en (bat nx a K).met)=Zam nx en (bat nx a K).met:=by
 unfold Za0;rw[ZaC];obtain⟨m,hm⟩:=eI ((bat nx a K).met.length);have hle:(bat nx a m).met.length≤m:=by have:=(ZhI (nx:=nx) (a:=a) (show m≤K by omega)).1.length_le;omega
 have hd:bat nx a K=bat nx a m:=ZbX hle (by omega);have hp:=Zd3 (nx:=nx) (a:=a) K;have hpl:∀ (s:Int) c,c<3→0≤s∧s<m→Zaj (bat nx a K).met (nx ((bat nx a K).met.getD s.toNat a) c)<m:=fun s c hc hs=>by rw[hm];exact Za8 (ZcS hK (memD (d:=a) (show s.toNat<(bat nx a K).met.length by omega)) hc)
 have hlt:∀ (s:Int) c,c<3→0≤s∧s<m→0≤Zbf nx a (bat nx a K).met s c∧Zbf nx a (bat nx a K).met s c<m:=fun s c hc hs=>by have:=hpl s c hc hs;unfold Zbf;omega
 have e1:bat (Zbf nx a (bat nx a K).met) 0 m=bat (dnx (Zam nx en (bat nx a K).met)) 0 m :=
  Zfl (Q:=fun s=>0≤s∧s<(m:Int)) (by omega) (fun s c hc hs=>hlt s c hc hs) (fun s c hc hs=>(Zim (by omega) (by omega) hc).symm) m
 have hmet:(bat (dnx (Zam nx en (bat nx a K).met)) 0 (bat nx a K).met.length).met=ZaH (bat nx a K).met.length:=by rw[← hm,← e1,ZkA nx a K m (by omega),← hd,hm]
 rw[hmet]
 have hr:(ZaH (bat nx a K).met.length).map (Zai (dnx (Zam nx en (bat nx a K).met)) (ZaH (bat nx a K).met.length))=(bat nx a K).met.map (Zai nx (bat nx a K).met):=by
  refine List.ext_getElem (by simp[ZaH]) fun i h1 h2 => ?_
  have hi:i<(bat nx a K).met.length:=by simpa using h2
  have hu:(ZaH (bat nx a K).met.length)[i]'(by simpa using h1)=(i:Int):=by simp[ZaH]
  simp only[List.getElem_map];rw[hu];unfold Zai;refine List.map_congr_left fun c hc => ?_
  have hc3:c<3:=List.mem_range.1 hc;rw[Zim (a:=a) (by omega) (by omega) hc3];unfold Zbf;have hp2:=hpl (i:Int) c hc3 (by omega);have e2:(bat nx a K).met.getD (i:Int).toNat a=(bat nx a K).met[i]:=by simp[hi]
  rw[e2] at hp2 ⊢;congr 1;obtain⟨q,hq⟩:=eJ (Zaj (bat nx a K).met (nx ((bat nx a K).met[i]) c));rw[hq] at hp2 ⊢;have e3:=ZeD (n:=(bat nx a K).met.length) (k:=q) (by omega);have e4:=Zew (l:=ZaH (bat nx a K).met.length) (k:=q) (by rw[ZbB];omega) (List.Pairwise.map _ (fun _ _ h e=>h (Int.ofNat.inj e)) List.nodup_range) (0:Int);rw[e3] at e4;exact e4
 have he:(ZaH (bat nx a K).met.length).map (den (Zam nx en (bat nx a K).met))=(bat nx a K).met.map en:=by
  refine List.ext_getElem (by simp[ZaH]) fun i h1 h2 => ?_
  have hi:i<(bat nx a K).met.length:=by simpa using h2
  have hu:(ZaH (bat nx a K).met.length)[i]'(by simpa using h1)=(i:Int):=by simp[ZaH]
  simp only[List.getElem_map];rw[hu];exact Zin hi
 exact congr (congrArg DfaD.mk hr) he
section
variable {α β:Type} [DecidableEq α] [DecidableEq β] {nx:α→Nat→α} {nx':β→Nat→β} {a:α} {f:α→β} {Q:α→Prop}
theorem ZhG (hv:∀ x c,c<3→Q x→Q (nx x c)) (hf:∀ x y,Q x→Q y→f x=f y→x=y) (hn:∀ x c,c<3→Q x→f (nx x c)=nx' (f x) c) {x:α} (hx:Q x) (wd:List Nat) {s:Bs α} (hs:∀ y∈s.met,Q y) :
  ∀ n,n≤3→brow nx' (f x) wd ⟨s.met.map f,s.words⟩ n=⟨(brow nx x wd s n).met.map f,(brow nx x wd s n).words⟩∧∀ y∈(brow nx x wd s n).met,Q y
 | 0,_=>⟨rfl,hs⟩
 | n+1,hn3=>by
  obtain⟨h1,h2⟩:=ZhG hv hf hn hx wd hs n (by omega);have hq:=hv x n (by omega) hx
  have hm:nx' (f x) n∈(brow nx x wd s n).met.map f↔nx x n∈(brow nx x wd s n).met:=by
   rw[← hn x n (by omega) hx];constructor
   ·intro h;obtain⟨y,hy,e⟩:=List.mem_map.1 h;rw[← hf _ _ (h2 y hy) hq e];exact hy
   exact fun h=>List.mem_map.2 ⟨_,h,rfl⟩
  have e:brow nx' (f x) wd ⟨s.met.map f,s.words⟩ (n+1)=bvisit nx' (f x) wd (brow nx' (f x) wd ⟨s.met.map f,s.words⟩ n) n:=rfl;have e2:brow nx x wd s (n+1)=bvisit nx x wd (brow nx x wd s n) n:=rfl;rw[e,e2,h1];unfold bvisit;by_cases h:nx x n∈(brow nx x wd s n).met
  ·rw[if_pos h,if_pos (hm.2 h)];exact⟨rfl,h2⟩
  rw[if_neg h,if_neg (fun h2=>h (hm.1 h2))];refine⟨by simp[hn x n (by omega) hx],fun y hy => ?_⟩;simp only[List.mem_append,List.mem_singleton] at hy;rcases hy with hy|rfl
  ·exact h2 y hy
  exact hq
theorem Zjg (h0:Q a) (hv:∀ x c,c<3→Q x→Q (nx x c)) (hf:∀ x y,Q x→Q y→f x=f y→x=y) (hn:∀ x c,c<3→Q x→f (nx x c)=nx' (f x) c):∀ k,bat nx' (f a) k=⟨(bat nx a k).met.map f,(bat nx a k).words⟩
 | 0=>rfl
 | k+1=>by
  have ih:=Zjg h0 hv hf hn k;have hl:(bat nx' (f a) k).met.length=(bat nx a k).met.length:=by rw[ih];simp
  by_cases h:k<(bat nx a k).met.length
  ·rw[ZaJ h,ZaJ (by rw[hl];exact h)];unfold bpart;rw[ih];have hx:((bat nx a k).met.map f).getD k (f a)=f ((bat nx a k).met.getD k a):=by simp[h]
   simp only[hx];exact(ZhG hv hf hn (ZbP h0 hv k _ (memD h)) _ (ZbP h0 hv k) 3 (by omega)).1
  rw[Za4 (by omega),Za4 (by omega),ih]
theorem ZeQ {L:List α} {x:α} (hf:∀ y∈L,f y=f x→y=x):Zaj (L.map f) (f x)=Zaj L x:=by
 unfold Zaj
 induction L with
 | nil=>rfl
 | cons y l ih =>
  have h1:=hf y (by simp);have h2:=ih fun z hz=>hf z (by simp[hz])
  simp only[List.map_cons,List.idxOf_cons];by_cases h:y=x
  ·subst h;simp
  have:f y≠f x:=fun e=>h (h1 e)
  have e1:(f y==f x)=false:=by simpa using this
  have e2:(y==x)=false:=by simpa using h
  rw[e1,e2];simp[h2]
theorem Zch {en:α→Bool} {en':β→Bool} {K:Nat} (h0:Q a) (hv:∀ x c,c<3→Q x→Q (nx x c)) (hf:∀ x y,Q x→Q y→f x=f y→x=y) (hn:∀ x c,c<3→Q x→f (nx x c)=nx' (f x) c) (he:∀ x,Q x→en' (f x)=en x) :
  Zam nx' en' (bat nx' (f a) K).met=Zam nx en (bat nx a K).met:=by
 have hm:=congrArg Bs.met (Zjg h0 hv hf hn K);simp only at hm;have hq:=ZbP h0 hv K;rw[hm];unfold Zam
 have e1:((bat nx a K).met.map f).map (Zai nx' ((bat nx a K).met.map f))=(bat nx a K).met.map (Zai nx (bat nx a K).met):=by
  rw[List.map_map];refine List.map_congr_left fun x hx => ?_
  unfold Zai;refine List.map_congr_left fun c hc => ?_
  have hc3:c<3:=List.mem_range.1 hc;rw[← hn x c hc3 (hq x hx),ZeQ fun y hy e=>hf _ _ (hq y hy) (hv x c hc3 (hq x hx)) e]
 have e2:((bat nx a K).met.map f).map en'=(bat nx a K).met.map en:=by rw[List.map_map];exact List.map_congr_left fun x hx=>he x (hq x hx)
 rw[e1,e2]
end
theorem Zjc {n m:Nat} {nx nx':Nat→Nat→Nat} {en en':Nat→Bool} (φ:Nat→Nat) (hφ:∀ i,i<m→φ i<n) (hst:∀ i c,i<m→c<3→nx' i c<m∧φ (nx' i c)=nx (φ i) c) (hen:∀ i,i<m→en' i=en (φ i)) :
  ∀ (r:Nat) {i j:Nat},i<m→j<m→(clAt m nx' en' r i=clAt m nx' en' r j↔clAt n nx en r (φ i)=clAt n nx en r (φ j))
 | 0,i,j,hi,hj=>by rw[ZhF hi hj,ZhF (hφ i hi) (hφ j hj),hen i hi,hen j hj]
 | r+1,i,j,hi,hj=>by
  have ih:=fun {i j:Nat} (hi:i<m) (hj:j<m)=>Zjc φ hφ hst hen r hi hj
  show Zaq m nx' (clAt m nx' en' r) i=Zaq m nx' (clAt m nx' en' r) j↔Zaq n nx (clAt n nx en r) (φ i)=Zaq n nx (clAt n nx en r) (φ j);rw[Zb2 hi hj,Zb2 (hφ i hi) (hφ j hj),Zas,Zas,ih hi hj];constructor
  ·rintro⟨h1,h2⟩;refine⟨h1,fun c hc => ?_⟩;have h:=(ih (hst i c hi hc).1 (hst j c hj hc).1).1 (h2 c hc)
   rwa [(hst i c hi hc).2,(hst j c hj hc).2] at h
  rintro⟨h1,h2⟩;refine⟨h1,fun c hc=>(ih (hst i c hi hc).1 (hst j c hj hc).1).2 ?_⟩;rw[(hst i c hi hc).2,(hst j c hj hc).2];exact h2 c hc
theorem Zlu {n m:Nat} {nx nx':Nat→Nat→Nat} {en en':Nat→Bool} (φ:Nat→Nat) (hmn:m≤n) (hφ:∀ i,i<m→φ i<n) (hst:∀ i c,i<m→c<3→nx' i c<m∧φ (nx' i c)=nx (φ i) c) (hen:∀ i,i<m→en' i=en (φ i)) {i j:Nat} (hi:i<m) (hj:j<m) :
  ZdA m nx' en' i=ZdA m nx' en' j↔ZdA n nx en (φ i)=ZdA n nx en (φ j):=by
 have hin:∀ s c,s<m→c<3→nx' s c<m:=fun s c hs hc=>(hst s c hs hc).1
 have hs:=Zfg hin en';have e1:=Zcp hin hs n hmn i hi;have e2:=Zcp hin hs n hmn j hj;show clAt m nx' en' m i=clAt m nx' en' m j↔_;rw[← e1,← e2];exact Zjc φ hφ hst hen n hi hj
def clD (d:DfaD) (s:Nat):Nat:=ZdA d.next.length (nxD d) (enD d) s
def nxM (d:DfaD) (s:Int) (c:Nat):Int:=(clD d (nxD d s.toNat c):Nat)
def minD (d:DfaD):DfaD:=Zam (nxM d) (den d) (bat (nxM d) ((clD d 0:Nat):Int) d.next.length).met
def Zc7 (x:DfaD):DfaD:=⟨(List.range x.next.length).map fun k=>(List.range 3).map fun c=>((clD x (nxD x k c):Nat):Int),x.ends⟩
def Zau (d:DfaD):DfaD:=Za0 (Zc7 (Za0 d))
theorem ZaZ {d:DfaD} (s:Nat) (hs:s<d.next.length):clD d s≤s∧clD d (clD d s)=clD d s:=by have h:=Zfh (n:=d.next.length) (nx:=nxD d) (enD d) d.next.length;exact⟨h.le s hs,h.id s hs⟩
def phiD (d:DfaD) (i:Nat):Nat:=((bat (dnx d) 0 d.next.length).met.getD i 0).toNat
theorem ZfD {d:DfaD} (hd:fine d):fine (Za0 d)∧(Za0 d).next.length≤d.next.length∧(∀ i,i<(Za0 d).next.length→phiD d i<d.next.length) ∧
  (∀ i c,i<(Za0 d).next.length→c<3→nxD (Za0 d) i c<(Za0 d).next.length∧phiD d (nxD (Za0 d) i c)=nxD d (phiD d i) c)∧(∀ i,i<(Za0 d).next.length→enD (Za0 d) i=enD d (phiD d i))∧phiD d 0=0:=by
 obtain⟨h1,h2⟩:=Zb5 hd d.next.length;have hf:=Zex (nx:=dnx d) (a:=(0:Int)) (en:=den d) h2 (by have:=hd.2.1;omega);have hl:(Za0 d).next.length=(bat (dnx d) 0 d.next.length).met.length:=ZaC _ _ _;have hphi:∀ i,i<(bat (dnx d) 0 d.next.length).met.length→(bat (dnx d) 0 d.next.length).met.getD i 0=((phiD d i:Nat):Int)∧phiD d i<d.next.length:=fun i hi=>by obtain⟨a,b⟩:=h1 _ (memD (d:=0) hi);unfold phiD;omega
 refine⟨hf,by rw[hl];exact h2,fun i hi=>(hphi i (by rw[← hl];exact hi)).2,fun i c hi hc => ?_,fun i hi => ?_,?_⟩
 ·have hi':i<(bat (dnx d) 0 d.next.length).met.length:=by rw[← hl];exact hi
  refine⟨(ZbL hf hi hc).1,?_⟩;obtain⟨p1,p2⟩:=hphi i hi';have hn:nxD (Za0 d) i c=Zaj (bat (dnx d) 0 d.next.length).met (dnx d ((bat (dnx d) 0 d.next.length).met.getD i 0) c):=by unfold nxD Za0;rw[ZdQ (a:=(0:Int)) hi',ZeS hc,Int.toNat_natCast]
  have hm:=ZcS (nx:=dnx d) (a:=(0:Int)) h2 (memD (d:=0) hi') hc;rw[hn];unfold phiD;rw[ZiZ hm,p1,(ZbL hd p2 hc).2,Int.toNat_natCast];rfl
 ·have hi':i<(bat (dnx d) 0 d.next.length).met.length:=by rw[← hl];exact hi
  unfold enD Za0 phiD;simp[Zam,hi',den]
 unfold phiD;rw[Zfk];rfl
theorem ZfT {x:DfaD} (hx:fine x):fine (Zc7 x)∧(Zc7 x).next.length=x.next.length∧∀ k c,k<x.next.length→c<3→dnx (Zc7 x) (k:Int) c=((clD x (nxD x k c):Nat):Int):=by
 have hl:(Zc7 x).next.length=x.next.length:=by simp[Zc7]
 have hr:∀ k,k<x.next.length→(Zc7 x).next.getD k []=(List.range 3).map fun c=>((clD x (nxD x k c):Nat):Int):=fun k hk=>by simp[Zc7,hk]
 have hc:∀ k c,k<x.next.length→c<3→((Zc7 x).next.getD k []).getD c 0=((clD x (nxD x k c):Nat):Int):=fun k c hk hc=>by rw[hr k hk];simp[hc]
 refine⟨⟨by rw[hl];exact hx.1,by rw[hl];exact hx.2.1,by rw[hl];exact hx.2.2.1,fun i hi => ?_⟩,hl,fun k c hk h3 => ?_⟩
 ·rw[hl] at hi;refine⟨by rw[hr i hi];simp,fun c h3 => ?_⟩;rw[hc i c hi h3,hl];have h1:=(ZbL hx hi h3).1;have h2:=(ZaZ (nxD x i c) h1).1;omega
 unfold dnx;rw[Int.toNat_natCast];exact hc k c hk h3
theorem ZbI {d:DfaD} (hd:fine d):Zau d=minD d:=by
 obtain⟨hx,hmn,hφ,hst,hen,hφ0⟩:=ZfD hd;obtain⟨x,hxe⟩:=eI (Za0 d);unfold Zau;rw[← hxe] at hx hmn hφ hst hen ⊢;obtain⟨hff,hfl,hfn⟩:=ZfT hx;have hm0:0<x.next.length:=hx.1;have hsim:=fun {i j:Nat} (hi:i<x.next.length) (hj:j<x.next.length)=>Zlu (n:=d.next.length) (m:=x.next.length) (nx:=nxD d) (nx':=nxD x) (en:=enD d) (en':=enD x) (phiD d) hmn hφ hst hen hi hj
 have hdin:∀ s c,s<d.next.length→c<3→nxD d s c<d.next.length:=fun s c hs hc=>(ZbL hd hs hc).1
 have hmet:=(Zb5 hff x.next.length).2;rw[hfl] at hmet;have hbat:bat (dnx (Zc7 x)) 0 d.next.length=bat (dnx (Zc7 x)) 0 x.next.length:=ZbX hmet hmn
 have key:=Zch (nx:=dnx (Zc7 x)) (nx':=nxM d) (a:=(0:Int)) (f:=fun j:Int=>((clD d (phiD d j.toNat):Nat):Int)) (Q:=fun j=>∃ k:Nat,j=(k:Int)∧k<x.next.length∧clD x k=k) (en:=den (Zc7 x)) (en':=den d) (K:=d.next.length)
  ⟨0,rfl,hm0,Nat.le_zero.1 (ZaZ 0 hm0).1⟩ ?_ ?_ ?_ ?_
 ·unfold Za0 minD;rw[hfl,← hbat,← key];have e:((clD d (phiD d (0:Int).toNat):Nat):Int)=((clD d 0:Nat):Int):=by show((clD d (phiD d 0):Nat):Int)=_;rw[hφ0]
  simp only[e]
 ·rintro j c hc ⟨k,rfl,hk,-⟩;rw[hfn k c hk hc];have h1:=(ZbL hx hk hc).1;obtain⟨h2,h3⟩:=ZaZ (nxD x k c) h1;exact⟨_,rfl,by omega,h3⟩
 ·rintro j j' ⟨k,rfl,hk,hr⟩ ⟨k',rfl,hk',hr'⟩ h;simp only[Int.toNat_natCast] at h;have h1:clD d (phiD d k)=clD d (phiD d k'):=by omega
  have h2:clD x k=clD x k':=(hsim hk hk').2 h1;rw[hr,hr'] at h2;rw[h2]
 ·rintro j c hc ⟨k,rfl,hk,-⟩;rw[hfn k c hk hc];obtain⟨h1,-⟩:=ZbL hx hk hc;obtain⟨h2,h3⟩:=ZaZ (nxD x k c) h1;simp only[Int.toNat_natCast,nxM];have a1:clD d (phiD d (clD x (nxD x k c)))=clD d (phiD d (nxD x k c)):=(hsim (by omega) h1).1 h3;rw[a1,(hst k c hk hc).2];obtain⟨h4,h5⟩:=ZaZ (phiD d k) (hφ k hk);have a2:clD d (nxD d (clD d (phiD d k)) c)=clD d (nxD d (phiD d k) c):=ZgT hdin (en:=enD d) (s:=clD d (phiD d k)) (t:=phiD d k) (by have:=hφ k hk;omega) (hφ k hk) h5 c hc;rw[a2]
 rintro j ⟨k,rfl,hk,-⟩;obtain⟨h4,h5⟩:=ZaZ (phiD d k) (hφ k hk);have a:=Zca (n:=d.next.length) (nx:=nxD d) (en:=enD d) (s:=clD d (phiD d k)) (t:=phiD d k) (by have:=hφ k hk;omega) (hφ k hk) h5;simp only[Int.toNat_natCast];show enD d (((clD d (phiD d k):Nat):Int).toNat)=enD x (((k:Nat):Int).toNat);rw[Int.toNat_natCast,Int.toNat_natCast,a,hen k hk]
theorem ZcM (d:DfaD) (s:Int):runD d s []=s:=rfl
theorem Zay (d:DfaD) (s:Int) (c:Nat) (w:List Nat):runD d s (c::w)=runD d (dnx d s c) w:=rfl
theorem ZiK (d:DfaD) (s:Int) (u w:List Nat):runD d s (u++w)=runD d (runD d s u) w:=by simp[runD]
theorem Zbz {c:Nat} {w:List Nat} (h:isW (c::w)):c<3∧isW w:=⟨h c (by simp),fun b hb=>h b (by simp[hb])⟩
theorem Zig:isW []:=fun c hc=>by simp at hc
theorem ZmJ {c:Nat} {w:List Nat} (hc:c<3) (h:isW w):isW (c::w):=fun b hb=>by
 rcases List.mem_cons.1 hb with rfl|hb
 ·exact hc
 exact h b hb
theorem Za6 {d:DfaD} (hd:fine d) {s c:Nat} (hs:s<d.next.length) (hc:c<3):nxD d s c<d.next.length∧dnx d (s:Int) c=((nxD d s c:Nat):Int):=ZbL hd hs hc
theorem Zdd {d:DfaD} (hd:fine d):∀ (w:List Nat) {s:Nat},isW w→s<d.next.length→∃ t:Nat,t<d.next.length∧runD d (s:Int) w=(t:Int)
 | [],s,_,hs=>⟨s,hs,rfl⟩
 | c::w,s,hw,hs=>by obtain⟨h1,h2⟩:=Zbz hw;obtain⟨h3,h4⟩:=Za6 hd hs h1;rw[Zay,h4];exact Zdd hd w h2 h3
theorem ZaF (d:DfaD) (s:Nat):den d (s:Int)=enD d s:=by simp[den,enD]
theorem ZmQ {d:DfaD} (hd:fine d):∀ (w:List Nat) {s t:Nat},isW w→s<d.next.length→t<d.next.length→clD d s=clD d t→den d (runD d (s:Int) w)=den d (runD d (t:Int) w)
 | [],s,t,_,hs,ht,h=>by rw[ZcM,ZcM,ZaF,ZaF];exact Zca hs ht h
 | c::w,s,t,hw,hs,ht,h=>by obtain⟨h1,h2⟩:=Zbz hw;obtain⟨h3,h4⟩:=Za6 hd hs h1;obtain⟨h5,h6⟩:=Za6 hd ht h1;rw[Zay,Zay,h4,h6];exact ZmQ hd w h2 h3 h5 (ZgT (fun s c hs hc=>(Za6 hd hs hc).1) hs ht h c h1)
theorem Zgf {d:DfaD} (hd:fine d):∀ (i:Nat) {s t:Nat},s<d.next.length→t<d.next.length→(∀ w,isW w→den d (runD d (s:Int) w)=den d (runD d (t:Int) w))→clAt d.next.length (nxD d) (enD d) i s=clAt d.next.length (nxD d) (enD d) i t
 | 0,s,t,hs,ht,h=>by
  refine(ZhF hs ht).2 ?_;have:=h [] Zig
  rwa [ZcM,ZcM,ZaF,ZaF] at this
 | i+1,s,t,hs,ht,h=>by
  refine(Zb2 hs ht).2 ((Zas _).2 ⟨Zgf hd i hs ht h,fun c hc => ?_⟩);obtain⟨h3,h4⟩:=Za6 hd hs hc;obtain⟨h5,h6⟩:=Za6 hd ht hc;refine Zgf hd i h3 h5 fun w hw => ?_
  have:=h (c::w) (ZmJ hc hw)
  rwa [Zay,Zay,h4,h6] at this
theorem Zkd {d:DfaD} (hd:fine d) {s t:Nat} (hs:s<d.next.length) (ht:t<d.next.length) (h:∀ w,isW w→den d (runD d (s:Int) w)=den d (runD d (t:Int) w)):clD d s=clD d t:=Zgf hd _ hs ht h
theorem Zcn {d:DfaD} {s:Nat} (hs:s<d.next.length):clD d s<d.next.length:=by have:=(ZaZ (d:=d) s hs).1;omega
theorem Zfe {d:DfaD} (hd:fine d) {s:Nat} (hs:s<d.next.length) {w:List Nat} (hw:isW w):den d (runD d ((clD d s:Nat):Int) w)=den d (runD d (s:Int) w) :=
 ZmQ hd w hw (Zcn hs) hs (ZaZ s hs).2
theorem ZbD {d:DfaD} (hf:fine d) (K:Nat):(∀ x∈(bat (nxM d) ((clD d 0:Nat):Int) K).met,∃ s:Nat,x=(s:Int)∧s<d.next.length∧clD d s=s)∧(bat (nxM d) ((clD d 0:Nat):Int) K).met.length≤d.next.length:=by
 have hl:1≤d.next.length:=hf.1
 have h1:∀ x∈(bat (nxM d) ((clD d 0:Nat):Int) K).met,∃ s:Nat,x=(s:Int)∧s<d.next.length∧clD d s=s:=by
  refine ZbP (Q:=fun x=>∃ s:Nat,x=(s:Int)∧s<d.next.length∧clD d s=s) ?_ (fun x c hc hx => ?_) K
  ·exact⟨clD d 0,rfl,Zcn (by omega),(ZaZ 0 (by omega)).2⟩
  obtain⟨s,rfl,hs,-⟩:=hx;have h2:=(ZbL hf hs hc).1;exact⟨clD d (nxD d s c),by simp[nxM],Zcn h2,(ZaZ _ h2).2⟩
 refine⟨h1,?_⟩;have h2:=ZcQ (ZaY (nx:=nxM d) (a:=((clD d 0:Nat):Int)) K).1 (m:=ZaH d.next.length) (fun x hx=>by obtain⟨s,rfl,hs,-⟩:=h1 x hx;rw[ZbE];exact hs);rw[ZbB] at h2;exact h2
theorem ZkN {d:DfaD} (hd:fine d) {K:Nat} (hK:d.next.length≤K):minD d=Zam (nxM d) (den d) (bat (nxM d) ((clD d 0:Nat):Int) K).met:=by unfold minD;rw[ZbX (ZbD hd _).2 hK]
theorem Zmn {d:DfaD} (hd:fine d):fine (minD d):=Zex (ZbD hd _).2 hd.2.1
theorem Ze9 {d:DfaD} (hd:fine d):∀ (w:List Nat) {s:Nat},isW w→s<d.next.length→∃ t:Nat,t<d.next.length∧w.foldl (nxM d) ((clD d s:Nat):Int)=((clD d t:Nat):Int)∧runD d (s:Int) w=(t:Int)
 | [],s,_,hs=>⟨s,hs,rfl,rfl⟩
 | c::w,s,hw,hs=>by
  obtain⟨h1,h2⟩:=Zbz hw;obtain⟨h3,h4⟩:=Za6 hd hs h1;obtain⟨t,ht,e1,e2⟩:=Ze9 hd w h2 h3;refine⟨t,ht,?_,by rw[Zay,h4];exact e2⟩;have e3:nxM d ((clD d s:Nat):Int) c=((clD d (nxD d s c):Nat):Int):=by unfold nxM;rw[Int.toNat_natCast];congr 1;exact ZgT (fun s c hs hc=>(Za6 hd hs hc).1) (Zcn hs) hs (ZaZ s hs).2 c h1
  rw[List.foldl_cons,e3];exact e1
theorem ZkM {d:DfaD} (hd:fine d) {w:List Nat} (hw:isW w):accD (minD d) w=accD d w:=by unfold minD;rw[ZdE (ZbD hd _).2 hw];obtain⟨t,ht,e1,e2⟩:=Ze9 hd w hw (show 0<d.next.length from hd.1);rw[e1,ZaF];unfold accD;rw[show(0:Int)=((0:Nat):Int) from rfl,e2,ZaF];exact Zca (Zcn ht) ht (ZaZ t ht).2
theorem ZlL {d:DfaD} (hd:fine d) {w:List Nat} (hw:isW w):accD (Za0 d) w=accD d w:=by unfold Za0;rw[ZdE (Zb5 hd _).2 hw];rfl
theorem ZkL {x y:DfaD} (hx:fine x) (hy:fine y) (h:∀ w,isW w→accD x w=accD y w):minD x=minD y:=by
 obtain⟨K,hK⟩:=eI (x.next.length+y.next.length);rw[ZkN hx (show x.next.length≤K by omega),ZkN hy (show y.next.length≤K by omega)];have lx:0<x.next.length:=hx.1;have ly:0<y.next.length:=hy.1
 let nq:Int × Int→Nat→Int × Int:=fun p c=>(nxM x p.1 c,nxM y p.2 c)
 let Q:Int × Int→Prop:=fun p=>∃ s t:Nat,p=((s:Int),(t:Int))∧s<x.next.length∧t<y.next.length∧clD x s=s∧clD y t=t∧∀ w,isW w→den x (runD x (s:Int) w)=den y (runD y (t:Int) w)
 let a:Int × Int:=(((clD x 0:Nat):Int),((clD y 0:Nat):Int))
 have h0:Q a:=⟨clD x 0,clD y 0,rfl,Zcn lx,Zcn ly,(ZaZ 0 lx).2,(ZaZ 0 ly).2,fun w hw=>by rw[Zfe hx lx hw,Zfe hy ly hw];exact h w hw⟩
 have hv:∀ p c,c<3→Q p→Q (nq p c):=by
  rintro p c hc ⟨s,t,rfl,hs,ht,-,-,hr⟩;obtain⟨h3,h4⟩:=Za6 hx hs hc;obtain⟨h5,h6⟩:=Za6 hy ht hc;refine⟨clD x (nxD x s c),clD y (nxD y t c),by simp[nq,nxM],Zcn h3,Zcn h5,(ZaZ _ h3).2,(ZaZ _ h5).2,fun w hw => ?_⟩;rw[Zfe hx h3 hw,Zfe hy h5 hw];have:=hr (c::w) (ZmJ hc hw)
  rwa [Zay,Zay,h4,h6] at this
 have f1:∀ p q,Q p→Q q→p.1=q.1→p=q:=by
  rintro p q ⟨s,t,rfl,hs,ht,-,e1,r1⟩ ⟨s',t',rfl,hs',ht',-,e2,r2⟩ he;simp only[Int.ofNat_inj] at he;subst he;have:=Zkd hy ht ht' fun w hw=>(r1 w hw).symm.trans (r2 w hw)
  rw[e1,e2] at this;rw[this]
 have f2:∀ p q,Q p→Q q→p.2=q.2→p=q:=by
  rintro p q ⟨s,t,rfl,hs,ht,e1,-,r1⟩ ⟨s',t',rfl,hs',ht',e2,-,r2⟩ he;simp only[Int.ofNat_inj] at he;subst he;have:=Zkd hx hs hs' fun w hw=>(r1 w hw).trans (r2 w hw).symm
  rw[e1,e2] at this;rw[this]
 have m1:=Zch (nx:=nq) (nx':=nxM x) (a:=a) (f:=Prod.fst) (Q:=Q) (en:=fun p=>den x p.1) (en':=den x) (K:=K) h0 hv f1 (fun _ _ _ _=>rfl) (fun _ _=>rfl);have m2:=Zch (nx:=nq) (nx':=nxM y) (a:=a) (f:=Prod.snd) (Q:=Q) (en:=fun p=>den x p.1) (en':=den y) (K:=K) h0 hv f2 (fun _ _ _ _=>rfl) (fun p hp=>by obtain⟨s,t,rfl,-,-,-,-,r⟩:=hp;exact(r [] Zig).symm);exact m1.trans m2.symm
theorem Zm6 {d:DfaD} (hd:fine d):minD (minD d)=minD d:=ZkL (Zmn hd) hd fun _ hw=>ZkM hd hw
theorem Zl2 {d:DfaD} (hd:fine d) (ht:Za0 d=d) (hr:∀ s t:Nat,s<d.next.length→t<d.next.length→(∀ w,isW w→den d (runD d (s:Int) w)=den d (runD d (t:Int) w))→s=t):minD d=d:=by
 have hc:∀ s,s<d.next.length→clD d s=s:=fun s hs=>hr _ _ (Zcn hs) hs fun w hw=>Zfe hd hs hw
 have h0:0<d.next.length:=hd.1
 have hb:=Zfl (nx:=dnx d) (nx':=nxM d) (a:=(0:Int)) (Q:=fun x=>∃ s:Nat,x=(s:Int)∧s<d.next.length) ⟨0,rfl,h0⟩ (by
  rintro x c hc ⟨s,rfl,hs⟩;obtain⟨h3,h4⟩:=Za6 hd hs hc;exact⟨_,h4,h3⟩) (by
  rintro x c hc' ⟨s,rfl,hs⟩;obtain⟨h3,h4⟩:=Za6 hd hs hc';unfold nxM;rw[Int.toNat_natCast,hc _ h3,h4]) d.next.length
 refine Eq.trans ?_ ht;unfold minD Za0;rw[hc 0 h0,show((0:Nat):Int)=0 from rfl,← hb];unfold Zam;congr 1;refine List.map_congr_left fun x hx => ?_
 unfold Zai;refine List.map_congr_left fun c hc' => ?_
 obtain⟨h1,-⟩:=Zb5 hd d.next.length;obtain⟨g1,g2⟩:=h1 x hx;obtain⟨s,rfl⟩:=Int.eq_ofNat_of_zero_le g1;obtain⟨h3,h4⟩:=Za6 hd (show s<d.next.length by omega) (List.mem_range.1 hc');unfold nxM;rw[Int.toNat_natCast,hc _ h3,h4]
theorem Zd7 {α:Type} [DecidableEq α] {nx:α→Nat→α} {a:α} {en:α→Bool} {K:Nat} (hK:(bat nx a K).met.length≤K) {i:Nat} (hi:i<(bat nx a K).met.length) {w:List Nat} (hw:isW w) :
  den (Zam nx en (bat nx a K).met) (runD (Zam nx en (bat nx a K).met) (i:Int) w)=en (w.foldl nx ((bat nx a K).met.getD i a)):=by
 obtain⟨h1,h2⟩:=Zh2 (en:=en) hK w hw _ (memD (d:=a) hi);rw[Zew hi (ZaY K).1] at h2;rw[h2,Zin (Za8 h1)];congr 1;exact List.getElem_idxOf _
theorem Zic {d:DfaD} (hd:fine d) {s t:Nat} (hs:s<(minD d).next.length) (ht:t<(minD d).next.length) (h:∀ w,isW w→den (minD d) (runD (minD d) (s:Int) w)=den (minD d) (runD (minD d) (t:Int) w)):s=t:=by
 have hK:=(ZbD hd d.next.length).2;have hin:=(ZbD hd d.next.length).1;have hl:(minD d).next.length=(bat (nxM d) ((clD d 0:Nat):Int) d.next.length).met.length:=ZaC _ _ _;rw[hl] at hs ht;have h1:=hin _ (memD (d:=((clD d 0:Nat):Int)) hs);have h2:=hin _ (memD (d:=((clD d 0:Nat):Int)) ht);obtain⟨p,hp,hpl,hpc⟩:=h1;obtain⟨q,hq,hql,hqc⟩:=h2
 have key:p=q:=by
  rw[← hpc,← hqc];refine Zkd hd hpl hql fun w hw => ?_
  have h3:=h w hw;unfold minD at h3;rw[Zd7 hK hs hw,Zd7 hK ht hw,hp,hq] at h3;have e:=fun (r:Nat) (hr:r<d.next.length) (hc:clD d r=r)=>Ze9 hd w hw hr
  obtain⟨u,hu,u1,u2⟩:=e p hpl hpc;obtain⟨v,hv,v1,v2⟩:=e q hql hqc;rw[hpc] at u1;rw[hqc] at v1;rw[u1,v1,ZaF,ZaF] at h3;rw[u2,v2,ZaF,ZaF,← Zca (Zcn hu) hu (ZaZ u hu).2,h3];exact Zca (Zcn hv) hv (ZaZ v hv).2
 have e1:=Zew hs (ZaY (nx:=nxM d) (a:=((clD d 0:Nat):Int)) d.next.length).1 ((clD d 0:Nat):Int);have e2:=Zew ht (ZaY (nx:=nxM d) (a:=((clD d 0:Nat):Int)) d.next.length).1 ((clD d 0:Nat):Int);rw[hp] at e1;rw[hq,← key] at e2;exact e1.symm.trans e2
theorem Zl1 {d:DfaD} (hd:fine d):Za0 (minD d)=minD d:=ZlJ (ZbD hd _).2
theorem Znu {d:DfaD} (hd:Zaf d.next d.ends=true) {s c:Nat} (hs:s<d.next.length) (hc:c<3):stV 40 (mvs d d.next.length) (2 ^ s) (c:Int)=2 ^ nxD d s c:=by
 have hr:=(ZaE hd hs).2 c hc;unfold stV;rw[Zez (ZbS _ _)];apply ZlA;intro t;rw[Zbi,ZcK,decide_eq_true_eq];constructor
 ·rintro(h|⟨m,hm,h1,h2,h3⟩)
  ·simp at h
  obtain⟨s',c',h4,h5,rfl⟩:=Zc2.1 hm;rw[ZcK,decide_eq_true_eq] at h2;simp only[Int.toNat_natCast] at h2;subst h2;have:c'=c:=by simp only at h1;omega
  subst this;exact h3
 rintro rfl;right;refine⟨_,Zc2.2 ⟨s,c,hs,hc,rfl⟩,rfl,?_,rfl⟩;rw[ZcK];simp
theorem Zk7 (d:DfaD):fstV (ZaM d)=2 ^ 0:=by unfold fstV;rw[show(ZaM d).moves=mvs d d.next.length from rfl,Zez (ZbS _ _)];rfl
theorem Zil {d:DfaD}:∀ {k:Nat} {x:Int},x∈eds d k↔∃ s:Nat,x=(s:Int)∧s<k∧enD d s=true
 | 0,x=>by simp[eds]
 | k+1,x=>by
  have ih:=Zil (d:=d) (k:=k) (x:=x);unfold eds;by_cases h:d.ends.getD k false=true
  ·rw[if_pos h,List.mem_append,ih,List.mem_singleton];constructor
   ·rintro(⟨s,h1,h2,h3⟩|rfl)
    ·exact⟨s,h1,by omega,h3⟩
    exact⟨k,rfl,by omega,h⟩
   rintro⟨s,h1,h2,h3⟩;by_cases hk:s=k
   ·subst hk;exact .inr h1
   exact .inl ⟨s,h1,by omega,h3⟩
  rw[if_neg h,ih];constructor
  ·rintro⟨s,h1,h2,h3⟩;exact⟨s,h1,by omega,h3⟩
  rintro⟨s,h1,h2,h3⟩;by_cases hk:s=k
  ·subst hk;exact absurd h3 h
  exact⟨s,h1,by omega,h3⟩
theorem Zld {d:DfaD} (hd:Zaf d.next d.ends=true) {K:Nat} (hK:d.next.length≤K):detK K (ZaM d)=some (Za0 d):=by
 have hl:=Zae hd;have hf:=ZaB hd;unfold detK;rw[if_pos ⟨Zdg hd,Nat.le_trans (Zm8 hd K) hK⟩];congr 1
 let f:Int→Int × Int:=fun x=>(((2 ^ x.toNat:Nat):Int),0)
 let Q:Int→Prop:=fun x=>∃ s:Nat,x=(s:Int)∧s<d.next.length
 have hm:=Zch (nx:=dnx d) (nx':=nxS (ZaM d)) (a:=(0:Int)) (f:=f) (Q:=Q) (en:=den d) (en':=enS (ZaM d)) (K:=K) ⟨0,rfl,by omega⟩ (by
  rintro x c hc ⟨s,rfl,hs⟩;obtain⟨h3,h4⟩:=Za6 hf hs hc;exact⟨_,h4,h3⟩) (by
  rintro x y ⟨s,rfl,hs⟩ ⟨t,rfl,ht⟩ h;have h1:((2 ^ s:Nat):Int)=((2 ^ t:Nat):Int):=congrArg Prod.fst h;have:s=t:=(Nat.pow_right_inj (show 1<2 by omega)).1 (Int.ofNat_inj.1 h1);rw[this]) (by
  rintro x c hc ⟨s,rfl,hs⟩;obtain⟨h3,h4⟩:=Za6 hf hs hc;simp only[f,h4,nxS,Int.toNat_natCast];rw[show(ZaM d).moves=mvs d d.next.length from rfl,Znu hd hs hc]) (by
  rintro x ⟨s,rfl,hs⟩;rw[ZaF];simp only[f,enS,Int.toNat_natCast];unfold endV;rw[show(ZaM d).ends=eds d d.next.length from rfl,Bool.eq_iff_iff,List.any_eq_true];constructor
  ·rintro⟨x,hx,hb⟩;obtain⟨t,rfl,ht,he⟩:=Zil.1 hx;rw[ZcK,decide_eq_true_eq] at hb;simp only[Int.toNat_natCast] at hb;rw[hb];exact he
  intro he;refine⟨(s:Int),Zil.2 ⟨s,rfl,hs,he⟩,?_⟩;rw[ZcK];simp)
 have h0:f 0=((((fstV (ZaM d):Nat):Int),0):Int × Int):=by rw[Zk7];rfl
 rw[h0] at hm;refine hm.trans ?_;unfold Za0;rw[ZbX (Zb5 hf _).2 hK]
theorem ZkD {d:DfaD} (hd:Zaf d.next d.ends=true) {w:List Nat} (hw:isW w):accS (ZaM d) w=accD d w:=by rw[← Zmp (Zld hd (Nat.le_refl _)) hw,ZlL (ZaB hd) hw]
def cntP:Nat→(List Nat→Bool)→Nat
 | 0,p=>if p []=true then 1 else 0
 | n+1,p=>cntP n (fun w=>p (0::w))+cntP n (fun w=>p (1::w))+cntP n (fun w=>p (2::w))
theorem ZgS:∀ (n:Nat) (p:List Nat→Bool),cntP n p≤3 ^ n
 | 0,p=>by
  show(if p []=true then 1 else 0)≤1
  split<;>omega
 | n+1,p=>by have h0:=ZgS n (fun w=>p (0::w));have h1:=ZgS n (fun w=>p (1::w));have h2:=ZgS n (fun w=>p (2::w));show cntP n (fun w=>p (0::w))+cntP n (fun w=>p (1::w))+cntP n (fun w=>p (2::w))≤_;rw[Nat.pow_succ];omega
theorem ZfU:∀ (n:Nat) {p q:List Nat→Bool},(∀ w,isW w→w.length=n→p w=q w)→cntP n p=cntP n q
 | 0,p,q,h=>by show(if p []=true then 1 else 0)=(if q []=true then 1 else 0);rw[h [] (fun c hc=>by cases hc) rfl]
 | n+1,p,q,h=>by
  have hc:∀ a,a<3→cntP n (fun w=>p (a::w))=cntP n (fun w=>q (a::w)):=fun a ha=>ZfU n fun w hw hl=>h (a::w) (fun c hc=>by
   rcases List.mem_cons.1 hc with rfl|hc
   ·exact ha
   exact hw c hc) (by rw[List.length_cons,hl])
  show cntP n (fun w=>p (0::w))+cntP n (fun w=>p (1::w))+cntP n (fun w=>p (2::w))=cntP n (fun w=>q (0::w))+cntP n (fun w=>q (1::w))+cntP n (fun w=>q (2::w));rw[hc 0 (by omega),hc 1 (by omega),hc 2 (by omega)]
def cntD (d:DfaD) (n:Nat) (s:Int):Nat:=cntP n fun w=>den d (runD d s w)
theorem Zli (d:DfaD) (s:Int):cntD d 0 s=if den d s=true then 1 else 0:=rfl
theorem Zlj (d:DfaD) (n:Nat) (s:Int):cntD d (n+1) s=cntD d n (dnx d s 0)+cntD d n (dnx d s 1)+cntD d n (dnx d s 2):=rfl
theorem Zip (d:DfaD) (n:Nat) (s:Int):cntD d n s≤3 ^ n:=ZgS n _
theorem ZjL {d:DfaD} {n:Nat} {s:Int} (h:n≤30):cntD d n s≤205891132094649:=Nat.le_trans (Zip d n s) (Nat.le_trans (Nat.pow_le_pow_right (by omega) h) (by decide))
end Go.Proofs.Ytfikabecgaappaa
