/-
  Refining classes of states till they stay, plain: the least state of the same class, round by round; it ends.
  No condition: this text speaks of no program.
-/
import Derived.Test.YtncekbbhgipdlaaGreatPs04S9
import Derived.Test.YtncekbbhgipdlaaGreatPs05Det
set_option maxHeartbeats 4000000
set_option maxRecDepth 100000
namespace Go.Proofs.YtncekbbhgipdlaaGreat
section
variable (n:Nat) (nx:Nat→Nat→Nat)
def ZbD (cl:Nat→Nat) (t s:Nat):Bool:=decide (cl t=cl s)&&(List.range 3).all fun c=>decide (cl (nx t c)=cl (nx s c))
theorem Zax {cl:Nat→Nat} {t s:Nat}:ZbD nx cl t s=true↔cl t=cl s∧∀ c,c<3→cl (nx t c)=cl (nx s c):=by simp[ZbD]
theorem ZjQ (cl:Nat→Nat) (s:Nat):ZbD nx cl s s=true:=(Zax nx).2 ⟨rfl,fun _ _=>rfl⟩
theorem Zf7 {cl:Nat→Nat} {t s:Nat} (h:ZbD nx cl t s=true):ZbD nx cl s t=true:=by obtain⟨h1,h2⟩:=(Zax nx).1 h;exact(Zax nx).2 ⟨h1.symm,fun c hc=>(h2 c hc).symm⟩
theorem Zdo {cl:Nat→Nat} {t s r:Nat} (h:ZbD nx cl t s=true) (h':ZbD nx cl s r=true):ZbD nx cl t r=true:=by obtain⟨h1,h2⟩:=(Zax nx).1 h;obtain⟨h3,h4⟩:=(Zax nx).1 h';exact(Zax nx).2 ⟨h1.trans h3,fun c hc=>(h2 c hc).trans (h4 c hc)⟩
def Za8 (p:Nat→Bool):Nat→Nat
 | 0=>0
 | k+1=>if p (Za8 p k)&&decide (Za8 p k<k) then Za8 p k else if p k then k else k+1
end
theorem Zhu (p:Nat→Bool):∀ k,(Za8 p k<k∧p (Za8 p k)=true∧∀ j,j<Za8 p k→p j=false)∨(Za8 p k=k∧∀ j,j<k→p j=false)
 | 0=>Or.inr ⟨rfl,fun j hj=>absurd hj (by omega)⟩
 | k+1=>by
  rcases Zhu p k with⟨h1,h2,h3⟩|⟨h1,h2⟩
  ·left;have e:Za8 p (k+1)=Za8 p k:=by simp[Za8,h1,h2]
   rw[e];exact⟨by omega,h2,h3⟩
  by_cases hp:p k=true
  ·left;have e:Za8 p (k+1)=k:=by simp[Za8,h1,hp]
   rw[e];exact⟨by omega,hp,h2⟩
  right;have e:Za8 p (k+1)=k+1:=by simp[Za8,h1,hp]
  refine⟨e,fun j hj => ?_⟩;by_cases hjk:j=k
  ·subst hjk;simpa using hp
  exact h2 j (by omega)
theorem ZkI {p:Nat→Bool} {k s:Nat} (hs:s<k) (hp:p s=true):Za8 p k≤s∧p (Za8 p k)=true∧∀ j,j<Za8 p k→p j=false:=by
 rcases Zhu p k with⟨h1,h2,h3⟩|⟨h1,h2⟩
 ·refine⟨?_,h2,h3⟩;rcases Nat.lt_or_ge s (Za8 p k) with h|h
  ·rw[h3 s h] at hp;cases hp
  exact h
 rw[h2 s hs] at hp;cases hp
section
variable {n:Nat} {nx:Nat→Nat→Nat}
structure GoodC (n:Nat) (cl:Nat→Nat):Prop where
 le:∀ s,s<n→cl s≤s
 id:∀ s,s<n→cl (cl s)=cl s
def Zan (n:Nat) (nx:Nat→Nat→Nat) (cl:Nat→Nat) (s:Nat):Nat:=Za8 (fun t=>ZbD nx cl t s) n
theorem ZaU {cl:Nat→Nat} {s:Nat} (hs:s<n):Zan n nx cl s≤s∧ZbD nx cl (Zan n nx cl s) s=true∧∀ j,j<Zan n nx cl s→ZbD nx cl j s=false :=
 ZkI hs (ZjQ nx cl s)
theorem ZbH {cl:Nat→Nat} {s t:Nat} (hs:s<n) (ht:t<n):Zan n nx cl s=Zan n nx cl t↔ZbD nx cl s t=true:=by
 obtain⟨a1,a2,a3⟩:=ZaU (nx:=nx) (cl:=cl) hs;obtain⟨b1,b2,b3⟩:=ZaU (nx:=nx) (cl:=cl) ht;constructor
 ·intro h;rw[h] at a2;exact Zdo nx (Zf7 nx a2) b2
 intro h;have h1:¬ Zan n nx cl s<Zan n nx cl t:=fun hlt=>by have:=b3 _ hlt;rw[Zdo nx a2 h] at this;cases this
 have h2:¬ Zan n nx cl t<Zan n nx cl s:=fun hlt=>by have:=a3 _ hlt;rw[Zdo nx b2 (Zf7 nx h)] at this;cases this
 omega
theorem Zd0 {cl:Nat→Nat}:GoodC n (Zan n nx cl):=by refine⟨fun s hs=>(ZaU hs).1,fun s hs => ?_⟩;obtain⟨a1,a2,a3⟩:=ZaU (nx:=nx) (cl:=cl) hs;exact(ZbH (by omega) hs).2 a2
theorem Zll {cl:Nat→Nat} (hg:GoodC n cl) {s:Nat} (hs:s<n) (h:cl s=s):Zan n nx cl s=s:=by obtain⟨a1,a2,a3⟩:=ZaU (nx:=nx) (cl:=cl) hs;have e:=((Zax nx).1 a2).1;have:=hg.le (Zan n nx cl s) (by omega);omega
def reps (n:Nat) (cl:Nat→Nat):Nat:=((List.range n).filter fun s=>decide (cl s=s)).length
theorem Zgb {cl:Nat→Nat} (hg:GoodC n cl) {s:Nat} (hs:s<n) (hne:Zan n nx cl s≠cl s):reps n cl<reps n (Zan n nx cl):=by
 obtain⟨a1,a2,a3⟩:=ZaU (nx:=nx) (cl:=cl) hs;have e:=((Zax nx).1 a2).1;have hr:Zan n nx cl s<n:=by omega
 refine Zdx (a:=Zan n nx cl s) ?_ ?_ (List.mem_range.2 hr) fun x hx h => ?_
 ·have:cl (Zan n nx cl s)≠Zan n nx cl s:=by rw[e];exact fun h=>hne h.symm
  simpa using this
 ·simpa using Zd0.id s hs
 simp only[decide_eq_true_eq] at h ⊢;exact Zll hg (List.mem_range.1 hx) h
theorem ZjS (n:Nat) (cl:Nat→Nat):reps n cl≤n:=by have:=List.length_filter_le (fun s=>decide (cl s=s)) (List.range n);simpa [reps] using this
def clAt (n:Nat) (nx:Nat→Nat→Nat) (en:Nat→Bool):Nat→Nat→Nat
 | 0=>fun s=>Za8 (fun t=>en t==en s) n
 | i+1=>Zan n nx (clAt n nx en i)
theorem ZdC {en:Nat→Bool} {s:Nat} (hs:s<n):clAt n nx en 0 s≤s∧en (clAt n nx en 0 s)=en s∧∀ j,j<clAt n nx en 0 s→en j≠en s:=by
 obtain⟨a,b,c⟩:=ZkI (p:=fun t=>en t==en s) hs (by simp);have b':en (Za8 (fun t=>en t==en s) n)=en s:=by simpa using b
 exact⟨a,b',fun j hj=>by simpa using c j hj⟩
theorem ZhH {en:Nat→Bool} {s t:Nat} (hs:s<n) (ht:t<n):clAt n nx en 0 s=clAt n nx en 0 t↔en s=en t:=by
 obtain⟨a1,a2,a3⟩:=ZdC (nx:=nx) (en:=en) hs;obtain⟨b1,b2,b3⟩:=ZdC (nx:=nx) (en:=en) ht;constructor
 ·intro h;rw[← a2,← b2,h]
 intro h;have h1:¬ clAt n nx en 0 s<clAt n nx en 0 t:=fun hlt=>b3 _ hlt (a2.trans h)
 have h2:¬ clAt n nx en 0 t<clAt n nx en 0 s:=fun hlt=>a3 _ hlt (b2.trans h.symm)
 omega
theorem ZdB (en:Nat→Bool):∀ i,GoodC n (clAt n nx en i)
 | 0=>⟨fun s hs=>(ZdC hs).1,fun s hs=>by obtain⟨a1,a2,a3⟩:=ZdC (nx:=nx) (en:=en) hs;exact(ZhH (by omega) hs).2 a2⟩
 | _+1=>Zd0
def stays (n:Nat) (nx:Nat→Nat→Nat) (en:Nat→Bool) (i:Nat):Prop:=∀ s,s<n→clAt n nx en (i+1) s=clAt n nx en i s
theorem ZhS (en:Nat→Bool):∃ i,i≤n∧stays n nx en i∧∀ j,j<i→¬ stays n nx en j:=by
 have key:∀ k,(∀ j,j<k→¬ stays n nx en j)→k≤reps n (clAt n nx en k):=by
  intro k
  induction k with
  | zero=>intro _;exact Nat.zero_le _
  | succ k ih =>
   intro h;have h1:=ih fun j hj=>h j (by omega)
   have h2:=h k (by omega);have h3:∃ s,s<n∧clAt n nx en (k+1) s≠clAt n nx en k s:=Classical.byContradiction fun hn=>h2 fun s hs=>Classical.byContradiction fun hne=>hn ⟨s,hs,hne⟩
   obtain⟨s,hs,hne⟩:=h3;have:=Zgb (nx:=nx) (ZdB (nx:=nx) en k) hs hne;show k+1≤reps n (Zan n nx (clAt n nx en k));omega
 have hex:∃ i,i≤n∧stays n nx en i:=Classical.byContradiction fun hn=>by
  have:=key (n+1) fun j hj hs=>hn ⟨j,by omega,hs⟩
  have:=ZjS n (clAt n nx en (n+1));omega
 obtain⟨i,hi,hs⟩:=hex
 have key2:∀ k,(∃ j,j<k∧stays n nx en j)→∃ i,i<k∧stays n nx en i∧∀ j,j<i→¬ stays n nx en j:=by
  intro k
  induction k with
  | zero=>rintro⟨j,hj,-⟩;omega
  | succ k ih =>
   rintro⟨j,hj,hs⟩;by_cases h:∃ j,j<k∧stays n nx en j
   ·obtain⟨i,h1,h2⟩:=ih h;exact⟨i,by omega,h2⟩
   have:j=k:=Classical.byContradiction fun hne=>h ⟨j,by omega,hs⟩
   subst this;exact⟨j,by omega,hs,fun i hi hs'=>h ⟨i,hi,hs'⟩⟩
 obtain⟨i',h1,h2⟩:=key2 (n+1) ⟨i,by omega,hs⟩;exact⟨i',by omega,h2⟩
theorem Zdu {p q:Nat→Bool}:∀ {k:Nat},(∀ t,t<k→p t=q t)→Za8 p k=Za8 q k
 | 0,_=>rfl
 | k+1,h=>by
  have ih:=Zdu (k:=k) fun t ht=>h t (by omega)
  have hk:=h k (by omega);unfold Za8;rw[← ih,← hk];by_cases hl:Za8 p k<k
  ·rw[h _ (by omega)]
  simp[hl]
theorem ZiT (hnx:∀ s c,s<n→c<3→nx s c<n) {cl cl':Nat→Nat} (h:∀ s,s<n→cl s=cl' s) {s:Nat} (hs:s<n):Zan n nx cl s=Zan n nx cl' s:=by
 unfold Zan;refine Zdu fun t ht => ?_
 rw[Bool.eq_iff_iff,Zax,Zax,h t ht,h s hs];constructor
 ·rintro⟨h1,h2⟩;exact⟨h1,fun c hc=>by rw[← h _ (hnx t c ht hc),← h _ (hnx s c hs hc)];exact h2 c hc⟩
 rintro⟨h1,h2⟩;exact⟨h1,fun c hc=>by rw[h _ (hnx t c ht hc),h _ (hnx s c hs hc)];exact h2 c hc⟩
theorem Zdj (hnx:∀ s c,s<n→c<3→nx s c<n) {en:Nat→Bool} {i:Nat} (h:stays n nx en i):∀ j,i≤j→∀ s,s<n→clAt n nx en j s=clAt n nx en i s:=by
 intro j
 induction j with
 | zero =>
  intro hj s _;obtain rfl:i=0:=by omega
  rfl
 | succ j ih =>
  intro hj s hs;by_cases hij:i=j+1
  ·subst hij;rfl
  have e:clAt n nx en (j+1) s=Zan n nx (clAt n nx en j) s:=rfl;rw[e,ZiT hnx (ih (by omega)) hs];exact h s hs
def ZeE (n:Nat) (nx:Nat→Nat→Nat) (en:Nat→Bool):Nat→Nat:=clAt n nx en n
theorem Zk5 (hnx:∀ s c,s<n→c<3→nx s c<n) {en:Nat→Bool} {i:Nat} (hi:i≤n) (h:stays n nx en i) {s:Nat} (hs:s<n):ZeE n nx en s=clAt n nx en i s:=Zdj hnx h n hi s hs
theorem ZgU (hnx:∀ s c,s<n→c<3→nx s c<n) (en:Nat→Bool):stays n nx en n:=by obtain⟨i,hi,hs,-⟩:=ZhS (n:=n) (nx:=nx) en;intro s hsn;rw[Zdj hnx hs (n+1) (by omega) s hsn,Zdj hnx hs n hi s hsn]
theorem Zix (hnx:∀ s c,s<n→c<3→nx s c<n) {en:Nat→Bool} {s t:Nat} (hs:s<n) (ht:t<n):ZeE n nx en s=ZeE n nx en t→∀ c,c<3→ZeE n nx en (nx s c)=ZeE n nx en (nx t c):=by
 intro h;have h1:=ZgU hnx en;have h2:Zan n nx (ZeE n nx en) s=Zan n nx (ZeE n nx en) t:=by have a:=h1 s hs;have b:=h1 t ht;exact a.trans (h.trans b.symm)
 exact((Zax nx).1 ((ZbH hs ht).1 h2)).2
theorem Zjx {en:Nat→Bool}:∀ (i:Nat) {s t:Nat},s<n→t<n→clAt n nx en i s=clAt n nx en i t→en s=en t
 | 0,_,_,hs,ht,h=>(ZhH hs ht).1 h
 | i+1,_,_,hs,ht,h=>Zjx i hs ht ((Zax nx).1 ((ZbH hs ht).1 h)).1
theorem ZcX {en:Nat→Bool} {s t:Nat} (hs:s<n) (ht:t<n) (h:ZeE n nx en s=ZeE n nx en t):en s=en t:=Zjx n hs ht h
end
end Go.Proofs.YtncekbbhgipdlaaGreat
namespace Go.Proofs.YtncekbbhgipdlaaGreat
open Go.RowKit
section
variable {α β:Type} [DecidableEq α] [DecidableEq β] {nx:α→Nat→α} {nx':β→Nat→β} {a:α} {f:α→β} {Q:α→Prop}
theorem Zjy (hv:∀ x c,c<3→Q x→Q (nx x c)) (hf:∀ x y,Q x→Q y→f x=f y→x=y) (hn:∀ x c,c<3→Q x→f (nx x c)=nx' (f x) c) {x:α} (hx:Q x) (wd:List Nat) {s:Bs α} (hs:∀ y∈s.met,Q y) :
  ∀ n,n≤3→brow nx' (f x) wd ⟨s.met.map f,s.words⟩ n=⟨(brow nx x wd s n).met.map f,(brow nx x wd s n).words⟩∧∀ y∈(brow nx x wd s n).met,Q y
 | 0,_=>⟨rfl,hs⟩
 | n+1,hn3=>by
  obtain⟨h1,h2⟩:=Zjy hv hf hn hx wd hs n (by omega);have hq:=hv x n (by omega) hx
  have hm:nx' (f x) n∈(brow nx x wd s n).met.map f↔nx x n∈(brow nx x wd s n).met:=by
   rw[← hn x n (by omega) hx];constructor
   ·intro h;obtain⟨y,hy,e⟩:=List.mem_map.1 h;rw[← hf _ _ (h2 y hy) hq e];exact hy
   exact fun h=>List.mem_map.2 ⟨_,h,rfl⟩
  have e:brow nx' (f x) wd ⟨s.met.map f,s.words⟩ (n+1)=bvisit nx' (f x) wd (brow nx' (f x) wd ⟨s.met.map f,s.words⟩ n) n:=rfl;have e2:brow nx x wd s (n+1)=bvisit nx x wd (brow nx x wd s n) n:=rfl;rw[e,e2,h1];unfold bvisit;by_cases h:nx x n∈(brow nx x wd s n).met
  ·rw[if_pos h,if_pos (hm.2 h)];exact⟨rfl,h2⟩
  rw[if_neg h,if_neg (fun h2=>h (hm.1 h2))];refine⟨by simp[hn x n (by omega) hx],fun y hy => ?_⟩;simp only[List.mem_append,List.mem_singleton] at hy;rcases hy with hy|rfl
  ·exact h2 y hy
  exact hq
theorem Zlc (h0:Q a) (hv:∀ x c,c<3→Q x→Q (nx x c)) (hf:∀ x y,Q x→Q y→f x=f y→x=y) (hn:∀ x c,c<3→Q x→f (nx x c)=nx' (f x) c):∀ k,bat nx' (f a) k=⟨(bat nx a k).met.map f,(bat nx a k).words⟩
 | 0=>rfl
 | k+1=>by
  have ih:=Zlc h0 hv hf hn k;have hl:(bat nx' (f a) k).met.length=(bat nx a k).met.length:=by rw[ih];simp
  by_cases h:k<(bat nx a k).met.length
  ·rw[ZaP h,ZaP (by rw[hl];exact h)];unfold bpart;rw[ih];have hx:((bat nx a k).met.map f).getD k (f a)=f ((bat nx a k).met.getD k a):=by simp[h]
   simp only[hx];exact(Zjy hv hf hn (Zce h0 hv k _ (memD h)) _ (Zce h0 hv k) 3 (by omega)).1
  rw[Zbx (by omega),Zbx (by omega),ih]
theorem Zgf {L:List α} {x:α} (hf:∀ y∈L,f y=f x→y=x):Zai (L.map f) (f x)=Zai L x:=by
 unfold Zai
 induction L with
 | nil=>rfl
 | cons y l ih =>
  have h1:=hf y (by simp);have h2:=ih fun z hz=>hf z (by simp[hz])
  simp only[List.map_cons,List.idxOf_cons];by_cases h:y=x
  ·subst h;simp
  have:f y≠f x:=fun e=>h (h1 e)
  have e1:(f y==f x)=false:=by simpa using this
  have e2:(y==x)=false:=by simpa using h
  rw[e1,e2];simp[h2]
theorem Zd4 {en:α→Bool} {en':β→Bool} {K:Nat} (h0:Q a) (hv:∀ x c,c<3→Q x→Q (nx x c)) (hf:∀ x y,Q x→Q y→f x=f y→x=y) (hn:∀ x c,c<3→Q x→f (nx x c)=nx' (f x) c) (he:∀ x,Q x→en' (f x)=en x) :
  Zat nx' en' (bat nx' (f a) K).met=Zat nx en (bat nx a K).met:=by
 have hm:=congrArg Bs.met (Zlc h0 hv hf hn K);simp only at hm;have hq:=Zce h0 hv K;rw[hm];unfold Zat
 have e1:((bat nx a K).met.map f).map (Zaf nx' ((bat nx a K).met.map f))=(bat nx a K).met.map (Zaf nx (bat nx a K).met):=by
  rw[List.map_map];refine List.map_congr_left fun x hx => ?_
  unfold Zaf;refine List.map_congr_left fun c hc => ?_
  have hc3:c<3:=List.mem_range.1 hc;rw[← hn x c hc3 (hq x hx),Zgf fun y hy e=>hf _ _ (hq y hy) (hv x c hc3 (hq x hx)) e]
 have e2:((bat nx a K).met.map f).map en'=(bat nx a K).met.map en:=by rw[List.map_map];exact List.map_congr_left fun x hx=>he x (hq x hx)
 rw[e1,e2]
end
theorem Zk6 {n m:Nat} {nx nx':Nat→Nat→Nat} {en en':Nat→Bool} (φ:Nat→Nat) (hφ:∀ i,i<m→φ i<n) (hst:∀ i c,i<m→c<3→nx' i c<m∧φ (nx' i c)=nx (φ i) c) (hen:∀ i,i<m→en' i=en (φ i)) :
  ∀ (r:Nat) {i j:Nat},i<m→j<m→(clAt m nx' en' r i=clAt m nx' en' r j↔clAt n nx en r (φ i)=clAt n nx en r (φ j))
 | 0,i,j,hi,hj=>by rw[ZhH hi hj,ZhH (hφ i hi) (hφ j hj),hen i hi,hen j hj]
 | r+1,i,j,hi,hj=>by
  have ih:=fun {i j:Nat} (hi:i<m) (hj:j<m)=>Zk6 φ hφ hst hen r hi hj
  show Zan m nx' (clAt m nx' en' r) i=Zan m nx' (clAt m nx' en' r) j↔Zan n nx (clAt n nx en r) (φ i)=Zan n nx (clAt n nx en r) (φ j);rw[ZbH hi hj,ZbH (hφ i hi) (hφ j hj),Zax,Zax,ih hi hj];constructor
  ·rintro⟨h1,h2⟩;refine⟨h1,fun c hc => ?_⟩;have h:=(ih (hst i c hi hc).1 (hst j c hj hc).1).1 (h2 c hc)
   rwa [(hst i c hi hc).2,(hst j c hj hc).2] at h
  rintro⟨h1,h2⟩;refine⟨h1,fun c hc=>(ih (hst i c hi hc).1 (hst j c hj hc).1).2 ?_⟩;rw[(hst i c hi hc).2,(hst j c hj hc).2];exact h2 c hc
theorem ZnA {n m:Nat} {nx nx':Nat→Nat→Nat} {en en':Nat→Bool} (φ:Nat→Nat) (hmn:m≤n) (hφ:∀ i,i<m→φ i<n) (hst:∀ i c,i<m→c<3→nx' i c<m∧φ (nx' i c)=nx (φ i) c) (hen:∀ i,i<m→en' i=en (φ i)) {i j:Nat} (hi:i<m) (hj:j<m) :
  ZeE m nx' en' i=ZeE m nx' en' j↔ZeE n nx en (φ i)=ZeE n nx en (φ j):=by
 have hin:∀ s c,s<m→c<3→nx' s c<m:=fun s c hs hc=>(hst s c hs hc).1
 have hs:=ZgU hin en';have e1:=Zdj hin hs n hmn i hi;have e2:=Zdj hin hs n hmn j hj;show clAt m nx' en' m i=clAt m nx' en' m j↔_;rw[← e1,← e2];exact Zk6 φ hφ hst hen n hi hj
def clD (d:DfaD) (s:Nat):Nat:=ZeE d.next.length (nxD d) (enD d) s
def nxM (d:DfaD) (s:Int) (c:Nat):Int:=(clD d (nxD d s.toNat c):Nat)
def minD (d:DfaD):DfaD:=Zat (nxM d) (den d) (bat (nxM d) ((clD d 0:Nat):Int) d.next.length).met
def ZcM (x:DfaD):DfaD:=⟨(List.range x.next.length).map fun k=>(List.range 3).map fun c=>((clD x (nxD x k c):Nat):Int),x.ends⟩
def Zak (d:DfaD):DfaD:=Zbc (ZcM (Zbc d))
theorem Zbl {d:DfaD} (s:Nat) (hs:s<d.next.length):clD d s≤s∧clD d (clD d s)=clD d s:=by have h:=ZdB (n:=d.next.length) (nx:=nxD d) (enD d) d.next.length;exact⟨h.le s hs,h.id s hs⟩
def phiD (d:DfaD) (i:Nat):Nat:=((bat (dnx d) 0 d.next.length).met.getD i 0).toNat
theorem Zhf {d:DfaD} (hd:fine d):fine (Zbc d)∧(Zbc d).next.length≤d.next.length∧(∀ i,i<(Zbc d).next.length→phiD d i<d.next.length) ∧
  (∀ i c,i<(Zbc d).next.length→c<3→nxD (Zbc d) i c<(Zbc d).next.length∧phiD d (nxD (Zbc d) i c)=nxD d (phiD d i) c)∧(∀ i,i<(Zbc d).next.length→enD (Zbc d) i=enD d (phiD d i))∧phiD d 0=0:=by
 obtain⟨h1,h2⟩:=Zb7 hd d.next.length;have hf:=ZfS (nx:=dnx d) (a:=(0:Int)) (en:=den d) h2 (by have:=hd.2.1;omega);have hl:(Zbc d).next.length=(bat (dnx d) 0 d.next.length).met.length:=ZaS _ _ _;have hphi:∀ i,i<(bat (dnx d) 0 d.next.length).met.length→(bat (dnx d) 0 d.next.length).met.getD i 0=((phiD d i:Nat):Int)∧phiD d i<d.next.length:=fun i hi=>by obtain⟨a,b⟩:=h1 _ (memD (d:=0) hi);unfold phiD;omega
 refine⟨hf,by rw[hl];exact h2,fun i hi=>(hphi i (by rw[← hl];exact hi)).2,fun i c hi hc => ?_,fun i hi => ?_,?_⟩
 ·have hi':i<(bat (dnx d) 0 d.next.length).met.length:=by rw[← hl];exact hi
  refine⟨(ZbV hf hi hc).1,?_⟩;obtain⟨p1,p2⟩:=hphi i hi';have hn:nxD (Zbc d) i c=Zai (bat (dnx d) 0 d.next.length).met (dnx d ((bat (dnx d) 0 d.next.length).met.getD i 0) c):=by unfold nxD Zbc;rw[ZeU (a:=(0:Int)) hi',Zgl hc,Int.toNat_natCast]
  have hm:=ZdO (nx:=dnx d) (a:=(0:Int)) h2 (memD (d:=0) hi') hc;rw[hn];unfold phiD;rw[Zim hm,p1,(ZbV hd p2 hc).2,Int.toNat_natCast];rfl
 ·have hi':i<(bat (dnx d) 0 d.next.length).met.length:=by rw[← hl];exact hi
  unfold enD Zbc phiD;simp[Zat,hi',den]
 unfold phiD;rw[ZgX];rfl
theorem ZhB {x:DfaD} (hx:fine x):fine (ZcM x)∧(ZcM x).next.length=x.next.length∧∀ k c,k<x.next.length→c<3→dnx (ZcM x) (k:Int) c=((clD x (nxD x k c):Nat):Int):=by
 have hl:(ZcM x).next.length=x.next.length:=by simp[ZcM]
 have hr:∀ k,k<x.next.length→(ZcM x).next.getD k []=(List.range 3).map fun c=>((clD x (nxD x k c):Nat):Int):=fun k hk=>by simp[ZcM,hk]
 have hc:∀ k c,k<x.next.length→c<3→((ZcM x).next.getD k []).getD c 0=((clD x (nxD x k c):Nat):Int):=fun k c hk hc=>by rw[hr k hk];simp[hc]
 refine⟨⟨by rw[hl];exact hx.1,by rw[hl];exact hx.2.1,by rw[hl];exact hx.2.2.1,fun i hi => ?_⟩,hl,fun k c hk h3 => ?_⟩
 ·rw[hl] at hi;refine⟨by rw[hr i hi];simp,fun c h3 => ?_⟩;rw[hc i c hi h3,hl];have h1:=(ZbV hx hi h3).1;have h2:=(Zbl (nxD x i c) h1).1;omega
 unfold dnx;rw[Int.toNat_natCast];exact hc k c hk h3
theorem Zct {d:DfaD} (hd:fine d):Zak d=minD d:=by
 obtain⟨hx,hmn,hφ,hst,hen,hφ0⟩:=Zhf hd;obtain⟨x,hxe⟩:=eI (Zbc d);unfold Zak;rw[← hxe] at hx hmn hφ hst hen ⊢;obtain⟨hff,hfl,hfn⟩:=ZhB hx;have hm0:0<x.next.length:=hx.1;have hsim:=fun {i j:Nat} (hi:i<x.next.length) (hj:j<x.next.length)=>ZnA (n:=d.next.length) (m:=x.next.length) (nx:=nxD d) (nx':=nxD x) (en:=enD d) (en':=enD x) (phiD d) hmn hφ hst hen hi hj
 have hdin:∀ s c,s<d.next.length→c<3→nxD d s c<d.next.length:=fun s c hs hc=>(ZbV hd hs hc).1
 have hmet:=(Zb7 hff x.next.length).2;rw[hfl] at hmet;have hbat:bat (dnx (ZcM x)) 0 d.next.length=bat (dnx (ZcM x)) 0 x.next.length:=ZbT hmet hmn
 have key:=Zd4 (nx:=dnx (ZcM x)) (nx':=nxM d) (a:=(0:Int)) (f:=fun j:Int=>((clD d (phiD d j.toNat):Nat):Int)) (Q:=fun j=>∃ k:Nat,j=(k:Int)∧k<x.next.length∧clD x k=k) (en:=den (ZcM x)) (en':=den d) (K:=d.next.length)
  ⟨0,rfl,hm0,Nat.le_zero.1 (Zbl 0 hm0).1⟩ ?_ ?_ ?_ ?_
 ·unfold Zbc minD;rw[hfl,← hbat,← key];have e:((clD d (phiD d (0:Int).toNat):Nat):Int)=((clD d 0:Nat):Int):=by show((clD d (phiD d 0):Nat):Int)=_;rw[hφ0]
  simp only[e]
 ·rintro j c hc ⟨k,rfl,hk,-⟩;rw[hfn k c hk hc];have h1:=(ZbV hx hk hc).1;obtain⟨h2,h3⟩:=Zbl (nxD x k c) h1;exact⟨_,rfl,by omega,h3⟩
 ·rintro j j' ⟨k,rfl,hk,hr⟩ ⟨k',rfl,hk',hr'⟩ h;simp only[Int.toNat_natCast] at h;have h1:clD d (phiD d k)=clD d (phiD d k'):=by omega
  have h2:clD x k=clD x k':=(hsim hk hk').2 h1;rw[hr,hr'] at h2;rw[h2]
 ·rintro j c hc ⟨k,rfl,hk,-⟩;rw[hfn k c hk hc];obtain⟨h1,-⟩:=ZbV hx hk hc;obtain⟨h2,h3⟩:=Zbl (nxD x k c) h1;simp only[Int.toNat_natCast,nxM];have a1:clD d (phiD d (clD x (nxD x k c)))=clD d (phiD d (nxD x k c)):=(hsim (by omega) h1).1 h3;rw[a1,(hst k c hk hc).2];obtain⟨h4,h5⟩:=Zbl (phiD d k) (hφ k hk);have a2:clD d (nxD d (clD d (phiD d k)) c)=clD d (nxD d (phiD d k) c):=Zix hdin (en:=enD d) (s:=clD d (phiD d k)) (t:=phiD d k) (by have:=hφ k hk;omega) (hφ k hk) h5 c hc;rw[a2]
 rintro j ⟨k,rfl,hk,-⟩;obtain⟨h4,h5⟩:=Zbl (phiD d k) (hφ k hk);have a:=ZcX (n:=d.next.length) (nx:=nxD d) (en:=enD d) (s:=clD d (phiD d k)) (t:=phiD d k) (by have:=hφ k hk;omega) (hφ k hk) h5;simp only[Int.toNat_natCast];show enD d (((clD d (phiD d k):Nat):Int).toNat)=enD x (((k:Nat):Int).toNat);rw[Int.toNat_natCast,Int.toNat_natCast,a,hen k hk]
def clsL (n:Nat) (cl:Nat→Nat):List Int:=(List.range n).map fun s=>(cl s:Int)
theorem Zbw (n:Nat) (cl:Nat→Nat):(clsL n cl).length=n:=by simp[clsL]
theorem Ziw {n s:Nat} (cl:Nat→Nat) (h:s<n):(clsL n cl).getD s 0=(cl s:Int):=by simp[clsL,h]
def ZdZ (d:DfaD) (cl:Nat→Nat) (s o:Nat) (k:Nat):Bool:=(List.range k).all fun c=>decide (cl (nxD d s c)=cl (nxD d o c))
theorem Zhm (d:DfaD) (cl:Nat→Nat) (s o k:Nat):ZdZ d cl s o (k+1)=(ZdZ d cl s o k&&decide (cl (nxD d s k)=cl (nxD d o k))):=by unfold ZdZ;rw[List.range_succ,List.all_append];simp
theorem Zn6 {d:DfaD} {cl:Nat→Nat} {s o k:Nat} (hk:k<3) (h:cl (nxD d s k)≠cl (nxD d o k)):ZdZ d cl s o 3=false:=by
 cases he:ZdZ d cl s o 3 with
 | false=>rfl
 | true =>have:=List.all_eq_true.1 he k (List.mem_range.2 hk);exact absurd (by simpa using this) h
theorem ZjP (d:DfaD) (cl:Nat→Nat) (s o:Nat) (dv cv:Value) (w:World) (hd:Zah d.next d.ends=true) (hs:s<d.next.length) (ho:o<d.next.length) (hcl:∀ t,t<d.next.length→cl t<d.next.length) (h:DfaR 0 w dv d) (hc:Ints 0 w cv (clsL d.next.length cl)) (r:Bool) (hr:ZdZ d cl s o 3=r) :
  Calls Tryz.prog 139 #[dv,cv,.int .i64 s,.int .i64 o] w fun e w'=>e = .returned (.bool r)∧Below w.heap.size w w':=by
 obtain⟨v1,v2,rfl,q1,q2⟩:=h;have hf:=ZaJ hd;obtain⟨L,hL⟩:=eI (d.next.length);obtain⟨hl1,hl2,-⟩:=Zaj hd;have hrow:=fun (i:Nat) (hi:i<d.next.length)=>(ZaV hd hi).1
 have hnx:=fun (i c:Nat) (hi:i<d.next.length) (h3:c<3)=>(ZbV hf hi h3)
 obtain⟨av,cvv,rfl,hc1,hc2,hr1⟩:=q1.formI;obtain⟨b1,o1,rfl,-,hb1,hcs1⟩:=hr1 (by omega);obtain⟨ac,cc,rfl,hc3,hc4,hr2⟩:=hc.form;rw[Zbw] at hc3 hr2;rw[Zbw];obtain⟨b2,o2,rfl,-,hb2,hcs2⟩:=hr2 (by omega);have hcell:∀ t,t<d.next.length→w.cell? ⟨b2,o2+t,none⟩=some (.int .i64 (cl t:Nat)):=fun t ht=>by rw[hcs2 t ht,Ziw cl ht]
 obtain⟨ax,cs,hks,-,-,hIs⟩:=hcs1 s hs;obtain⟨ao,co,hko,-,-,hIo⟩:=hcs1 o ho;rw[hrow s hs] at hks hIs;rw[hrow o ho] at hko hIo;obtain⟨_,_,hform,-,-,hrs⟩:=hIs.form;rw[hrow s hs] at hform hrs;simp only[Value.slice.injEq,true_and] at hform;obtain⟨rfl,rfl⟩:=hform;obtain⟨b3,o3,rfl,-,hb3,hcs3⟩:=hrs (by omega);obtain⟨_,_,hform,-,-,hro⟩:=hIo.form;rw[hrow o ho] at hform hro;simp only[Value.slice.injEq,true_and] at hform;obtain⟨rfl,rfl⟩:=hform;obtain⟨b4,o4,rfl,-,hb4,hcs4⟩:=hro (by omega)
 have hval:∀ i c,i<d.next.length→c<3→(d.next.getD i []).getD c 0=((nxD d i c:Nat):Int):=fun i c hi h3=>by
  have:=(hnx i c hi h3).2;unfold dnx at this
  rwa [Int.toNat_natCast] at this
 have hS0:=(St.start w).alloc _ rfl #[.slice (some ⟨b1,o1,none⟩) d.next.length cvv,v2] 44;have Hnx:=qh hnx;have Hval:=qh hval;have Hcell:=qh hcell;have Hks:=qh hks;have Hko:=qh hko;have Hcs3:=qh hcs3;have Hcs4:=qh hcs4;have Hcl:=qh hcl;rw[← hL] at hs ho hl1 hl2 hS0;rw[← hL];have hsI:(s:Int)<L:=by omega
 have hoI:(o:Int)<L:=by omega
 replace hS0:=qh hS0;have Hhr:=qh hr;clear hr;replace hL:=qh hL;clear hnx hval hcell hks hko hcs3 hcs4 hcl hcs1 hcs2 hr1 hr2 hrs hro hIs hIo q1 q2 hc hd hrow hf
 go_enter Tryz.func139, Tryz.ntmps139
 go_wp2
 go_loopw [10] (fun i wr=>∃ k:Nat,i = .int .i64 k∧k≤3∧ZdZ d cl s o k=true∧St w wr [Ent.box w.heap.size #[.slice (some ⟨b1,o1,none⟩) L cvv,v2] 44]) (fun i _=>3-(intOf i).toNat)
 case atStart=>exact⟨0,rfl,by omega,rfl,hS0.out⟩
 case round =>
  obtain⟨k,rfl,hk,hsm,hS⟩:=hrel;by_cases hlt:k<3
  ·have hlt2:(k:Int)<3:=by omega
   have hsn:s<d.next.length:=by have:=hL.out;omega
   have hon:o<d.next.length:=by have:=hL.out;omega
   have h1:=(Hnx.out s k hsn hlt).1;have h2:=(Hnx.out o k hon hlt).1;have e0:=hS.cell (v:=.slice (some ⟨b1,o1,none⟩) L cvv) 0 0 rfl rfl;have e1:=(bcell hS.bel b1 _ hb1).trans Hks.out;have e2:=(bcell hS.bel b1 _ hb1).trans Hko.out;have e3:=(bcell hS.bel b3 _ hb3).trans (Hcs3.out k hlt);have e4:=(bcell hS.bel b4 _ hb4).trans (Hcs4.out k hlt);rw[Hval.out s k hsn hlt] at e3;rw[Hval.out o k hon hlt] at e4;have e5:=(bcell hS.bel b2 _ hb2).trans (Hcell.out _ h1);have e6:=(bcell hS.bel b2 _ hb2).trans (Hcell.out _ h2);have hsucc:=Zhm d cl s o k;obtain⟨p,hp⟩:=eI (nxD d s k);obtain⟨q,hq⟩:=eI (nxD d o k);rw[← hp] at h1 e3 e5 hsucc;rw[← hq] at h2 e4 e6 hsucc;rw[hsm,Bool.true_and] at hsucc;rw[← hL.out] at h1 h2;have hpI:(p:Int)<L:=by omega
   have hqI:(q:Int)<L:=by omega
   have Hhp:=qh hp;clear hp;have Hhq:=qh hq;clear hq;have HhS:=qh hS;clear hS;have Hhsm:=qh hsm;clear hsm;have Hhsucc:=qh hsucc;clear hsucc;clear h1 h2 hsn hon;by_cases he:cl p=cl q
   ·have heI:((cl p:Int) != (cl q:Int))=false:=by rw[he];simp
    have heI2:((cl p:Int)=(cl q:Int))=True:=by simp[he]
    have heI3:(!((cl p:Int)==(cl q:Int)))=false:=by rw[he];simp
    have Hhe:=qh he;clear he;go_wp2
    go_quiet (fail)
    go_wp2;go_roundw
    case rel=>exact⟨k+1,by go_num,by omega,by rw[Hhsucc.out];simp[Hhe.out],HhS.out.drewN _⟩
    case measure=>simp[intOf];omega
   have heI:((cl p:Int) != (cl q:Int))=true:=by simp;omega
   have heI2:((cl p:Int)=(cl q:Int))=False:=by simp;omega
   have heI3:(!((cl p:Int)==(cl q:Int)))=true:=by simp;omega
   have Hhe:=qh he;clear he;go_wp2
   go_quiet (fail)
   go_wp2;go_ret;have hrf:false=r:=by rw[← Hhr.out];exact(Zn6 hlt (by rw[← Hhp.out,← Hhq.out];exact Hhe.out)).symm
   subst hrf;exact⟨rfl,(HhS.out.drewN _).bel⟩
  obtain rfl:k=3:=by omega
  have hrt:true=r:=by rw[← Hhr.out,hsm]
  subst hrt;have HhS:=qh hS;clear hS;have Hhsm:=qh hsm;clear hsm;go_wp2;go_ret;exact⟨rfl,HhS.out.bel⟩
def ZcS (l:List Int) (x:Int):Int:=if x∈l then((l.idxOf x:Nat):Int) else -1
theorem Zi2 {l:List Int} {x:Int} {k:Nat} (hk:k<l.length) (hn:x ∉ l.take k) (h:l.getD k 0=x):ZcS l x=(k:Int):=by
 have hx:l[k]=x:=by simpa [hk] using h
 have hm:x∈l:=by rw[← hx];exact List.getElem_mem hk
 unfold ZcS;rw[if_pos hm];have e:l=l.take k++(x::l.drop (k+1)):=by rw[← hx,List.getElem_cons_drop,List.take_append_drop]
 have:l.idxOf x=k:=by rw[e,List.idxOf_append,if_neg hn];simp;omega
 rw[this]
theorem Zhw (l:List Int) (x:Int) (v:Value) (w:World) (hl:l.length≤1000000) (h:Ints 0 w v l) :
  Calls Tryz.prog 128 #[v,.int .i64 x] w fun e w'=>e = .returned (.int .i64 (ZcS l x))∧Below w.heap.size w w':=by
 obtain⟨a,c,rfl,hc1,hc2,hr⟩:=h.form;have Hr:=qh hr;clear hr h
 go_enter Tryz.func128, Tryz.ntmps128
 go_wp2
 go_loopw [5] (fun i wr=>∃ k:Nat,i = .int .i64 k∧k≤l.length∧x ∉ l.take k∧Below w.heap.size w wr) (fun i _=>l.length-(intOf i).toNat)
 case atStart=>exact⟨0,rfl,Nat.zero_le _,by simp,Below.refl _ _⟩
 case round =>
  obtain⟨k,rfl,hk,hn,hb⟩:=hrel;by_cases hlt:k<l.length
  ·have hlt2:(k:Int)<l.length:=by omega
   obtain⟨b,o,rfl,-,hbl,hcs⟩:=Hr.out (by omega);have k1:=(bcell hb b _ hbl).trans (hcs k hlt);have htk:l.take (k+1)=l.take k++[l.getD k 0]:=by rw[List.take_succ_eq_append_getElem hlt];simp[hlt]
   obtain⟨y,hy⟩:=eI (l.getD k 0);rw[← hy] at k1 htk;replace hy:=qh hy;replace hb:=qh hb;have Hhtk:=qh htk;clear htk;clear hcs;by_cases he:y=x
   ·subst he;have hnm:ZcS l y=(k:Int):=Zi2 hlt hn hy.out.symm;have Hhn:=qh hn;clear hn;have Hhnm:=qh hnm;clear hnm;go_wp2;go_ret;refine⟨?_,hb.out⟩;rw[Hhnm.out];rfl
   have he2:(y=x)=False:=by simp[he]
   have he3:(y==x)=false:=by simpa using he
   have Hhn:=qh hn;clear hn;have Hhe:=qh he;clear he;go_wp2;go_roundw
   case rel=>exact⟨k+1,by go_num,by omega,by rw[Hhtk.out];simp only[List.mem_append,List.mem_singleton,not_or];exact⟨Hhn.out,fun e=>Hhe.out e.symm⟩,hb.out⟩
   case measure=>simp[intOf];omega
  obtain rfl:k=l.length:=by omega
  rw[List.take_length] at hn;have hnm:ZcS l x = -1:=by unfold ZcS;rw[if_neg hn]
  have Hhn:=qh hn;clear hn;replace hb:=qh hb;have Hhnm:=qh hnm;clear hnm;go_wp2;go_ret;refine⟨?_,hb.out⟩;rw[Hhnm.out];rfl
section
variable {n:Nat} {nx:Nat→Nat→Nat}
def clR (n:Nat) (nx:Nat→Nat→Nat) (en:Nat→Bool):Nat→Nat→Nat
 | 0=>fun s=>if en s=true then 1 else 0
 | i+1=>Zan n nx (clR n nx en i)
theorem ZjT (hnx:∀ s c,s<n→c<3→nx s c<n) {cl cl':Nat→Nat} (h:∀ s t,s<n→t<n→(cl s=cl t↔cl' s=cl' t)) {s:Nat} (hs:s<n):Zan n nx cl s=Zan n nx cl' s:=by
 unfold Zan;refine Zdu fun t ht => ?_
 rw[Bool.eq_iff_iff,Zax,Zax,h t s ht hs];constructor
 ·rintro⟨a,b⟩;exact⟨a,fun c hc=>(h _ _ (hnx t c ht hc) (hnx s c hs hc)).1 (b c hc)⟩
 rintro⟨a,b⟩;exact⟨a,fun c hc=>(h _ _ (hnx t c ht hc) (hnx s c hs hc)).2 (b c hc)⟩
theorem Zk3 (hnx:∀ s c,s<n→c<3→nx s c<n) (en:Nat→Bool):∀ i,(∀ s t,s<n→t<n→(clR n nx en i s=clR n nx en i t↔clAt n nx en i s=clAt n nx en i t))∧(0<i→∀ s,s<n→clR n nx en i s=clAt n nx en i s)
 | 0=>⟨fun s t hs ht=>by rw[ZhH hs ht];unfold clR;cases en s<;>cases en t<;>simp,fun h=>absurd h (by omega)⟩
 | i+1=>by
  have ih:=(Zk3 hnx en i).1;have h2:∀ s,s<n→clR n nx en (i+1) s=clAt n nx en (i+1) s:=fun s hs=>ZjT hnx ih hs
  exact⟨fun s t hs ht=>by rw[h2 s hs,h2 t ht],fun _=>h2⟩
theorem Zhh (hnx:∀ s c,s<n→c<3→nx s c<n) (en:Nat→Bool) (i:Nat):stays n nx en i↔∀ k j,k<n→j<k→(clR n nx en i j=clR n nx en i k↔clR n nx en (i+1) j=clR n nx en (i+1) k):=by
 have h0:=(Zk3 hnx en i).1;have h1:=(Zk3 hnx en (i+1)).1;constructor
 ·intro h k j hk hj;rw[h0 j k (by omega) hk,h1 j k (by omega) hk,h j (by omega),h k hk]
 intro h
 have key:∀ k j,k<n→j≤k→(clAt n nx en i j=clAt n nx en i k↔clAt n nx en (i+1) j=clAt n nx en (i+1) k):=fun k j hk hj=>by
  by_cases e:j=k
  ·rw[e];exact⟨fun _=>rfl,fun _=>rfl⟩
  have:=h k j hk (by omega)
  rwa [h0 j k (by omega) hk,h1 j k (by omega) hk] at this
 intro s hs;have g0:=ZdB (n:=n) (nx:=nx) en i;have g1:=ZdB (n:=n) (nx:=nx) en (i+1);have a1:=g1.le s hs;have b1:=g0.le s hs;have a2:=(key s _ hs a1).2 (g1.id s hs);have b2:=(key s _ hs b1).1 (g0.id s hs);have a3:=g0.le (clAt n nx en (i+1) s) (by omega);have b3:=g1.le (clAt n nx en i s) (by omega);omega
theorem ZmN {cl:Nat→Nat} (hg:GoodC n cl) {k:Nat} (hk:k<n):ZcS (clsL n cl) (cl k:Int)=(cl k:Int):=by have h1:=hg.le k hk;have h2:=hg.id k hk;refine Zi2 (by rw[Zbw];omega) (fun hm => ?_) (by rw[Ziw cl (by omega),h2]);obtain⟨i,hi,e⟩:=List.getElem_of_mem hm;simp only[List.length_take,Zbw] at hi;rw[List.getElem_take] at e;simp only[clsL,List.getElem_map,List.getElem_range] at e;have:=hg.le i (by omega);omega
def lowK (n:Nat) (nx:Nat→Nat→Nat) (cl:Nat→Nat) (k m x:Nat):Prop:=x=Zan n nx cl k∨(x=k∧∀ t,m≤t→t<k→ZbD nx cl t k=false)
theorem Zly (cl:Nat→Nat) (k:Nat):lowK n nx cl k k k:=Or.inr ⟨rfl,fun t h1 h2=>by omega⟩
theorem Zom {cl:Nat→Nat} {k m:Nat} (hk:k<n) (hm:m<n) (h:ZbD nx cl m k=true):lowK n nx cl k m (Zan n nx cl m):=Or.inl ((ZbH hm hk).2 h)
theorem Zpr {cl:Nat→Nat} {k m x:Nat} (h:ZbD nx cl m k=false) (hl:lowK n nx cl k (m+1) x):lowK n nx cl k m x:=by
 rcases hl with h1|⟨h1,h2⟩
 ·exact Or.inl h1
 refine Or.inr ⟨h1,fun t a b => ?_⟩;by_cases e:t=m
 ·rw[e];exact h
 exact h2 t (by omega) b
theorem Zon {cl:Nat→Nat} {k x:Nat} (hk:k<n) (hl:lowK n nx cl k 0 x):x=Zan n nx cl k:=by
 rcases hl with h1|⟨h1,h2⟩
 ·exact h1
 obtain⟨a1,a2,a3⟩:=ZaU (nx:=nx) (cl:=cl) hk;by_cases e:Zan n nx cl k<k
 ·have:=h2 _ (Nat.zero_le _) e;rw[this] at a2;exact absurd a2 (by simp)
 omega
end
theorem Ze2 {n:Nat} {cl cl':Nat→Nat} (h:∀ s,s<n→cl s=cl' s):clsL n cl=clsL n cl':=List.map_congr_left fun s hs=>by rw[h s (List.mem_range.1 hs)]
theorem ZeC (k:Nat) (cl:Nat→Nat):clsL (k+1) cl=clsL k cl++[(cl k:Int)]:=by unfold clsL;rw[List.range_succ,List.map_append];rfl
theorem Zku (d:DfaD) (cl:Nat→Nat) (t s:Nat):ZbD (nxD d) cl t s=(decide (cl t=cl s)&&ZdZ d cl t s 3):=rfl
def inL (M:List Int) (n:Nat):List Bool:=(List.range n).map fun (s:Nat)=>decide ((s:Int)∈M)
theorem ZoC (M:List Int) (n x:Nat):inL (M++[(x:Int)]) n=(inL M n).set x true:=by
 apply List.ext_getElem?;intro i;rw[List.getElem?_set];by_cases hin:i<n
 ·by_cases hx:x=i
  ·subst hx;simp[inL,hin]
  have:¬ (i:Int)=(x:Int):=by omega
  simp[inL,hin,hx,this]
 by_cases hx:x=i
 ·subst hx;simp[inL,hin]
 simp[inL,hin,hx]
theorem Zpx (n:Nat):inL [] n=List.replicate n false:=by apply List.ext_getElem?;intro i;by_cases hin:i<n<;>simp[inL,hin]
theorem ZkP {M:List Int} {n s:Nat} (h:s<n):(boolCells (inL M n))[s]? = some (.bool (decide ((s:Int)∈M))):=by simp[inL,h]
theorem Zna {M:List Int} {n x:Nat}:(boolCells (inL M n)).set x (.bool true)=boolCells (inL (M++[(x:Int)]) n):=by rw[ZoC];simp[boolCells,List.map_set]
theorem Zok {w:World} {B n:Nat} {v:Value} (h:w.ownsRow B 4 1 v n (madeCells (Value.bool false).cells (n*1)).toList):w.ownsRow B 4 1 v n (boolCells (inL [] n)):=by
 have e:(madeCells (Value.bool false).cells (n*1)).toList=boolCells (inL [] n):=by rw[Zpx];simp[madeCells,Value.cells,boolCells,Nat.mod_one,List.map_const']
 rwa [e] at h
theorem Zj5 (d:DfaD) (v:Value) (w:World) (hd:Zah d.next d.ends=true) (h:DfaR 0 w v d) (F:List Int) (hF:(bat (dnx d) 0 d.next.length).met=F) :
  Calls Tryz.prog 127 #[v] w fun e w'=>∃ a c,e = .returned (.slice a F.length c)∧St w w' [Ent.row 3 1 (.slice a F.length c) F.length (intCells F)]:=by
 obtain⟨v1,v2,rfl,q1,q2⟩:=h;have hf:=ZaJ hd;obtain⟨L,hL⟩:=eI (d.next.length);obtain⟨hl1,hl2,-⟩:=Zaj hd;have hrow:=fun (i:Nat) (hi:i<d.next.length)=>(ZaV hd hi).1
 have hnx:=fun (i c:Nat) (hi:i<d.next.length) (h3:c<3)=>(ZbV hf hi h3)
 have hmet:=fun (K:Nat)=>Zb7 hf K
 obtain⟨av,cvv,rfl,hc1,hc2,hr1⟩:=q1.formI;obtain⟨b1,o1,rfl,-,hb1,hcs1⟩:=hr1 (by omega);obtain⟨i0,hi,hz0,hz1,hz2⟩:=info_parts Tryz.infoBool;obtain⟨j0,hj,hy0,hy1,hy2⟩:=info_parts Tryz.infoInt;have hS0:=(((St.start w).alloc _ rfl #[.slice (some ⟨b1,o1,none⟩) d.next.length cvv,v2] 44).alloc (w.heap.size+1) (by simp) #[.int .i64 0] 3).boxrow 1 1 1 [.int .i64 0] rfl rfl (by unfold maxLen;omega);rw[← hL] at hl1 hl2 hS0 hF;rw[← hL];have hL0:(0:Int)<L:=by omega
 have hL00:0<L:=by omega
 have Hrow:=qh hrow;have Hnx:=qh hnx;have Hmet:=qh hmet;have Hcs1:=qh hcs1;replace hS0:=qh hS0;replace hL:=qh hL;replace hF:=qh hF;have Hhi:=qh hi;clear hi;have Hhz0:=qh hz0;clear hz0;have Hhz1:=qh hz1;clear hz1;have Hhz2:=qh hz2;clear hz2;have Hhj:=qh hj;clear hj;have Hhy0:=qh hy0;clear hy0;have Hhy1:=qh hy1;clear hy1;have Hhy2:=qh hy2;clear hy2;clear hrow hnx hmet hcs1 hr1 q1 q2 hf hd
 go_enter Tryz.func127, Tryz.ntmps127
 have HD:=qh (show ∀ w1:World,w1.ownsRow ((w.alloc (.cells #[.slice (some ⟨b1,o1,none⟩) L cvv,v2] 44)).alloc (.cells #[.int .i64 0] 3)).heap.size 4 1 (.slice (some ⟨w.heap.size+1+1,0,none⟩) L L) L (boolCells (inL [] L))→Below ((w.alloc (.cells #[.slice (some ⟨b1,o1,none⟩) L cvv,v2] 44)).alloc (.cells #[.int .i64 0] 3)).heap.size ((w.alloc (.cells #[.slice (some ⟨b1,o1,none⟩) L cvv,v2] 44)).alloc (.cells #[.int .i64 0] 3)) w1 →
   St w w1 [Ent.box w.heap.size #[.slice (some ⟨b1,o1,none⟩) L cvv,v2] 44,Ent.row 3 1 (.slice (some ⟨w.heap.size+1,0,none⟩) 1 1) 1 [.int .i64 0],Ent.row 4 1 (.slice (some ⟨w.heap.size+1+1,0,none⟩) L L) L (boolCells (inL [] L))] from fun w1 h1 h2=>hS0.out.made h2 h1)
 go_wp2_with (at_make;refine wpList_make_full _ rfl _ _ 42 rfl _ 4 i0 (.bool false) 1 Tryz.underlying42 Hhi.out Hhz0.out Hhz1.out .i64 .i64 _ _ L rfl rfl rfl rfl (by rw[Hhz2.out];omega) (by unfold maxLen;omega) (Nat.le_refl _) ?_;intro w1 hown hgrow;have hm:=Zok hown;simp only[World.size_alloc] at hm;have HS1:=qh (HD.out w1 (by simpa only [World.size_alloc] using hm) ((Below.refl _ _).grown hgrow (Nat.le_refl _) (fun _ h=>by cases h)));have f0:=HS1.out.rfr 2 0 rfl;have k0:=HS1.out.rcell (v:=.bool false) 2 0 rfl (by omega) (by rw[ZkP (by omega)];simp);clear hown hgrow hm);clear f0 k0
 go_loopw [3,5] (fun vo i wr=>∃ (k:Nat) (g cap:Nat),i = .int .i64 k∧vo = .slice (some ⟨g,0,none⟩) (bat (dnx d) 0 k).met.length cap∧k≤(bat (dnx d) 0 k).met.length ∧
   St w wr [Ent.box w.heap.size #[.slice (some ⟨b1,o1,none⟩) L cvv,v2] 44,Ent.row 3 1 (.slice (some ⟨g,0,none⟩) (bat (dnx d) 0 k).met.length cap) (bat (dnx d) 0 k).met.length (intCells (bat (dnx d) 0 k).met),Ent.row 4 1 (.slice (some ⟨w.heap.size+1+1,0,none⟩) L L) L (boolCells (inL (bat (dnx d) 0 k).met L))])
  (fun _ i _=>L+1-(intOf i).toNat)
 case atStart =>refine⟨0,_,_,rfl,rfl,Nat.zero_le _,?_⟩;have h:=HS1.out.store 2 rfl 0 (.bool true);have e:=Zna (M:=[]) (n:=L) (x:=0);rw[e] at h;exact h
 case round =>
  obtain⟨k,g,cap,rfl,rfl,hk,hS⟩:=hrel;obtain⟨S,hSS⟩:=eI (bat (dnx d) 0 k);have hML:=(Hmet.out k).2;have hMi:=(Hmet.out k).1;rw[← hSS] at hk hS hML hMi;rw[← hSS];rw[← hL.out] at hML hMi;by_cases hlt:k<S.met.length
  ·have hlt2:(k:Int)<S.met.length:=by omega
   have hkS:k<(bat (dnx d) 0 k).met.length:=by rw[← hSS];exact hlt
   obtain⟨x,hx⟩:∃ x:Nat,S.met.getD k 0=(x:Int):=⟨(S.met.getD k 0).toNat,by have:=(hMi _ (ZcE hlt (d:=0))).1;omega⟩;have hxL:x<L:=by have:=(hMi _ (ZcE hlt (d:=0))).2;omega
   have hxb:(bat (dnx d) 0 k).met.getD k 0=(x:Int):=by rw[← hSS];exact hx
   obtain⟨ax,cx,hks,-,-,hIs⟩:=Hcs1.out x (by rw[← hL.out];exact hxL);have hr3:=Hrow.out x (by rw[← hL.out];exact hxL);rw[hr3] at hks hIs;obtain⟨_,_,hform,-,-,hrs⟩:=hIs.form;rw[hr3] at hform hrs;simp only[Value.slice.injEq,true_and] at hform;obtain⟨rfl,rfl⟩:=hform;obtain⟨b3,o3,rfl,-,hb3,hcs3⟩:=hrs (by omega);have Hcs3:=qh hcs3;have hxI:(x:Int)<L:=by omega
   have HhS:=qh hS;clear hS;have HhSS:=qh hSS;clear hSS;have HhMi:=qh hMi;clear hMi;have HhkS:=qh hkS;clear hkS;have Hhx:=qh hx;clear hx;have Hhxb:=qh hxb;clear hxb;have Hhr3:=qh hr3;clear hr3;have Hhks:=qh hks;clear hks;clear hIs hrs hcs3;go_wp2
   go_loopw [3,6] (fun vo i wi=>∃ (c:Nat) (g cap:Nat),i = .int .i64 c∧vo = .slice (some ⟨g,0,none⟩) (bpart (dnx d) 0 k c).met.length cap∧c≤3 ∧
     St w wi [Ent.box w.heap.size #[.slice (some ⟨b1,o1,none⟩) L cvv,v2] 44,Ent.row 3 1 (.slice (some ⟨g,0,none⟩) (bpart (dnx d) 0 k c).met.length cap) (bpart (dnx d) 0 k c).met.length (intCells (bpart (dnx d) 0 k c).met),Ent.row 4 1 (.slice (some ⟨w.heap.size+1+1,0,none⟩) L L) L (boolCells (inL (bpart (dnx d) 0 k c).met L))])
    (fun _ i _=>3-(intOf i).toNat)
   case atStart =>refine⟨0,g,cap,rfl,by rw[Zas,← HhSS.out],by omega,?_⟩;rw[Zas,← HhSS.out];exact HhS.out
   case round =>
    obtain⟨c,g,cap,rfl,rfl,hc3,hSi⟩:=hrel;obtain⟨wp,hwp⟩:∃ wp:World,wp=wr:=⟨_,rfl⟩;subst hwp;by_cases hc:c<3
    ·have hTS:=(ZbS (nx:=dnx d) (a:=0) (k:=k) (Nat.zero_le c)).1;rw[Zas,← HhSS.out] at hTS;have hold:=ZbR (nx:=dnx d) (a:=0) (k:=k) (n:=c);have hnew:=Zbr (nx:=dnx d) (a:=0) (k:=k) (n:=c);rw[Hhxb.out] at hold hnew;obtain⟨hyL,hyx⟩:=Hnx.out x c (by rw[← hL.out];exact hxL) hc
     have hval:(d.next.getD x []).getD c 0=((nxD d x c:Nat):Int):=by
      unfold dnx at hyx
      rwa [Int.toNat_natCast] at hyx
     rw[hyx] at hold hnew;rw[← hL.out] at hyL;obtain⟨y,hy⟩:=eI (nxD d x c);rw[← hy] at hold hnew hval hyL;have hold':(y:Int)∈(bpart (dnx d) 0 k c).met→(bpart (dnx d) 0 k (c+1)).met=(bpart (dnx d) 0 k c).met:=fun h=>by rw[hold h]
     have hnew':(y:Int) ∉ (bpart (dnx d) 0 k c).met→(bpart (dnx d) 0 k (c+1)).met=(bpart (dnx d) 0 k c).met++[(y:Int)]:=fun h=>by rw[hnew h]
     clear hold hnew;have hle:=(ZaF (nx:=dnx d) (a:=0) (m:=k+1) HhkS.out (show c≤3 by omega) (by omega)).1.length_le;have hML2:=(Hmet.out (k+1)).2;rw[← hL.out] at hML2;obtain⟨T1,hT1⟩:=eI ((bpart (dnx d) 0 k (c+1)).met);obtain⟨T,hT⟩:=eI ((bpart (dnx d) 0 k c).met);rw[← hT] at hSi hTS hold' hnew' hle;rw[← hT1] at hold' hnew';rw[← hT];have hTL:T.length≤L:=by omega
     have hkT:k<T.length:=Nat.lt_of_lt_of_le hlt hTS.length_le;have hxT:T.getD k 0=(x:Int):=(ZaE hTS hlt _).trans Hhx.out;have e0:=hSi.cell (v:=.slice (some ⟨b1,o1,none⟩) L cvv) 0 0 rfl rfl;have e1:=hSi.rcell (v:=.int .i64 (x:Int)) 1 k rfl (by omega) (by rw[← hxT];simp[intCells,hkT]);have e2:=(bcell hSi.bel b1 _ hb1).trans Hhks.out;have e3:=(bcell hSi.bel b3 _ hb3).trans (Hcs3.out c hc);rw[hval] at e3;have e4:=hSi.rcell (v:=.bool (decide ((y:Int)∈T))) 2 y rfl (by omega) (ZkP hyL);have e5:=hSi.rfr 2 y rfl;have hc4:(c:Int)<3:=by omega
     have hyI:(y:Int)<L:=by omega
     have hkT2:(k:Int)<T.length:=by omega
     have hset:=Zna (M:=T) (n:=L) (x:=y);clear hle hML2;have HhSi:=qh hSi;clear hSi;have Hhy:=qh hy;clear hy;have Hhold':=qh hold';clear hold';have Hhnew':=qh hnew';clear hnew';have HhT1:=qh hT1;clear hT1;have HhT:=qh hT;clear hT;have HhTS:=qh hTS;clear hTS;have HhxT:=qh hxT;clear hxT;have Hhval:=qh hval;clear hval;have Hhyx:=qh hyx;clear hyx;have Hhset:=qh hset;clear hset;by_cases hmem:(y:Int)∈T
     ·have hdm:decide ((y:Int)∈T)=true:=by simpa using hmem
      rw[hdm] at e4;have hT1o:=Hhold'.out hmem;have HhT1o:=qh hT1o;clear hT1o;have Hhdm:=qh hdm;clear hdm;have Hhmem:=qh hmem;clear hmem;go_wp2
      go_quiet (fail)
      go_wp2;go_roundw
      case rel =>refine⟨c+1,g,cap,by go_num,by rw[← HhT1.out,HhT1o.out],by omega,?_⟩;rw[← HhT1.out,HhT1o.out];exact HhSi.out.drewN _
      case measure=>simp[intOf];omega
     have hdm:decide ((y:Int)∈T)=false:=by simpa using hmem
     rw[hdm] at e4;have hT1n:=Hhnew'.out hmem;have HhT1n:=qh hT1n;clear hT1n;have Hhdm:=qh hdm;clear hdm;have Hhmem:=qh hmem;clear hmem;go_wp2
     go_quiet (fail)
     have hSs:=((HhSi.out.drewN nq).store 2 rfl y (.bool true)).alloc_ (.cells #[.int .i64 (y:Int)] 3);rw[Hhset.out] at hSs;have hR:=hSs.row 1 rfl;have hal:=heap_alloc_new ((wp.drewN nq).setCell ⟨w.heap.size+1+1,y,none⟩ (.bool true)) (.cells #[.int .i64 (y:Int)] 3);rw[ZaN,show(wp.drewN nq).heap.size=wp.heap.size from rfl] at hal;have Hhal:=qh hal;clear hal;have HhSs:=qh hSs;clear hSs;have HhR:=qh hR;clear hR;go_wp2_with (at_builtin;refine wpList_append_lies _ rfl _ _ _ rfl _ 3 j0 (.int .i64 0) 1 8 Tryz.underlying38 Hhj.out Hhy0.out Hhy1.out Hhy2.out rfl (by omega) _ T.length _ rfl HhR.out ⟨wp.heap.size,0,none⟩ 1 1 [.int .i64 (y:Int)] rfl rfl (World.news_of_block Hhal.out) ZbB (by omega) (by unfold maxLen;omega) (by omega) HhSs.out.size _ rfl ?_;intro g6 c6 w6 hown6 hgrow6 hat6 hlt6;have HS6:=qh (HhSs.out.app 1 rfl hown6 hgrow6 hat6);clear hown6 hgrow6 hat6 hlt6);go_roundw
     case rel =>refine⟨c+1,g6,c6,by go_num,by rw[← HhT1.out,HhT1n.out,List.length_append];rfl,by omega,?_⟩;rw[← HhT1.out,HhT1n.out,List.length_append,Zav];exact HS6.out
     case measure=>simp[intOf];omega
    obtain rfl:c=3:=by omega
    have hbs:bat (dnx d) 0 (k+1)=bpart (dnx d) 0 k 3:=ZaP HhkS.out;have hTS:=(ZbS (nx:=dnx d) (a:=0) (k:=k) (Nat.zero_le 3)).1.length_le;rw[Zas,← HhSS.out] at hTS;have Hhbs:=qh hbs;clear hbs;have HhSi:=qh hSi;clear hSi;go_wp2;go_roundw
    case rel=>exact⟨k+1,g,cap,by go_num,by rw[Hhbs.out],by rw[Hhbs.out];omega,by rw[Hhbs.out];exact HhSi.out⟩
    case measure=>simp[intOf];omega
  obtain rfl:k=S.met.length:=by omega
  have hfin:F=S.met:=by have h:=ZbT (nx:=dnx d) (a:=0) (k:=S.met.length) (m:=L) (by rw[← hSS];omega) hML;rw[← hF.out,h,← hSS]
  subst hfin;have HhS:=qh hS;clear hS;have HhSS:=qh hSS;clear hSS;go_wp2;go_ret;exact⟨_,_,rfl,HhS.out.pick [1] (by decide)⟩
theorem Zlx {d:DfaD} (hd:Zah d.next d.ends=true) {k c:Nat} (hk:k<(bat (dnx d) 0 d.next.length).met.length) (hc:c<3):dnx d ((bat (dnx d) 0 d.next.length).met.getD k 0) c∈(bat (dnx d) 0 d.next.length).met:=by
 have hm:=(Zb7 (ZaJ hd) d.next.length).2;have hkl:k<d.next.length:=by omega
 have hkk:k<(bat (dnx d) 0 k).met.length:=by
  by_cases h:k<(bat (dnx d) 0 k).met.length
  ·exact h
  have:=ZbT (nx:=dnx d) (a:=0) (k:=k) (m:=d.next.length) (by omega) (by omega);rw[this] at hk;omega
 have hp:=(Zfm (nx:=dnx d) (a:=(0:Int)) (k:=k) (m:=d.next.length) (by omega)).1;rw[ZaE hp hkk];have h1:=ZjA (nx:=dnx d) (a:=(0:Int)) (k:=k) (n:=3) hc;have h2:=(ZaF (nx:=dnx d) (a:=(0:Int)) (m:=d.next.length) hkk (Nat.le_refl 3) hkl).1;exact h2.subset h1
theorem Zpq {d:DfaD} (hd:Zah d.next d.ends=true) {k:Nat} (hk:k<(bat (dnx d) 0 d.next.length).met.length):∃ x:Nat,(bat (dnx d) 0 d.next.length).met.getD k 0=(x:Int)∧x<d.next.length∧∀ c,c<3→((nxD d x c:Nat):Int)∈(bat (dnx d) 0 d.next.length).met:=by
 have h:=(Zb7 (ZaJ hd) d.next.length).1 _ (ZcE hk (d:=0));refine⟨((bat (dnx d) 0 d.next.length).met.getD k 0).toNat,by omega,by omega,fun c hc => ?_⟩;have h1:=Zlx hd hk hc;have e:(bat (dnx d) 0 d.next.length).met.getD k 0=((((bat (dnx d) 0 d.next.length).met.getD k 0).toNat:Nat):Int):=by omega
 rw[e,(ZbV (ZaJ hd) (by omega) hc).2] at h1;exact h1
theorem Zlv {l:List Int} {x:Int} (h:x∈l):ZcS l x=(Zai l x:Int):=by unfold ZcS Zai;rw[if_pos h]
end Go.Proofs.YtncekbbhgipdlaaGreat
