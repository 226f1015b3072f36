/-
  Refining classes of states till they stay, plain: the least state of the same class, round by round; it ends.
  No condition: this text speaks of no program.
-/
import Derived.Test.YtfgpkadhegdffaaGreatPe06Ivp
set_option maxHeartbeats 4000000
set_option maxRecDepth 100000
namespace Go.Proofs.YtfgpkadhegdffaaGreat
section
variable (n:Nat) (nx:Nat→Nat→Nat)
def ZbP (cl:Nat→Nat) (t s:Nat):Bool:=decide (cl t=cl s)&&(List.range 3).all fun c=>decide (cl (nx t c)=cl (nx s c))
theorem Zax {cl:Nat→Nat} {t s:Nat}:ZbP nx cl t s=true↔cl t=cl s∧∀ c,c<3→cl (nx t c)=cl (nx s c):=by simp[ZbP]
theorem Zky (cl:Nat→Nat) (s:Nat):ZbP nx cl s s=true:=(Zax nx).2 ⟨rfl,fun _ _=>rfl⟩
theorem ZgH {cl:Nat→Nat} {t s:Nat} (h:ZbP nx cl t s=true):ZbP nx cl s t=true:=by obtain⟨h1,h2⟩:=(Zax nx).1 h;exact(Zax nx).2 ⟨h1.symm,fun c hc=>(h2 c hc).symm⟩
theorem ZdI {cl:Nat→Nat} {t s r:Nat} (h:ZbP nx cl t s=true) (h':ZbP nx cl s r=true):ZbP nx cl t r=true:=by obtain⟨h1,h2⟩:=(Zax nx).1 h;obtain⟨h3,h4⟩:=(Zax nx).1 h';exact(Zax nx).2 ⟨h1.trans h3,fun c hc=>(h2 c hc).trans (h4 c hc)⟩
def Zbe (p:Nat→Bool):Nat→Nat
 | 0=>0
 | k+1=>if p (Zbe p k)&&decide (Zbe p k<k) then Zbe p k else if p k then k else k+1
end
theorem Zh3 (p:Nat→Bool):∀ k,(Zbe p k<k∧p (Zbe p k)=true∧∀ j,j<Zbe p k→p j=false)∨(Zbe p k=k∧∀ j,j<k→p j=false)
 | 0=>Or.inr ⟨rfl,fun j hj=>absurd hj (by omega)⟩
 | k+1=>by
  rcases Zh3 p k with⟨h1,h2,h3⟩|⟨h1,h2⟩
  ·left;have e:Zbe p (k+1)=Zbe p k:=by simp[Zbe,h1,h2]
   rw[e];exact⟨by omega,h2,h3⟩
  by_cases hp:p k=true
  ·left;have e:Zbe p (k+1)=k:=by simp[Zbe,h1,hp]
   rw[e];exact⟨by omega,hp,h2⟩
  right;have e:Zbe p (k+1)=k+1:=by simp[Zbe,h1,hp]
  refine⟨e,fun j hj => ?_⟩;by_cases hjk:j=k
  ·subst hjk;simpa using hp
  exact h2 j (by omega)
theorem ZlB {p:Nat→Bool} {k s:Nat} (hs:s<k) (hp:p s=true):Zbe p k≤s∧p (Zbe p k)=true∧∀ j,j<Zbe p k→p j=false:=by
 rcases Zh3 p k with⟨h1,h2,h3⟩|⟨h1,h2⟩
 ·refine⟨?_,h2,h3⟩;rcases Nat.lt_or_ge s (Zbe p k) with h|h
  ·rw[h3 s h] at hp;cases hp
  exact h
 rw[h2 s hs] at hp;cases hp
section
variable {n:Nat} {nx:Nat→Nat→Nat}
structure GoodC (n:Nat) (cl:Nat→Nat):Prop where
 le:∀ s,s<n→cl s≤s
 id:∀ s,s<n→cl (cl s)=cl s
def Zar (n:Nat) (nx:Nat→Nat→Nat) (cl:Nat→Nat) (s:Nat):Nat:=Zbe (fun t=>ZbP nx cl t s) n
theorem ZaY {cl:Nat→Nat} {s:Nat} (hs:s<n):Zar n nx cl s≤s∧ZbP nx cl (Zar n nx cl s) s=true∧∀ j,j<Zar n nx cl s→ZbP nx cl j s=false :=
 ZlB hs (Zky nx cl s)
theorem ZbW {cl:Nat→Nat} {s t:Nat} (hs:s<n) (ht:t<n):Zar n nx cl s=Zar n nx cl t↔ZbP nx cl s t=true:=by
 obtain⟨a1,a2,a3⟩:=ZaY (nx:=nx) (cl:=cl) hs;obtain⟨b1,b2,b3⟩:=ZaY (nx:=nx) (cl:=cl) ht;constructor
 ·intro h;rw[h] at a2;exact ZdI nx (ZgH nx a2) b2
 intro h;have h1:¬ Zar n nx cl s<Zar n nx cl t:=fun hlt=>by have:=b3 _ hlt;rw[ZdI nx a2 h] at this;cases this
 have h2:¬ Zar n nx cl t<Zar n nx cl s:=fun hlt=>by have:=a3 _ hlt;rw[ZdI nx b2 (ZgH nx h)] at this;cases this
 omega
theorem Zen {cl:Nat→Nat}:GoodC n (Zar n nx cl):=by refine⟨fun s hs=>(ZaY hs).1,fun s hs => ?_⟩;obtain⟨a1,a2,a3⟩:=ZaY (nx:=nx) (cl:=cl) hs;exact(ZbW (by omega) hs).2 a2
theorem Zmb {cl:Nat→Nat} (hg:GoodC n cl) {s:Nat} (hs:s<n) (h:cl s=s):Zar n nx cl s=s:=by obtain⟨a1,a2,a3⟩:=ZaY (nx:=nx) (cl:=cl) hs;have e:=((Zax nx).1 a2).1;have:=hg.le (Zar n nx cl s) (by omega);omega
def reps (n:Nat) (cl:Nat→Nat):Nat:=((List.range n).filter fun s=>decide (cl s=s)).length
theorem ZgJ {cl:Nat→Nat} (hg:GoodC n cl) {s:Nat} (hs:s<n) (hne:Zar n nx cl s≠cl s):reps n cl<reps n (Zar n nx cl):=by
 obtain⟨a1,a2,a3⟩:=ZaY (nx:=nx) (cl:=cl) hs;have e:=((Zax nx).1 a2).1;have hr:Zar n nx cl s<n:=by omega
 refine ZdT (a:=Zar n nx cl s) ?_ ?_ (List.mem_range.2 hr) fun x hx h => ?_
 ·have:cl (Zar n nx cl s)≠Zar n nx cl s:=by rw[e];exact fun h=>hne h.symm
  simpa using this
 ·simpa using Zen.id s hs
 simp only[decide_eq_true_eq] at h ⊢;exact Zmb hg (List.mem_range.1 hx) h
theorem ZkA (n:Nat) (cl:Nat→Nat):reps n cl≤n:=by have:=List.length_filter_le (fun s=>decide (cl s=s)) (List.range n);simpa [reps] using this
def clAt (n:Nat) (nx:Nat→Nat→Nat) (en:Nat→Bool):Nat→Nat→Nat
 | 0=>fun s=>Zbe (fun t=>en t==en s) n
 | i+1=>Zar n nx (clAt n nx en i)
theorem ZdW {en:Nat→Bool} {s:Nat} (hs:s<n):clAt n nx en 0 s≤s∧en (clAt n nx en 0 s)=en s∧∀ j,j<clAt n nx en 0 s→en j≠en s:=by
 obtain⟨a,b,c⟩:=ZlB (p:=fun t=>en t==en s) hs (by simp);have b':en (Zbe (fun t=>en t==en s) n)=en s:=by simpa using b
 exact⟨a,b',fun j hj=>by simpa using c j hj⟩
theorem Zie {en:Nat→Bool} {s t:Nat} (hs:s<n) (ht:t<n):clAt n nx en 0 s=clAt n nx en 0 t↔en s=en t:=by
 obtain⟨a1,a2,a3⟩:=ZdW (nx:=nx) (en:=en) hs;obtain⟨b1,b2,b3⟩:=ZdW (nx:=nx) (en:=en) ht;constructor
 ·intro h;rw[← a2,← b2,h]
 intro h;have h1:¬ clAt n nx en 0 s<clAt n nx en 0 t:=fun hlt=>b3 _ hlt (a2.trans h)
 have h2:¬ clAt n nx en 0 t<clAt n nx en 0 s:=fun hlt=>a3 _ hlt (b2.trans h.symm)
 omega
theorem ZdV (en:Nat→Bool):∀ i,GoodC n (clAt n nx en i)
 | 0=>⟨fun s hs=>(ZdW hs).1,fun s hs=>by obtain⟨a1,a2,a3⟩:=ZdW (nx:=nx) (en:=en) hs;exact(Zie (by omega) hs).2 a2⟩
 | _+1=>Zen
def stays (n:Nat) (nx:Nat→Nat→Nat) (en:Nat→Bool) (i:Nat):Prop:=∀ s,s<n→clAt n nx en (i+1) s=clAt n nx en i s
theorem Ziq (en:Nat→Bool):∃ i,i≤n∧stays n nx en i∧∀ j,j<i→¬ stays n nx en j:=by
 have key:∀ k,(∀ j,j<k→¬ stays n nx en j)→k≤reps n (clAt n nx en k):=by
  intro k
  induction k with
  | zero=>intro _;exact Nat.zero_le _
  | succ k ih =>
   intro h;have h1:=ih fun j hj=>h j (by omega)
   have h2:=h k (by omega);have h3:∃ s,s<n∧clAt n nx en (k+1) s≠clAt n nx en k s:=Classical.byContradiction fun hn=>h2 fun s hs=>Classical.byContradiction fun hne=>hn ⟨s,hs,hne⟩
   obtain⟨s,hs,hne⟩:=h3;have:=ZgJ (nx:=nx) (ZdV (nx:=nx) en k) hs hne;show k+1≤reps n (Zar n nx (clAt n nx en k));omega
 have hex:∃ i,i≤n∧stays n nx en i:=Classical.byContradiction fun hn=>by
  have:=key (n+1) fun j hj hs=>hn ⟨j,by omega,hs⟩
  have:=ZkA n (clAt n nx en (n+1));omega
 obtain⟨i,hi,hs⟩:=hex
 have key2:∀ k,(∃ j,j<k∧stays n nx en j)→∃ i,i<k∧stays n nx en i∧∀ j,j<i→¬ stays n nx en j:=by
  intro k
  induction k with
  | zero=>rintro⟨j,hj,-⟩;omega
  | succ k ih =>
   rintro⟨j,hj,hs⟩;by_cases h:∃ j,j<k∧stays n nx en j
   ·obtain⟨i,h1,h2⟩:=ih h;exact⟨i,by omega,h2⟩
   have:j=k:=Classical.byContradiction fun hne=>h ⟨j,by omega,hs⟩
   subst this;exact⟨j,by omega,hs,fun i hi hs'=>h ⟨i,hi,hs'⟩⟩
 obtain⟨i',h1,h2⟩:=key2 (n+1) ⟨i,by omega,hs⟩;exact⟨i',by omega,h2⟩
theorem ZdO {p q:Nat→Bool}:∀ {k:Nat},(∀ t,t<k→p t=q t)→Zbe p k=Zbe q k
 | 0,_=>rfl
 | k+1,h=>by
  have ih:=ZdO (k:=k) fun t ht=>h t (by omega)
  have hk:=h k (by omega);unfold Zbe;rw[← ih,← hk];by_cases hl:Zbe p k<k
  ·rw[h _ (by omega)]
  simp[hl]
theorem Zjx (hnx:∀ s c,s<n→c<3→nx s c<n) {cl cl':Nat→Nat} (h:∀ s,s<n→cl s=cl' s) {s:Nat} (hs:s<n):Zar n nx cl s=Zar n nx cl' s:=by
 unfold Zar;refine ZdO fun t ht => ?_
 rw[Bool.eq_iff_iff,Zax,Zax,h t ht,h s hs];constructor
 ·rintro⟨h1,h2⟩;exact⟨h1,fun c hc=>by rw[← h _ (hnx t c ht hc),← h _ (hnx s c hs hc)];exact h2 c hc⟩
 rintro⟨h1,h2⟩;exact⟨h1,fun c hc=>by rw[h _ (hnx t c ht hc),h _ (hnx s c hs hc)];exact h2 c hc⟩
theorem ZdF (hnx:∀ s c,s<n→c<3→nx s c<n) {en:Nat→Bool} {i:Nat} (h:stays n nx en i):∀ j,i≤j→∀ s,s<n→clAt n nx en j s=clAt n nx en i s:=by
 intro j
 induction j with
 | zero =>
  intro hj s _;obtain rfl:i=0:=by omega
  rfl
 | succ j ih =>
  intro hj s hs;by_cases hij:i=j+1
  ·subst hij;rfl
  have e:clAt n nx en (j+1) s=Zar n nx (clAt n nx en j) s:=rfl;rw[e,Zjx hnx (ih (by omega)) hs];exact h s hs
def Ze6 (n:Nat) (nx:Nat→Nat→Nat) (en:Nat→Bool):Nat→Nat:=clAt n nx en n
theorem ZlT (hnx:∀ s c,s<n→c<3→nx s c<n) {en:Nat→Bool} {i:Nat} (hi:i≤n) (h:stays n nx en i) {s:Nat} (hs:s<n):Ze6 n nx en s=clAt n nx en i s:=ZdF hnx h n hi s hs
theorem Zhn (hnx:∀ s c,s<n→c<3→nx s c<n) (en:Nat→Bool):stays n nx en n:=by obtain⟨i,hi,hs,-⟩:=Ziq (n:=n) (nx:=nx) en;intro s hsn;rw[ZdF hnx hs (n+1) (by omega) s hsn,ZdF hnx hs n hi s hsn]
theorem Zi9 (hnx:∀ s c,s<n→c<3→nx s c<n) {en:Nat→Bool} {s t:Nat} (hs:s<n) (ht:t<n):Ze6 n nx en s=Ze6 n nx en t→∀ c,c<3→Ze6 n nx en (nx s c)=Ze6 n nx en (nx t c):=by
 intro h;have h1:=Zhn hnx en;have h2:Zar n nx (Ze6 n nx en) s=Zar n nx (Ze6 n nx en) t:=by have a:=h1 s hs;have b:=h1 t ht;exact a.trans (h.trans b.symm)
 exact((Zax nx).1 ((ZbW hs ht).1 h2)).2
theorem Zj9 {en:Nat→Bool}:∀ (i:Nat) {s t:Nat},s<n→t<n→clAt n nx en i s=clAt n nx en i t→en s=en t
 | 0,_,_,hs,ht,h=>(Zie hs ht).1 h
 | i+1,_,_,hs,ht,h=>Zj9 i hs ht ((Zax nx).1 ((ZbW hs ht).1 h)).1
theorem Zde {en:Nat→Bool} {s t:Nat} (hs:s<n) (ht:t<n) (h:Ze6 n nx en s=Ze6 n nx en t):en s=en t:=Zj9 n hs ht h
end
end Go.Proofs.YtfgpkadhegdffaaGreat
namespace Go.Proofs.YtfgpkadhegdffaaGreat
open Go.RowKit
def nxD (d:DfaD) (s c:Nat):Nat:=((d.next.getD s []).getD c 0).toNat
def enD (d:DfaD) (s:Nat):Bool:=d.ends.getD s false
def Za6 (d:DfaD):DfaD:=Zas (dnx d) (den d) (bat (dnx d) 0 d.next.length).met
theorem Zcf {d:DfaD} (hd:fine d) {s c:Nat} (hs:s<d.next.length) (hc:c<3):nxD d s c<d.next.length∧dnx d (s:Int) c=((nxD d s c:Nat):Int):=by obtain⟨-,-,-,h⟩:=hd;obtain⟨-,h2⟩:=h s hs;obtain⟨a,b⟩:=h2 c hc;unfold nxD dnx;rw[Int.toNat_natCast];omega
theorem Zby {d:DfaD} (hd:fine d) (K:Nat):(∀ x∈(bat (dnx d) 0 K).met,0≤x∧x<(d.next.length:Int))∧(bat (dnx d) 0 K).met.length≤d.next.length:=by
 have h1:∀ x∈(bat (dnx d) 0 K).met,0≤x∧x<(d.next.length:Int):=by refine Zca (Q:=fun x=>0≤x∧x<(d.next.length:Int)) ⟨by omega,by have:=hd.1;omega⟩ (fun x c hc hx => ?_) K;obtain⟨s,rfl⟩:=Int.eq_ofNat_of_zero_le hx.1;obtain⟨a,b⟩:=Zcf hd (s:=s) (by omega) hc;rw[b];omega
 refine⟨h1,?_⟩;have:=ZeK (Zbu (nx:=dnx d) (a:=0) K).1 (m:=Za5 d.next.length) fun x hx=>by obtain⟨a,b⟩:=h1 x hx;obtain⟨s,rfl⟩:=Int.eq_ofNat_of_zero_le a;exact ZcC.2 (by omega)
 rwa [Zcz] at this
theorem ZaL {d:DfaD} (h:Zag d.next d.ends=true):fine d:=by have:=Zaf h;exact⟨by omega,by omega,by omega,fun i hi=>ZaM h hi⟩
theorem Zpe {α:Type} [DecidableEq α] {nx:α→Nat→α} {a:α} {en:α→Bool} {K:Nat} (hK:(bat nx a K).met.length≤K):Za6 (Zas nx en (bat nx a K).met)=Zas nx en (bat nx a K).met:=by
 unfold Za6;rw[ZaW];obtain⟨m,hm⟩:=eI ((bat nx a K).met.length);have hle:(bat nx a m).met.length≤m:=by have:=(ZfU (nx:=nx) (a:=a) (show m≤K by omega)).1.length_le;omega
 have hd:bat nx a K=bat nx a m:=ZbI hle (by omega);have hp:=Zd0 (nx:=nx) (a:=a) K;have hpl:∀ (s:Int) c,c<3→0≤s∧s<m→Zaj (bat nx a K).met (nx ((bat nx a K).met.getD s.toNat a) c)<m:=fun s c hc hs=>by rw[hm];exact ZaV (Zd9 hK (memD (d:=a) (show s.toNat<(bat nx a K).met.length by omega)) hc)
 have hlt:∀ (s:Int) c,c<3→0≤s∧s<m→0≤ZbY nx a (bat nx a K).met s c∧ZbY nx a (bat nx a K).met s c<m:=fun s c hc hs=>by have:=hpl s c hc hs;unfold ZbY;omega
 have e1:bat (ZbY nx a (bat nx a K).met) 0 m=bat (dnx (Zas nx en (bat nx a K).met)) 0 m :=
  Zhr (Q:=fun s=>0≤s∧s<(m:Int)) (by omega) (fun s c hc hs=>hlt s c hc hs) (fun s c hc hs=>(ZkZ (by omega) (by omega) hc).symm) m
 have hmet:(bat (dnx (Zas nx en (bat nx a K).met)) 0 (bat nx a K).met.length).met=Za5 (bat nx a K).met.length:=by rw[← hm,← e1,ZnG nx a K m (by omega),← hd,hm]
 rw[hmet]
 have hr:(Za5 (bat nx a K).met.length).map (Zae (dnx (Zas nx en (bat nx a K).met)) (Za5 (bat nx a K).met.length))=(bat nx a K).met.map (Zae nx (bat nx a K).met):=by
  refine List.ext_getElem (by simp[Za5]) fun i h1 h2 => ?_
  have hi:i<(bat nx a K).met.length:=by simpa using h2
  have hu:(Za5 (bat nx a K).met.length)[i]'(by simpa using h1)=(i:Int):=by simp[Za5]
  simp only[List.getElem_map];rw[hu];unfold Zae;refine List.map_congr_left fun c hc => ?_
  have hc3:c<3:=List.mem_range.1 hc;rw[ZkZ (a:=a) (by omega) (by omega) hc3];unfold ZbY;have hp2:=hpl (i:Int) c hc3 (by omega);have e2:(bat nx a K).met.getD (i:Int).toNat a=(bat nx a K).met[i]:=by simp[hi]
  rw[e2] at hp2 ⊢;congr 1;obtain⟨q,hq⟩:=eJ (Zaj (bat nx a K).met (nx ((bat nx a K).met[i]) c));rw[hq] at hp2 ⊢;have e3:=Zgu (n:=(bat nx a K).met.length) (k:=q) (by omega);have e4:=ZeW (l:=Za5 (bat nx a K).met.length) (k:=q) (by rw[Zcz];omega) (List.Pairwise.map _ (fun _ _ h e=>h (Int.ofNat.inj e)) List.nodup_range) (0:Int);rw[e3] at e4;exact e4
 have he:(Za5 (bat nx a K).met.length).map (den (Zas nx en (bat nx a K).met))=(bat nx a K).met.map en:=by
  refine List.ext_getElem (by simp[Za5]) fun i h1 h2 => ?_
  have hi:i<(bat nx a K).met.length:=by simpa using h2
  have hu:(Za5 (bat nx a K).met.length)[i]'(by simpa using h1)=(i:Int):=by simp[Za5]
  simp only[List.getElem_map];rw[hu];exact Zk1 hi
 exact congr (congrArg DfaD.mk hr) he
section
variable {α β:Type} [DecidableEq α] [DecidableEq β] {nx:α→Nat→α} {nx':β→Nat→β} {a:α} {f:α→β} {Q:α→Prop}
theorem Zka (hv:∀ x c,c<3→Q x→Q (nx x c)) (hf:∀ x y,Q x→Q y→f x=f y→x=y) (hn:∀ x c,c<3→Q x→f (nx x c)=nx' (f x) c) {x:α} (hx:Q x) (wd:List Nat) {s:Bs α} (hs:∀ y∈s.met,Q y) :
  ∀ n,n≤3→brow nx' (f x) wd ⟨s.met.map f,s.words⟩ n=⟨(brow nx x wd s n).met.map f,(brow nx x wd s n).words⟩∧∀ y∈(brow nx x wd s n).met,Q y
 | 0,_=>⟨rfl,hs⟩
 | n+1,hn3=>by
  obtain⟨h1,h2⟩:=Zka hv hf hn hx wd hs n (by omega);have hq:=hv x n (by omega) hx
  have hm:nx' (f x) n∈(brow nx x wd s n).met.map f↔nx x n∈(brow nx x wd s n).met:=by
   rw[← hn x n (by omega) hx];constructor
   ·intro h;obtain⟨y,hy,e⟩:=List.mem_map.1 h;rw[← hf _ _ (h2 y hy) hq e];exact hy
   exact fun h=>List.mem_map.2 ⟨_,h,rfl⟩
  have e:brow nx' (f x) wd ⟨s.met.map f,s.words⟩ (n+1)=bvisit nx' (f x) wd (brow nx' (f x) wd ⟨s.met.map f,s.words⟩ n) n:=rfl;have e2:brow nx x wd s (n+1)=bvisit nx x wd (brow nx x wd s n) n:=rfl;rw[e,e2,h1];unfold bvisit;by_cases h:nx x n∈(brow nx x wd s n).met
  ·rw[if_pos h,if_pos (hm.2 h)];exact⟨rfl,h2⟩
  rw[if_neg h,if_neg (fun h2=>h (hm.1 h2))];refine⟨by simp[hn x n (by omega) hx],fun y hy => ?_⟩;simp only[List.mem_append,List.mem_singleton] at hy;rcases hy with hy|rfl
  ·exact h2 y hy
  exact hq
theorem ZlZ (h0:Q a) (hv:∀ x c,c<3→Q x→Q (nx x c)) (hf:∀ x y,Q x→Q y→f x=f y→x=y) (hn:∀ x c,c<3→Q x→f (nx x c)=nx' (f x) c):∀ k,bat nx' (f a) k=⟨(bat nx a k).met.map f,(bat nx a k).words⟩
 | 0=>rfl
 | k+1=>by
  have ih:=ZlZ h0 hv hf hn k;have hl:(bat nx' (f a) k).met.length=(bat nx a k).met.length:=by rw[ih];simp
  by_cases h:k<(bat nx a k).met.length
  ·rw[ZaR h,ZaR (by rw[hl];exact h)];unfold bpart;rw[ih];have hx:((bat nx a k).met.map f).getD k (f a)=f ((bat nx a k).met.getD k a):=by simp[h]
   simp only[hx];exact(Zka hv hf hn (Zca h0 hv k _ (memD h)) _ (Zca h0 hv k) 3 (by omega)).1
  rw[ZbH (by omega),ZbH (by omega),ih]
theorem ZgL {L:List α} {x:α} (hf:∀ y∈L,f y=f x→y=x):Zaj (L.map f) (f x)=Zaj L x:=by
 unfold Zaj
 induction L with
 | nil=>rfl
 | cons y l ih =>
  have h1:=hf y (by simp);have h2:=ih fun z hz=>hf z (by simp[hz])
  simp only[List.map_cons,List.idxOf_cons];by_cases h:y=x
  ·subst h;simp
  have:f y≠f x:=fun e=>h (h1 e)
  have e1:(f y==f x)=false:=by simpa using this
  have e2:(y==x)=false:=by simpa using h
  rw[e1,e2];simp[h2]
theorem Zdr {en:α→Bool} {en':β→Bool} {K:Nat} (h0:Q a) (hv:∀ x c,c<3→Q x→Q (nx x c)) (hf:∀ x y,Q x→Q y→f x=f y→x=y) (hn:∀ x c,c<3→Q x→f (nx x c)=nx' (f x) c) (he:∀ x,Q x→en' (f x)=en x) :
  Zas nx' en' (bat nx' (f a) K).met=Zas nx en (bat nx a K).met:=by
 have hm:=congrArg Bs.met (ZlZ h0 hv hf hn K);simp only at hm;have hq:=Zca h0 hv K;rw[hm];unfold Zas
 have e1:((bat nx a K).met.map f).map (Zae nx' ((bat nx a K).met.map f))=(bat nx a K).met.map (Zae nx (bat nx a K).met):=by
  rw[List.map_map];refine List.map_congr_left fun x hx => ?_
  unfold Zae;refine List.map_congr_left fun c hc => ?_
  have hc3:c<3:=List.mem_range.1 hc;rw[← hn x c hc3 (hq x hx),ZgL fun y hy e=>hf _ _ (hq y hy) (hv x c hc3 (hq x hx)) e]
 have e2:((bat nx a K).met.map f).map en'=(bat nx a K).met.map en:=by rw[List.map_map];exact List.map_congr_left fun x hx=>he x (hq x hx)
 rw[e1,e2]
end
theorem ZlU {n m:Nat} {nx nx':Nat→Nat→Nat} {en en':Nat→Bool} (φ:Nat→Nat) (hφ:∀ i,i<m→φ i<n) (hst:∀ i c,i<m→c<3→nx' i c<m∧φ (nx' i c)=nx (φ i) c) (hen:∀ i,i<m→en' i=en (φ i)) :
  ∀ (r:Nat) {i j:Nat},i<m→j<m→(clAt m nx' en' r i=clAt m nx' en' r j↔clAt n nx en r (φ i)=clAt n nx en r (φ j))
 | 0,i,j,hi,hj=>by rw[Zie hi hj,Zie (hφ i hi) (hφ j hj),hen i hi,hen j hj]
 | r+1,i,j,hi,hj=>by
  have ih:=fun {i j:Nat} (hi:i<m) (hj:j<m)=>ZlU φ hφ hst hen r hi hj
  show Zar m nx' (clAt m nx' en' r) i=Zar m nx' (clAt m nx' en' r) j↔Zar n nx (clAt n nx en r) (φ i)=Zar n nx (clAt n nx en r) (φ j);rw[ZbW hi hj,ZbW (hφ i hi) (hφ j hj),Zax,Zax,ih hi hj];constructor
  ·rintro⟨h1,h2⟩;refine⟨h1,fun c hc => ?_⟩;have h:=(ih (hst i c hi hc).1 (hst j c hj hc).1).1 (h2 c hc)
   rwa [(hst i c hi hc).2,(hst j c hj hc).2] at h
  rintro⟨h1,h2⟩;refine⟨h1,fun c hc=>(ih (hst i c hi hc).1 (hst j c hj hc).1).2 ?_⟩;rw[(hst i c hi hc).2,(hst j c hj hc).2];exact h2 c hc
theorem ZoT {n m:Nat} {nx nx':Nat→Nat→Nat} {en en':Nat→Bool} (φ:Nat→Nat) (hmn:m≤n) (hφ:∀ i,i<m→φ i<n) (hst:∀ i c,i<m→c<3→nx' i c<m∧φ (nx' i c)=nx (φ i) c) (hen:∀ i,i<m→en' i=en (φ i)) {i j:Nat} (hi:i<m) (hj:j<m) :
  Ze6 m nx' en' i=Ze6 m nx' en' j↔Ze6 n nx en (φ i)=Ze6 n nx en (φ j):=by
 have hin:∀ s c,s<m→c<3→nx' s c<m:=fun s c hs hc=>(hst s c hs hc).1
 have hs:=Zhn hin en';have e1:=ZdF hin hs n hmn i hi;have e2:=ZdF hin hs n hmn j hj;show clAt m nx' en' m i=clAt m nx' en' m j↔_;rw[← e1,← e2];exact ZlU φ hφ hst hen n hi hj
def clD (d:DfaD) (s:Nat):Nat:=Ze6 d.next.length (nxD d) (enD d) s
def nxM (d:DfaD) (s:Int) (c:Nat):Int:=(clD d (nxD d s.toNat c):Nat)
def minD (d:DfaD):DfaD:=Zas (nxM d) (den d) (bat (nxM d) ((clD d 0:Nat):Int) d.next.length).met
def Zc1 (x:DfaD):DfaD:=⟨(List.range x.next.length).map fun k=>(List.range 3).map fun c=>((clD x (nxD x k c):Nat):Int),x.ends⟩
def Zal (d:DfaD):DfaD:=Za6 (Zc1 (Za6 d))
theorem Zbv {d:DfaD} (s:Nat) (hs:s<d.next.length):clD d s≤s∧clD d (clD d s)=clD d s:=by have h:=ZdV (n:=d.next.length) (nx:=nxD d) (enD d) d.next.length;exact⟨h.le s hs,h.id s hs⟩
def phiD (d:DfaD) (i:Nat):Nat:=((bat (dnx d) 0 d.next.length).met.getD i 0).toNat
theorem ZhM {d:DfaD} (hd:fine d):fine (Za6 d)∧(Za6 d).next.length≤d.next.length∧(∀ i,i<(Za6 d).next.length→phiD d i<d.next.length) ∧
  (∀ i c,i<(Za6 d).next.length→c<3→nxD (Za6 d) i c<(Za6 d).next.length∧phiD d (nxD (Za6 d) i c)=nxD d (phiD d i) c)∧(∀ i,i<(Za6 d).next.length→enD (Za6 d) i=enD d (phiD d i))∧phiD d 0=0:=by
 obtain⟨h1,h2⟩:=Zby hd d.next.length;have hf:=Zgn (nx:=dnx d) (a:=(0:Int)) (en:=den d) h2 (by have:=hd.2.1;omega);have hl:(Za6 d).next.length=(bat (dnx d) 0 d.next.length).met.length:=ZaW _ _ _;have hphi:∀ i,i<(bat (dnx d) 0 d.next.length).met.length→(bat (dnx d) 0 d.next.length).met.getD i 0=((phiD d i:Nat):Int)∧phiD d i<d.next.length:=fun i hi=>by obtain⟨a,b⟩:=h1 _ (memD (d:=0) hi);unfold phiD;omega
 refine⟨hf,by rw[hl];exact h2,fun i hi=>(hphi i (by rw[← hl];exact hi)).2,fun i c hi hc => ?_,fun i hi => ?_,?_⟩
 ·have hi':i<(bat (dnx d) 0 d.next.length).met.length:=by rw[← hl];exact hi
  refine⟨(Zcf hf hi hc).1,?_⟩;obtain⟨p1,p2⟩:=hphi i hi';have hn:nxD (Za6 d) i c=Zaj (bat (dnx d) 0 d.next.length).met (dnx d ((bat (dnx d) 0 d.next.length).met.getD i 0) c):=by unfold nxD Za6;rw[Zfq (a:=(0:Int)) hi',ZgT hc,Int.toNat_natCast]
  have hm:=Zd9 (nx:=dnx d) (a:=(0:Int)) h2 (memD (d:=0) hi') hc;rw[hn];unfold phiD;rw[ZiW hm,p1,(Zcf hd p2 hc).2,Int.toNat_natCast];rfl
 ·have hi':i<(bat (dnx d) 0 d.next.length).met.length:=by rw[← hl];exact hi
  unfold enD Za6 phiD;simp[Zas,hi',den]
 unfold phiD;rw[Zhq];rfl
theorem Zh9 {x:DfaD} (hx:fine x):fine (Zc1 x)∧(Zc1 x).next.length=x.next.length∧∀ k c,k<x.next.length→c<3→dnx (Zc1 x) (k:Int) c=((clD x (nxD x k c):Nat):Int):=by
 have hl:(Zc1 x).next.length=x.next.length:=by simp[Zc1]
 have hr:∀ k,k<x.next.length→(Zc1 x).next.getD k []=(List.range 3).map fun c=>((clD x (nxD x k c):Nat):Int):=fun k hk=>by simp[Zc1,hk]
 have hc:∀ k c,k<x.next.length→c<3→((Zc1 x).next.getD k []).getD c 0=((clD x (nxD x k c):Nat):Int):=fun k c hk hc=>by rw[hr k hk];simp[hc]
 refine⟨⟨by rw[hl];exact hx.1,by rw[hl];exact hx.2.1,by rw[hl];exact hx.2.2.1,fun i hi => ?_⟩,hl,fun k c hk h3 => ?_⟩
 ·rw[hl] at hi;refine⟨by rw[hr i hi];simp,fun c h3 => ?_⟩;rw[hc i c hi h3,hl];have h1:=(Zcf hx hi h3).1;have h2:=(Zbv (nxD x i c) h1).1;omega
 unfold dnx;rw[Int.toNat_natCast];exact hc k c hk h3
theorem ZcI {d:DfaD} (hd:fine d):Zal d=minD d:=by
 obtain⟨hx,hmn,hφ,hst,hen,hφ0⟩:=ZhM hd;obtain⟨x,hxe⟩:=eI (Za6 d);unfold Zal;rw[← hxe] at hx hmn hφ hst hen ⊢;obtain⟨hff,hfl,hfn⟩:=Zh9 hx;have hm0:0<x.next.length:=hx.1;have hsim:=fun {i j:Nat} (hi:i<x.next.length) (hj:j<x.next.length)=>ZoT (n:=d.next.length) (m:=x.next.length) (nx:=nxD d) (nx':=nxD x) (en:=enD d) (en':=enD x) (phiD d) hmn hφ hst hen hi hj
 have hdin:∀ s c,s<d.next.length→c<3→nxD d s c<d.next.length:=fun s c hs hc=>(Zcf hd hs hc).1
 have hmet:=(Zby hff x.next.length).2;rw[hfl] at hmet;have hbat:bat (dnx (Zc1 x)) 0 d.next.length=bat (dnx (Zc1 x)) 0 x.next.length:=ZbI hmet hmn
 have key:=Zdr (nx:=dnx (Zc1 x)) (nx':=nxM d) (a:=(0:Int)) (f:=fun j:Int=>((clD d (phiD d j.toNat):Nat):Int)) (Q:=fun j=>∃ k:Nat,j=(k:Int)∧k<x.next.length∧clD x k=k) (en:=den (Zc1 x)) (en':=den d) (K:=d.next.length)
  ⟨0,rfl,hm0,Nat.le_zero.1 (Zbv 0 hm0).1⟩ ?_ ?_ ?_ ?_
 ·unfold Za6 minD;rw[hfl,← hbat,← key];have e:((clD d (phiD d (0:Int).toNat):Nat):Int)=((clD d 0:Nat):Int):=by show((clD d (phiD d 0):Nat):Int)=_;rw[hφ0]
  simp only[e]
 ·rintro j c hc ⟨k,rfl,hk,-⟩;rw[hfn k c hk hc];have h1:=(Zcf hx hk hc).1;obtain⟨h2,h3⟩:=Zbv (nxD x k c) h1;exact⟨_,rfl,by omega,h3⟩
 ·rintro j j' ⟨k,rfl,hk,hr⟩ ⟨k',rfl,hk',hr'⟩ h;simp only[Int.toNat_natCast] at h;have h1:clD d (phiD d k)=clD d (phiD d k'):=by omega
  have h2:clD x k=clD x k':=(hsim hk hk').2 h1;rw[hr,hr'] at h2;rw[h2]
 ·rintro j c hc ⟨k,rfl,hk,-⟩;rw[hfn k c hk hc];obtain⟨h1,-⟩:=Zcf hx hk hc;obtain⟨h2,h3⟩:=Zbv (nxD x k c) h1;simp only[Int.toNat_natCast,nxM];have a1:clD d (phiD d (clD x (nxD x k c)))=clD d (phiD d (nxD x k c)):=(hsim (by omega) h1).1 h3;rw[a1,(hst k c hk hc).2];obtain⟨h4,h5⟩:=Zbv (phiD d k) (hφ k hk);have a2:clD d (nxD d (clD d (phiD d k)) c)=clD d (nxD d (phiD d k) c):=Zi9 hdin (en:=enD d) (s:=clD d (phiD d k)) (t:=phiD d k) (by have:=hφ k hk;omega) (hφ k hk) h5 c hc;rw[a2]
 rintro j ⟨k,rfl,hk,-⟩;obtain⟨h4,h5⟩:=Zbv (phiD d k) (hφ k hk);have a:=Zde (n:=d.next.length) (nx:=nxD d) (en:=enD d) (s:=clD d (phiD d k)) (t:=phiD d k) (by have:=hφ k hk;omega) (hφ k hk) h5;simp only[Int.toNat_natCast];show enD d (((clD d (phiD d k):Nat):Int).toNat)=enD x (((k:Nat):Int).toNat);rw[Int.toNat_natCast,Int.toNat_natCast,a,hen k hk]
def clsL (n:Nat) (cl:Nat→Nat):List Int:=(List.range n).map fun s=>(cl s:Int)
theorem ZbG (n:Nat) (cl:Nat→Nat):(clsL n cl).length=n:=by simp[clsL]
theorem Zi8 {n s:Nat} (cl:Nat→Nat) (h:s<n):(clsL n cl).getD s 0=(cl s:Int):=by simp[clsL,h]
def Zek (d:DfaD) (cl:Nat→Nat) (s o:Nat) (k:Nat):Bool:=(List.range k).all fun c=>decide (cl (nxD d s c)=cl (nxD d o c))
theorem ZhU (d:DfaD) (cl:Nat→Nat) (s o k:Nat):Zek d cl s o (k+1)=(Zek d cl s o k&&decide (cl (nxD d s k)=cl (nxD d o k))):=by unfold Zek;rw[List.range_succ,List.all_append];simp
theorem Zpv {d:DfaD} {cl:Nat→Nat} {s o k:Nat} (hk:k<3) (h:cl (nxD d s k)≠cl (nxD d o k)):Zek d cl s o 3=false:=by
 cases he:Zek d cl s o 3 with
 | false=>rfl
 | true =>have:=List.all_eq_true.1 he k (List.mem_range.2 hk);exact absurd (by simpa using this) h
theorem Zkx (d:DfaD) (cl:Nat→Nat) (s o:Nat) (dv cv:Value) (w:World) (hd:Zag d.next d.ends=true) (hs:s<d.next.length) (ho:o<d.next.length) (hcl:∀ t,t<d.next.length→cl t<d.next.length) (h:DfaR 0 w dv d) (hc:Ints 0 w cv (clsL d.next.length cl)) (r:Bool) (hr:Zek d cl s o 3=r) :
  Calls Tryz.prog 144 #[dv,cv,.int .i64 s,.int .i64 o] w fun e w'=>e = .returned (.bool r)∧Below w.heap.size w w':=by
 obtain⟨v1,v2,rfl,q1,q2⟩:=h;have hf:=ZaL hd;obtain⟨L,hL⟩:=eI (d.next.length);obtain⟨hl1,hl2,-⟩:=Zaf hd;have hrow:=fun (i:Nat) (hi:i<d.next.length)=>(ZaM hd hi).1
 have hnx:=fun (i c:Nat) (hi:i<d.next.length) (h3:c<3)=>(Zcf hf hi h3)
 obtain⟨av,cvv,rfl,hc1,hc2,hr1⟩:=q1.formI;obtain⟨b1,o1,rfl,-,hb1,hcs1⟩:=hr1 (by omega);obtain⟨ac,cc,rfl,hc3,hc4,hr2⟩:=hc.form;rw[ZbG] at hc3 hr2;rw[ZbG];obtain⟨b2,o2,rfl,-,hb2,hcs2⟩:=hr2 (by omega);have hcell:∀ t,t<d.next.length→w.cell? ⟨b2,o2+t,none⟩=some (.int .i64 (cl t:Nat)):=fun t ht=>by rw[hcs2 t ht,Zi8 cl ht]
 obtain⟨ax,cs,hks,-,-,hIs⟩:=hcs1 s hs;obtain⟨ao,co,hko,-,-,hIo⟩:=hcs1 o ho;rw[hrow s hs] at hks hIs;rw[hrow o ho] at hko hIo;obtain⟨_,_,hform,-,-,hrs⟩:=hIs.form;rw[hrow s hs] at hform hrs;simp only[Value.slice.injEq,true_and] at hform;obtain⟨rfl,rfl⟩:=hform;obtain⟨b3,o3,rfl,-,hb3,hcs3⟩:=hrs (by omega);obtain⟨_,_,hform,-,-,hro⟩:=hIo.form;rw[hrow o ho] at hform hro;simp only[Value.slice.injEq,true_and] at hform;obtain⟨rfl,rfl⟩:=hform;obtain⟨b4,o4,rfl,-,hb4,hcs4⟩:=hro (by omega)
 have hval:∀ i c,i<d.next.length→c<3→(d.next.getD i []).getD c 0=((nxD d i c:Nat):Int):=fun i c hi h3=>by
  have:=(hnx i c hi h3).2;unfold dnx at this
  rwa [Int.toNat_natCast] at this
 have hS0:=(St.start w).alloc _ rfl #[.slice (some ⟨b1,o1,none⟩) d.next.length cvv,v2] 25;have Hnx:=qh hnx;have Hval:=qh hval;have Hcell:=qh hcell;have Hks:=qh hks;have Hko:=qh hko;have Hcs3:=qh hcs3;have Hcs4:=qh hcs4;have Hcl:=qh hcl;rw[← hL] at hs ho hl1 hl2 hS0;rw[← hL];have hsI:(s:Int)<L:=by omega
 have hoI:(o:Int)<L:=by omega
 replace hS0:=qh hS0;have Hhr:=qh hr;clear hr;replace hL:=qh hL;clear hnx hval hcell hks hko hcs3 hcs4 hcl hcs1 hcs2 hr1 hr2 hrs hro hIs hIo q1 q2 hc hd hrow hf
 go_enter Tryz.func144, Tryz.ntmps144
 go_wp2
 go_loopw [10] (fun i wr=>∃ k:Nat,i = .int .i64 k∧k≤3∧Zek d cl s o k=true∧St w wr [Ent.box w.heap.size #[.slice (some ⟨b1,o1,none⟩) L cvv,v2] 25]) (fun i _=>3-(intOf i).toNat)
 case atStart=>exact⟨0,rfl,by omega,rfl,hS0.out⟩
 case round =>
  obtain⟨k,rfl,hk,hsm,hS⟩:=hrel;by_cases hlt:k<3
  ·have hlt2:(k:Int)<3:=by omega
   have hsn:s<d.next.length:=by have:=hL.out;omega
   have hon:o<d.next.length:=by have:=hL.out;omega
   have h1:=(Hnx.out s k hsn hlt).1;have h2:=(Hnx.out o k hon hlt).1;have e0:=hS.cell (v:=.slice (some ⟨b1,o1,none⟩) L cvv) 0 0 rfl rfl;have e1:=(bcell hS.bel b1 _ hb1).trans Hks.out;have e2:=(bcell hS.bel b1 _ hb1).trans Hko.out;have e3:=(bcell hS.bel b3 _ hb3).trans (Hcs3.out k hlt);have e4:=(bcell hS.bel b4 _ hb4).trans (Hcs4.out k hlt);rw[Hval.out s k hsn hlt] at e3;rw[Hval.out o k hon hlt] at e4;have e5:=(bcell hS.bel b2 _ hb2).trans (Hcell.out _ h1);have e6:=(bcell hS.bel b2 _ hb2).trans (Hcell.out _ h2);have hsucc:=ZhU d cl s o k;obtain⟨p,hp⟩:=eI (nxD d s k);obtain⟨q,hq⟩:=eI (nxD d o k);rw[← hp] at h1 e3 e5 hsucc;rw[← hq] at h2 e4 e6 hsucc;rw[hsm,Bool.true_and] at hsucc;rw[← hL.out] at h1 h2;have hpI:(p:Int)<L:=by omega
   have hqI:(q:Int)<L:=by omega
   have Hhp:=qh hp;clear hp;have Hhq:=qh hq;clear hq;have HhS:=qh hS;clear hS;have Hhsm:=qh hsm;clear hsm;have Hhsucc:=qh hsucc;clear hsucc;clear h1 h2 hsn hon;by_cases he:cl p=cl q
   ·have heI:((cl p:Int) != (cl q:Int))=false:=by rw[he];simp
    have heI2:((cl p:Int)=(cl q:Int))=True:=by simp[he]
    have heI3:(!((cl p:Int)==(cl q:Int)))=false:=by rw[he];simp
    have Hhe:=qh he;clear he;go_wp2
    go_quiet (fail)
    go_wp2;go_roundw
    case rel=>exact⟨k+1,by go_num,by omega,by rw[Hhsucc.out];simp[Hhe.out],HhS.out.drewN _⟩
    case measure=>simp[intOf];omega
   have heI:((cl p:Int) != (cl q:Int))=true:=by simp;omega
   have heI2:((cl p:Int)=(cl q:Int))=False:=by simp;omega
   have heI3:(!((cl p:Int)==(cl q:Int)))=true:=by simp;omega
   have Hhe:=qh he;clear he;go_wp2
   go_quiet (fail)
   go_wp2;go_ret;have hrf:false=r:=by rw[← Hhr.out];exact(Zpv hlt (by rw[← Hhp.out,← Hhq.out];exact Hhe.out)).symm
   subst hrf;exact⟨rfl,(HhS.out.drewN _).bel⟩
  obtain rfl:k=3:=by omega
  have hrt:true=r:=by rw[← Hhr.out,hsm]
  subst hrt;have HhS:=qh hS;clear hS;have Hhsm:=qh hsm;clear hsm;go_wp2;go_ret;exact⟨rfl,HhS.out.bel⟩
def Zda (l:List Int) (x:Int):Int:=if x∈l then((l.idxOf x:Nat):Int) else -1
theorem ZjH {l:List Int} {x:Int} {k:Nat} (hk:k<l.length) (hn:x ∉ l.take k) (h:l.getD k 0=x):Zda l x=(k:Int):=by
 have hx:l[k]=x:=by simpa [hk] using h
 have hm:x∈l:=by rw[← hx];exact List.getElem_mem hk
 unfold Zda;rw[if_pos hm];have e:l=l.take k++(x::l.drop (k+1)):=by rw[← hx,List.getElem_cons_drop,List.take_append_drop]
 have:l.idxOf x=k:=by rw[e,List.idxOf_append,if_neg hn];simp;omega
 rw[this]
theorem Zh5 (l:List Int) (x:Int) (v:Value) (w:World) (hl:l.length≤1000000) (h:Ints 0 w v l) :
  Calls Tryz.prog 165 #[v,.int .i64 x] w fun e w'=>e = .returned (.int .i64 (Zda l x))∧Below w.heap.size w w':=by
 obtain⟨a,c,rfl,hc1,hc2,hr⟩:=h.form;have Hr:=qh hr;clear hr h
 go_enter Tryz.func165, Tryz.ntmps165
 go_wp2
 go_loopw [5] (fun i wr=>∃ k:Nat,i = .int .i64 k∧k≤l.length∧x ∉ l.take k∧Below w.heap.size w wr) (fun i _=>l.length-(intOf i).toNat)
 case atStart=>exact⟨0,rfl,Nat.zero_le _,by simp,Below.refl _ _⟩
 case round =>
  obtain⟨k,rfl,hk,hn,hb⟩:=hrel;by_cases hlt:k<l.length
  ·have hlt2:(k:Int)<l.length:=by omega
   obtain⟨b,o,rfl,-,hbl,hcs⟩:=Hr.out (by omega);have k1:=(bcell hb b _ hbl).trans (hcs k hlt);have htk:l.take (k+1)=l.take k++[l.getD k 0]:=by rw[List.take_succ_eq_append_getElem hlt];simp[hlt]
   obtain⟨y,hy⟩:=eI (l.getD k 0);rw[← hy] at k1 htk;replace hy:=qh hy;replace hb:=qh hb;have Hhtk:=qh htk;clear htk;clear hcs;by_cases he:y=x
   ·subst he;have hnm:Zda l y=(k:Int):=ZjH hlt hn hy.out.symm;have Hhn:=qh hn;clear hn;have Hhnm:=qh hnm;clear hnm;go_wp2;go_ret;refine⟨?_,hb.out⟩;rw[Hhnm.out];rfl
   have he2:(y=x)=False:=by simp[he]
   have he3:(y==x)=false:=by simpa using he
   have Hhn:=qh hn;clear hn;have Hhe:=qh he;clear he;go_wp2;go_roundw
   case rel=>exact⟨k+1,by go_num,by omega,by rw[Hhtk.out];simp only[List.mem_append,List.mem_singleton,not_or];exact⟨Hhn.out,fun e=>Hhe.out e.symm⟩,hb.out⟩
   case measure=>simp[intOf];omega
  obtain rfl:k=l.length:=by omega
  rw[List.take_length] at hn;have hnm:Zda l x = -1:=by unfold Zda;rw[if_neg hn]
  have Hhn:=qh hn;clear hn;replace hb:=qh hb;have Hhnm:=qh hnm;clear hnm;go_wp2;go_ret;refine⟨?_,hb.out⟩;rw[Hhnm.out];rfl
section
variable {n:Nat} {nx:Nat→Nat→Nat}
def clR (n:Nat) (nx:Nat→Nat→Nat) (en:Nat→Bool):Nat→Nat→Nat
 | 0=>fun s=>if en s=true then 1 else 0
 | i+1=>Zar n nx (clR n nx en i)
theorem ZkB (hnx:∀ s c,s<n→c<3→nx s c<n) {cl cl':Nat→Nat} (h:∀ s t,s<n→t<n→(cl s=cl t↔cl' s=cl' t)) {s:Nat} (hs:s<n):Zar n nx cl s=Zar n nx cl' s:=by
 unfold Zar;refine ZdO fun t ht => ?_
 rw[Bool.eq_iff_iff,Zax,Zax,h t s ht hs];constructor
 ·rintro⟨a,b⟩;exact⟨a,fun c hc=>(h _ _ (hnx t c ht hc) (hnx s c hs hc)).1 (b c hc)⟩
 rintro⟨a,b⟩;exact⟨a,fun c hc=>(h _ _ (hnx t c ht hc) (hnx s c hs hc)).2 (b c hc)⟩
theorem ZlR (hnx:∀ s c,s<n→c<3→nx s c<n) (en:Nat→Bool):∀ i,(∀ s t,s<n→t<n→(clR n nx en i s=clR n nx en i t↔clAt n nx en i s=clAt n nx en i t))∧(0<i→∀ s,s<n→clR n nx en i s=clAt n nx en i s)
 | 0=>⟨fun s t hs ht=>by rw[Zie hs ht];unfold clR;cases en s<;>cases en t<;>simp,fun h=>absurd h (by omega)⟩
 | i+1=>by
  have ih:=(ZlR hnx en i).1;have h2:∀ s,s<n→clR n nx en (i+1) s=clAt n nx en (i+1) s:=fun s hs=>ZkB hnx ih hs
  exact⟨fun s t hs ht=>by rw[h2 s hs,h2 t ht],fun _=>h2⟩
theorem ZhP (hnx:∀ s c,s<n→c<3→nx s c<n) (en:Nat→Bool) (i:Nat):stays n nx en i↔∀ k j,k<n→j<k→(clR n nx en i j=clR n nx en i k↔clR n nx en (i+1) j=clR n nx en (i+1) k):=by
 have h0:=(ZlR hnx en i).1;have h1:=(ZlR hnx en (i+1)).1;constructor
 ·intro h k j hk hj;rw[h0 j k (by omega) hk,h1 j k (by omega) hk,h j (by omega),h k hk]
 intro h
 have key:∀ k j,k<n→j≤k→(clAt n nx en i j=clAt n nx en i k↔clAt n nx en (i+1) j=clAt n nx en (i+1) k):=fun k j hk hj=>by
  by_cases e:j=k
  ·rw[e];exact⟨fun _=>rfl,fun _=>rfl⟩
  have:=h k j hk (by omega)
  rwa [h0 j k (by omega) hk,h1 j k (by omega) hk] at this
 intro s hs;have g0:=ZdV (n:=n) (nx:=nx) en i;have g1:=ZdV (n:=n) (nx:=nx) en (i+1);have a1:=g1.le s hs;have b1:=g0.le s hs;have a2:=(key s _ hs a1).2 (g1.id s hs);have b2:=(key s _ hs b1).1 (g0.id s hs);have a3:=g0.le (clAt n nx en (i+1) s) (by omega);have b3:=g1.le (clAt n nx en i s) (by omega);omega
theorem ZnN {cl:Nat→Nat} (hg:GoodC n cl) {k:Nat} (hk:k<n):Zda (clsL n cl) (cl k:Int)=(cl k:Int):=by have h1:=hg.le k hk;have h2:=hg.id k hk;refine ZjH (by rw[ZbG];omega) (fun hm => ?_) (by rw[Zi8 cl (by omega),h2]);obtain⟨i,hi,e⟩:=List.getElem_of_mem hm;simp only[List.length_take,ZbG] at hi;rw[List.getElem_take] at e;simp only[clsL,List.getElem_map,List.getElem_range] at e;have:=hg.le i (by omega);omega
def lowK (n:Nat) (nx:Nat→Nat→Nat) (cl:Nat→Nat) (k m x:Nat):Prop:=x=Zar n nx cl k∨(x=k∧∀ t,m≤t→t<k→ZbP nx cl t k=false)
theorem Zmq (cl:Nat→Nat) (k:Nat):lowK n nx cl k k k:=Or.inr ⟨rfl,fun t h1 h2=>by omega⟩
theorem ZpM {cl:Nat→Nat} {k m:Nat} (hk:k<n) (hm:m<n) (h:ZbP nx cl m k=true):lowK n nx cl k m (Zar n nx cl m):=Or.inl ((ZbW hm hk).2 h)
theorem ZqN {cl:Nat→Nat} {k m x:Nat} (h:ZbP nx cl m k=false) (hl:lowK n nx cl k (m+1) x):lowK n nx cl k m x:=by
 rcases hl with h1|⟨h1,h2⟩
 ·exact Or.inl h1
 refine Or.inr ⟨h1,fun t a b => ?_⟩;by_cases e:t=m
 ·rw[e];exact h
 exact h2 t (by omega) b
theorem ZpN {cl:Nat→Nat} {k x:Nat} (hk:k<n) (hl:lowK n nx cl k 0 x):x=Zar n nx cl k:=by
 rcases hl with h1|⟨h1,h2⟩
 ·exact h1
 obtain⟨a1,a2,a3⟩:=ZaY (nx:=nx) (cl:=cl) hk;by_cases e:Zar n nx cl k<k
 ·have:=h2 _ (Nat.zero_le _) e;rw[this] at a2;exact absurd a2 (by simp)
 omega
end
theorem Zfy {n:Nat} {cl cl':Nat→Nat} (h:∀ s,s<n→cl s=cl' s):clsL n cl=clsL n cl':=List.map_congr_left fun s hs=>by rw[h s (List.mem_range.1 hs)]
theorem Ze3 (k:Nat) (cl:Nat→Nat):clsL (k+1) cl=clsL k cl++[(cl k:Int)]:=by unfold clsL;rw[List.range_succ,List.map_append];rfl
theorem Zll (d:DfaD) (cl:Nat→Nat) (t s:Nat):ZbP (nxD d) cl t s=(decide (cl t=cl s)&&Zek d cl t s 3):=rfl
end Go.Proofs.YtfgpkadhegdffaaGreat
namespace Go.Proofs.YtfgpkadhegdffaaGreat
open Go.RowKit Go.Maps
theorem Ziu {l:List Int} {m:Int} (h:stOk l m=true) {j:Nat} (hj:j<l.length):(0≤l.getD j 0∧l.getD j 0≤m-1)∧(0<j→l.getD (j-1) 0<l.getD j 0):=by
 unfold stOk at h;rw[List.all_eq_true] at h;have h1:=h j (List.mem_range.2 hj);unfold okAt at h1;rw[Bool.and_eq_true,Bool.or_eq_true] at h1;obtain⟨h1,h2⟩:=h1;refine⟨by simpa [inB] using h1,fun h0 => ?_⟩;rcases h2 with h2|h2
 ·have:=of_decide_eq_true h2;omega
 exact of_decide_eq_true h2
theorem Znb {l:List Int} {m:Int} (h:stOk l m=true):∀ j,j<l.length→(j:Int)≤l.getD j 0
 | 0,hj=>(Ziu h hj).1.1
 | j+1,hj=>by have h1:=Znb h j (by omega);have h2:=(Ziu h hj).2 (by omega);rw[Nat.add_sub_cancel] at h2;omega
theorem ZhT {l:List Int} {m:Nat} (h:stOk l (m:Int)=true):inN m l∧l.length≤m:=by
 refine⟨fun s hs => ?_,?_⟩
 ·obtain⟨j,hj,e⟩:=List.getElem_of_mem hs;have:=(Ziu h hj).1;rw[Zbm hj,e] at this;omega
 rcases Nat.eq_zero_or_pos l.length with h0|h0
 ·omega
 have h1:=Znb h (l.length-1) (by omega);have h2:=(Ziu h (j:=l.length-1) (by omega)).1.2;omega
theorem Zds {n:NfaD} (h:ZiK n=true):∃ m:Nat,n.states=(m:Int)∧m≤40∧mvIn m n.moves∧n.moves.length≤400∧inN m n.firsts∧n.firsts.length≤40∧inN m n.ends∧n.ends.length≤40:=by
 unfold ZiK at h;simp only[Bool.and_eq_true] at h;obtain⟨⟨⟨⟨h1,h2⟩,h3⟩,h4⟩,h5⟩:=h;have h1:0≤n.states∧n.states≤40:=by simpa [inB] using h1
 obtain⟨m,hm⟩:=Int.eq_ofNat_of_zero_le h1.1;rw[hm] at h3 h4 h5;have f3:=ZhT h3;have f4:=ZhT h4;refine⟨m,hm,by omega,fun x hx => ?_,of_decide_eq_true h2,f3.1,by omega,f4.1,by omega⟩;rw[List.all_eq_true] at h5;have:=h5 x hx;unfold mvOk at this;simp only[Bool.and_eq_true,inB,decide_eq_true_eq] at this;omega
def eds (d:DfaD):Nat→List Int
 | 0=>[]
 | s+1=>if d.ends.getD s false=true then eds d s++[(s:Int)] else eds d s
theorem Zc2 (d:DfaD):∀ s,(eds d s).length≤s
 | 0=>Nat.le_refl _
 | s+1=>by
  have ih:=Zc2 d s;unfold eds
  split
  ·rw[List.length_append,List.length_singleton];omega
  omega
theorem Zav (l:List Int) (x:Int):intCells (l++[x])=intCells l++[.int .i64 x]:=by simp[intCells]
theorem ZbL {k:IntKind} {x:Int}:∀ u∈[Value.int k x],u.oneCell'=true:=by intro u hu;simp only[List.mem_singleton] at hu;subst hu;rfl
def RNfaS (n:NfaD) (w:World) (e:Ending) (w':World):Prop:=∃ a1 c1 a2 c2 a3 c3,e = .returned (.agg #[.int .i64 n.states,.slice a1 n.moves.length c1,.slice a2 n.firsts.length c2,.slice a3 n.ends.length c3]) ∧
 St w w' [Ent.row 135 3 (.slice a1 n.moves.length c1) n.moves.length (n.moves.flatMap Zac),Ent.row 3 1 (.slice a2 n.firsts.length c2) n.firsts.length (intCells n.firsts),Ent.row 3 1 (.slice a3 n.ends.length c3) n.ends.length (intCells n.ends)]
theorem ZcR {w:World} {B e:Nat} {v:Value} {xs:List (Int × Int × Int)} (hr:w.ownsRow B e 3 v xs.length (xs.flatMap Zac)):Moves 0 w v xs :=
 ((Zab hr).sl (by omega)).mono (Nat.zero_le _)
theorem ZdR {w:World} {B e:Nat} {v:Value} {xs:List Int} (hr:w.ownsRow B e 1 v xs.length (intCells xs)):Ints 0 w v xs :=
 ((Zab hr).sl (by omega)).mono (Nat.zero_le _)
theorem St.moves {w0 w:World} {L:List Ent} (h:St w0 w L) (i:Nat) {e:Nat} {v:Value} {xs:List (Int × Int × Int)} (hx:L[i]? = some (Ent.row e 3 v xs.length (xs.flatMap Zac))):Moves 0 w v xs:=ZcR (h.row i hx)
theorem Tryz.infoMv:(Tryz.prog.info? 135).map (fun i=>(i.zero,i.size,i.bytes))=some (some (.agg #[.int .i64 0,.int .i64 0,.int .i64 0]),3,24):=by kernel_rfl
theorem Zed {s c x:Int}:∀ u∈[Value.int .i64 s,Value.int .i64 c,Value.int .i64 x],u.oneCell'=true:=by intro u hu;simp at hu;rcases hu with rfl|rfl|rfl<;>rfl
theorem ZcE (xs:List (Int × Int × Int)) (s c x:Int):(xs++[(s,c,x)]).flatMap Zac=xs.flatMap Zac++[.int .i64 s,.int .i64 c,.int .i64 x]:=by simp[Zac]
end Go.Proofs.YtfgpkadhegdffaaGreat
namespace Go.Proofs.YtfgpkadhegdffaaGreat
open Go.RowKit
section
variable {P:Program} (w:World)
theorem ZgO {w:World} {base e size n:Nat} {v:Value} {xs:List Value} (h:w.ownsRow base e size v n xs):∃ a cap,v = .slice a n cap∧n≤cap:=by
 rcases h.2 with⟨h1,h2⟩|⟨g',cap',cur,h1,-,-,h4,-⟩
 ·exact⟨none,0,by rw[h1,h2],by omega⟩
 exact⟨_,cap',h1,h4⟩
theorem ZiA (t ty:TypeId) (base:Nat) (e:TypeId) (i:TypeInfo) (z:Value) (size bytes:Nat) (ht:P.underlying t=some (.slice e)) (hi:P.info? e=some i) (hz:i.zero=some z)
  (hsize:i.size=size) (hby:i.bytes=bytes) (hzs:z.cells.size=size) (hsz:0<size)
  (v:Value) (n:Nat) (xs:List Value) (hown:w.ownsRow base e size v n xs) (x:Value) (m:Nat) (news:List Value) (hx:Sl 0 w x m size news) (h1:∀ u∈news,u.oneCell'=true)
  (h63:n+m≤maxLen) (hbytes:(n+m)*bytes≤140737488355328) (hbase:base≤w.heap.size) :
  ∃ a' cap w',(Builtin.append_ #[t,t] ty #[v,x]).run P w = .ok (.slice a' (n+m) cap) w'∧w'.ownsRow base e size (.slice a' (n+m) cap) (n+m) (xs++news)∧w.grownBy w' v.ownBlock ∧
   (∀ k,(Value.slice a' (n+m) cap).ownBlock=some k→v.ownBlock=some k∨w.heap.size≤k):=by
 obtain⟨hl,a,cap,rfl,hle,hm,hc⟩:=hx;cases a with
 | some ad =>
  have hnews:∀ j u,news[j]? = some u→w.cell? (ad.add j)=some u:=fun j u hj=>by
   have hjl:=(List.getElem?_eq_some_iff.1 hj).1
   have hm0:0<m:=by
    rcases Nat.eq_zero_or_pos m with h0|h0
    ·rw[h0] at hl;omega
    exact h0
   obtain⟨b,off,ha,-,-,hcs⟩:=hc hm0;simp only[Option.some.injEq] at ha;subst ha;rw[← hj,← hcs j (by omega),← Go.WideShapes.add_plain]
  obtain⟨v',w',hr,h2,h3,-,h5⟩:=run_append_own_at (P:=P) w base t ty e i z size bytes ht hi hz hsize hby hzs hsz v n xs hown ad m cap news hl hnews h1 h63 hbytes hbase;obtain⟨a',cap',rfl,-⟩:=ZgO h2;refine⟨a',cap',w',hr,h2,h3,fun k hk => ?_⟩;rcases h5 with h5|h5
  ·exact Or.inl (by rw[← h5];exact hk)
  rw[h5] at hk;exact Or.inr (by simp only[Option.some.injEq] at hk;omega)
 | none =>
  have hm0:m=0:=by
   rcases Nat.eq_zero_or_pos m with h0|h0
   ·exact h0
   obtain⟨b,off,ha,-⟩:=hc h0;cases ha
  subst hm0;have hnil:news=[]:=List.eq_nil_of_length_eq_zero (by omega);subst hnil;obtain⟨a',cap',rfl,hlc⟩:=ZgO hown;subst hsize;refine⟨a',cap',w,run_append_nothing w t t ty e i ht hi a' n cap' hlc _ (Src.ofNil w ht cap),by simpa using hown,⟨rfl,rfl,rfl,Nat.le_refl _,fun _ _ _=>rfl⟩,fun k hk=>Or.inl hk⟩
theorem Zjk {o:Oper} {a:Act} {K:Act→World→Prop} {Q:Exit→Act→World→Prop} (s x:Operand) (t:TypeId)
  (ho:o.op = .call { callee:=.builtin .append,args:=#[s,x],argTypes:=#[t,t] })
  (base:Nat) (e:TypeId) (i:TypeInfo) (z:Value) (size bytes:Nat) (ht:P.underlying t=some (.slice e)) (hi:P.info? e=some i) (hz:i.zero=some z)
  (hsize:i.size=size) (hby:i.bytes=bytes) (hzs:z.cells.size=size) (hsz:0<size)
  (v:Value) (n:Nat) (xs:List Value) (hs:a.eval s=v) (hown:w.ownsRow base e size v n xs)
  (y:Value) (m:Nat) (news:List Value) (hy:a.eval x=y) (hx:Sl 0 w y m size news) (h1:∀ u∈news,u.oneCell'=true)
  (h63:n+m≤maxLen) (hbytes:(n+m)*bytes≤140737488355328) (hbase:base≤w.heap.size)
  (h:∀ a' cap w',w'.ownsRow base e size (.slice a' (n+m) cap) (n+m) (xs++news)→w.grownBy w' v.ownBlock→(∀ k,(Value.slice a' (n+m) cap).ownBlock=some k→v.ownBlock=some k∨w.heap.size≤k)→K (a.put o.dst (.slice a' (n+m) cap)) w'):o.wp P a w K Q:=by
 obtain⟨a',cap,w',hr,h2,h3,h4⟩:=ZiA (P:=P) w t o.type base e i z size bytes ht hi hz hsize hby hzs hsz v n xs hown y m news hx h1 h63 hbytes hbase;unfold Oper.wp execOp;simp only[ho,resolve,invoke,builtin,Sem.run_bind,Sem.run_pure,Result.andThen_ok,List.map_toArray,List.map_cons,List.map_nil,hs,hy,hr];exact h a' cap w' h2 h3 h4
theorem Zak {ops:Array Oper} {rest:List Oper} {o:Oper} {a:Act} {Q:Exit→Act→World→Prop} (hgd:o.guard=none) (s x:Operand) (t:TypeId)
  (ho:o.op = .call { callee:=.builtin .append,args:=#[s,x],argTypes:=#[t,t] })
  (base:Nat) (e:TypeId) (i:TypeInfo) (z:Value) (size bytes:Nat) (ht:P.underlying t=some (.slice e)) (hi:P.info? e=some i) (hz:i.zero=some z)
  (hsize:i.size=size) (hby:i.bytes=bytes) (hzs:z.cells.size=size) (hsz:0<size)
  (v:Value) (n:Nat) (xs:List Value) (hs:a.eval s=v) (hown:w.ownsRow base e size v n xs)
  (y:Value) (m:Nat) (news:List Value) (hy:a.eval x=y) (hx:Sl 0 w y m size news) (h1:∀ u∈news,u.oneCell'=true)
  (h63:n+m≤maxLen) (hbytes:(n+m)*bytes≤140737488355328) (hbase:base≤w.heap.size)
  (h:∀ a' cap w',w'.ownsRow base e size (.slice a' (n+m) cap) (n+m) (xs++news)→w.grownBy w' v.ownBlock→(∀ k,(Value.slice a' (n+m) cap).ownBlock=some k→v.ownBlock=some k∨w.heap.size≤k)→wpList P ops Q rest (a.put o.dst (.slice a' (n+m) cap)) w'):wpList P ops Q (o::rest) a w :=
 wpList_plain hgd fun _ hK=>Zjk w s x t ho base e i z size bytes ht hi hz hsize hby hzs hsz v n xs hs hown y m news hy hx h1 h63 hbytes hbase fun a' cap w' h2 h3 h4=>hK _ _ (h a' cap w' h2 h3 h4)
end
theorem on_i {k:IntKind} {x:Int}:∀ u∈[Value.int k x],u.oneCell'=true:=by simp[Value.oneCell']
theorem Zqg (l:List Bool) (x:Bool):boolCells (l++[x])=boolCells l++[.bool x]:=by simp[boolCells]
theorem Zoe (l:List Int) (x:Int):intCells (l++[x])=intCells l++[.int .i64 x]:=by simp[intCells]
theorem ZrM {xs:List Int}:∀ u∈intCells xs,u.oneCell'=true:=fun u hu=>by obtain⟨x,-,rfl⟩:=List.mem_map.1 hu;simp[Value.oneCell']
theorem Zri {xs:List (Int × Int × Int)}:∀ u∈xs.flatMap Zac,u.oneCell'=true:=fun u hu=>by obtain⟨x,-,hx⟩:=List.mem_flatMap.1 hu;simp only[Zac,List.mem_cons,List.not_mem_nil,or_false] at hx;rcases hx with rfl|rfl|rfl<;>simp[Value.oneCell']
theorem Zee {xs:List (Int × Int)}:∀ u∈xs.flatMap Zaa,u.oneCell'=true:=fun u hu=>by obtain⟨x,-,hx⟩:=List.mem_flatMap.1 hu;simp only[Zaa,List.mem_cons,List.not_mem_nil,or_false] at hx;rcases hx with rfl|rfl<;>simp[Value.oneCell']
theorem St.appS {w0 w w':World} {L:List Ent} (h:St w0 w L) (i:Nat) {B e size n m cap:Nat} {a':Option Addr} {v:Value} {cs cs':List Value} (hx:L[i]? = some (Ent.row e size v n cs)) (hown:w'.ownsRow B e size (.slice a' m cap) m cs') (hg:w.grownBy w' v.ownBlock)
  (hat:∀ k,(Value.slice a' m cap).ownBlock=some k→v.ownBlock=some k∨w.heap.size≤k):St w0 w' (L.set i (Ent.row e size (.slice a' m cap) m cs')):=h.grow i hx hg hown hat
end Go.Proofs.YtfgpkadhegdffaaGreat
