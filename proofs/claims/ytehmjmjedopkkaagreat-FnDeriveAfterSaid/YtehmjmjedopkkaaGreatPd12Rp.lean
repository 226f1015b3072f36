/-
  Refining classes of states till they stay, plain: the least state of the same class, round by round; it ends.
  No condition: this text speaks of no program.
-/
import Derived.Test.YtehmjmjedopkkaaGreatPd07S8
set_option maxHeartbeats 4000000
set_option maxRecDepth 100000
namespace Go.Proofs.YtehmjmjedopkkaaGreat
section
variable (n:Nat) (nx:Nat→Nat→Nat)
def Zb1 (cl:Nat→Nat) (t s:Nat):Bool:=decide (cl t=cl s)&&(List.range 3).all fun c=>decide (cl (nx t c)=cl (nx s c))
theorem ZaA {cl:Nat→Nat} {t s:Nat}:Zb1 nx cl t s=true↔cl t=cl s∧∀ c,c<3→cl (nx t c)=cl (nx s c):=by simp[Zb1]
theorem Zi3 (cl:Nat→Nat) (s:Nat):Zb1 nx cl s s=true:=(ZaA nx).2 ⟨rfl,fun _ _=>rfl⟩
theorem ZfF {cl:Nat→Nat} {t s:Nat} (h:Zb1 nx cl t s=true):Zb1 nx cl s t=true:=by obtain⟨h1,h2⟩:=(ZaA nx).1 h;exact(ZaA nx).2 ⟨h1.symm,fun c hc=>(h2 c hc).symm⟩
theorem Zde {cl:Nat→Nat} {t s r:Nat} (h:Zb1 nx cl t s=true) (h':Zb1 nx cl s r=true):Zb1 nx cl t r=true:=by obtain⟨h1,h2⟩:=(ZaA nx).1 h;obtain⟨h3,h4⟩:=(ZaA nx).1 h';exact(ZaA nx).2 ⟨h1.trans h3,fun c hc=>(h2 c hc).trans (h4 c hc)⟩
def ZaZ (p:Nat→Bool):Nat→Nat
 | 0=>0
 | k+1=>if p (ZaZ p k)&&decide (ZaZ p k<k) then ZaZ p k else if p k then k else k+1
end
theorem ZgN (p:Nat→Bool):∀ k,(ZaZ p k<k∧p (ZaZ p k)=true∧∀ j,j<ZaZ p k→p j=false)∨(ZaZ p k=k∧∀ j,j<k→p j=false)
 | 0=>Or.inr ⟨rfl,fun j hj=>absurd hj (by omega)⟩
 | k+1=>by
  rcases ZgN p k with⟨h1,h2,h3⟩|⟨h1,h2⟩
  ·left;have e:ZaZ p (k+1)=ZaZ p k:=by simp[ZaZ,h1,h2]
   rw[e];exact⟨by omega,h2,h3⟩
  by_cases hp:p k=true
  ·left;have e:ZaZ p (k+1)=k:=by simp[ZaZ,h1,hp]
   rw[e];exact⟨by omega,hp,h2⟩
  right;have e:ZaZ p (k+1)=k+1:=by simp[ZaZ,h1,hp]
  refine⟨e,fun j hj => ?_⟩;by_cases hjk:j=k
  ·subst hjk;simpa using hp
  exact h2 j (by omega)
theorem ZjZ {p:Nat→Bool} {k s:Nat} (hs:s<k) (hp:p s=true):ZaZ p k≤s∧p (ZaZ p k)=true∧∀ j,j<ZaZ p k→p j=false:=by
 rcases ZgN p k with⟨h1,h2,h3⟩|⟨h1,h2⟩
 ·refine⟨?_,h2,h3⟩;rcases Nat.lt_or_ge s (ZaZ p k) with h|h
  ·rw[h3 s h] at hp;cases hp
  exact h
 rw[h2 s hs] at hp;cases hp
section
variable {n:Nat} {nx:Nat→Nat→Nat}
structure GoodC (n:Nat) (cl:Nat→Nat):Prop where
 le:∀ s,s<n→cl s≤s
 id:∀ s,s<n→cl (cl s)=cl s
def Zaw (n:Nat) (nx:Nat→Nat→Nat) (cl:Nat→Nat) (s:Nat):Nat:=ZaZ (fun t=>Zb1 nx cl t s) n
theorem Za6 {cl:Nat→Nat} {s:Nat} (hs:s<n):Zaw n nx cl s≤s∧Zb1 nx cl (Zaw n nx cl s) s=true∧∀ j,j<Zaw n nx cl s→Zb1 nx cl j s=false :=
 ZjZ hs (Zi3 nx cl s)
theorem ZcH {cl:Nat→Nat} {s t:Nat} (hs:s<n) (ht:t<n):Zaw n nx cl s=Zaw n nx cl t↔Zb1 nx cl s t=true:=by
 obtain⟨a1,a2,a3⟩:=Za6 (nx:=nx) (cl:=cl) hs;obtain⟨b1,b2,b3⟩:=Za6 (nx:=nx) (cl:=cl) ht;constructor
 ·intro h;rw[h] at a2;exact Zde nx (ZfF nx a2) b2
 intro h;have h1:¬ Zaw n nx cl s<Zaw n nx cl t:=fun hlt=>by have:=b3 _ hlt;rw[Zde nx a2 h] at this;cases this
 have h2:¬ Zaw n nx cl t<Zaw n nx cl s:=fun hlt=>by have:=a3 _ hlt;rw[Zde nx b2 (ZfF nx h)] at this;cases this
 omega
theorem ZfK {cl:Nat→Nat}:GoodC n (Zaw n nx cl):=by refine⟨fun s hs=>(Za6 hs).1,fun s hs => ?_⟩;obtain⟨a1,a2,a3⟩:=Za6 (nx:=nx) (cl:=cl) hs;exact(ZcH (by omega) hs).2 a2
theorem ZkA {cl:Nat→Nat} (hg:GoodC n cl) {s:Nat} (hs:s<n) (h:cl s=s):Zaw n nx cl s=s:=by obtain⟨a1,a2,a3⟩:=Za6 (nx:=nx) (cl:=cl) hs;have e:=((ZaA nx).1 a2).1;have:=hg.le (Zaw n nx cl s) (by omega);omega
def reps (n:Nat) (cl:Nat→Nat):Nat:=((List.range n).filter fun s=>decide (cl s=s)).length
theorem ZfJ {cl:Nat→Nat} (hg:GoodC n cl) {s:Nat} (hs:s<n) (hne:Zaw n nx cl s≠cl s):reps n cl<reps n (Zaw n nx cl):=by
 obtain⟨a1,a2,a3⟩:=Za6 (nx:=nx) (cl:=cl) hs;have e:=((ZaA nx).1 a2).1;have hr:Zaw n nx cl s<n:=by omega
 refine Zek (a:=Zaw n nx cl s) ?_ ?_ (List.mem_range.2 hr) fun x hx h => ?_
 ·have:cl (Zaw n nx cl s)≠Zaw n nx cl s:=by rw[e];exact fun h=>hne h.symm
  simpa using this
 ·simpa using ZfK.id s hs
 simp only[decide_eq_true_eq] at h ⊢;exact ZkA hg (List.mem_range.1 hx) h
theorem Zi6 (n:Nat) (cl:Nat→Nat):reps n cl≤n:=by have:=List.length_filter_le (fun s=>decide (cl s=s)) (List.range n);simpa [reps] using this
def clAt (n:Nat) (nx:Nat→Nat→Nat) (en:Nat→Bool):Nat→Nat→Nat
 | 0=>fun s=>ZaZ (fun t=>en t==en s) n
 | i+1=>Zaw n nx (clAt n nx en i)
theorem Zds {en:Nat→Bool} {s:Nat} (hs:s<n):clAt n nx en 0 s≤s∧en (clAt n nx en 0 s)=en s∧∀ j,j<clAt n nx en 0 s→en j≠en s:=by
 obtain⟨a,b,c⟩:=ZjZ (p:=fun t=>en t==en s) hs (by simp);have b':en (ZaZ (fun t=>en t==en s) n)=en s:=by simpa using b
 exact⟨a,b',fun j hj=>by simpa using c j hj⟩
theorem ZiM {en:Nat→Bool} {s t:Nat} (hs:s<n) (ht:t<n):clAt n nx en 0 s=clAt n nx en 0 t↔en s=en t:=by
 obtain⟨a1,a2,a3⟩:=Zds (nx:=nx) (en:=en) hs;obtain⟨b1,b2,b3⟩:=Zds (nx:=nx) (en:=en) ht;constructor
 ·intro h;rw[← a2,← b2,h]
 intro h;have h1:¬ clAt n nx en 0 s<clAt n nx en 0 t:=fun hlt=>b3 _ hlt (a2.trans h)
 have h2:¬ clAt n nx en 0 t<clAt n nx en 0 s:=fun hlt=>a3 _ hlt (b2.trans h.symm)
 omega
theorem Zgl (en:Nat→Bool):∀ i,GoodC n (clAt n nx en i)
 | 0=>⟨fun s hs=>(Zds hs).1,fun s hs=>by obtain⟨a1,a2,a3⟩:=Zds (nx:=nx) (en:=en) hs;exact(ZiM (by omega) hs).2 a2⟩
 | _+1=>ZfK
def stays (n:Nat) (nx:Nat→Nat→Nat) (en:Nat→Bool) (i:Nat):Prop:=∀ s,s<n→clAt n nx en (i+1) s=clAt n nx en i s
theorem ZjE (en:Nat→Bool):∃ i,i≤n∧stays n nx en i∧∀ j,j<i→¬ stays n nx en j:=by
 have key:∀ k,(∀ j,j<k→¬ stays n nx en j)→k≤reps n (clAt n nx en k):=by
  intro k
  induction k with
  | zero=>intro _;exact Nat.zero_le _
  | succ k ih =>
   intro h;have h1:=ih fun j hj=>h j (by omega)
   have h2:=h k (by omega);have h3:∃ s,s<n∧clAt n nx en (k+1) s≠clAt n nx en k s:=Classical.byContradiction fun hn=>h2 fun s hs=>Classical.byContradiction fun hne=>hn ⟨s,hs,hne⟩
   obtain⟨s,hs,hne⟩:=h3;have:=ZfJ (nx:=nx) (Zgl (nx:=nx) en k) hs hne;show k+1≤reps n (Zaw n nx (clAt n nx en k));omega
 have hex:∃ i,i≤n∧stays n nx en i:=Classical.byContradiction fun hn=>by
  have:=key (n+1) fun j hj hs=>hn ⟨j,by omega,hs⟩
  have:=Zi6 n (clAt n nx en (n+1));omega
 obtain⟨i,hi,hs⟩:=hex
 have key2:∀ k,(∃ j,j<k∧stays n nx en j)→∃ i,i<k∧stays n nx en i∧∀ j,j<i→¬ stays n nx en j:=by
  intro k
  induction k with
  | zero=>rintro⟨j,hj,-⟩;omega
  | succ k ih =>
   rintro⟨j,hj,hs⟩;by_cases h:∃ j,j<k∧stays n nx en j
   ·obtain⟨i,h1,h2⟩:=ih h;exact⟨i,by omega,h2⟩
   have:j=k:=Classical.byContradiction fun hne=>h ⟨j,by omega,hs⟩
   subst this;exact⟨j,by omega,hs,fun i hi hs'=>h ⟨i,hi,hs'⟩⟩
 obtain⟨i',h1,h2⟩:=key2 (n+1) ⟨i,by omega,hs⟩;exact⟨i',by omega,h2⟩
theorem ZeW {p q:Nat→Bool}:∀ {k:Nat},(∀ t,t<k→p t=q t)→ZaZ p k=ZaZ q k
 | 0,_=>rfl
 | k+1,h=>by
  have ih:=ZeW (k:=k) fun t ht=>h t (by omega)
  have hk:=h k (by omega);unfold ZaZ;rw[← ih,← hk];by_cases hl:ZaZ p k<k
  ·rw[h _ (by omega)]
  simp[hl]
theorem Zh6 (hnx:∀ s c,s<n→c<3→nx s c<n) {cl cl':Nat→Nat} (h:∀ s,s<n→cl s=cl' s) {s:Nat} (hs:s<n):Zaw n nx cl s=Zaw n nx cl' s:=by
 unfold Zaw;refine ZeW fun t ht => ?_
 rw[Bool.eq_iff_iff,ZaA,ZaA,h t ht,h s hs];constructor
 ·rintro⟨h1,h2⟩;exact⟨h1,fun c hc=>by rw[← h _ (hnx t c ht hc),← h _ (hnx s c hs hc)];exact h2 c hc⟩
 rintro⟨h1,h2⟩;exact⟨h1,fun c hc=>by rw[h _ (hnx t c ht hc),h _ (hnx s c hs hc)];exact h2 c hc⟩
theorem Zda (hnx:∀ s c,s<n→c<3→nx s c<n) {en:Nat→Bool} {i:Nat} (h:stays n nx en i):∀ j,i≤j→∀ s,s<n→clAt n nx en j s=clAt n nx en i s:=by
 intro j
 induction j with
 | zero =>
  intro hj s _;obtain rfl:i=0:=by omega
  rfl
 | succ j ih =>
  intro hj s hs;by_cases hij:i=j+1
  ·subst hij;rfl
  have e:clAt n nx en (j+1) s=Zaw n nx (clAt n nx en j) s:=rfl;rw[e,Zh6 hnx (ih (by omega)) hs];exact h s hs
def Zep (n:Nat) (nx:Nat→Nat→Nat) (en:Nat→Bool):Nat→Nat:=clAt n nx en n
theorem ZnS (hnx:∀ s c,s<n→c<3→nx s c<n) {en:Nat→Bool} {i:Nat} (hi:i≤n) (h:stays n nx en i) {s:Nat} (hs:s<n):Zep n nx en s=clAt n nx en i s:=Zda hnx h n hi s hs
theorem Zgk (hnx:∀ s c,s<n→c<3→nx s c<n) (en:Nat→Bool):stays n nx en n:=by obtain⟨i,hi,hs,-⟩:=ZjE (n:=n) (nx:=nx) en;intro s hsn;rw[Zda hnx hs (n+1) (by omega) s hsn,Zda hnx hs n hi s hsn]
theorem ZhS (hnx:∀ s c,s<n→c<3→nx s c<n) {en:Nat→Bool} {s t:Nat} (hs:s<n) (ht:t<n):Zep n nx en s=Zep n nx en t→∀ c,c<3→Zep n nx en (nx s c)=Zep n nx en (nx t c):=by
 intro h;have h1:=Zgk hnx en;have h2:Zaw n nx (Zep n nx en) s=Zaw n nx (Zep n nx en) t:=by have a:=h1 s hs;have b:=h1 t ht;exact a.trans (h.trans b.symm)
 exact((ZaA nx).1 ((ZcH hs ht).1 h2)).2
theorem ZiL {en:Nat→Bool}:∀ (i:Nat) {s t:Nat},s<n→t<n→clAt n nx en i s=clAt n nx en i t→en s=en t
 | 0,_,_,hs,ht,h=>(ZiM hs ht).1 h
 | i+1,_,_,hs,ht,h=>ZiL i hs ht ((ZaA nx).1 ((ZcH hs ht).1 h)).1
theorem ZcT {en:Nat→Bool} {s t:Nat} (hs:s<n) (ht:t<n) (h:Zep n nx en s=Zep n nx en t):en s=en t:=ZiL n hs ht h
end
end Go.Proofs.YtehmjmjedopkkaaGreat
namespace Go.Proofs.YtehmjmjedopkkaaGreat
open Go.RowKit
def nxD (d:DfaD) (s c:Nat):Nat:=((d.next.getD s []).getD c 0).toNat
def enD (d:DfaD) (s:Nat):Bool:=d.ends.getD s false
def Zbi (d:DfaD):DfaD:=Zar (dnx d) (den d) (bat (dnx d) 0 d.next.length).met
theorem Zcn {d:DfaD} (hd:fine d) {s c:Nat} (hs:s<d.next.length) (hc:c<3):nxD d s c<d.next.length∧dnx d (s:Int) c=((nxD d s c:Nat):Int):=by obtain⟨-,-,-,h⟩:=hd;obtain⟨-,h2⟩:=h s hs;obtain⟨a,b⟩:=h2 c hc;unfold nxD dnx;rw[Int.toNat_natCast];omega
theorem ZcK {d:DfaD} (hd:fine d) (K:Nat):(∀ x∈(bat (dnx d) 0 K).met,0≤x∧x<(d.next.length:Int))∧(bat (dnx d) 0 K).met.length≤d.next.length:=by
 have h1:∀ x∈(bat (dnx d) 0 K).met,0≤x∧x<(d.next.length:Int):=by refine ZbJ (Q:=fun x=>0≤x∧x<(d.next.length:Int)) ⟨by omega,by have:=hd.1;omega⟩ (fun x c hc hx => ?_) K;obtain⟨s,rfl⟩:=Int.eq_ofNat_of_zero_le hx.1;obtain⟨a,b⟩:=Zcn hd (s:=s) (by omega) hc;rw[b];omega
 refine⟨h1,?_⟩;have:=Zdw (Za5 (nx:=dnx d) (a:=0) K).1 (m:=ZaW d.next.length) fun x hx=>by obtain⟨a,b⟩:=h1 x hx;obtain⟨s,rfl⟩:=Int.eq_ofNat_of_zero_le a;exact ZbG.2 (by omega)
 rwa [ZbC] at this
theorem ZaB {d:DfaD} (h:Zai d.next d.ends=true):fine d:=by have:=Zag h;exact⟨by omega,by omega,by omega,fun i hi=>ZaP h hi⟩
theorem ZmK {α:Type} [DecidableEq α] {nx:α→Nat→α} {a:α} {en:α→Bool} {K:Nat} (hK:(bat nx a K).met.length≤K):Zbi (Zar nx en (bat nx a K).met)=Zar nx en (bat nx a K).met:=by
 unfold Zbi;rw[ZaK];obtain⟨m,hm⟩:=eI ((bat nx a K).met.length);have hle:(bat nx a m).met.length≤m:=by have:=(Zg2 (nx:=nx) (a:=a) (show m≤K by omega)).1.length_le;omega
 have hd:bat nx a K=bat nx a m:=Zca hle (by omega);have hp:=ZeQ (nx:=nx) (a:=a) K;have hpl:∀ (s:Int) c,c<3→0≤s∧s<m→Zah (bat nx a K).met (nx ((bat nx a K).met.getD s.toNat a) c)<m:=fun s c hc hs=>by rw[hm];exact Zbr (ZdB hK (memD (d:=a) (show s.toNat<(bat nx a K).met.length by omega)) hc)
 have hlt:∀ (s:Int) c,c<3→0≤s∧s<m→0≤Zby nx a (bat nx a K).met s c∧Zby nx a (bat nx a K).met s c<m:=fun s c hc hs=>by have:=hpl s c hc hs;unfold Zby;omega
 have e1:bat (Zby nx a (bat nx a K).met) 0 m=bat (dnx (Zar nx en (bat nx a K).met)) 0 m :=
  Zgq (Q:=fun s=>0≤s∧s<(m:Int)) (by omega) (fun s c hc hs=>hlt s c hc hs) (fun s c hc hs=>(Zjq (by omega) (by omega) hc).symm) m
 have hmet:(bat (dnx (Zar nx en (bat nx a K).met)) 0 (bat nx a K).met.length).met=ZaW (bat nx a K).met.length:=by rw[← hm,← e1,ZlH nx a K m (by omega),← hd,hm]
 rw[hmet]
 have hr:(ZaW (bat nx a K).met.length).map (Zaf (dnx (Zar nx en (bat nx a K).met)) (ZaW (bat nx a K).met.length))=(bat nx a K).met.map (Zaf nx (bat nx a K).met):=by
  refine List.ext_getElem (by simp[ZaW]) fun i h1 h2 => ?_
  have hi:i<(bat nx a K).met.length:=by simpa using h2
  have hu:(ZaW (bat nx a K).met.length)[i]'(by simpa using h1)=(i:Int):=by simp[ZaW]
  simp only[List.getElem_map];rw[hu];unfold Zaf;refine List.map_congr_left fun c hc => ?_
  have hc3:c<3:=List.mem_range.1 hc;rw[Zjq (a:=a) (by omega) (by omega) hc3];unfold Zby;have hp2:=hpl (i:Int) c hc3 (by omega);have e2:(bat nx a K).met.getD (i:Int).toNat a=(bat nx a K).met[i]:=by simp[hi]
  rw[e2] at hp2 ⊢;congr 1;obtain⟨q,hq⟩:=eJ (Zah (bat nx a K).met (nx ((bat nx a K).met[i]) c));rw[hq] at hp2 ⊢;have e3:=Zft (n:=(bat nx a K).met.length) (k:=q) (by omega);have e4:=Zfm (l:=ZaW (bat nx a K).met.length) (k:=q) (by rw[ZbC];omega) (List.Pairwise.map _ (fun _ _ h e=>h (Int.ofNat.inj e)) List.nodup_range) (0:Int);rw[e3] at e4;exact e4
 have he:(ZaW (bat nx a K).met.length).map (den (Zar nx en (bat nx a K).met))=(bat nx a K).met.map en:=by
  refine List.ext_getElem (by simp[ZaW]) fun i h1 h2 => ?_
  have hi:i<(bat nx a K).met.length:=by simpa using h2
  have hu:(ZaW (bat nx a K).met.length)[i]'(by simpa using h1)=(i:Int):=by simp[ZaW]
  simp only[List.getElem_map];rw[hu];exact Zjr hi
 exact congr (congrArg DfaD.mk hr) he
section
variable {α β:Type} [DecidableEq α] [DecidableEq β] {nx:α→Nat→α} {nx':β→Nat→β} {a:α} {f:α→β} {Q:α→Prop}
theorem ZiN (hv:∀ x c,c<3→Q x→Q (nx x c)) (hf:∀ x y,Q x→Q y→f x=f y→x=y) (hn:∀ x c,c<3→Q x→f (nx x c)=nx' (f x) c) {x:α} (hx:Q x) (wd:List Nat) {s:Bs α} (hs:∀ y∈s.met,Q y) :
  ∀ n,n≤3→brow nx' (f x) wd ⟨s.met.map f,s.words⟩ n=⟨(brow nx x wd s n).met.map f,(brow nx x wd s n).words⟩∧∀ y∈(brow nx x wd s n).met,Q y
 | 0,_=>⟨rfl,hs⟩
 | n+1,hn3=>by
  obtain⟨h1,h2⟩:=ZiN hv hf hn hx wd hs n (by omega);have hq:=hv x n (by omega) hx
  have hm:nx' (f x) n∈(brow nx x wd s n).met.map f↔nx x n∈(brow nx x wd s n).met:=by
   rw[← hn x n (by omega) hx];constructor
   ·intro h;obtain⟨y,hy,e⟩:=List.mem_map.1 h;rw[← hf _ _ (h2 y hy) hq e];exact hy
   exact fun h=>List.mem_map.2 ⟨_,h,rfl⟩
  have e:brow nx' (f x) wd ⟨s.met.map f,s.words⟩ (n+1)=bvisit nx' (f x) wd (brow nx' (f x) wd ⟨s.met.map f,s.words⟩ n) n:=rfl;have e2:brow nx x wd s (n+1)=bvisit nx x wd (brow nx x wd s n) n:=rfl;rw[e,e2,h1];unfold bvisit;by_cases h:nx x n∈(brow nx x wd s n).met
  ·rw[if_pos h,if_pos (hm.2 h)];exact⟨rfl,h2⟩
  rw[if_neg h,if_neg (fun h2=>h (hm.1 h2))];refine⟨by simp[hn x n (by omega) hx],fun y hy => ?_⟩;simp only[List.mem_append,List.mem_singleton] at hy;rcases hy with hy|rfl
  ·exact h2 y hy
  exact hq
theorem Zko (h0:Q a) (hv:∀ x c,c<3→Q x→Q (nx x c)) (hf:∀ x y,Q x→Q y→f x=f y→x=y) (hn:∀ x c,c<3→Q x→f (nx x c)=nx' (f x) c):∀ k,bat nx' (f a) k=⟨(bat nx a k).met.map f,(bat nx a k).words⟩
 | 0=>rfl
 | k+1=>by
  have ih:=Zko h0 hv hf hn k;have hl:(bat nx' (f a) k).met.length=(bat nx a k).met.length:=by rw[ih];simp
  by_cases h:k<(bat nx a k).met.length
  ·rw[ZaV h,ZaV (by rw[hl];exact h)];unfold bpart;rw[ih];have hx:((bat nx a k).met.map f).getD k (f a)=f ((bat nx a k).met.getD k a):=by simp[h]
   simp only[hx];exact(ZiN hv hf hn (ZbJ h0 hv k _ (memD h)) _ (ZbJ h0 hv k) 3 (by omega)).1
  rw[Zbm (by omega),Zbm (by omega),ih]
theorem ZfN {L:List α} {x:α} (hf:∀ y∈L,f y=f x→y=x):Zah (L.map f) (f x)=Zah L x:=by
 unfold Zah
 induction L with
 | nil=>rfl
 | cons y l ih =>
  have h1:=hf y (by simp);have h2:=ih fun z hz=>hf z (by simp[hz])
  simp only[List.map_cons,List.idxOf_cons];by_cases h:y=x
  ·subst h;simp
  have:f y≠f x:=fun e=>h (h1 e)
  have e1:(f y==f x)=false:=by simpa using this
  have e2:(y==x)=false:=by simpa using h
  rw[e1,e2];simp[h2]
theorem Zc1 {en:α→Bool} {en':β→Bool} {K:Nat} (h0:Q a) (hv:∀ x c,c<3→Q x→Q (nx x c)) (hf:∀ x y,Q x→Q y→f x=f y→x=y) (hn:∀ x c,c<3→Q x→f (nx x c)=nx' (f x) c) (he:∀ x,Q x→en' (f x)=en x) :
  Zar nx' en' (bat nx' (f a) K).met=Zar nx en (bat nx a K).met:=by
 have hm:=congrArg Bs.met (Zko h0 hv hf hn K);simp only at hm;have hq:=ZbJ h0 hv K;rw[hm];unfold Zar
 have e1:((bat nx a K).met.map f).map (Zaf nx' ((bat nx a K).met.map f))=(bat nx a K).met.map (Zaf nx (bat nx a K).met):=by
  rw[List.map_map];refine List.map_congr_left fun x hx => ?_
  unfold Zaf;refine List.map_congr_left fun c hc => ?_
  have hc3:c<3:=List.mem_range.1 hc;rw[← hn x c hc3 (hq x hx),ZfN fun y hy e=>hf _ _ (hq y hy) (hv x c hc3 (hq x hx)) e]
 have e2:((bat nx a K).met.map f).map en'=(bat nx a K).met.map en:=by rw[List.map_map];exact List.map_congr_left fun x hx=>he x (hq x hx)
 rw[e1,e2]
end
theorem Zkk {n m:Nat} {nx nx':Nat→Nat→Nat} {en en':Nat→Bool} (φ:Nat→Nat) (hφ:∀ i,i<m→φ i<n) (hst:∀ i c,i<m→c<3→nx' i c<m∧φ (nx' i c)=nx (φ i) c) (hen:∀ i,i<m→en' i=en (φ i)) :
  ∀ (r:Nat) {i j:Nat},i<m→j<m→(clAt m nx' en' r i=clAt m nx' en' r j↔clAt n nx en r (φ i)=clAt n nx en r (φ j))
 | 0,i,j,hi,hj=>by rw[ZiM hi hj,ZiM (hφ i hi) (hφ j hj),hen i hi,hen j hj]
 | r+1,i,j,hi,hj=>by
  have ih:=fun {i j:Nat} (hi:i<m) (hj:j<m)=>Zkk φ hφ hst hen r hi hj
  show Zaw m nx' (clAt m nx' en' r) i=Zaw m nx' (clAt m nx' en' r) j↔Zaw n nx (clAt n nx en r) (φ i)=Zaw n nx (clAt n nx en r) (φ j);rw[ZcH hi hj,ZcH (hφ i hi) (hφ j hj),ZaA,ZaA,ih hi hj];constructor
  ·rintro⟨h1,h2⟩;refine⟨h1,fun c hc => ?_⟩;have h:=(ih (hst i c hi hc).1 (hst j c hj hc).1).1 (h2 c hc)
   rwa [(hst i c hi hc).2,(hst j c hj hc).2] at h
  rintro⟨h1,h2⟩;refine⟨h1,fun c hc=>(ih (hst i c hi hc).1 (hst j c hj hc).1).2 ?_⟩;rw[(hst i c hi hc).2,(hst j c hj hc).2];exact h2 c hc
theorem Zmz {n m:Nat} {nx nx':Nat→Nat→Nat} {en en':Nat→Bool} (φ:Nat→Nat) (hmn:m≤n) (hφ:∀ i,i<m→φ i<n) (hst:∀ i c,i<m→c<3→nx' i c<m∧φ (nx' i c)=nx (φ i) c) (hen:∀ i,i<m→en' i=en (φ i)) {i j:Nat} (hi:i<m) (hj:j<m) :
  Zep m nx' en' i=Zep m nx' en' j↔Zep n nx en (φ i)=Zep n nx en (φ j):=by
 have hin:∀ s c,s<m→c<3→nx' s c<m:=fun s c hs hc=>(hst s c hs hc).1
 have hs:=Zgk hin en';have e1:=Zda hin hs n hmn i hi;have e2:=Zda hin hs n hmn j hj;show clAt m nx' en' m i=clAt m nx' en' m j↔_;rw[← e1,← e2];exact Zkk φ hφ hst hen n hi hj
def clD (d:DfaD) (s:Nat):Nat:=Zep d.next.length (nxD d) (enD d) s
def nxM (d:DfaD) (s:Int) (c:Nat):Int:=(clD d (nxD d s.toNat c):Nat)
def minD (d:DfaD):DfaD:=Zar (nxM d) (den d) (bat (nxM d) ((clD d 0:Nat):Int) d.next.length).met
def ZdR (x:DfaD):DfaD:=⟨(List.range x.next.length).map fun k=>(List.range 3).map fun c=>((clD x (nxD x k c):Nat):Int),x.ends⟩
def ZaE (d:DfaD):DfaD:=Zbi (ZdR (Zbi d))
theorem Zbh {d:DfaD} (s:Nat) (hs:s<d.next.length):clD d s≤s∧clD d (clD d s)=clD d s:=by have h:=Zgl (n:=d.next.length) (nx:=nxD d) (enD d) d.next.length;exact⟨h.le s hs,h.id s hs⟩
def phiD (d:DfaD) (i:Nat):Nat:=((bat (dnx d) 0 d.next.length).met.getD i 0).toNat
theorem ZgD {d:DfaD} (hd:fine d):fine (Zbi d)∧(Zbi d).next.length≤d.next.length∧(∀ i,i<(Zbi d).next.length→phiD d i<d.next.length) ∧
  (∀ i c,i<(Zbi d).next.length→c<3→nxD (Zbi d) i c<(Zbi d).next.length∧phiD d (nxD (Zbi d) i c)=nxD d (phiD d i) c)∧(∀ i,i<(Zbi d).next.length→enD (Zbi d) i=enD d (phiD d i))∧phiD d 0=0:=by
 obtain⟨h1,h2⟩:=ZcK hd d.next.length;have hf:=Zej (nx:=dnx d) (a:=(0:Int)) (en:=den d) h2 (by have:=hd.2.1;omega);have hl:(Zbi d).next.length=(bat (dnx d) 0 d.next.length).met.length:=ZaK _ _ _;have hphi:∀ i,i<(bat (dnx d) 0 d.next.length).met.length→(bat (dnx d) 0 d.next.length).met.getD i 0=((phiD d i:Nat):Int)∧phiD d i<d.next.length:=fun i hi=>by obtain⟨a,b⟩:=h1 _ (memD (d:=0) hi);unfold phiD;omega
 refine⟨hf,by rw[hl];exact h2,fun i hi=>(hphi i (by rw[← hl];exact hi)).2,fun i c hi hc => ?_,fun i hi => ?_,?_⟩
 ·have hi':i<(bat (dnx d) 0 d.next.length).met.length:=by rw[← hl];exact hi
  refine⟨(Zcn hf hi hc).1,?_⟩;obtain⟨p1,p2⟩:=hphi i hi';have hn:nxD (Zbi d) i c=Zah (bat (dnx d) 0 d.next.length).met (dnx d ((bat (dnx d) 0 d.next.length).met.getD i 0) c):=by unfold nxD Zbi;rw[ZeC (a:=(0:Int)) hi',ZfR hc,Int.toNat_natCast]
  have hm:=ZdB (nx:=dnx d) (a:=(0:Int)) h2 (memD (d:=0) hi') hc;rw[hn];unfold phiD;rw[Zj5 hm,p1,(Zcn hd p2 hc).2,Int.toNat_natCast];rfl
 ·have hi':i<(bat (dnx d) 0 d.next.length).met.length:=by rw[← hl];exact hi
  unfold enD Zbi phiD;simp[Zar,hi',den]
 unfold phiD;rw[Zgp];rfl
theorem ZgT {x:DfaD} (hx:fine x):fine (ZdR x)∧(ZdR x).next.length=x.next.length∧∀ k c,k<x.next.length→c<3→dnx (ZdR x) (k:Int) c=((clD x (nxD x k c):Nat):Int):=by
 have hl:(ZdR x).next.length=x.next.length:=by simp[ZdR]
 have hr:∀ k,k<x.next.length→(ZdR x).next.getD k []=(List.range 3).map fun c=>((clD x (nxD x k c):Nat):Int):=fun k hk=>by simp[ZdR,hk]
 have hc:∀ k c,k<x.next.length→c<3→((ZdR x).next.getD k []).getD c 0=((clD x (nxD x k c):Nat):Int):=fun k c hk hc=>by rw[hr k hk];simp[hc]
 refine⟨⟨by rw[hl];exact hx.1,by rw[hl];exact hx.2.1,by rw[hl];exact hx.2.2.1,fun i hi => ?_⟩,hl,fun k c hk h3 => ?_⟩
 ·rw[hl] at hi;refine⟨by rw[hr i hi];simp,fun c h3 => ?_⟩;rw[hc i c hi h3,hl];have h1:=(Zcn hx hi h3).1;have h2:=(Zbh (nxD x i c) h1).1;omega
 unfold dnx;rw[Int.toNat_natCast];exact hc k c hk h3
theorem Zch {d:DfaD} (hd:fine d):ZaE d=minD d:=by
 obtain⟨hx,hmn,hφ,hst,hen,hφ0⟩:=ZgD hd;obtain⟨x,hxe⟩:=eI (Zbi d);unfold ZaE;rw[← hxe] at hx hmn hφ hst hen ⊢;obtain⟨hff,hfl,hfn⟩:=ZgT hx;have hm0:0<x.next.length:=hx.1;have hsim:=fun {i j:Nat} (hi:i<x.next.length) (hj:j<x.next.length)=>Zmz (n:=d.next.length) (m:=x.next.length) (nx:=nxD d) (nx':=nxD x) (en:=enD d) (en':=enD x) (phiD d) hmn hφ hst hen hi hj
 have hdin:∀ s c,s<d.next.length→c<3→nxD d s c<d.next.length:=fun s c hs hc=>(Zcn hd hs hc).1
 have hmet:=(ZcK hff x.next.length).2;rw[hfl] at hmet;have hbat:bat (dnx (ZdR x)) 0 d.next.length=bat (dnx (ZdR x)) 0 x.next.length:=Zca hmet hmn
 have key:=Zc1 (nx:=dnx (ZdR x)) (nx':=nxM d) (a:=(0:Int)) (f:=fun j:Int=>((clD d (phiD d j.toNat):Nat):Int)) (Q:=fun j=>∃ k:Nat,j=(k:Int)∧k<x.next.length∧clD x k=k) (en:=den (ZdR x)) (en':=den d) (K:=d.next.length)
  ⟨0,rfl,hm0,Nat.le_zero.1 (Zbh 0 hm0).1⟩ ?_ ?_ ?_ ?_
 ·unfold Zbi minD;rw[hfl,← hbat,← key];have e:((clD d (phiD d (0:Int).toNat):Nat):Int)=((clD d 0:Nat):Int):=by show((clD d (phiD d 0):Nat):Int)=_;rw[hφ0]
  simp only[e]
 ·rintro j c hc ⟨k,rfl,hk,-⟩;rw[hfn k c hk hc];have h1:=(Zcn hx hk hc).1;obtain⟨h2,h3⟩:=Zbh (nxD x k c) h1;exact⟨_,rfl,by omega,h3⟩
 ·rintro j j' ⟨k,rfl,hk,hr⟩ ⟨k',rfl,hk',hr'⟩ h;simp only[Int.toNat_natCast] at h;have h1:clD d (phiD d k)=clD d (phiD d k'):=by omega
  have h2:clD x k=clD x k':=(hsim hk hk').2 h1;rw[hr,hr'] at h2;rw[h2]
 ·rintro j c hc ⟨k,rfl,hk,-⟩;rw[hfn k c hk hc];obtain⟨h1,-⟩:=Zcn hx hk hc;obtain⟨h2,h3⟩:=Zbh (nxD x k c) h1;simp only[Int.toNat_natCast,nxM];have a1:clD d (phiD d (clD x (nxD x k c)))=clD d (phiD d (nxD x k c)):=(hsim (by omega) h1).1 h3;rw[a1,(hst k c hk hc).2];obtain⟨h4,h5⟩:=Zbh (phiD d k) (hφ k hk);have a2:clD d (nxD d (clD d (phiD d k)) c)=clD d (nxD d (phiD d k) c):=ZhS hdin (en:=enD d) (s:=clD d (phiD d k)) (t:=phiD d k) (by have:=hφ k hk;omega) (hφ k hk) h5 c hc;rw[a2]
 rintro j ⟨k,rfl,hk,-⟩;obtain⟨h4,h5⟩:=Zbh (phiD d k) (hφ k hk);have a:=ZcT (n:=d.next.length) (nx:=nxD d) (en:=enD d) (s:=clD d (phiD d k)) (t:=phiD d k) (by have:=hφ k hk;omega) (hφ k hk) h5;simp only[Int.toNat_natCast];show enD d (((clD d (phiD d k):Nat):Int).toNat)=enD x (((k:Nat):Int).toNat);rw[Int.toNat_natCast,Int.toNat_natCast,a,hen k hk]
def clsL (n:Nat) (cl:Nat→Nat):List Int:=(List.range n).map fun s=>(cl s:Int)
theorem ZcA (n:Nat) (cl:Nat→Nat):(clsL n cl).length=n:=by simp[clsL]
theorem Zjt {n s:Nat} (cl:Nat→Nat) (h:s<n):(clsL n cl).getD s 0=(cl s:Int):=by simp[clsL,h]
def Zhe (d:DfaD) (cl:Nat→Nat) (s o:Nat) (k:Nat):Bool:=(List.range k).all fun c=>decide (cl (nxD d s c)=cl (nxD d o c))
theorem Zkx (d:DfaD) (cl:Nat→Nat) (s o k:Nat):Zhe d cl s o (k+1)=(Zhe d cl s o k&&decide (cl (nxD d s k)=cl (nxD d o k))):=by unfold Zhe;rw[List.range_succ,List.all_append];simp
theorem ZmZ {d:DfaD} {cl:Nat→Nat} {s o k:Nat} (hk:k<3) (h:cl (nxD d s k)≠cl (nxD d o k)):Zhe d cl s o 3=false:=by
 cases he:Zhe d cl s o 3 with
 | false=>rfl
 | true =>have:=List.all_eq_true.1 he k (List.mem_range.2 hk);exact absurd (by simpa using this) h
theorem Zi1 (d:DfaD) (cl:Nat→Nat) (s o:Nat) (dv cv:Value) (w:World) (hd:Zai d.next d.ends=true) (hs:s<d.next.length) (ho:o<d.next.length) (hcl:∀ t,t<d.next.length→cl t<d.next.length) (h:DfaR 0 w dv d) (hc:Ints 0 w cv (clsL d.next.length cl)) (r:Bool) (hr:Zhe d cl s o 3=r) :
  Calls Tryz.prog 113 #[dv,cv,.int .i64 s,.int .i64 o] w fun e w'=>e = .returned (.bool r)∧Below w.heap.size w w':=by
 obtain⟨v1,v2,rfl,q1,q2⟩:=h;have hf:=ZaB hd;obtain⟨L,hL⟩:=eI (d.next.length);obtain⟨hl1,hl2,-⟩:=Zag hd;have hrow:=fun (i:Nat) (hi:i<d.next.length)=>(ZaP hd hi).1
 have hnx:=fun (i c:Nat) (hi:i<d.next.length) (h3:c<3)=>(Zcn hf hi h3)
 obtain⟨av,cvv,rfl,hc1,hc2,hr1⟩:=q1.formI;obtain⟨b1,o1,rfl,-,hb1,hcs1⟩:=hr1 (by omega);obtain⟨ac,cc,rfl,hc3,hc4,hr2⟩:=hc.form;rw[ZcA] at hc3 hr2;rw[ZcA];obtain⟨b2,o2,rfl,-,hb2,hcs2⟩:=hr2 (by omega);have hcell:∀ t,t<d.next.length→w.cell? ⟨b2,o2+t,none⟩=some (.int .i64 (cl t:Nat)):=fun t ht=>by rw[hcs2 t ht,Zjt cl ht]
 obtain⟨ax,cs,hks,-,-,hIs⟩:=hcs1 s hs;obtain⟨ao,co,hko,-,-,hIo⟩:=hcs1 o ho;rw[hrow s hs] at hks hIs;rw[hrow o ho] at hko hIo;obtain⟨_,_,hform,-,-,hrs⟩:=hIs.form;rw[hrow s hs] at hform hrs;simp only[Value.slice.injEq,true_and] at hform;obtain⟨rfl,rfl⟩:=hform;obtain⟨b3,o3,rfl,-,hb3,hcs3⟩:=hrs (by omega);obtain⟨_,_,hform,-,-,hro⟩:=hIo.form;rw[hrow o ho] at hform hro;simp only[Value.slice.injEq,true_and] at hform;obtain⟨rfl,rfl⟩:=hform;obtain⟨b4,o4,rfl,-,hb4,hcs4⟩:=hro (by omega)
 have hval:∀ i c,i<d.next.length→c<3→(d.next.getD i []).getD c 0=((nxD d i c:Nat):Int):=fun i c hi h3=>by
  have:=(hnx i c hi h3).2;unfold dnx at this
  rwa [Int.toNat_natCast] at this
 have hS0:=(St.start w).alloc _ rfl #[.slice (some ⟨b1,o1,none⟩) d.next.length cvv,v2] 32;have Hnx:=qh hnx;have Hval:=qh hval;have Hcell:=qh hcell;have Hks:=qh hks;have Hko:=qh hko;have Hcs3:=qh hcs3;have Hcs4:=qh hcs4;have Hcl:=qh hcl;rw[← hL] at hs ho hl1 hl2 hS0;rw[← hL];have hsI:(s:Int)<L:=by omega
 have hoI:(o:Int)<L:=by omega
 replace hS0:=qh hS0;have Hhr:=qh hr;clear hr;replace hL:=qh hL;clear hnx hval hcell hks hko hcs3 hcs4 hcl hcs1 hcs2 hr1 hr2 hrs hro hIs hIo q1 q2 hc hd hrow hf
 go_enter Tryz.func113, Tryz.ntmps113
 go_wp2
 go_loopw [10] (fun i wr=>∃ k:Nat,i = .int .i64 k∧k≤3∧Zhe d cl s o k=true∧St w wr [Ent.box w.heap.size #[.slice (some ⟨b1,o1,none⟩) L cvv,v2] 32]) (fun i _=>3-(intOf i).toNat)
 case atStart=>exact⟨0,rfl,by omega,rfl,hS0.out⟩
 case round =>
  obtain⟨k,rfl,hk,hsm,hS⟩:=hrel;by_cases hlt:k<3
  ·have hlt2:(k:Int)<3:=by omega
   have hsn:s<d.next.length:=by have:=hL.out;omega
   have hon:o<d.next.length:=by have:=hL.out;omega
   have h1:=(Hnx.out s k hsn hlt).1;have h2:=(Hnx.out o k hon hlt).1;have e0:=hS.cell (v:=.slice (some ⟨b1,o1,none⟩) L cvv) 0 0 rfl rfl;have e1:=(bcell hS.bel b1 _ hb1).trans Hks.out;have e2:=(bcell hS.bel b1 _ hb1).trans Hko.out;have e3:=(bcell hS.bel b3 _ hb3).trans (Hcs3.out k hlt);have e4:=(bcell hS.bel b4 _ hb4).trans (Hcs4.out k hlt);rw[Hval.out s k hsn hlt] at e3;rw[Hval.out o k hon hlt] at e4;have e5:=(bcell hS.bel b2 _ hb2).trans (Hcell.out _ h1);have e6:=(bcell hS.bel b2 _ hb2).trans (Hcell.out _ h2);have hsucc:=Zkx d cl s o k;obtain⟨p,hp⟩:=eI (nxD d s k);obtain⟨q,hq⟩:=eI (nxD d o k);rw[← hp] at h1 e3 e5 hsucc;rw[← hq] at h2 e4 e6 hsucc;rw[hsm,Bool.true_and] at hsucc;rw[← hL.out] at h1 h2;have hpI:(p:Int)<L:=by omega
   have hqI:(q:Int)<L:=by omega
   have Hhp:=qh hp;clear hp;have Hhq:=qh hq;clear hq;have HhS:=qh hS;clear hS;have Hhsm:=qh hsm;clear hsm;have Hhsucc:=qh hsucc;clear hsucc;clear h1 h2 hsn hon;by_cases he:cl p=cl q
   ·have heI:((cl p:Int) != (cl q:Int))=false:=by rw[he];simp
    have heI2:((cl p:Int)=(cl q:Int))=True:=by simp[he]
    have heI3:(!((cl p:Int)==(cl q:Int)))=false:=by rw[he];simp
    have Hhe:=qh he;clear he;go_wp2
    go_quiet (fail)
    go_wp2;go_roundw
    case rel=>exact⟨k+1,by go_num,by omega,by rw[Hhsucc.out];simp[Hhe.out],HhS.out.drewN _⟩
    case measure=>simp[intOf];omega
   have heI:((cl p:Int) != (cl q:Int))=true:=by simp;omega
   have heI2:((cl p:Int)=(cl q:Int))=False:=by simp;omega
   have heI3:(!((cl p:Int)==(cl q:Int)))=true:=by simp;omega
   have Hhe:=qh he;clear he;go_wp2
   go_quiet (fail)
   go_wp2;go_ret;have hrf:false=r:=by rw[← Hhr.out];exact(ZmZ hlt (by rw[← Hhp.out,← Hhq.out];exact Hhe.out)).symm
   subst hrf;exact⟨rfl,(HhS.out.drewN _).bel⟩
  obtain rfl:k=3:=by omega
  have hrt:true=r:=by rw[← Hhr.out,hsm]
  subst hrt;have HhS:=qh hS;clear hS;have Hhsm:=qh hsm;clear hsm;go_wp2;go_ret;exact⟨rfl,HhS.out.bel⟩
theorem Zmr (xs:List Int) (v:Value) (w:World) (hl:xs.length≤1000000) (h:Ints 0 w v xs) :
  Calls Tryz.prog 143 #[v] w fun e w'=>∃ a c,e = .returned (.slice a xs.length c)∧St w w' [Ent.row 3 1 (.slice a xs.length c) xs.length (intCells xs)]:=by
 have hx:=h;obtain⟨a,cap,rfl,hc1,hc2,hr⟩:=h.form;obtain⟨j0,hj,hy0,hy1,hy2⟩:=info_parts Tryz.infoInt;cases a with
 | none =>
  have h0:xs=[]:=by
   rcases Nat.eq_zero_or_pos xs.length with h0|h0
   ·exact List.eq_nil_of_length_eq_zero h0
   obtain⟨b,off,hb,-⟩:=hr h0;cases hb
  subst h0;have qT:=fun (w':World)=>Lib.run_eql_slice_nil (P:=Tryz.prog) w' 59 3 none 0 cap 0 0 Tryz.underlying59
  simp only[Option.isNone] at qT
  go_enter Tryz.func143, Tryz.ntmps143
  go_wp2;go_ret;exact⟨none,0,rfl,(St.start w).nilRow 3 1⟩
 | some ad =>
  have hS0:=((St.start w).alloc _ rfl #[] 3).boxrow 0 0 1 [] rfl rfl (Nat.zero_le _);have hRw:=hS0.row 0 rfl;have hX:=hx.below hS0.bel;replace hS0:=qh hS0;replace hRw:=qh hRw;have HhX:=qh hX;clear hX;have Hhx:=qh hx;clear hx;clear hr;have qT:=fun (w':World)=>Lib.run_eql_slice_nil (P:=Tryz.prog) w' 59 3 (some ad) xs.length cap 0 0 Tryz.underlying59
  simp only[Option.isNone] at qT
  go_enter Tryz.func143, Tryz.ntmps143
  go_wp2_with (at_builtin;refine Zal _ rfl _ _ _ rfl _ 3 j0 (.int .i64 0) 1 8 Tryz.underlying59 hj hy0 hy1 hy2 rfl (by omega) _ 0 _ rfl hRw.out _ xs.length (intCells xs) rfl HhX.out Zpu (by unfold maxLen;omega) (by omega) hS0.out.size ?_;intro a6 c6 w6 hown6 hgrow6 hat6;have HS6:=qh (hS0.out.appS 0 rfl hown6 hgrow6 hat6);clear hown6 hgrow6 hat6);go_ret;have hq:St w w6 [Ent.row 3 1 (.slice a6 (0+xs.length) c6) (0+xs.length) (intCells xs)]:=HS6.out;rw[Nat.zero_add] at hq;exact⟨a6,c6,rfl,hq⟩
def zeD:DfaD:=⟨[],[]⟩
theorem Zg6 (w:World) (B tS tI tB:Nat):DfaO tS tI tB B w.heap.size w (.agg #[.slice none 0 0,.slice none 0 0]) zeD :=
 ⟨_,_,rfl,⟨[],Zac ⟨by simp[zeD],Or.inl ⟨rfl,rfl⟩⟩,fun i hi=>absurd hi (by simp[zeD]),fun i j k _ hj=>absurd hj (by simp[zeD])⟩,Zac ⟨by simp[zeD],Or.inl ⟨rfl,rfl⟩⟩⟩
def RTt (D:DfaD) (fb:Bool) (B:Nat) (e:Ending) (w':World):Prop:=∃ a1 c1 a2 c2,e = .returned (.tuple #[.agg #[.slice a1 D.next.length c1,.slice a2 D.ends.length c2],.bool fb])∧DfaO 59 3 4 B w'.heap.size w' (.agg #[.slice a1 D.next.length c1,.slice a2 D.ends.length c2]) D
theorem Zez {d:DfaD} (h:fine d) (h40:d.next.length≤40):Zai d.next d.ends=true:=by
 obtain⟨h1,-,h3,hr⟩:=h;simp only[Zai,Bool.and_eq_true,List.all_eq_true,decide_eq_true_eq];refine⟨⟨fun x hx => ?_,?_⟩,h3⟩
 ·obtain⟨i,hi,e⟩:=List.getElem_of_mem hx;obtain⟨a,b⟩:=hr i hi;rw[ZbA hi,e] at a b;simp only[Zev,Bool.and_eq_true,decide_eq_true_eq,List.all_eq_true];refine⟨a,fun y hy => ?_⟩;obtain⟨c,hc,e2⟩:=List.getElem_of_mem hy;have:=b c (by omega);rw[ZbA hc,e2] at this;unfold inB;simp;omega
 unfold inB;simp;omega
theorem Zk2 {d:DfaD} (h:Zai d.next d.ends=true):Zai (Zbi d).next (Zbi d).ends=true∧(Zbi d).next.length≤d.next.length:=by obtain⟨h1,h2,-⟩:=ZgD (ZaB h);have:=Zag h;exact⟨Zez h1 (by omega),h2⟩
theorem ZoD {x:DfaD} (h:Zai x.next x.ends=true):Zai (ZdR x).next (ZdR x).ends=true:=by obtain⟨h1,h2,-⟩:=ZgT (ZaB h);have:=Zag h;exact Zez h1 (by omega)
end Go.Proofs.YtehmjmjedopkkaaGreat
