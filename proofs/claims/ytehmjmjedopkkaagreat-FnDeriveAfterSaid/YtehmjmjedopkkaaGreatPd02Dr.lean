/-
  States met in breadth, letter by letter, with the words that lead to them: the plain meaning of the program's and of the reference's searches.
  No condition: this text speaks of no program.
  A map from things to their places in a list.
  No condition: this text speaks of no program.
  The first of the things met that ends, and its word: plain laws; the same for the numbered automaton.
  No condition: this text speaks of no program.
-/
import Derived.Test.YtehmjmjedopkkaaGreatPd01Cp
set_option maxHeartbeats 4000000
set_option maxRecDepth 100000
namespace Go.Proofs.YtehmjmjedopkkaaGreat
structure Bs (α:Type) where
 met:List α
 words:List (List Nat)
section
variable {α:Type} [DecidableEq α]
def bvisit (nx:α→Nat→α) (x:α) (wd:List Nat) (s:Bs α) (c:Nat):Bs α :=
 if nx x c∈s.met then s else⟨s.met++[nx x c],s.words++[wd++[c]]⟩
def brow (nx:α→Nat→α) (x:α) (wd:List Nat) (s:Bs α):Nat→Bs α
 | 0=>s
 | n+1=>bvisit nx x wd (brow nx x wd s n) n
def bat (nx:α→Nat→α) (a:α):Nat→Bs α
 | 0=>⟨[a],[[]]⟩
 | k+1=>if k<(bat nx a k).met.length then brow nx ((bat nx a k).met.getD k a) ((bat nx a k).words.getD k []) (bat nx a k) 3 else bat nx a k
def bpart (nx:α→Nat→α) (a:α) (k n:Nat):Bs α:=brow nx ((bat nx a k).met.getD k a) ((bat nx a k).words.getD k []) (bat nx a k) n
variable {nx:α→Nat→α} {a:α}
theorem ZaD (k:Nat):bpart nx a k 0=bat nx a k:=rfl
theorem ZaV {k:Nat} (h:k<(bat nx a k).met.length):bat nx a (k+1)=bpart nx a k 3:=by simp only[bat,if_pos h];rfl
theorem Zbm {k:Nat} (h:(bat nx a k).met.length≤k):bat nx a (k+1)=bat nx a k:=by simp only[bat,if_neg (show ¬ k<(bat nx a k).met.length by omega)]
theorem Zg1 (k n:Nat):bpart nx a k (n+1)=bvisit nx ((bat nx a k).met.getD k a) ((bat nx a k).words.getD k []) (bpart nx a k n) n:=rfl
theorem Zcs {k n:Nat} (h:nx ((bat nx a k).met.getD k a) n∈(bpart nx a k n).met):bpart nx a k (n+1)=bpart nx a k n:=by rw[Zg1,bvisit,if_pos h]
theorem ZbZ {k n:Nat} (h:nx ((bat nx a k).met.getD k a) n ∉ (bpart nx a k n).met):bpart nx a k (n+1)=⟨(bpart nx a k n).met++[nx ((bat nx a k).met.getD k a) n],(bpart nx a k n).words++[(bat nx a k).words.getD k []++[n]]⟩:=by rw[Zg1,bvisit,if_neg h]
theorem Zfr (Q:Bs α→Prop) {x:α} {wd:List Nat} {s:Bs α} (hs:Q s) (hv:∀ t c,c<3→Q t→Q (bvisit nx x wd t c)):∀ n,n≤3→Q (brow nx x wd s n)
 | 0,_=>hs
 | n+1,h=>hv _ n (by omega) (Zfr Q hs hv n (by omega))
theorem ZeR (Q:Bs α→Prop) (h0:Q ⟨[a],[[]]⟩) (hv:∀ s k,k<s.met.length→∀ t c,c<3→Q s→Q t→Q (bvisit nx (s.met.getD k a) (s.words.getD k []) t c)):∀ k,Q (bat nx a k)
 | 0=>h0
 | k+1=>by
  have ih:=ZeR Q h0 hv k;by_cases h:k<(bat nx a k).met.length
  ·rw[ZaV h];exact Zfr Q ih (fun t c hc ht=>hv _ k h t c hc ih ht) 3 (by omega)
  rw[Zbm (by omega)];exact ih
theorem ZmD (Q:Bs α→Prop) (h0:Q ⟨[a],[[]]⟩) (hv:∀ s k,k<s.met.length→∀ t c,c<3→Q s→Q t→Q (bvisit nx (s.met.getD k a) (s.words.getD k []) t c)) {k n:Nat} (hk:k<(bat nx a k).met.length) (hn:n≤3):Q (bpart nx a k n) :=
 Zfr Q (ZeR Q h0 hv k) (fun t c hc ht=>hv _ k hk t c hc (ZeR Q h0 hv k) ht) n hn
omit [DecidableEq α] in
theorem Zcc {l:List α} {x:α} (h:l.Nodup) (hx:x ∉ l):(l++[x]).Nodup:=by rw[List.nodup_append];refine⟨h,by simp,?_⟩;intro b hb c hc;simp only[List.mem_singleton] at hc;subst hc;intro e;subst e;exact hx hb
theorem Zgn (x:α) (wd:List Nat) {t:Bs α} (c:Nat) (h:t.met.Nodup∧t.words.length=t.met.length∧t.met.head? = some a) :
  (bvisit nx x wd t c).met.Nodup∧(bvisit nx x wd t c).words.length=(bvisit nx x wd t c).met.length∧(bvisit nx x wd t c).met.head? = some a:=by
 unfold bvisit
 split
 ·exact h
 rename_i hx;obtain⟨h1,h2,h3⟩:=h;exact⟨Zcc h1 hx,by simp[h2],by simp[h3]⟩
theorem Za5 (k:Nat):(bat nx a k).met.Nodup∧(bat nx a k).words.length=(bat nx a k).met.length∧(bat nx a k).met.head? = some a :=
 ZeR (fun s=>s.met.Nodup∧s.words.length=s.met.length∧s.met.head? = some a) (by simp) (fun s k _ t c _ _ ht=>Zgn _ _ _ ht) k
theorem ZdA {k n:Nat} (hk:k<(bat nx a k).met.length) (hn:n≤3):(bpart nx a k n).met.Nodup∧(bpart nx a k n).words.length=(bpart nx a k n).met.length∧(bpart nx a k n).met.head? = some a :=
 ZmD (fun s=>s.met.Nodup∧s.words.length=s.met.length∧s.met.head? = some a) (by simp) (fun s k _ t c _ _ ht=>Zgn _ _ _ ht) hk hn
theorem ZeQ (k:Nat):0<(bat nx a k).met.length:=by
 have:=(Za5 (nx:=nx) (a:=a) k).2.2;cases h:(bat nx a k).met with
 | nil=>rw[h] at this;simp at this
 | cons=>simp
theorem Zgp (k:Nat):(bat nx a k).met.getD 0 a=a:=by
 have:=(Za5 (nx:=nx) (a:=a) k).2.2;cases h:(bat nx a k).met with
 | nil=>rw[h] at this;simp at this
 | cons=>rw[h] at this;simpa using this
theorem ZbJ {Q:α→Prop} (h0:Q a) (hv:∀ x c,c<3→Q x→Q (nx x c)) (k:Nat):∀ x∈(bat nx a k).met,Q x:=by
 refine ZeR (fun s=>∀ x∈s.met,Q x) (by simpa using h0) (fun s k hk t c hc hs ht => ?_) k;unfold bvisit
 split
 ·exact ht
 intro x hx;simp only[List.mem_append,List.mem_singleton] at hx;rcases hx with hx|rfl
 ·exact ht x hx
 refine hv _ c hc (hs _ ?_);rw[List.getD_eq_getElem?_getD,List.getElem?_eq_getElem hk];simp
def Bs.le (s t:Bs α):Prop:=s.met <+: t.met∧s.words <+: t.words
omit [DecidableEq α] in
theorem Bs.le_refl (s:Bs α):s.le s:=⟨List.prefix_rfl,List.prefix_rfl⟩
omit [DecidableEq α] in
theorem Bs.le_trans {s t u:Bs α} (h:s.le t) (k:t.le u):s.le u:=⟨h.1.trans k.1,h.2.trans k.2⟩
theorem ZmA (x:α) (wd:List Nat) (s:Bs α) (c:Nat):s.le (bvisit nx x wd s c):=by
 unfold bvisit
 split
 ·exact Bs.le_refl _
 exact⟨List.prefix_append _ _,List.prefix_append _ _⟩
theorem ZmB (x:α) (wd:List Nat) (s:Bs α) (n m:Nat) (h:n≤m):(brow nx x wd s n).le (brow nx x wd s m):=by
 induction m with
 | zero=>obtain rfl:n=0:=by omega
         exact Bs.le_refl _
 | succ m ih =>
  by_cases hn:n=m+1
  ·subst hn;exact Bs.le_refl _
  exact Bs.le_trans (ih (by omega)) (ZmA _ _ _ _)
theorem Zdz {k n m:Nat} (h:n≤m):(bpart nx a k n).le (bpart nx a k m):=ZmB _ _ _ n m h
theorem Zjw (k:Nat):(bat nx a k).le (bat nx a (k+1)):=by
 by_cases h:k<(bat nx a k).met.length
 ·rw[ZaV h];exact ZmB _ _ _ 0 3 (by omega)
 rw[Zbm (by omega)];exact Bs.le_refl _
theorem Zg2 {k m:Nat} (h:k≤m):(bat nx a k).le (bat nx a m):=by
 induction m with
 | zero=>obtain rfl:k=0:=by omega
         exact Bs.le_refl _
 | succ m ih =>
  by_cases hn:k=m+1
  ·subst hn;exact Bs.le_refl _
  exact Bs.le_trans (ih (by omega)) (Zjw _)
theorem Za9 {k n m:Nat} (hk:k<(bat nx a k).met.length) (hn:n≤3) (hm:k<m):(bpart nx a k n).le (bat nx a m):=by
 have h1:(bpart nx a k n).le (bat nx a (k+1)):=by rw[ZaV hk];exact Zdz hn
 exact Bs.le_trans h1 (Zg2 hm)
theorem Zca {k m:Nat} (h:(bat nx a k).met.length≤k) (hm:k≤m):bat nx a m=bat nx a k:=by
 induction m with
 | zero=>obtain rfl:k=0:=by omega
         rfl
 | succ m ih =>
  by_cases hn:k=m+1
  ·subst hn;rfl
  have e:=ih (by omega);rw[Zbm (by rw[e];omega),e]
def Zah (l:List α) (x:α):Nat:=l.idxOf x
theorem Zbr {l:List α} {x:α} (h:x∈l):Zah l x<l.length:=List.idxOf_lt_length_iff.2 h
omit [DecidableEq α] in
theorem ZaI {l m:List α} (h:l <+: m) {k:Nat} (hk:k<l.length) (d:α):m.getD k d=l.getD k d:=by obtain⟨t,rfl⟩:=h;simp[List.getElem?_append_left hk]
theorem Za1 {l m:List α} (h:l <+: m) {x:α} (hx:x∈l):Zah m x=Zah l x:=by obtain⟨t,rfl⟩:=h;unfold Zah;rw[List.idxOf_append,if_pos hx]
theorem Znq {l m:List α} {x:α} (h:l++[x] <+: m) (hx:x ∉ l):Zah m x=l.length:=by rw[Za1 h (by simp)];unfold Zah;rw[List.idxOf_append,if_neg hx];simp
theorem Zfm {l:List α} {k:Nat} (hk:k<l.length) (hn:l.Nodup) (d:α):Zah l (l.getD k d)=k:=by unfold Zah;rw[List.getD_eq_getElem?_getD,List.getElem?_eq_getElem hk];simp[hn]
theorem Zj5 {l:List α} {x:α} (hx:x∈l) (d:α):l.getD (Zah l x) d=x:=by unfold Zah;rw[List.getD_eq_getElem?_getD,List.getElem?_eq_getElem (List.idxOf_lt_length_iff.2 hx)];simp
theorem ZmC {k n c:Nat} (hc:c<n):nx ((bat nx a k).met.getD k a) c∈(bpart nx a k n).met:=by
 have h1:nx ((bat nx a k).met.getD k a) c∈(bpart nx a k (c+1)).met:=by
  by_cases h:nx ((bat nx a k).met.getD k a) c∈(bpart nx a k c).met
  ·rw[Zcs h];exact h
  rw[ZbZ h];simp
 exact(Zdz (nx:=nx) (a:=a) (k:=k) (show c+1≤n by omega)).1.subset h1
theorem Zdw {l m:List α} (hn:l.Nodup) (hs:∀ x∈l,x∈m):l.length≤m.length:=by
 induction l generalizing m with
 | nil=>simp
 | cons x l ih =>
  rw[List.nodup_cons] at hn;have h1:=ih (m:=m.erase x) hn.2 fun y hy=>(List.mem_erase_of_ne (fun e=>hn.1 (by rw[← e];exact hy))).2 (hs y (by simp[hy]))
  have h2:=List.length_erase_of_mem (hs x (by simp));have h3:=List.length_pos_of_mem (hs x (by simp));simp only[List.length_cons];omega
end
def Zby {α:Type} [DecidableEq α] (nx:α→Nat→α) (a:α) (F:List α) (s:Int) (c:Nat):Int:=Zah F (nx (F.getD s.toNat a) c)
def ZaW (n:Nat):List Int:=(List.range n).map Int.ofNat
theorem ZiR (n:Nat):ZaW (n+1)=ZaW n++[(n:Int)]:=by simp[ZaW,List.range_succ]
theorem ZbG {n:Nat} {x:Nat}:(x:Int)∈ZaW n↔x<n:=by
 simp only[ZaW,List.mem_map,List.mem_range];constructor
 ·rintro⟨y,hy,e⟩;have e2:(y:Int)=(x:Int):=e;omega
 intro h;exact⟨x,h,rfl⟩
theorem Zft {n k:Nat} (h:k<n):(ZaW n).getD k 0=(k:Int):=by simp[ZaW,h]
theorem ZbC (n:Nat):(ZaW n).length=n:=by simp[ZaW]
theorem ZlH {α:Type} [DecidableEq α] (nx:α→Nat→α) (a:α) (K:Nat):∀ k,k≤K →
  bat (Zby nx a (bat nx a K).met) 0 k=⟨ZaW (bat nx a k).met.length,(bat nx a k).words⟩
 | 0,_=>rfl
 | k+1,hK=>by
  have ih:=ZlH nx a K k (by omega);have hlen:(bat (Zby nx a (bat nx a K).met) 0 k).met.length=(bat nx a k).met.length:=by rw[ih];exact ZbC _
  by_cases h:k<(bat nx a k).met.length
  ·rw[ZaV h,ZaV (by rw[hlen];exact h)]
   have hrow:∀ n,n≤3→bpart (Zby nx a (bat nx a K).met) 0 k n=⟨ZaW (bpart nx a k n).met.length,(bpart nx a k n).words⟩:=by
    intro n
    induction n with
    | zero=>intro _;rw[ZaD,ZaD];exact ih
    | succ n ihn =>
     intro hn;have e:=ihn (by omega);have hx:(bat (Zby nx a (bat nx a K).met) 0 k).met.getD k 0=(k:Int):=by rw[ih];exact Zft h
     have hF:(bat nx a K).met.getD k a=(bat nx a k).met.getD k a:=ZaI (Zg2 (show k≤K by omega)).1 h a;have hnx:Zby nx a (bat nx a K).met (k:Int) n=(Zah (bat nx a K).met (nx ((bat nx a k).met.getD k a) n):Int):=by unfold Zby;rw[show((k:Int).toNat)=k from rfl,hF]
     by_cases hm:nx ((bat nx a k).met.getD k a) n∈(bpart nx a k n).met
     ·rw[Zcs hm];have hi:=Za1 (Za9 (m:=K) h (show n≤3 by omega) (by omega)).1 hm;have hlt:Zah (bat nx a K).met (nx ((bat nx a k).met.getD k a) n)<(bpart nx a k n).met.length:=by rw[hi];exact Zbr hm
      rw[Zcs (by rw[hx,hnx,e];exact ZbG.2 hlt),e]
     have hb:=Za9 (nx:=nx) (a:=a) (m:=K) h hn (by omega);rw[ZbZ hm] at hb;have hi:=Znq hb.1 hm;rw[ZbZ (by rw[hx,hnx,e,hi];simp[ZbG]),ZbZ hm,hx,hnx,hi,e,ih];simp[ZiR]
   exact hrow 3 (by omega)
  rw[Zbm (k:=k) (a:=a) (by omega),Zbm (by rw[hlen];omega)];exact ih
end Go.Proofs.YtehmjmjedopkkaaGreat
namespace Go.Proofs.YtehmjmjedopkkaaGreat
open Go.RowKit
section
variable {α:Type} [DecidableEq α]
def numbered (l:List α):List (α × Value):=l.zipIdx.map fun p=>(p.1,Value.int .i64 (p.2:Int))
omit [DecidableEq α] in
theorem Zhv (l:List α) (x:α):numbered (l++[x])=numbered l++[(x,Value.int .i64 (l.length:Int))]:=by simp[numbered,List.zipIdx_append]
omit [DecidableEq α] in
theorem Zc0 (l:List α):(numbered l).map (·.1)=l:=by simp only[numbered,List.map_map];have:((fun x:α × Value=>x.1) ∘ fun p:α × Nat=>(p.1,Value.int .i64 (p.2:Int)))=Prod.fst:=rfl;rw[this,List.zipIdx_map_fst]
theorem ZaO {l:List α} (hn:l.Nodup) {x:α} (hx:x∈l):look x (numbered l)=some (.int .i64 (Zah l x:Int)):=by refine ZjY (by rw[Zc0];exact hn) (j:=Zah l x) ?_;have hlt:=List.idxOf_lt_length_iff.2 hx;unfold Zah;simp only[numbered,List.getElem?_map,List.getElem?_zipIdx,List.getElem?_eq_getElem hlt,Option.map_some,Nat.zero_add,List.getElem_idxOf]
theorem Zbz {l:List α} {x:α} (hx:x ∉ l):look x (numbered l)=none :=
 Zik fun p hp e=>hx (by rw[← Zc0 l,← e];exact List.mem_map.2 ⟨p,hp,rfl⟩)
theorem ZbK {l:List α} {x:α} (hx:x ∉ l):upd x (.int .i64 (l.length:Int)) (numbered l)=numbered (l++[x]):=by rw[Zhv];exact ZjB fun p hp e=>hx (by rw[← Zc0 l,← e];exact List.mem_map.2 ⟨p,hp,rfl⟩)
end
end Go.Proofs.YtehmjmjedopkkaaGreat
namespace Go.Proofs.YtehmjmjedopkkaaGreat
open Go.RowKit
theorem memD {α:Type} {xs:List α} {k:Nat} {d:α} (h:k<xs.length):xs.getD k d∈xs:=by rw[List.getD_eq_getElem?_getD,List.getElem?_eq_getElem h];simp
theorem ZbA {α:Type} {xs:List α} {k:Nat} {d:α} (h:k<xs.length):xs.getD k d=xs[k]:=by simp[h]
def dnx (d:DfaD) (s:Int) (c:Nat):Int:=(d.next.getD s.toNat []).getD c 0
def den (d:DfaD) (s:Int):Bool:=d.ends.getD s.toNat false
def ZhK {α:Type} (en:α→Bool) (s:Bs α):Option (List Nat):=((s.met.zip s.words).find? fun p=>en p.1).map (·.2)
def fine (d:DfaD):Prop:=1≤d.next.length∧d.next.length≤100000∧d.ends.length=d.next.length∧∀ i,i<d.next.length→(d.next.getD i []).length=3∧∀ c,c<3→0≤(d.next.getD i []).getD c 0∧(d.next.getD i []).getD c 0<d.next.length
section
variable {α:Type} [DecidableEq α] {nx nx':α→Nat→α} {a:α}
theorem Zg0 {x:α} {wd:List Nat} {s:Bs α} (h:∀ c,c<3→nx x c=nx' x c):∀ n,n≤3→brow nx x wd s n=brow nx' x wd s n
 | 0,_=>rfl
 | n+1,hn=>by show bvisit nx x wd (brow nx x wd s n) n=bvisit nx' x wd (brow nx' x wd s n) n;rw[Zg0 h n (by omega)];unfold bvisit;rw[h n (by omega)]
theorem Zgq {Q:α→Prop} (h0:Q a) (hv:∀ x c,c<3→Q x→Q (nx x c)) (he:∀ x c,c<3→Q x→nx x c=nx' x c):∀ k,bat nx a k=bat nx' a k
 | 0=>rfl
 | k+1=>by
  have ih:=Zgq h0 hv he k;by_cases h:k<(bat nx a k).met.length
  ·rw[ZaV h,ZaV (by rw[← ih];exact h)];unfold bpart;rw[← ih];exact Zg0 (fun c hc=>he _ c hc (ZbJ h0 hv k _ (memD h))) 3 (by omega)
  rw[Zbm (by omega),Zbm (by rw[← ih];omega),ih]
theorem ZdB {K:Nat} (hK:(bat nx a K).met.length≤K) {x:α} (hx:x∈(bat nx a K).met) {c:Nat} (hc:c<3):nx x c∈(bat nx a K).met:=by
 obtain⟨k,hk,rfl⟩:=List.mem_iff_getElem.1 hx
 have hkk:k<(bat nx a k).met.length:=by
  by_cases h:k<(bat nx a k).met.length
  ·exact h
  have:=Zca (nx:=nx) (a:=a) (k:=k) (m:=K) (by omega) (by omega);rw[this] at hk;omega
 have e:(bat nx a K).met[k]=(bat nx a k).met.getD k a:=by rw[← ZaI (Zg2 (nx:=nx) (a:=a) (show k≤K by omega)).1 hkk a,ZbA hk]
 rw[e];exact(Za9 (nx:=nx) (a:=a) hkk (Nat.le_refl 3) (show k<K by omega)).1.subset (ZmC hc)
theorem Zkn:∀ k:Nat,∀ wd∈(bat nx a k).words,wd.length≤k
 | 0,wd,h=>by simp[bat] at h;simp[h]
 | k+1,wd,h=>by
  have ih:=Zkn k;by_cases hk:k<(bat nx a k).met.length
  ·rw[ZaV hk] at h;have hg:=(Za5 (nx:=nx) (a:=a) k).2.1;refine Zfr (fun t=>∀ wd∈t.words,wd.length≤k+1) (fun wd h=>Nat.le_succ_of_le (ih wd h)) (fun t c _ ht => ?_) 3 (Nat.le_refl 3) wd h;unfold bvisit
   split
   ·exact ht
   intro v hv;simp only[List.mem_append,List.mem_singleton] at hv;rcases hv with hv|rfl
   ·exact ht v hv
   have:=ih _ (memD (d:=[]) (show k<(bat nx a k).words.length by omega));simpa using this
  rw[Zbm (by omega)] at h;exact Nat.le_succ_of_le (ih wd h)
theorem ZhW (K:Nat):a∈(bat nx a K).met:=by
 have h:=memD (d:=a) (ZeQ (nx:=nx) (a:=a) K)
 rwa [Zgp] at h
def Zaf (nx:α→Nat→α) (F:List α) (x:α):List Int:=(List.range 3).map fun c=>(Zah F (nx x c):Int)
def Zar (nx:α→Nat→α) (en:α→Bool) (F:List α):DfaD:=⟨F.map (Zaf nx F),F.map en⟩
theorem ZaK (nx:α→Nat→α) (en:α→Bool) (F:List α):(Zar nx en F).next.length=F.length:=by simp[Zar]
theorem ZeC {en:α→Bool} {F:List α} {i:Nat} (hi:i<F.length):(Zar nx en F).next.getD i []=Zaf nx F (F.getD i a):=by simp[Zar,List.getElem?_eq_getElem hi]
theorem ZfR {F:List α} {x:α} {c:Nat} (hc:c<3):(Zaf nx F x).getD c 0=(Zah F (nx x c):Int):=by simp[Zaf,hc]
theorem Zjq {en:α→Bool} {F:List α} {s:Int} {c:Nat} (h0:0≤s) (h1:s<F.length) (hc:c<3):dnx (Zar nx en F) s c=Zby nx a F s c:=by unfold dnx Zby;rw[ZeC (a:=a) (by omega),ZfR hc]
theorem Zjr {en:α→Bool} {F:List α} {i:Nat} (hi:i<F.length):den (Zar nx en F) (i:Int)=en F[i]:=by simp[den,Zar,hi]
theorem Zej {en:α→Bool} {K:Nat} (hK:(bat nx a K).met.length≤K) (hK2:K≤100000):fine (Zar nx en (bat nx a K).met):=by
 refine⟨?_,?_,?_,fun i hi => ?_⟩
 ·rw[ZaK];exact ZeQ K
 ·rw[ZaK];omega
 ·simp[Zar]
 rw[ZaK] at hi;rw[ZeC (a:=a) hi];refine⟨by simp[Zaf],fun c hc => ?_⟩;rw[ZfR hc,ZaK];exact⟨by omega,by exact_mod_cast Zbr (ZdB hK (memD hi) hc)⟩
end
theorem ZhP {w:World} {v1:Value} {next:List (List Int)} {ends:List Bool} (h:IntSS 0 w v1 next) (hd:Zai next ends=true) {i c:Nat} (hi:i<next.length) (hc:c<3) :
  ∃ q o cap z t s,v1 = .slice (some ⟨q,o,none⟩) next.length cap∧next.length≤cap∧cap≤9223372036854775807∧w.cell? ⟨q,o+i,none⟩=some (.slice (some ⟨z,t,none⟩) 3 s)∧3≤s∧s≤9223372036854775807 ∧
   w.cell? ⟨z,t+c,none⟩=some (.int .i64 ((next.getD i []).getD c 0))∧q<w.heap.size∧z<w.heap.size:=by
 obtain⟨a,cap,rfl,h1,h2,h3⟩:=h.form;obtain⟨q,o,rfl,_,hq,hr⟩:=h3 (by omega);obtain⟨a',s,e1,e2,e3,e4⟩:=hr i hi;obtain⟨hl,_⟩:=ZaP hd hi;rw[hl] at e1 e2 e4;obtain⟨z,t,rfl,_,hz,e5⟩:=e4 (by omega);exact⟨q,o,cap,z,t,s,rfl,h1,h2,e1,e2,e3,e5 c hc,hq,hz⟩
theorem Zer {w:World} {v1:Value} {xs:List Bool} (h:Bools 0 w v1 xs) {i:Nat} (hi:i<xs.length) :
  ∃ q o cap,v1 = .slice (some ⟨q,o,none⟩) xs.length cap∧xs.length≤cap∧cap≤9223372036854775807∧w.cell? ⟨q,o+i,none⟩=some (.bool (xs.getD i false))∧q<w.heap.size:=by
 obtain⟨a,cap,rfl,h1,h2,h3⟩:=h.form;obtain⟨q,o,rfl,_,hq,hr⟩:=h3 (by omega);exact⟨q,o,cap,rfl,h1,h2,hr i hi,hq⟩
theorem ZcO {a b:DfaD} {p:Int × Int} (h:Zcx a b p=true):∃ i j:Nat,p=((i:Int),(j:Int))∧i<a.next.length∧j<b.next.length:=by unfold Zcx at h;rw[Bool.and_eq_true] at h;obtain⟨x,y⟩:=p;obtain⟨h1,h2⟩:=Zed h.1;obtain⟨h3,h4⟩:=Zed h.2;simp only at h1 h2 h3 h4;obtain⟨i,rfl⟩:=Int.eq_ofNat_of_zero_le h1;obtain⟨j,rfl⟩:=Int.eq_ofNat_of_zero_le h3;exact⟨i,j,rfl,by omega,by omega⟩
def DfaAt (w:World) (b:Nat) (d:DfaD):Prop:=∃ v1 v2,Bx w b #[v1,v2] 32 ∧ IntSS 0 w v1 d.next∧Bools 0 w v2 d.ends
theorem DfaAt.below {w w':World} {b:Nat} {d:DfaD} (h:DfaAt w b d) (hb:Below w.heap.size w w'):DfaAt w' b d:=by obtain⟨v1,v2,h1,h2,h3⟩:=h;exact⟨v1,v2,h1.below hb h1.lt,h2.below hb,h3.below hb⟩
theorem Zh8 (a b:DfaD) (x:Int × Int) (c ba bb:Nat) (w:World) (hda:Zai a.next a.ends=true) (hdb:Zai b.next b.ends=true) (h1:DfaAt w ba a) (h2:DfaAt w bb b) (hx:Zcx a b x=true) (hc:c<3) :
  Calls Tryz.prog 157 #[.agg #[.int .i64 x.1,.int .i64 x.2],.int .i64 c,.pointer (some ⟨ba,0,none⟩),.pointer (some ⟨bb,0,none⟩)] w fun e w'=>e = .returned (.agg #[.int .i64 (ZcB a b x c).1,.int .i64 (ZcB a b x c).2])∧Below w.heap.size w w':=by
 obtain⟨i,j,rfl,hi,hj⟩:=ZcO hx;obtain⟨u1,u2,hB1,g1,-⟩:=h1;obtain⟨u3,u4,hB2,g2,-⟩:=h2;obtain⟨q1,o1,c1,z1,t1,s1,rfl,hc1,hm1,e1,l1,m1,e2,d1,d2⟩:=ZhP g1 hda hi hc;obtain⟨q2,o2,c2,z2,t2,s2,rfl,hc2,hm2,e3,l2,m2,e4,d3,d4⟩:=ZhP g2 hdb hj hc;obtain⟨ta,hta⟩:=eI ((ZcB a b ((i:Int),(j:Int)) c).1);obtain⟨tb,htb⟩:=eI ((ZcB a b ((i:Int),(j:Int)) c).2);have e2':w.cell? ⟨z1,t1+c,none⟩=some (.int .i64 ta):=by rw[hta];exact e2
 have e4':w.cell? ⟨z2,t2+c,none⟩=some (.int .i64 tb):=by rw[htb];exact e4
 rw[← hta,← htb];have hla:=Zag hda;have hlb:=Zag hdb;have ca:=hB1.cell 0;have cb:=hB2.cell 0;simp only[List.getElem?_toArray,List.getElem?_cons_zero] at ca cb;have d5:=hB1.lt;have d6:=hB2.lt;have hci:(c:Int)<3:=by omega
 have hii:(i:Int)<a.next.length:=by omega
 have hjj:(j:Int)<b.next.length:=by omega
 clear g1 g2 hB1 hB2 hta htb e2 e4 hx hda hdb;obtain⟨h41,h42,-⟩:=hla;obtain⟨h43,h44,-⟩:=hlb
 go_enter Tryz.func157, Tryz.ntmps157
 go_wp2
 go_region_held3 (fun w'=>w'.cell? ⟨w.heap.size,0,none⟩=some (.int .i64 i)∧w'.cell? ⟨w.heap.size,1,none⟩=some (.int .i64 j)∧w'.cell? ⟨ba,0,none⟩=some (.slice (some ⟨q1,o1,none⟩) a.next.length c1)∧w'.cell? ⟨bb,0,none⟩=some (.slice (some ⟨q2,o2,none⟩) b.next.length c2)∧w'.cell? ⟨q1,o1+i,none⟩=some (.slice (some ⟨z1,t1,none⟩) 3 s1)∧w'.cell? ⟨q2,o2+j,none⟩=some (.slice (some ⟨z2,t2,none⟩) 3 s2)∧w'.cell? ⟨z1,t1+c,none⟩=some (.int .i64 ta)∧w'.cell? ⟨z2,t2+c,none⟩=some (.int .i64 tb))
  (first|go_keep) (fail)
 go_wp2;refine bodyPost_ret (v:=.agg #[.int .i64 ta,.int .i64 tb]) (by simp[results,Tryz.results157,go_sem]) rfl ⟨rfl,?_⟩;exact(((Below.refl _ _).alloc (Nat.le_refl _) _).alloc (by simp) _).drew
def ZeK (f:Bool→Bool→Bool) (a b:DfaD) (p:Int × Int):Bool:=f (a.ends.getD p.1.toNat false) (b.ends.getD p.2.toNat false)
end Go.Proofs.YtehmjmjedopkkaaGreat
namespace Go.Proofs.YtehmjmjedopkkaaGreat
open Go.RowKit Go.Deep Go.ChangeShapes Go.ChangeAt
section
variable {H:Type} {enc:TypeId × Value→H} {P:Program} {w:World} {held:Bool}
theorem ZkZ {a:Addr} {v:Value} (h:w.cell? (a.add 0)=some v):∃ b off,a=⟨b,off,none⟩:=by
 obtain⟨b,off,spot⟩:=a;have hspot:spot=none:=by simpa [Addr.add] using World.cell?_spot h
 subst hspot;exact⟨b,off,rfl⟩
theorem ZiY {a:Addr} {len cap:Nat} {cs:List Value} (hl:cs.length=len) (hle:len≤cap) (hm:cap≤maxLen) (hc:∀ i,i<len→w.cell? (a.add i)=cs[i]?):Sl 0 w (.slice (some a) len cap) len 1 cs:=by refine⟨by omega,_,cap,rfl,hle,hm,fun h0 => ?_⟩;obtain⟨u,hu⟩:∃ u,cs[0]? = some u:=⟨cs[0]'(by omega),by simp[show 0<cs.length by omega]⟩;obtain⟨b,off,rfl⟩:=ZkZ ((hc 0 h0).trans hu);refine⟨b,off,rfl,Nat.zero_le _,World.block_lt_of_cell? w _ ((hc 0 h0).trans hu),fun j hj => ?_⟩;rw[← hc j (by omega),← Go.WideShapes.add_plain]
end
end Go.Proofs.YtehmjmjedopkkaaGreat
namespace Go.Proofs.YtehmjmjedopkkaaGreat
open Go.RowKit Go.Deep Go.ChangeShapes Go.ChangeAt
def Bytes (B:Nat) (w:World) (v:Value) (bs:List Nat):Prop:=(∀ b∈bs,b<256)∧Sl B w v bs.length 1 (bs.map fun (b:Nat)=>Value.int .u8 (b:Int))
theorem Bytes.below {B:Nat} {w w':World} {v:Value} {bs:List Nat} (h:Bytes B w v bs) (he:Below w.heap.size w w'):Bytes B w' v bs:=⟨h.1,Sl.below h.2 he⟩
theorem Bytes.form {B:Nat} {w:World} {v:Value} {bs:List Nat} (h:Bytes B w v bs):∃ a cap,v = .slice a bs.length cap∧bs.length≤cap∧cap≤9223372036854775807 ∧
  (0<bs.length→∃ b off,a=some ⟨b,off,none⟩∧B≤b∧b<w.heap.size∧∀ j,j<bs.length→w.cell? ⟨b,off+j,none⟩=some (.int .u8 (bs.getD j 0:Nat))∧bs.getD j 0<256):=by
 obtain⟨h0,hl,a,cap,hv,h1,h2,h3⟩:=h;refine⟨a,cap,hv,h1,h2,fun hn => ?_⟩;obtain⟨b,off,ha,hb,hlt,hc⟩:=h3 hn;refine⟨b,off,ha,hb,hlt,fun j hj=>⟨?_,h0 _ (by rw[show bs.getD j 0=bs[j] by simp[hj]];exact List.getElem_mem hj)⟩⟩;rw[hc j (by omega)];simp[hj]
section
variable {H:Type} {enc:TypeId × Value→H} {P:Program} {w:World} {held:Bool}
theorem Zo4 {n:Int} (h:(Lit.int .u8 n).wf=true):0≤n∧n≤255:=by have e1:IntKind.u8.min=0:=rfl;have e2:IntKind.u8.max=255:=rfl;simp only[Lit.wf,Bool.and_eq_true,decide_eq_true_eq,e1,e2] at h;exact h
theorem Zia {t e:TypeId} {fuel:Nat} {cs:List Value} {x:DataW H × List MemPlace} (ht:P.underlying t=some (.slice e)) (he:P.underlying e=some (.int .u8)) (hc:P.cellsOf e=1)
  (h:DataW.trod enc P w 0 (fun _=>true) held fuel t cs=some x):∃ v bs,cs=[v]∧Bytes 0 w v bs:=by
 rcases open_ints ht he hc h with⟨hcs,-⟩|⟨a,len,cap,zs,hcs,-,hl,hm,hz,-,hcell,hwf⟩
 ·exact⟨_,[],hcs,fun b hb=>by simp at hb,by simp,none,0,rfl,Nat.le_refl _,Nat.zero_le _,fun h=>by simp at h⟩
 simp only[if_true] at hz;refine⟨_,(zs.take len).map Int.toNat,hcs,fun b hb => ?_,?_⟩
 ·obtain⟨z,hz1,rfl⟩:=List.mem_map.1 hb;have:=Zo4 (hwf z (List.mem_of_mem_take hz1));omega
 have hlen:((zs.take len).map Int.toNat).length=len:=by simp;omega
 rw[hlen];refine ZiY (by simp;omega) hl hm fun i hi => ?_
 rw[hcell i (by omega)];have hzi:i<zs.length:=by omega
 have:=Zo4 (hwf _ (List.getElem_mem hzi));simp[hi,hzi];omega
end
theorem Zid (a:Nat) (ha:a<1099511627776):(BitVec.ofInt 64 (a:Int)).toNat=a:=by rw[BitVec.ofInt_natCast,BitVec.toNat_ofNat];exact Nat.mod_eq_of_lt (by omega)
theorem Zjm (a b:Nat) (ha:a<1099511627776) (hb:b<1099511627776):bits .xor .i64 (a:Int) (b:Int)=((a ^^^ b:Nat):Int):=by have hx:a ^^^ b<2 ^ 40:=Nat.xor_lt_two_pow (by omega) (by omega);show IntKind.i64.wrap ((BitVec.ofInt 64 (a:Int) ^^^ BitVec.ofInt 64 (b:Int)).toNat:Int)=_;rw[BitVec.toNat_xor,Zid a ha,Zid b hb];exact IntWalk.i64_in _ (by omega)
end Go.Proofs.YtehmjmjedopkkaaGreat
namespace Go.Proofs.YtehmjmjedopkkaaGreat
open Go.RowKit
def RdE (b:Nat) (vb:Value) (p:Nat):Ent:=Ent.box b #[vb,.int .i64 ((p:Nat):Int)] 77
theorem Bytes.take {w:World} {a:Option Addr} {len cap:Nat} {bs:List Nat} (h:Bytes 0 w (.slice a len cap) bs) {n:Nat} (hn:n≤bs.length):Bytes 0 w (.slice a n cap) (bs.take n):=by
 obtain⟨h0,hl,a',cap',hv,h1,h2,h3⟩:=h;simp only[Value.slice.injEq] at hv;obtain⟨rfl,rfl,rfl⟩:=hv;have e:(bs.take n).length=n:=by rw[List.length_take];omega
 refine⟨fun b hb=>h0 b (List.mem_of_mem_take hb),?_⟩;rw[e];refine⟨by rw[List.length_map,e];omega,a,cap,rfl,by omega,h2,fun hn0 => ?_⟩;obtain⟨b,off,ha,hb,hlt,hc⟩:=h3 (by omega);refine⟨b,off,ha,hb,hlt,fun j hj => ?_⟩;rw[hc j (by omega),List.map_take,List.getElem?_take_of_lt (by omega)]
theorem Zay (bs:List Nat) (vb:Value) (b p n:Nat) (w0 w:World) (X:Ent) (hb:Bytes 0 w0 vb bs) (hlen:bs.length≤2000) (hp:p≤1000000) (hn0:1≤n) (hn1:n≤10000) (hS:St w0 w [RdE b vb p,X]) :
  Calls Tryz.prog 42 #[.pointer (some ⟨b,0,none⟩),.int .i64 ((n:Nat):Int)] w fun e w'=>∃ k:Nat,k<n∧e = .returned (.int .i64 ((k:Nat):Int))∧St w0 w' [RdE b vb (p+1),X]:=by
 obtain⟨a,c,rfl,hc1,hc2,hr⟩:=hb.form;have e0:=hS.cell (v:=.slice a bs.length c) 0 0 rfl rfl;have e1:=hS.cell (v:=.int .i64 ((p:Nat):Int)) 0 1 rfl rfl;have f1:=hS.fr 0 1 rfl;have hS1:=hS.set 0 rfl 1 (.int .i64 ((p:Int)+1));have HS1:=qh hS1;have Hr:=qh hr;have hnI:(1:Int)≤n:=by omega
 have hn2:((n:Int)<1)=False:=by simp;omega
 have hp1:(p:Int)+1-1=p:=by omega
 clear hb hS hr hS1;by_cases h0:bs.length=0
 ·have q1:((bs.length:Int)==0)=true:=by rw[h0];rfl
  have q2:((bs.length:Int)=0)=True:=by simp[h0]
  go_enter Tryz.func42, Tryz.ntmps42
  go_wp2;go_ret;exact⟨0,by omega,rfl,HS1.out⟩
 have q0:(bs.length:Int)≠0:=by omega
 have q1:((bs.length:Int)==0)=false:=by rw[beq_eq_false_iff_ne];exact q0
 have q2:((bs.length:Int)=0)=False:=eq_false q0;clear q0;obtain⟨b1,o1,rfl,-,hb1,hcs⟩:=Hr.out (by omega);by_cases hlt:p<bs.length
 ·have hlt2:(p:Int)<bs.length:=by omega
  have e3:=(bcell HS1.out.bel b1 _ hb1).trans (hcs p hlt).1;obtain⟨v,hv⟩:=eI (bs.getD p 0);have hv2:=(hcs p hlt).2;rw[← hv] at e3 hv2;replace hv:=qh hv;clear hcs h0
  go_enter Tryz.func42, Tryz.ntmps42
  go_wp2;go_ret;have hvn:((v:Int) % (n:Int))=((v % n:Nat):Int):=by omega
  exact⟨v % n,Nat.mod_lt _ (by omega),by rw[← hvn];rfl,HS1.out⟩
 have hlt2:((p:Int)<bs.length)=False:=by simp;omega
 have hm1:p % bs.length<bs.length:=Nat.mod_lt _ (by omega);have hm2:(p*7+3) % bs.length<bs.length:=Nat.mod_lt _ (by omega);have e3:=(bcell HS1.out.bel b1 _ hb1).trans (hcs _ hm1).1;have e4:=(bcell HS1.out.bel b1 _ hb1).trans (hcs _ hm2).1;have hv1:=(hcs _ hm1).2;have hv2:=(hcs _ hm2).2;have i1:(p:Int) % (bs.length:Int)=((p % bs.length:Nat):Int):=by omega
 have i2:((p:Int)*7+3) % (bs.length:Int)=(((p*7+3) % bs.length:Nat):Int):=by rw[Int.natCast_emod];congr 1
 have i3:(p:Int) / (bs.length:Int)=((p / bs.length:Nat):Int):=by rw[Int.natCast_ediv]
 have hdv:p / bs.length≤1000000:=Nat.le_trans (Nat.div_le_self _ _) hp;obtain⟨u1,hu1⟩:∃ u,u=bs.getD (p % bs.length) 0:=⟨_,rfl⟩;obtain⟨u2,hu2⟩:∃ u,u=bs.getD ((p*7+3) % bs.length) 0:=⟨_,rfl⟩;obtain⟨m1,hmm1⟩:∃ m,m=p % bs.length:=⟨_,rfl⟩;obtain⟨m2,hmm2⟩:∃ m,m=(p*7+3) % bs.length:=⟨_,rfl⟩;obtain⟨m3,hmm3⟩:∃ m,m=p / bs.length:=⟨_,rfl⟩;rw[← hu1] at e3 hv1;rw[← hu2] at e4 hv2;rw[← hmm1] at e3 i1 hm1;rw[← hmm2] at e4 i2 hm2;rw[← hmm3] at i3 hdv;have j1:(m1:Int)<bs.length:=by omega
 have j2:(m2:Int)<bs.length:=by omega
 replace hu1:=qh hu1;have Hhu2:=qh hu2;clear hu2;replace hmm1:=qh hmm1;have Hhmm2:=qh hmm2;clear hmm2;have Hhmm3:=qh hmm3;clear hmm3;clear hcs h0 hlt
 go_enter Tryz.func42, Tryz.ntmps42
 go_wp2
 go_quiet (fail)
 go_wp2;have ea:((u1:Int)*131+(u2:Int)*1117+(p:Int)*29+(m3:Int)*53)=((u1*131+u2*1117+p*29+m3*53:Nat):Int):=by omega
 obtain⟨A,hA⟩:=eI (u1*131+u2*1117+p*29+m3*53);have hAl:A<1099511627776:=by omega
 rw[← hA] at ea;have hx:(bits BinOp.xor IntKind.i64 ((u1:Int)*131+(u2:Int)*1117+(p:Int)*29+(m3:Int)*53) (((u1:Int)*131+(u2:Int)*1117+(p:Int)*29+(m3:Int)*53) / 64)).tmod (n:Int)=(((A ^^^ (A / 64)) % n:Nat):Int):=by rw[ea,show((A:Nat):Int) / 64=((A / 64:Nat):Int) by omega,Zjm A (A / 64) hAl (by omega)];exact(Int.ofNat_tmod _ _).symm
 go_ret;exact⟨(A ^^^ (A / 64)) % n,Nat.mod_lt _ (by omega),by rw[← hx];rfl,HS1.out.drewN _⟩
theorem Zjc (bs:List Nat) (vb:Value) (b p n:Nat) (w0 w:World) (X:Ent) (hb:Bytes 0 w0 vb bs) (hlen:bs.length≤2000) (hp:p≤1000000) (hn1:n≤10000) (hS:St w0 w [RdE b vb p,X]) :
  Calls Tryz.prog 55 #[.pointer (some ⟨b,0,none⟩),.int .i64 ((n:Nat):Int)] w fun e w'=>∃ (q:Bool) (p':Nat),p'≤p+1∧e = .returned (.bool q)∧St w0 w' [RdE b vb p',X]:=by
 have HS:=qh hS;have Hb:=qh hb;clear hS hb;by_cases h0:n=0
 ·subst h0
  go_enter Tryz.func55, Tryz.ntmps55
  go_wp2;go_ret;exact⟨_,p,by omega,rfl,HS.out⟩
 have hnI:(0:Int)<n:=by omega
 go_enter Tryz.func55, Tryz.ntmps55
 go_wp2_with fail;refine(Zay bs vb b p n w0 _ X Hb.out hlen hp (by omega) hn1 HS.out).mono ?_;rintro e w1 ⟨k,hk,rfl,hS1⟩;have HS1:=qh hS1;clear hS1;by_cases hkn:(k:Int)=(n:Int)-1
 ·have g1:((k:Int)==(n:Int)-1)=true:=by rw[hkn];simp
  have g2:((k:Int)=(n:Int)-1)=True:=eq_true hkn;clear hkn;go_wp2;go_ret;exact⟨_,p+1,Nat.le_refl _,rfl,HS1.out⟩
 have g1:((k:Int)==(n:Int)-1)=false:=by rw[beq_eq_false_iff_ne];exact hkn
 have g2:((k:Int)=(n:Int)-1)=False:=eq_false hkn;clear hkn;go_wp2;go_ret;exact⟨_,p+1,Nat.le_refl _,rfl,HS1.out⟩
end Go.Proofs.YtehmjmjedopkkaaGreat
