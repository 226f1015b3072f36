/-
  States met in breadth, letter by letter, with the words that lead to them: the plain meaning of the program's and of the reference's searches.
  No condition: this text speaks of no program.
  A map from things to their places in a list.
  No condition: this text speaks of no program.
  The first of the things met that ends, and its word: plain laws; the same for the numbered automaton.
  No condition: this text speaks of no program.
-/
import Derived.Test.YtehmjmjedopkkaaGreatPn01Dvi
set_option maxHeartbeats 1600000
namespace Go.Proofs.YtehmjmjedopkkaaGreat
structure Bs (α:Type) where
 met:List α
 words:List (List Nat)
section
variable {α:Type} [DecidableEq α]
def bvisit (nx:α→Nat→α) (x:α) (wd:List Nat) (s:Bs α) (c:Nat):Bs α :=
 if nx x c∈s.met then s else⟨s.met++[nx x c],s.words++[wd++[c]]⟩
def brow (nx:α→Nat→α) (x:α) (wd:List Nat) (s:Bs α):Nat→Bs α
 | 0=>s
 | n+1=>bvisit nx x wd (brow nx x wd s n) n
def bat (nx:α→Nat→α) (a:α):Nat→Bs α
 | 0=>⟨[a],[[]]⟩
 | k+1=>if k<(bat nx a k).met.length then brow nx ((bat nx a k).met.getD k a) ((bat nx a k).words.getD k []) (bat nx a k) 3 else bat nx a k
def bpart (nx:α→Nat→α) (a:α) (k n:Nat):Bs α:=brow nx ((bat nx a k).met.getD k a) ((bat nx a k).words.getD k []) (bat nx a k) n
variable {nx:α→Nat→α} {a:α}
theorem Zau (k:Nat):bpart nx a k 0=bat nx a k:=rfl
theorem ZaK {k:Nat} (h:k<(bat nx a k).met.length):bat nx a (k+1)=bpart nx a k 3:=by simp only[bat,if_pos h];rfl
theorem Zbq {k:Nat} (h:(bat nx a k).met.length≤k):bat nx a (k+1)=bat nx a k:=by simp only[bat,if_neg (show ¬ k<(bat nx a k).met.length by omega)]
theorem Zha (k n:Nat):bpart nx a k (n+1)=bvisit nx ((bat nx a k).met.getD k a) ((bat nx a k).words.getD k []) (bpart nx a k n) n:=rfl
theorem ZbF {k n:Nat} (h:nx ((bat nx a k).met.getD k a) n∈(bpart nx a k n).met):bpart nx a k (n+1)=bpart nx a k n:=by rw[Zha,bvisit,if_pos h]
theorem Zbj {k n:Nat} (h:nx ((bat nx a k).met.getD k a) n ∉ (bpart nx a k n).met):bpart nx a k (n+1)=⟨(bpart nx a k n).met++[nx ((bat nx a k).met.getD k a) n],(bpart nx a k n).words++[(bat nx a k).words.getD k []++[n]]⟩:=by rw[Zha,bvisit,if_neg h]
theorem Zfq (Q:Bs α→Prop) {x:α} {wd:List Nat} {s:Bs α} (hs:Q s) (hv:∀ t c,c<3→Q t→Q (bvisit nx x wd t c)):∀ n,n≤3→Q (brow nx x wd s n)
 | 0,_=>hs
 | n+1,h=>hv _ n (by omega) (Zfq Q hs hv n (by omega))
theorem ZeM (Q:Bs α→Prop) (h0:Q ⟨[a],[[]]⟩) (hv:∀ s k,k<s.met.length→∀ t c,c<3→Q s→Q t→Q (bvisit nx (s.met.getD k a) (s.words.getD k []) t c)):∀ k,Q (bat nx a k)
 | 0=>h0
 | k+1=>by
  have ih:=ZeM Q h0 hv k;by_cases h:k<(bat nx a k).met.length
  ·rw[ZaK h];exact Zfq Q ih (fun t c hc ht=>hv _ k h t c hc ih ht) 3 (by omega)
  rw[Zbq (by omega)];exact ih
theorem Zi8 (Q:Bs α→Prop) (h0:Q ⟨[a],[[]]⟩) (hv:∀ s k,k<s.met.length→∀ t c,c<3→Q s→Q t→Q (bvisit nx (s.met.getD k a) (s.words.getD k []) t c)) {k n:Nat} (hk:k<(bat nx a k).met.length) (hn:n≤3):Q (bpart nx a k n) :=
 Zfq Q (ZeM Q h0 hv k) (fun t c hc ht=>hv _ k hk t c hc (ZeM Q h0 hv k) ht) n hn
omit [DecidableEq α] in
theorem ZcF {l:List α} {x:α} (h:l.Nodup) (hx:x ∉ l):(l++[x]).Nodup:=by rw[List.nodup_append];refine⟨h,by simp,?_⟩;intro b hb c hc;simp only[List.mem_singleton] at hc;subst hc;intro e;subst e;exact hx hb
theorem Zgo (x:α) (wd:List Nat) {t:Bs α} (c:Nat) (h:t.met.Nodup∧t.words.length=t.met.length∧t.met.head? = some a) :
  (bvisit nx x wd t c).met.Nodup∧(bvisit nx x wd t c).words.length=(bvisit nx x wd t c).met.length∧(bvisit nx x wd t c).met.head? = some a:=by
 unfold bvisit
 split
 ·exact h
 rename_i hx;obtain⟨h1,h2,h3⟩:=h;exact⟨ZcF h1 hx,by simp[h2],by simp[h3]⟩
theorem Zbd (k:Nat):(bat nx a k).met.Nodup∧(bat nx a k).words.length=(bat nx a k).met.length∧(bat nx a k).met.head? = some a :=
 ZeM (fun s=>s.met.Nodup∧s.words.length=s.met.length∧s.met.head? = some a) (by simp) (fun s k _ t c _ _ ht=>Zgo _ _ _ ht) k
theorem Zdz {k n:Nat} (hk:k<(bat nx a k).met.length) (hn:n≤3):(bpart nx a k n).met.Nodup∧(bpart nx a k n).words.length=(bpart nx a k n).met.length∧(bpart nx a k n).met.head? = some a :=
 Zi8 (fun s=>s.met.Nodup∧s.words.length=s.met.length∧s.met.head? = some a) (by simp) (fun s k _ t c _ _ ht=>Zgo _ _ _ ht) hk hn
theorem Zdq (k:Nat):0<(bat nx a k).met.length:=by
 have:=(Zbd (nx:=nx) (a:=a) k).2.2;cases h:(bat nx a k).met with
 | nil=>rw[h] at this;simp at this
 | cons=>simp
theorem Zgp (k:Nat):(bat nx a k).met.getD 0 a=a:=by
 have:=(Zbd (nx:=nx) (a:=a) k).2.2;cases h:(bat nx a k).met with
 | nil=>rw[h] at this;simp at this
 | cons=>rw[h] at this;simpa using this
theorem ZbN {Q:α→Prop} (h0:Q a) (hv:∀ x c,c<3→Q x→Q (nx x c)) (k:Nat):∀ x∈(bat nx a k).met,Q x:=by
 refine ZeM (fun s=>∀ x∈s.met,Q x) (by simpa using h0) (fun s k hk t c hc hs ht => ?_) k;unfold bvisit
 split
 ·exact ht
 intro x hx;simp only[List.mem_append,List.mem_singleton] at hx;rcases hx with hx|rfl
 ·exact ht x hx
 refine hv _ c hc (hs _ ?_);rw[List.getD_eq_getElem?_getD,List.getElem?_eq_getElem hk];simp
theorem Znr {Q:α→Prop} (h0:Q a) (hv:∀ x c,c<3→Q x→Q (nx x c)) {k n:Nat} (hk:k<(bat nx a k).met.length) (hn:n≤3):∀ x∈(bpart nx a k n).met,Q x:=by
 refine Zi8 (fun s=>∀ x∈s.met,Q x) (by simpa using h0) (fun s k hk t c hc hs ht => ?_) hk hn;unfold bvisit
 split
 ·exact ht
 intro x hx;simp only[List.mem_append,List.mem_singleton] at hx;rcases hx with hx|rfl
 ·exact ht x hx
 refine hv _ c hc (hs _ ?_);rw[List.getD_eq_getElem?_getD,List.getElem?_eq_getElem hk];simp
def Bs.le (s t:Bs α):Prop:=s.met <+: t.met∧s.words <+: t.words
omit [DecidableEq α] in
theorem Bs.le_refl (s:Bs α):s.le s:=⟨List.prefix_rfl,List.prefix_rfl⟩
omit [DecidableEq α] in
theorem Bs.le_trans {s t u:Bs α} (h:s.le t) (k:t.le u):s.le u:=⟨h.1.trans k.1,h.2.trans k.2⟩
theorem Znp (x:α) (wd:List Nat) (s:Bs α) (c:Nat):s.le (bvisit nx x wd s c):=by
 unfold bvisit
 split
 ·exact Bs.le_refl _
 exact⟨List.prefix_append _ _,List.prefix_append _ _⟩
theorem Znq (x:α) (wd:List Nat) (s:Bs α) (n m:Nat) (h:n≤m):(brow nx x wd s n).le (brow nx x wd s m):=by
 induction m with
 | zero=>obtain rfl:n=0:=by omega
         exact Bs.le_refl _
 | succ m ih =>
  by_cases hn:n=m+1
  ·subst hn;exact Bs.le_refl _
  exact Bs.le_trans (ih (by omega)) (Znp _ _ _ _)
theorem ZbG {k n m:Nat} (h:n≤m):(bpart nx a k n).le (bpart nx a k m):=Znq _ _ _ n m h
theorem ZjU (k:Nat):(bat nx a k).le (bat nx a (k+1)):=by
 by_cases h:k<(bat nx a k).met.length
 ·rw[ZaK h];exact Znq _ _ _ 0 3 (by omega)
 rw[Zbq (by omega)];exact Bs.le_refl _
theorem ZeY {k m:Nat} (h:k≤m):(bat nx a k).le (bat nx a m):=by
 induction m with
 | zero=>obtain rfl:k=0:=by omega
         exact Bs.le_refl _
 | succ m ih =>
  by_cases hn:k=m+1
  ·subst hn;exact Bs.le_refl _
  exact Bs.le_trans (ih (by omega)) (ZjU _)
theorem ZaE {k n m:Nat} (hk:k<(bat nx a k).met.length) (hn:n≤3) (hm:k<m):(bpart nx a k n).le (bat nx a m):=by
 have h1:(bpart nx a k n).le (bat nx a (k+1)):=by rw[ZaK hk];exact ZbG hn
 exact Bs.le_trans h1 (ZeY hm)
theorem Zbr {k m:Nat} (h:(bat nx a k).met.length≤k) (hm:k≤m):bat nx a m=bat nx a k:=by
 induction m with
 | zero=>obtain rfl:k=0:=by omega
         rfl
 | succ m ih =>
  by_cases hn:k=m+1
  ·subst hn;rfl
  have e:=ih (by omega);rw[Zbq (by rw[e];omega),e]
def Zai (l:List α) (x:α):Nat:=l.idxOf x
theorem ZaN {l:List α} {x:α} (h:x∈l):Zai l x<l.length:=List.idxOf_lt_length_iff.2 h
omit [DecidableEq α] in
theorem ZaB {l m:List α} (h:l <+: m) {k:Nat} (hk:k<l.length) (d:α):m.getD k d=l.getD k d:=by obtain⟨t,rfl⟩:=h;simp[List.getElem?_append_left hk]
theorem ZaU {l m:List α} (h:l <+: m) {x:α} (hx:x∈l):Zai m x=Zai l x:=by obtain⟨t,rfl⟩:=h;unfold Zai;rw[List.idxOf_append,if_pos hx]
theorem Zfk {l m:List α} {x:α} (h:l++[x] <+: m) (hx:x ∉ l):Zai m x=l.length:=by rw[ZaU h (by simp)];unfold Zai;rw[List.idxOf_append,if_neg hx];simp
theorem Zd6 {l:List α} {k:Nat} (hk:k<l.length) (hn:l.Nodup) (d:α):Zai l (l.getD k d)=k:=by unfold Zai;rw[List.getD_eq_getElem?_getD,List.getElem?_eq_getElem hk];simp[hn]
theorem ZhP {l:List α} {x:α} (hx:x∈l) (d:α):l.getD (Zai l x) d=x:=by unfold Zai;rw[List.getD_eq_getElem?_getD,List.getElem?_eq_getElem (List.idxOf_lt_length_iff.2 hx)];simp
theorem Zi7 {k n c:Nat} (hc:c<n):nx ((bat nx a k).met.getD k a) c∈(bpart nx a k n).met:=by
 have h1:nx ((bat nx a k).met.getD k a) c∈(bpart nx a k (c+1)).met:=by
  by_cases h:nx ((bat nx a k).met.getD k a) c∈(bpart nx a k c).met
  ·rw[ZbF h];exact h
  rw[Zbj h];simp
 exact(ZbG (nx:=nx) (a:=a) (k:=k) (show c+1≤n by omega)).1.subset h1
theorem Zdw {l m:List α} (hn:l.Nodup) (hs:∀ x∈l,x∈m):l.length≤m.length:=by
 induction l generalizing m with
 | nil=>simp
 | cons x l ih =>
  rw[List.nodup_cons] at hn;have h1:=ih (m:=m.erase x) hn.2 fun y hy=>(List.mem_erase_of_ne (fun e=>hn.1 (by rw[← e];exact hy))).2 (hs y (by simp[hy]))
  have h2:=List.length_erase_of_mem (hs x (by simp));have h3:=List.length_pos_of_mem (hs x (by simp));simp only[List.length_cons];omega
end
def ZbB {α:Type} [DecidableEq α] (nx:α→Nat→α) (a:α) (F:List α) (s:Int) (c:Nat):Int:=Zai F (nx (F.getD s.toNat a) c)
def ZaW (n:Nat):List Int:=(List.range n).map Int.ofNat
theorem Zje (n:Nat):ZaW (n+1)=ZaW n++[(n:Int)]:=by simp[ZaW,List.range_succ]
theorem Zcb {n:Nat} {x:Nat}:(x:Int)∈ZaW n↔x<n:=by
 simp only[ZaW,List.mem_map,List.mem_range];constructor
 ·rintro⟨y,hy,e⟩;have e2:(y:Int)=(x:Int):=e;omega
 intro h;exact⟨x,h,rfl⟩
theorem Zft {n k:Nat} (h:k<n):(ZaW n).getD k 0=(k:Int):=by simp[ZaW,h]
theorem Zb8 (n:Nat):(ZaW n).length=n:=by simp[ZaW]
theorem Zml {α:Type} [DecidableEq α] (nx:α→Nat→α) (a:α) (K:Nat):∀ k,k≤K →
  bat (ZbB nx a (bat nx a K).met) 0 k=⟨ZaW (bat nx a k).met.length,(bat nx a k).words⟩
 | 0,_=>rfl
 | k+1,hK=>by
  have ih:=Zml nx a K k (by omega);have hlen:(bat (ZbB nx a (bat nx a K).met) 0 k).met.length=(bat nx a k).met.length:=by rw[ih];exact Zb8 _
  by_cases h:k<(bat nx a k).met.length
  ·rw[ZaK h,ZaK (by rw[hlen];exact h)]
   have hrow:∀ n,n≤3→bpart (ZbB nx a (bat nx a K).met) 0 k n=⟨ZaW (bpart nx a k n).met.length,(bpart nx a k n).words⟩:=by
    intro n
    induction n with
    | zero=>intro _;rw[Zau,Zau];exact ih
    | succ n ihn =>
     intro hn;have e:=ihn (by omega);have hx:(bat (ZbB nx a (bat nx a K).met) 0 k).met.getD k 0=(k:Int):=by rw[ih];exact Zft h
     have hF:(bat nx a K).met.getD k a=(bat nx a k).met.getD k a:=ZaB (ZeY (show k≤K by omega)).1 h a;have hnx:ZbB nx a (bat nx a K).met (k:Int) n=(Zai (bat nx a K).met (nx ((bat nx a k).met.getD k a) n):Int):=by unfold ZbB;rw[show((k:Int).toNat)=k from rfl,hF]
     by_cases hm:nx ((bat nx a k).met.getD k a) n∈(bpart nx a k n).met
     ·rw[ZbF hm];have hi:=ZaU (ZaE (m:=K) h (show n≤3 by omega) (by omega)).1 hm;have hlt:Zai (bat nx a K).met (nx ((bat nx a k).met.getD k a) n)<(bpart nx a k n).met.length:=by rw[hi];exact ZaN hm
      rw[ZbF (by rw[hx,hnx,e];exact Zcb.2 hlt),e]
     have hb:=ZaE (nx:=nx) (a:=a) (m:=K) h hn (by omega);rw[Zbj hm] at hb;have hi:=Zfk hb.1 hm;rw[Zbj (by rw[hx,hnx,e,hi];simp[Zcb]),Zbj hm,hx,hnx,hi,e,ih];simp[Zje]
   exact hrow 3 (by omega)
  rw[Zbq (k:=k) (a:=a) (by omega),Zbq (by rw[hlen];omega)];exact ih
end Go.Proofs.YtehmjmjedopkkaaGreat
namespace Go.Proofs.YtehmjmjedopkkaaGreat
open Go.RowKit
section
variable {α:Type} [DecidableEq α]
def numbered (l:List α):List (α × Value):=l.zipIdx.map fun p=>(p.1,Value.int .i64 (p.2:Int))
omit [DecidableEq α] in
theorem Zhx (l:List α) (x:α):numbered (l++[x])=numbered l++[(x,Value.int .i64 (l.length:Int))]:=by simp[numbered,List.zipIdx_append]
omit [DecidableEq α] in
theorem ZcY (l:List α):(numbered l).map (·.1)=l:=by simp only[numbered,List.map_map];have:((fun x:α × Value=>x.1) ∘ fun p:α × Nat=>(p.1,Value.int .i64 (p.2:Int)))=Prod.fst:=rfl;rw[this,List.zipIdx_map_fst]
theorem Zba {l:List α} (hn:l.Nodup) {x:α} (hx:x∈l):look x (numbered l)=some (.int .i64 (Zai l x:Int)):=by refine Zkk (by rw[ZcY];exact hn) (j:=Zai l x) ?_;have hlt:=List.idxOf_lt_length_iff.2 hx;unfold Zai;simp only[numbered,List.getElem?_map,List.getElem?_zipIdx,List.getElem?_eq_getElem hlt,Option.map_some,Nat.zero_add,List.getElem_idxOf]
theorem Zcn {l:List α} {x:α} (hx:x ∉ l):look x (numbered l)=none :=
 Ziy fun p hp e=>hx (by rw[← ZcY l,← e];exact List.mem_map.2 ⟨p,hp,rfl⟩)
theorem Zcw {l:List α} {x:α} (hx:x ∉ l):upd x (.int .i64 (l.length:Int)) (numbered l)=numbered (l++[x]):=by rw[Zhx];exact ZjZ fun p hp e=>hx (by rw[← ZcY l,← e];exact List.mem_map.2 ⟨p,hp,rfl⟩)
end
end Go.Proofs.YtehmjmjedopkkaaGreat
namespace Go.Proofs.YtehmjmjedopkkaaGreat
open Go.RowKit
theorem memD {α:Type} {xs:List α} {k:Nat} {d:α} (h:k<xs.length):xs.getD k d∈xs:=by rw[List.getD_eq_getElem?_getD,List.getElem?_eq_getElem h];simp
theorem Za4 {α:Type} {xs:List α} {k:Nat} {d:α} (h:k<xs.length):xs.getD k d=xs[k]:=by simp[h]
def dnx (d:DfaD) (s:Int) (c:Nat):Int:=(d.next.getD s.toNat []).getD c 0
def den (d:DfaD) (s:Int):Bool:=d.ends.getD s.toNat false
def ZhS {α:Type} (en:α→Bool) (s:Bs α):Option (List Nat):=((s.met.zip s.words).find? fun p=>en p.1).map (·.2)
def fine (d:DfaD):Prop:=1≤d.next.length∧d.next.length≤100000∧d.ends.length=d.next.length∧∀ i,i<d.next.length→(d.next.getD i []).length=3∧∀ c,c<3→0≤(d.next.getD i []).getD c 0∧(d.next.getD i []).getD c 0<d.next.length
section
variable {α:Type} [DecidableEq α] {nx nx':α→Nat→α} {a:α}
theorem Zg9 {x:α} {wd:List Nat} {s:Bs α} (h:∀ c,c<3→nx x c=nx' x c):∀ n,n≤3→brow nx x wd s n=brow nx' x wd s n
 | 0,_=>rfl
 | n+1,hn=>by show bvisit nx x wd (brow nx x wd s n) n=bvisit nx' x wd (brow nx' x wd s n) n;rw[Zg9 h n (by omega)];unfold bvisit;rw[h n (by omega)]
theorem Zgq {Q:α→Prop} (h0:Q a) (hv:∀ x c,c<3→Q x→Q (nx x c)) (he:∀ x c,c<3→Q x→nx x c=nx' x c):∀ k,bat nx a k=bat nx' a k
 | 0=>rfl
 | k+1=>by
  have ih:=Zgq h0 hv he k;by_cases h:k<(bat nx a k).met.length
  ·rw[ZaK h,ZaK (by rw[← ih];exact h)];unfold bpart;rw[← ih];exact Zg9 (fun c hc=>he _ c hc (ZbN h0 hv k _ (memD h))) 3 (by omega)
  rw[Zbq (by omega),Zbq (by rw[← ih];omega),ih]
theorem ZdA {K:Nat} (hK:(bat nx a K).met.length≤K) {x:α} (hx:x∈(bat nx a K).met) {c:Nat} (hc:c<3):nx x c∈(bat nx a K).met:=by
 obtain⟨k,hk,rfl⟩:=List.mem_iff_getElem.1 hx
 have hkk:k<(bat nx a k).met.length:=by
  by_cases h:k<(bat nx a k).met.length
  ·exact h
  have:=Zbr (nx:=nx) (a:=a) (k:=k) (m:=K) (by omega) (by omega);rw[this] at hk;omega
 have e:(bat nx a K).met[k]=(bat nx a k).met.getD k a:=by rw[← ZaB (ZeY (nx:=nx) (a:=a) (show k≤K by omega)).1 hkk a,Za4 hk]
 rw[e];exact(ZaE (nx:=nx) (a:=a) hkk (Nat.le_refl 3) (show k<K by omega)).1.subset (Zi7 hc)
theorem ZkN:∀ k:Nat,∀ wd∈(bat nx a k).words,wd.length≤k
 | 0,wd,h=>by simp[bat] at h;simp[h]
 | k+1,wd,h=>by
  have ih:=ZkN k;by_cases hk:k<(bat nx a k).met.length
  ·rw[ZaK hk] at h;have hg:=(Zbd (nx:=nx) (a:=a) k).2.1;refine Zfq (fun t=>∀ wd∈t.words,wd.length≤k+1) (fun wd h=>Nat.le_succ_of_le (ih wd h)) (fun t c _ ht => ?_) 3 (Nat.le_refl 3) wd h;unfold bvisit
   split
   ·exact ht
   intro v hv;simp only[List.mem_append,List.mem_singleton] at hv;rcases hv with hv|rfl
   ·exact ht v hv
   have:=ih _ (memD (d:=[]) (show k<(bat nx a k).words.length by omega));simpa using this
  rw[Zbq (by omega)] at h;exact Nat.le_succ_of_le (ih wd h)
theorem Zh7 (K:Nat):a∈(bat nx a K).met:=by
 have h:=memD (d:=a) (Zdq (nx:=nx) (a:=a) K)
 rwa [Zgp] at h
def Zae (nx:α→Nat→α) (F:List α) (x:α):List Int:=(List.range 3).map fun c=>(Zai F (nx x c):Int)
def Zat (nx:α→Nat→α) (en:α→Bool) (F:List α):DfaD:=⟨F.map (Zae nx F),F.map en⟩
theorem ZaO (nx:α→Nat→α) (en:α→Bool) (F:List α):(Zat nx en F).next.length=F.length:=by simp[Zat]
theorem ZeB {en:α→Bool} {F:List α} {i:Nat} (hi:i<F.length):(Zat nx en F).next.getD i []=Zae nx F (F.getD i a):=by simp[Zat,List.getElem?_eq_getElem hi]
theorem ZfL {F:List α} {x:α} {c:Nat} (hc:c<3):(Zae nx F x).getD c 0=(Zai F (nx x c):Int):=by simp[Zae,hc]
theorem ZjP {en:α→Bool} {F:List α} {s:Int} {c:Nat} (h0:0≤s) (h1:s<F.length) (hc:c<3):dnx (Zat nx en F) s c=ZbB nx a F s c:=by unfold dnx ZbB;rw[ZeB (a:=a) (by omega),ZfL hc]
theorem ZjQ {en:α→Bool} {F:List α} {i:Nat} (hi:i<F.length):den (Zat nx en F) (i:Int)=en F[i]:=by simp[den,Zat,hi]
theorem Zfl {en:α→Bool} {K:Nat} (hK:(bat nx a K).met.length≤K) (hK2:K≤100000):fine (Zat nx en (bat nx a K).met):=by
 refine⟨?_,?_,?_,fun i hi => ?_⟩
 ·rw[ZaO];exact Zdq K
 ·rw[ZaO];omega
 ·simp[Zat]
 rw[ZaO] at hi;rw[ZeB (a:=a) hi];refine⟨by simp[Zae],fun c hc => ?_⟩;rw[ZfL hc,ZaO];exact⟨by omega,by exact_mod_cast ZaN (ZdA hK (memD hi) hc)⟩
end
def BoolSS (B:Nat) (w:World) (v:Value) (xss:List (List Bool)):Prop :=
 ∃ vs:List Value,Sl B w v xss.length 1 vs∧∀ i,i<xss.length→Bools B w (vs.getD i undef) (xss.getD i [])
theorem BoolSS.below {B:Nat} {w w':World} {v:Value} {xss:List (List Bool)} (h:BoolSS B w v xss) (he:Below w.heap.size w w'):BoolSS B w' v xss:=by obtain⟨vs,h1,h2⟩:=h;exact⟨vs,h1.below he,fun i hi=>(h2 i hi).below he⟩
theorem BoolSS.form {B:Nat} {w:World} {v:Value} {xss:List (List Bool)} (h:BoolSS B w v xss):∃ a cap,v = .slice a xss.length cap∧xss.length≤cap∧cap≤9223372036854775807 ∧
  (0<xss.length→∃ b off,a=some ⟨b,off,none⟩∧b<w.heap.size∧∀ i,i<xss.length→∃ a' cap',w.cell? ⟨b,off+i,none⟩=some (.slice a' (xss.getD i []).length cap')∧Bools B w (.slice a' (xss.getD i []).length cap') (xss.getD i [])):=by
 obtain⟨vs,⟨hl,a,cap,hv,h1,h2,h3⟩,hr⟩:=h;refine⟨a,cap,hv,h1,h2,fun hn => ?_⟩;obtain⟨b,off,ha,hb,hlt,hc⟩:=h3 hn;refine⟨b,off,ha,hlt,fun i hi => ?_⟩;obtain⟨a',cap',hv',-⟩:=(hr i hi).form;refine⟨a',cap',?_,?_⟩
 ·rw[hc i (by omega),← hv'];simp at hl;simp[show i<vs.length by omega]
 rw[← hv'];exact hr i hi
theorem St.boolSS {w0 w:World} {L:List Ent} (h:St w0 w L) (i:Nat) {es e:Nat} {v:Value} {vs:List Value} {xss:List (List Bool)} (hx:L[i]? = some (Ent.rows es e v vs (xss.map boolCells))):BoolSS 0 w v xss:=by
 obtain⟨p1,p2,-⟩:=h.rows i hx;rw[List.length_map] at p1 p2;refine⟨vs,((Zaa p1).sl (by omega)).mono (Nat.zero_le _),fun i hi => ?_⟩;have:=p2 i hi;have e1:(xss.map boolCells).getD i []=boolCells (xss.getD i []):=by simp[hi]
 rw[e1] at this;have:=((Zaa this).sl (by omega)).mono (Nat.zero_le _);simpa [Bools] using this
theorem St.bools {w0 w:World} {L:List Ent} (h:St w0 w L) (i:Nat) {e:Nat} {v:Value} {xs:List Bool} {n:Nat} (hx:L[i]? = some (Ent.row e 1 v n (boolCells xs))):Bools 0 w v xs:=by
 have hr:=h.row i hx;have e1:n=xs.length:=by have:=hr.1;simp at this;omega
 subst e1;exact((Zaa hr).sl (by omega)).mono (Nat.zero_le _)
theorem St.intsR {w0 w:World} {L:List Ent} (h:St w0 w L) (i:Nat) {e:Nat} {v:Value} {xs:List Int} {n:Nat} (hx:L[i]? = some (Ent.row e 1 v n (intCells xs))):Ints 0 w v xs:=by
 have hr:=h.row i hx;have e1:n=xs.length:=by have:=hr.1;simp at this;omega
 subst e1;exact((Zaa hr).sl (by omega)).mono (Nat.zero_le _)
theorem Zi9 {w:World} {B e n:Nat} {v:Value} {xs:List Bool} (hr:w.ownsRow B e 1 v n (boolCells xs)):Bools 0 w v xs:=by
 have e1:n=xs.length:=by have:=hr.1;simp at this;omega
 subst e1;exact((Zaa hr).sl (by omega)).mono (Nat.zero_le _)
theorem ZaR {w:World} {B e n:Nat} {v:Value} {xs:List Bool} (hr:w.ownsRow B e 1 v n (boolCells xs)):Bools B w v xs:=by
 have e1:n=xs.length:=by have:=hr.1;simp at this;omega
 subst e1;exact(Zaa hr).sl (by omega)
theorem St.rowAt {w0 w:World} {L:List Ent} (h:St w0 w L) (i:Nat) {es e g n cap:Nat} {vs:List Value} {css:List (List Value)} (hx:L[i]? = some (Ent.rows es e (.slice (some ⟨g,0,none⟩) n cap) vs css)) (hn:css.length=n) {k:Nat} (hk:k<n) :
  ∃ a c,w.cell? ⟨g,k,none⟩=some (.slice a (css.getD k []).length c)∧w.ownsRow w0.heap.size e 1 (.slice a (css.getD k []).length c) (css.getD k []).length (css.getD k [])∧(css.getD k []).length≤c∧c≤9223372036854775807∧n≤cap∧cap≤9223372036854775807∧g<w.heap.size:=by
 obtain⟨p1,p2,-⟩:=h.rows i hx;subst hn;have hv:vs.length=css.length:=by have:=p1.1;omega
 have h2:=p2 k hk;have hc:=p1.cellAt k (by omega);have hgl:=(p1.lt g rfl).2
 obtain⟨a,c,hva,h3,h4⟩:∃ a c,vs.getD k undef = .slice a (css.getD k []).length c∧(css.getD k []).length≤c∧c≤9223372036854775807:=by
  rcases h2.2 with⟨h5,h6⟩|⟨g',cap',cur,h5,-,-,h6,h7,-⟩
  ·exact⟨none,0,by rw[h5,h6],by omega,by omega⟩
  exact⟨_,_,h5,h6,h7⟩
 rw[hva] at h2;refine⟨a,c,?_,h2,h3,h4,?_⟩
 ·rw[hc,← hva];simp[show k<vs.length by omega]
 rcases p1.2 with⟨h5,-⟩|⟨g',cap',cur,h5,-,-,h6,h7,-⟩
 ·cases h5
 simp only[Value.slice.injEq,true_and] at h5;obtain⟨-,rfl⟩:=h5;exact⟨h6,h7,hgl⟩
theorem Zlb (xs ys:List Bool) (n:Nat) (v1 v2:Value) (w:World) (hx:xs.length=n) (hy:ys.length=n) (h1:Bools 0 w v1 xs) (h2:Bools 0 w v2 ys) (r:Bool) (hr:decide (xs=ys)=r) :
  Calls Tryz.prog 166 #[v1,v2] w fun e w'=>e = .returned (.bool r)∧Below w.heap.size w w':=by
 obtain⟨a1,c1,rfl,hc1,hm1,hr1⟩:=h1.form;obtain⟨a2,c2,rfl,hc2,hm2,hr2⟩:=h2.form;rw[hx] at hc1 hr1;rw[hy] at hc2 hr2;rw[hx,hy];replace hx:=qh hx;have Hhy:=qh hy;clear hy;replace hr:=qh hr;clear h1 h2
 go_enter Tryz.func166, Tryz.ntmps166
 go_wp2
 go_loopw [4,5] (fun r i wr=>∃ k:Nat,k≤n∧i = .int .i64 k∧xs.take k=ys.take k∧Below w.heap.size w wr) (fun _ i _=>n-(intOf i).toNat)
 case atStart=>exact⟨0,Nat.zero_le _,rfl,rfl,Below.refl _ _⟩
 case round =>
  obtain⟨k,hk,rfl,htk,hb⟩:=hrel;have Hhtk:=qh htk;clear htk;by_cases hlt:k<n
  ·obtain⟨b1,o1,rfl,-,hbl1,hcs1⟩:=hr1 (by omega);obtain⟨b2,o2,rfl,-,hbl2,hcs2⟩:=hr2 (by omega);have k1:=(bcell hb b1 (o1+k) hbl1).trans (hcs1 k hlt);have k2:=(bcell hb b2 (o2+k) hbl2).trans (hcs2 k hlt);obtain⟨p,hp⟩:=eI (xs.getD k false);obtain⟨q,hq⟩:=eI (ys.getD k false);rw[← hp] at k1;rw[← hq] at k2;replace hp:=qh hp;have Hhq:=qh hq;clear hq;replace hb:=qh hb;clear hcs1 hcs2 hr1 hr2;by_cases hpq:p=q
   ·have g1:(p != q)=false:=by simpa using hpq
    have g2:(!(p==q))=false:=by simpa using hpq
    have Hhpq:=qh hpq;clear hpq;go_wp2
    go_quiet (fail)
    go_wp2;go_roundw
    case rel=>exact⟨k+1,by omega,by go_num,ZeO (d:=false) (by rw[hx.out];exact hlt) (by rw[Hhy.out];exact hlt) Hhtk.out (by rw[← hp.out,← Hhq.out];exact Hhpq.out),below_drewN hb.out _⟩
    case measure=>simp[intOf];omega
   have g1:(p != q)=true:=by simpa using hpq
   have g2:(!(p==q))=true:=by simpa using hpq
   have Hhpq:=qh hpq;clear hpq;go_wp2
   go_quiet (fail)
   go_wp2;go_ret;exact⟨by rw[← hr.out,decide_eq_false (ZgV (k:=k) (d:=false) (by rw[← hp.out,← Hhq.out];exact Hhpq.out))];rfl,below_drewN hb.out _⟩
  obtain rfl:k=n:=by omega
  replace hb:=qh hb;clear hr1 hr2;go_wp2;go_ret;refine⟨?_,hb.out⟩;have h:=Hhtk.out;rw[List.take_of_length_le (by rw[hx.out];exact Nat.le_refl _),List.take_of_length_le (by rw[Hhy.out];exact Nat.le_refl _)] at h;rw[← hr.out,decide_eq_true h];rfl
def ZhU (S:List (List Bool)) (x:List Bool):Int:=if x∈S then(Zai S x:Int) else -1
theorem Zkv {S:List (List Bool)} {x:List Bool} {k:Nat} (hk:k<S.length) (hn:x ∉ S.take k) (h:S.getD k []=x):ZhU S x=(k:Int):=by
 have hm:x∈S:=by rw[← h];exact memD hk
 have hp:S.take k++[x] <+: S:=by rw[← h,show S.getD k []=S[k] from by simp[hk],← List.take_succ_eq_append_getElem hk];exact List.take_prefix _ _
 have hi:=Zfk hp hn;unfold ZhU;rw[if_pos hm,hi];simp;omega
theorem Zg4 {S:List (List Bool)} {x:List Bool} (h:x ∉ S):ZhU S x = -1:=by unfold ZhU;rw[if_neg h]
theorem Zhh {α:Type} {S:List α} {k:Nat} (hk:k<S.length) (x:α) {d:α} (h:x∈S.take (k+1)):x∈S.take k∨x=S.getD k d:=by
 rw[List.take_succ_eq_append_getElem hk,List.mem_append,List.mem_singleton] at h;rcases h with h|h
 ·exact Or.inl h
 right;rw[h];simp[hk]
theorem Zlc (S:List (List Bool)) (x:List Bool) (n:Nat) (v1 v2:Value) (w:World) (hS:∀ y∈S,y.length=n) (hx:x.length=n) (hl:S.length≤1000000) (h1:BoolSS 0 w v1 S) (h2:Bools 0 w v2 x) :
  Calls Tryz.prog 165 #[v1,v2] w fun e w'=>e = .returned (.int .i64 (ZhU S x))∧Below w.heap.size w w':=by
 obtain⟨a1,c1,rfl,hc1,hm1,hr1⟩:=h1.form;have H2:=qh h2;obtain⟨a2,c2,rfl,hc2,hm2,-⟩:=h2.form;replace hS:=qh hS;have Hhx:=qh hx;clear hx;clear h1 h2
 go_enter Tryz.func165, Tryz.ntmps165
 go_wp2
 go_loopw [4,5] (fun r i wr=>∃ k:Nat,k≤S.length∧i = .int .i64 k∧x ∉ S.take k∧Below w.heap.size w wr) (fun _ i _=>S.length-(intOf i).toNat)
 case atStart=>exact⟨0,Nat.zero_le _,rfl,by simp,Below.refl _ _⟩
 case round =>
  obtain⟨k,hk,rfl,htk,hb⟩:=hrel;have Hhtk:=qh htk;clear htk;by_cases hlt:k<S.length
  ·obtain⟨b1,o1,rfl,hbl1,hcs1⟩:=hr1 (by omega);obtain⟨a3,c3,k1,hrow⟩:=hcs1 k hlt;replace k1:=(bcell hb b1 (o1+k) hbl1).trans k1;have hrow':=hrow.below hb;have hyl:=hS.out _ (memD (d:=[]) hlt);have hin:=fun h=>Zhh (d:=[]) hlt x h
   obtain⟨y,hy⟩:=eI (S.getD k []);rw[← hy] at k1 hrow' hyl hin;have Hhrow':=qh hrow';clear hrow';have Hhyl:=qh hyl;clear hyl;have Hhin:=qh hin;clear hin;have Hhy:=qh hy;clear hy;have Hhb:=qh hb;clear hb;clear hcs1 hr1 hrow;cases hd:decide (y=x)
   all_goals
    have Hhd:=qh hd;clear hd;go_wp2_with fail;refine(Zlb y x n _ _ _ Hhyl.out Hhx.out Hhrow'.out (H2.out.below Hhb.out) _ Hhd.out).mono ?_;rintro e w2 ⟨rfl,hb2⟩;have hb3:=Hhb.out.trans (hb2.mono Hhb.out.size);have Hhb3:=qh hb3;clear hb3;clear hb2;go_wp2
   ·go_roundw
    case rel=>exact⟨k+1,by omega,by go_num,fun h=>by rcases Hhin.out h with h|h;exact Hhtk.out h;exact of_decide_eq_false Hhd.out h.symm,Hhb3.out⟩
    case measure=>simp[intOf];omega
   go_ret;exact⟨Zet (by rw[Zkv hlt Hhtk.out (by rw[← Hhy.out];exact of_decide_eq_true Hhd.out)]),Hhb3.out⟩
  obtain rfl:k=S.length:=by omega
  have Hhb:=qh hb;clear hb;clear hr1;go_wp2;go_ret;refine⟨Zet (by rw[Zg4];have h:=Hhtk.out;rwa [List.take_length] at h),Hhb.out⟩
def okAt (l:List Int) (n:Int) (j:Nat):Bool:=inB (l.getD j 0) 0 (n-1)&&(decide (j=0)||decide (l.getD (j-1) 0<l.getD j 0))
def stOk (l:List Int) (n:Int):Bool:=(List.range l.length).all (okAt l n)
def mvOk (n:Int) (m:Int × Int × Int):Bool:=inB m.1 0 (n-1)&&inB m.2.2 0 (n-1)&&inB m.2.1 (-1) 2
def Zhy (n:NfaD):Bool:=inB n.states 0 40&&decide (n.moves.length≤400)&&stOk n.firsts n.states&&stOk n.ends n.states&&n.moves.all (mvOk n.states)
theorem Zk1 {p:Nat→Bool} {k:Nat} (h:(List.range k).all p=true) (hp:p k=true):(List.range (k+1)).all p=true:=by rw[List.range_succ,List.all_append,h];simp[hp]
end Go.Proofs.YtehmjmjedopkkaaGreat
namespace Go.Proofs.YtehmjmjedopkkaaGreat
open Go.RowKit
end Go.Proofs.YtehmjmjedopkkaaGreat
namespace Go.Proofs.YtehmjmjedopkkaaGreat
open Go.RowKit
def adj (v s:Nat):Nat:=v ||| 2 ^ s
theorem Zb2 (v s t:Nat):(adj v s).testBit t=(v.testBit t||decide (s=t)):=by unfold adj;rw[Nat.testBit_or,Nat.testBit_two_pow]
theorem Znx {v s n:Nat} (hv:v<2 ^ n) (hs:s<n):adj v s<2 ^ n:=Nat.or_lt_two_pow hv (Nat.pow_lt_pow_right (by omega) hs)
def flags (n v:Nat):List Bool:=(List.range n).map v.testBit
theorem Zge (n v:Nat):(flags n v).length=n:=by simp[flags]
theorem ZeF {n v s:Nat} (h:s<n):(flags n v).getD s false=v.testBit s:=by simp[flags,h]
theorem ZmZ {n v s:Nat}:flags n (adj v s)=(flags n v).set s true:=by
 apply List.ext_getElem
 ·simp[flags]
 intro i h1 h2;simp only[flags,List.getElem_map,List.getElem_range];rw[List.getElem_set,Zb2];by_cases h:s=i<;>simp[h]
theorem Zlp (n:Nat):flags n 0=List.replicate n false:=by
 apply List.ext_getElem
 ·simp[flags]
 intro i h1 h2;simp[flags]
theorem ZmY {n u v:Nat} (hu:u<2 ^ n) (hv:v<2 ^ n) (h:flags n u=flags n v):u=v:=by
 apply Nat.eq_of_testBit_eq;intro i;by_cases hi:i<n
 ·rw[← ZeF (v:=u) hi,h,ZeF hi]
 rw[Nat.testBit_lt_two_pow (Nat.lt_of_lt_of_le hu (Nat.pow_le_pow_right (by omega) (by omega))),Nat.testBit_lt_two_pow (Nat.lt_of_lt_of_le hv (Nat.pow_le_pow_right (by omega) (by omega)))]
def setV (l:List Int):Nat:=l.foldl (fun v s=>adj v s.toNat) 0
theorem ZbL {α β:Type} (f:β→α→β) (b:β) {l:List α} {k:Nat} (hk:k<l.length) (d:α):(l.take (k+1)).foldl f b=f ((l.take k).foldl f b) (l.getD k d):=by rw[List.take_succ_eq_append_getElem hk,List.foldl_append];simp[hk]
theorem ZbD {α β:Type} (f:β→α→β) (Q:β→Prop) {l:List α} (hf:∀ b,∀ x∈l,Q b→Q (f b x)):∀ {b:β},Q b→Q (l.foldl f b):=by
 induction l with
 | nil=>intro b h;exact h
 | cons x l ih=>intro b h;exact ih (fun b y hy=>hf b y (by simp[hy])) (hf b x (by simp) h)
theorem Zcx {α β:Type} (f:β→α→β) (Q:β→Prop) {l:List α} (hf:∀ b,∀ x∈l,Q b→Q (f b x)) {b:β} (h:Q b) (k:Nat):Q ((l.take k).foldl f b) :=
 ZbD f Q (fun b x hx=>hf b x (List.mem_of_mem_take hx)) h
def inN (n:Nat) (l:List Int):Prop:=∀ s∈l,0≤s∧s<(n:Int)
theorem ZcU {n:Nat} {l:List Int} (h:inN n l):setV l<2 ^ n :=
 ZbD _ (fun v=>v<2 ^ n) (fun v s hs hv=>Znx hv (by have:=h s hs;omega)) (Nat.two_pow_pos n)
def mvIn (n:Nat) (ms:List (Int × Int × Int)):Prop:=∀ m∈ms,(0≤m.1∧m.1<(n:Int))∧(0≤m.2.2∧m.2.2<(n:Int))
def Zaq (v:Nat) (m:Int × Int × Int):Nat:=if (decide (m.2.1 = -1)&&v.testBit m.1.toNat && !v.testBit m.2.2.toNat)=true then adj v m.2.2.toNat else v
def Zi2 (ms:List (Int × Int × Int)) (v:Nat):Nat:=ms.foldl Zaq v
def clIt (ms:List (Int × Int × Int)) (v:Nat):Nat→Nat
 | 0=>v
 | k+1=>Zi2 ms (clIt ms v k)
def clV (n:Nat) (ms:List (Int × Int × Int)) (v:Nat):Nat:=clIt ms v n
def ZaL (v:Nat) (c:Int) (u:Nat) (m:Int × Int × Int):Nat:=if (decide (m.2.1=c)&&v.testBit m.1.toNat)=true then adj u m.2.2.toNat else u
def stV (n:Nat) (ms:List (Int × Int × Int)) (v:Nat) (c:Int):Nat:=clV n ms (ms.foldl (ZaL v c) 0)
theorem Zgl {n:Nat} {ms:List (Int × Int × Int)} (h:mvIn n ms) {m:Int × Int × Int} (hm:m∈ms) {v:Nat} (hv:v<2 ^ n):Zaq v m<2 ^ n:=by
 unfold Zaq
 split
 ·exact Znx hv (by have:=(h m hm).2;omega)
 exact hv
theorem Znk {n:Nat} {ms:List (Int × Int × Int)} (h:mvIn n ms) {v:Nat} (hv:v<2 ^ n):Zi2 ms v<2 ^ n:=ZbD _ (fun v=>v<2 ^ n) (fun _ _ hm hv=>Zgl h hm hv) hv
theorem Zc5 {n:Nat} {ms:List (Int × Int × Int)} (h:mvIn n ms) {v:Nat} (hv:v<2 ^ n):∀ k,clIt ms v k<2 ^ n
 | 0=>hv
 | k+1=>Znk h (Zc5 h hv k)
theorem Zch {n:Nat} {ms:List (Int × Int × Int)} (h:mvIn n ms) {m:Int × Int × Int} (hm:m∈ms) {v u:Nat} {c:Int} (hu:u<2 ^ n):ZaL v c u m<2 ^ n:=by
 unfold ZaL
 split
 ·exact Znx hu (by have:=(h m hm).2;omega)
 exact hu
theorem ZlV {n:Nat} {ms:List (Int × Int × Int)} (h:mvIn n ms) (v:Nat) (c:Int):stV n ms v c<2 ^ n :=
 Zc5 h (ZbD _ (fun v=>v<2 ^ n) (fun _ _ hm hv=>Zch h hm hv) (Nat.two_pow_pos n)) n
def clr (n v:Nat):Nat:=((List.range n).filter fun i => !v.testBit i).length
theorem ZiX {α:Type} {p q:α→Bool}:∀ {l:List α},(∀ x∈l,p x=true→q x=true)→(l.filter p).length≤(l.filter q).length
 | [],_=>by simp
 | x::l,h=>by
  have ih:=ZiX (l:=l) fun y hy=>h y (by simp[hy])
  have hx:=h x (by simp);simp only[List.filter_cons];by_cases hp:p x=true
  ·rw[if_pos hp,if_pos (hx hp)];simp;omega
  rw[if_neg hp]
  split<;>simp<;>omega
theorem Zdk {α:Type} {p q:α→Bool} {a:α} (hp:p a=false) (hq:q a=true):∀ {l:List α},a∈l→(∀ x∈l,p x=true→q x=true)→(l.filter p).length<(l.filter q).length
 | [],h,_=>by simp at h
 | x::l,ha,h=>by
  have hle:=ZiX (l:=l) fun y hy=>h y (by simp[hy])
  simp only[List.filter_cons];by_cases hx:a=x
  ·subst hx;rw[if_neg (by simp[hp]),if_pos hq];simp;omega
  have ih:=Zdk hp hq (l:=l) (by simpa [hx] using ha) fun y hy=>h y (by simp[hy])
  have hxx:=h x (by simp);by_cases hpx:p x=true
  ·rw[if_pos hpx,if_pos (hxx hpx)];simp;omega
  rw[if_neg hpx]
  split<;>simp<;>omega
theorem Zng (n v:Nat):clr n v≤n:=by have:=List.length_filter_le (fun i => !v.testBit i) (List.range n);simpa [clr] using this
theorem Zpf {n v s:Nat} (hs:s<n) (h:v.testBit s=false):clr n (adj v s)<clr n v:=by
 unfold clr;refine Zdk (a:=s) (by simp[Zb2]) (by simp[h]) (by simpa using hs) fun x _ hx => ?_
 rw[Zb2] at hx;simp at hx ⊢;exact hx.1
theorem ZeI {n:Nat} {m:Int × Int × Int} (hm:0≤m.2.2∧m.2.2<(n:Int)) (v:Nat):Zaq v m=v∨clr n (Zaq v m)<clr n v:=by
 unfold Zaq
 split
 ·rename_i h;simp only[Bool.and_eq_true,Bool.not_eq_true'] at h;exact .inr (Zpf (by omega) h.2)
 exact .inl rfl
theorem ZcM {n:Nat}:∀ {ms:List (Int × Int × Int)},(∀ m∈ms,0≤m.2.2∧m.2.2<(n:Int))→∀ v,ms.foldl Zaq v=v∨clr n (ms.foldl Zaq v)<clr n v
 | [],_,v => .inl rfl
 | m::ms,h,v=>by
  have h1:=ZeI (h m (by simp)) v;have h2:=ZcM (ms:=ms) (fun m hm=>h m (by simp[hm])) (Zaq v m);simp only[List.foldl_cons];rcases h1 with h1|h1
  ·rw[h1] at h2 ⊢;exact h2
  rcases h2 with h2|h2
  ·rw[h2];exact .inr h1
  exact .inr (Nat.lt_trans h2 h1)
theorem Zeh {ms:List (Int × Int × Int)} {v j:Nat} (h:clIt ms v (j+1)=clIt ms v j):∀ k,j≤k→clIt ms v k=clIt ms v j
 | 0,hk=>by obtain rfl:j=0:=by omega
            rfl
 | k+1,hk=>by
  by_cases e:j=k+1
  ·subst e;rfl
  have ih:=Zeh h k (by omega);show Zi2 ms (clIt ms v k)=_;rw[ih];exact h
theorem Zei {n:Nat} {ms:List (Int × Int × Int)} (h:mvIn n ms) (v:Nat):∀ k,clIt ms v (k+1)=clIt ms v k∨clr n (clIt ms v (k+1))+(k+1)≤clr n v
 | 0=>by
  rcases ZcM (n:=n) (ms:=ms) (fun m hm=>(h m hm).2) v with e|e
  ·exact .inl e
  exact .inr (by show clr n (Zi2 ms v)+1≤_;exact e)
 | k+1=>by
  rcases Zei h v k with e|e
  ·left;have:=Zeh e (k+1+1) (by omega);rw[this,e]
  rcases ZcM (n:=n) (ms:=ms) (fun m hm=>(h m hm).2) (clIt ms v (k+1)) with e2|e2
  ·exact .inl e2
  right;have:clr n (clIt ms v (k+1+1))<clr n (clIt ms v (k+1)):=e2;omega
theorem ZoJ {n:Nat} {ms:List (Int × Int × Int)} (h:mvIn n ms) {v j:Nat} (hj:clIt ms v (j+1)=clIt ms v j):clV n ms v=clIt ms v j:=by
 unfold clV;by_cases hjn:j≤n
 ·exact Zeh hj n hjn
 rcases Zei h v n with e|e
 ·exact(Zeh e j (by omega)).symm
 have:=Zng n v;omega
theorem ZeJ {n:Nat} {ms:List (Int × Int × Int)} (h:mvIn n ms) {v k:Nat} (hk:clIt ms v (k+1)≠clIt ms v k):k<n:=by
 rcases Zei h v k with e|e
 ·exact absurd e hk
 have:=Zng n v;omega
theorem Zi3 {n:Nat} {ms:List (Int × Int × Int)} (h:mvIn n ms) {v:Nat} {k:Nat} (hk:k<ms.length) (hne:Zaq ((ms.take k).foldl Zaq v) (ms.getD k (0,0,0))≠(ms.take k).foldl Zaq v):(ms.take (k+1)).foldl Zaq v≠v:=by
 have h1:=ZcM (n:=n) (ms:=ms.take k) (fun m hm=>(h m (List.mem_of_mem_take hm)).2) v;have hmem:ms.getD k (0,0,0)∈ms:=by rw[List.getD_eq_getElem?_getD,List.getElem?_eq_getElem hk];simp
 have h2:=ZeI (n:=n) (h _ hmem).2 ((ms.take k).foldl Zaq v);rw[ZbL Zaq v hk (0,0,0)];intro e;rcases h2 with h2|h2
 ·exact hne h2
 rw[e] at h2;rcases h1 with h1|h1
 ·rw[h1] at h2;omega
 omega
theorem ZdH {n:Nat} {ms:List (Int × Int × Int)} (h:mvIn n ms) {v:Nat} {k:Nat} (hk:k<ms.length) (hne:(ms.take k).foldl Zaq v≠v):(ms.take (k+1)).foldl Zaq v≠v:=by
 have h1:=ZcM (n:=n) (ms:=ms.take k) (fun m hm=>(h m (List.mem_of_mem_take hm)).2) v;have hmem:ms.getD k (0,0,0)∈ms:=by rw[List.getD_eq_getElem?_getD,List.getElem?_eq_getElem hk];simp
 have h2:=ZeI (n:=n) (h _ hmem).2 ((ms.take k).foldl Zaq v);rw[ZbL Zaq v hk (0,0,0)];rcases h1 with h1|h1
 ·exact absurd h1 hne
 rcases h2 with h2|h2
 ·rw[h2];exact hne
 intro e;rw[e] at h2;omega
end Go.Proofs.YtehmjmjedopkkaaGreat
namespace Go.Proofs.YtehmjmjedopkkaaGreat
open Go.RowKit
theorem offL {x p q:Bool} (h:x=true→p=true∧q=true) (hp:p=false):x=false:=by
 cases x with
 | false=>rfl
 | true=>rw[hp] at h;exact absurd (h rfl).1 (by decide)
theorem offR {x p q:Bool} (h:x=true→p=true∧q=true) (hq:q=false):x=false:=by
 cases x with
 | false=>rfl
 | true=>rw[hq] at h;exact absurd (h rfl).2 (by decide)
section
variable {P:Program} {ops:Array Oper} {Q:Exit→Act→World→Prop} {md:Region.Mode}
def unl (n:Nat) (listed:Array Bool):Nat:=((List.range n).filter fun i => !listed.getD i true).length
theorem Zow (n:Nat) (listed:Array Bool):unl n listed≤n:=by unfold unl;have:=List.length_filter_le (fun i => !listed.getD i true) (List.range n);simpa using this
theorem ZlH {n i:Nat} {listed:Array Bool} (hi:i<n) (h:listed.getD i true=false):unl n (listed.setIfInBounds i true)<unl n listed:=by
 refine Zdk (a:=i) ?_ (by simp only[h];rfl) (List.mem_range.2 hi) fun x _ hx => ?_
 ·simp only[Bool.not_eq_false'];rcases Nat.lt_or_ge i listed.size with h1|h1
  ·simp[h1]
  simp[Array.getElem?_eq_none h1] at h
 by_cases hxi:i=x
 ·subst hxi;simp only[h];rfl
 simpa [hxi] using hx
theorem Zfs (Inv:Array Bool→Act→World→Prop) (hstep:∀ listed a w,Inv listed a w→∀ i∈Region.ready md ops listed,wpOp P ops Q i (Inv (listed.setIfInBounds i true)) a w)
  (hdone:∀ listed a w,Inv listed a w→Region.ready md ops listed=[]→Q .normal a w):∀ (fuel:Nat) (listed:Array Bool) (a:Act) (w:World),unl ops.size listed≤fuel→Inv listed a w→wpAny P md ops Q fuel listed a w
 | 0,listed,a,w,hf,h=>by
  have hr:Region.ready md ops listed=[]:=by
   refine List.eq_nil_iff_forall_not_mem.2 fun i hi => ?_
   obtain⟨hun,o,ho,-⟩:=mem_ready.1 hi;have:=ZlH (n:=ops.size) (Array.getElem?_eq_some_iff.1 ho).1 hun;omega
  exact⟨hr,hdone _ _ _ h hr⟩
 | fuel+1,listed,a,w,hf,h=>⟨fun h0=>hdone _ _ _ h h0,fun i hi=>wpOp_mono (fun a' w' h'=>Zfs Inv hstep hdone fuel _ a' w' (by obtain⟨hun,o,ho,-⟩:=mem_ready.1 hi;have:=ZlH (n:=ops.size) (Array.getElem?_eq_some_iff.1 ho).1 hun;omega) h') (hstep _ _ _ h i hi)⟩
theorem Zap (Inv:Act→Array Bool→Act→World→Prop) {a:Act} {w:World} (hstep:∀ listed b w,Inv a listed b w→∀ i∈Region.ready md ops listed,wpOp P ops Q i (Inv a (listed.setIfInBounds i true)) b w)
  (hdone:∀ listed b w,Inv a listed b w→Region.ready md ops listed=[]→Q .normal b w) (h0:Inv a (Array.replicate ops.size false) a w):wpAny P md ops Q ops.size (Array.replicate ops.size false) a w :=
 Zfs (Inv a) hstep hdone _ _ _ _ (Zow _ _) h0
def ZkC (ops:Array Oper):Bool:=(List.range ops.size).all fun i=>match ops[i]? with
 | some o=>o.after.all fun e=>decide (e.on<i)
 | none=>true
theorem ZaT {listed:Array Bool} (hd:ZkC ops=true) (hs:listed.size=ops.size) (hr:Region.ready md ops listed=[]):∀ i,i<ops.size→listed.getD i true=true:=by
 intro i
 induction i using Nat.strongRecOn with
 | ind i ih =>
  intro hi;cases h:listed.getD i true with
  | true=>rfl
  | false =>
   exfalso
   have hmem:i∈Region.ready md ops listed:=by
    refine mem_ready.2 ⟨h,ops[i],by simp[hi],fun e he _ => ?_⟩;simp only[ZkC,List.all_eq_true,List.mem_range] at hd;have h1:=hd i hi;simp only[Array.getElem?_eq_getElem hi] at h1;have h2:e.on<i:=by have:=(Array.all_eq_true_iff_forall_mem.1 h1) e he;simpa using this
    have h3:=ih e.on h2 (by omega);have h4:e.on<listed.size:=by omega
    simpa [h4] using h3
   rw[hr] at hmem;cases hmem
end
end Go.Proofs.YtehmjmjedopkkaaGreat
namespace Go.Proofs.YtehmjmjedopkkaaGreat
open Go.RowKit
section
variable {ops:Array Oper} {md:Region.Mode}
def Zi0 (md:Region.Mode) (ops:Array Oper):Bool:=(List.range ops.size).all fun i=>match ops[i]? with
 | some o=>o.after.all fun e => !Region.binds md e||decide (e.on<i)
 | none=>true
theorem ZaH {listed:Array Bool} (hd:Zi0 md ops=true) (hs:listed.size=ops.size) (hr:Region.ready md ops listed=[]):∀ i,i<ops.size→listed.getD i true=true:=by
 intro i
 induction i using Nat.strongRecOn with
 | ind i ih =>
  intro hi;cases h:listed.getD i true with
  | true=>rfl
  | false =>
   exfalso
   have hmem:i∈Region.ready md ops listed:=by
    refine mem_ready.2 ⟨h,ops[i],by simp[hi],fun e he hbd => ?_⟩;simp only[Zi0,List.all_eq_true,List.mem_range] at hd;have h1:=hd i hi;simp only[Array.getElem?_eq_getElem hi] at h1;have h2:e.on<i:=by have:=(Array.all_eq_true_iff_forall_mem.1 h1) e he;rw[hbd] at this;simpa using this
    have h3:=ih e.on h2 (by omega);have h4:e.on<listed.size:=by omega
    simpa [h4] using h3
   rw[hr] at hmem;cases hmem
end
end Go.Proofs.YtehmjmjedopkkaaGreat
