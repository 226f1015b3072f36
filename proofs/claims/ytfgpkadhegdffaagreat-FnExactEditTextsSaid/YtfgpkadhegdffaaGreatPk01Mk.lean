/-
  States met in breadth, letter by letter, with the words that lead to them: the plain meaning of the program's and of the reference's searches.
  No condition: this text speaks of no program.
  A map from things to their places in a list.
  No condition: this text speaks of no program.
  The first of the things met that ends, and its word: plain laws; the same for the numbered automaton.
  No condition: this text speaks of no program.
-/
import Derived.Test.YtfgpkadhegdffaaGreatPk00Grow
set_option maxHeartbeats 1600000
set_option maxRecDepth 100000
namespace Go.Proofs.YtfgpkadhegdffaaGreat
structure Bs (α:Type) where
 met:List α
 words:List (List Nat)
section
variable {α:Type} [DecidableEq α]
def bvisit (nx:α → Nat → α) (x:α) (wd:List Nat) (s:Bs α) (c:Nat):Bs α :=
 if nx x c ∈ s.met then s else ⟨s.met ++ [nx x c],s.words ++ [wd ++ [c]]⟩
def brow (nx:α → Nat → α) (x:α) (wd:List Nat) (s:Bs α):Nat → Bs α
 | 0 => s
 | n+1 => bvisit nx x wd (brow nx x wd s n) n
def bat (nx:α → Nat → α) (a:α):Nat → Bs α
 | 0 => ⟨[a],[[]]⟩
 | k+1 => if k < (bat nx a k).met.length then brow nx ((bat nx a k).met.getD k a) ((bat nx a k).words.getD k []) (bat nx a k) 3 else bat nx a k
def bpart (nx:α → Nat → α) (a:α) (k n:Nat):Bs α:=brow nx ((bat nx a k).met.getD k a) ((bat nx a k).words.getD k []) (bat nx a k) n
variable {nx:α → Nat → α} {a:α}
theorem bpart_zero (k:Nat):bpart nx a k 0 = bat nx a k:=rfl
theorem bat_succ {k:Nat} (h:k < (bat nx a k).met.length):bat nx a (k+1) = bpart nx a k 3:=by
 simp only [bat,if_pos h]
 rfl
theorem bat_stay {k:Nat} (h:(bat nx a k).met.length ≤ k):bat nx a (k+1) = bat nx a k:=by
 simp only [bat,if_neg (show ¬ k < (bat nx a k).met.length by omega)]
theorem bpart_succ (k n:Nat):bpart nx a k (n+1) = bvisit nx ((bat nx a k).met.getD k a) ((bat nx a k).words.getD k []) (bpart nx a k n) n:=rfl
theorem bpart_old {k n:Nat} (h:nx ((bat nx a k).met.getD k a) n ∈ (bpart nx a k n).met):bpart nx a k (n+1) = bpart nx a k n:=by
 rw [bpart_succ,bvisit,if_pos h]
theorem bpart_new {k n:Nat} (h:nx ((bat nx a k).met.getD k a) n ∉ (bpart nx a k n).met):bpart nx a k (n+1) = ⟨(bpart nx a k n).met ++ [nx ((bat nx a k).met.getD k a) n],(bpart nx a k n).words ++ [(bat nx a k).words.getD k [] ++ [n]]⟩:=by
 rw [bpart_succ,bvisit,if_neg h]
theorem brow_ind (Q:Bs α → Prop) {x:α} {wd:List Nat} {s:Bs α} (hs:Q s) (hv:∀ t c,c < 3 → Q t → Q (bvisit nx x wd t c)):∀ n,n ≤ 3 → Q (brow nx x wd s n)
 | 0,_ => hs
 | n+1,h => hv _ n (by omega) (brow_ind Q hs hv n (by omega))
theorem bat_ind (Q:Bs α → Prop) (h0:Q ⟨[a],[[]]⟩) (hv:∀ s k,k < s.met.length → ∀ t c,c < 3 → Q s → Q t → Q (bvisit nx (s.met.getD k a) (s.words.getD k []) t c)):∀ k,Q (bat nx a k)
 | 0 => h0
 | k+1 => by
  have ih:=bat_ind Q h0 hv k
  by_cases h:k < (bat nx a k).met.length
  ·rw [bat_succ h]
   exact brow_ind Q ih (fun t c hc ht => hv _ k h t c hc ih ht) 3 (by omega)
  ·rw [bat_stay (by omega)]
   exact ih
theorem bpart_ind (Q:Bs α → Prop) (h0:Q ⟨[a],[[]]⟩) (hv:∀ s k,k < s.met.length → ∀ t c,c < 3 → Q s → Q t → Q (bvisit nx (s.met.getD k a) (s.words.getD k []) t c)) {k n:Nat} (hk:k < (bat nx a k).met.length) (hn:n ≤ 3):Q (bpart nx a k n) :=
 brow_ind Q (bat_ind Q h0 hv k) (fun t c hc ht => hv _ k hk t c hc (bat_ind Q h0 hv k) ht) n hn
omit [DecidableEq α] in
theorem nodup_snoc {l:List α} {x:α} (h:l.Nodup) (hx:x ∉ l):(l ++ [x]).Nodup:=by
 rw [List.nodup_append]
 refine ⟨h,by simp,?_⟩
 intro b hb c hc
 simp only [List.mem_singleton] at hc
 subst hc
 intro e
 subst e
 exact hx hb
theorem bvisit_good (x:α) (wd:List Nat) {t:Bs α} (c:Nat) (h:t.met.Nodup ∧ t.words.length = t.met.length ∧ t.met.head? = some a) :
  (bvisit nx x wd t c).met.Nodup ∧ (bvisit nx x wd t c).words.length = (bvisit nx x wd t c).met.length ∧ (bvisit nx x wd t c).met.head? = some a:=by
 unfold bvisit
 split
 ·exact h
 ·rename_i hx
  obtain ⟨h1,h2,h3⟩:=h
  exact ⟨nodup_snoc h1 hx,by simp [h2],by simp [h3]⟩
theorem bat_good (k:Nat):(bat nx a k).met.Nodup ∧ (bat nx a k).words.length = (bat nx a k).met.length ∧ (bat nx a k).met.head? = some a :=
 bat_ind (fun s => s.met.Nodup ∧ s.words.length = s.met.length ∧ s.met.head? = some a) (by simp) (fun s k _ t c _ _ ht => bvisit_good _ _ _ ht) k
theorem bpart_good {k n:Nat} (hk:k < (bat nx a k).met.length) (hn:n ≤ 3):(bpart nx a k n).met.Nodup ∧ (bpart nx a k n).words.length = (bpart nx a k n).met.length ∧ (bpart nx a k n).met.head? = some a :=
 bpart_ind (fun s => s.met.Nodup ∧ s.words.length = s.met.length ∧ s.met.head? = some a) (by simp) (fun s k _ t c _ _ ht => bvisit_good _ _ _ ht) hk hn
theorem bat_pos (k:Nat):0 < (bat nx a k).met.length:=by
 have:=(bat_good (nx:=nx) (a:=a) k).2.2
 cases h:(bat nx a k).met with
 | nil => rw [h] at this;simp at this
 | cons => simp
theorem bat_first (k:Nat):(bat nx a k).met.getD 0 a = a:=by
 have:=(bat_good (nx:=nx) (a:=a) k).2.2
 cases h:(bat nx a k).met with
 | nil => rw [h] at this;simp at this
 | cons => rw [h] at this;simpa using this
theorem bat_all {Q:α → Prop} (h0:Q a) (hv:∀ x c,c < 3 → Q x → Q (nx x c)) (k:Nat):∀ x ∈ (bat nx a k).met,Q x:=by
 refine bat_ind (fun s => ∀ x ∈ s.met,Q x) (by simpa using h0) (fun s k hk t c hc hs ht => ?_) k
 unfold bvisit
 split
 ·exact ht
 ·intro x hx
  simp only [List.mem_append,List.mem_singleton] at hx
  rcases hx with hx | rfl
  ·exact ht x hx
  ·refine hv _ c hc (hs _ ?_)
   rw [List.getD_eq_getElem?_getD,List.getElem?_eq_getElem hk]
   simp
theorem bpart_all {Q:α → Prop} (h0:Q a) (hv:∀ x c,c < 3 → Q x → Q (nx x c)) {k n:Nat} (hk:k < (bat nx a k).met.length) (hn:n ≤ 3):∀ x ∈ (bpart nx a k n).met,Q x:=by
 refine bpart_ind (fun s => ∀ x ∈ s.met,Q x) (by simpa using h0) (fun s k hk t c hc hs ht => ?_) hk hn
 unfold bvisit
 split
 ·exact ht
 ·intro x hx
  simp only [List.mem_append,List.mem_singleton] at hx
  rcases hx with hx | rfl
  ·exact ht x hx
  ·refine hv _ c hc (hs _ ?_)
   rw [List.getD_eq_getElem?_getD,List.getElem?_eq_getElem hk]
   simp
def Bs.le (s t:Bs α):Prop:=s.met <+: t.met ∧ s.words <+: t.words
omit [DecidableEq α] in
theorem Bs.le_refl (s:Bs α):s.le s:=⟨List.prefix_rfl,List.prefix_rfl⟩
omit [DecidableEq α] in
theorem Bs.le_trans {s t u:Bs α} (h:s.le t) (k:t.le u):s.le u:=⟨h.1.trans k.1,h.2.trans k.2⟩
theorem bvisit_le (x:α) (wd:List Nat) (s:Bs α) (c:Nat):s.le (bvisit nx x wd s c):=by
 unfold bvisit
 split
 ·exact Bs.le_refl _
 ·exact ⟨List.prefix_append _ _,List.prefix_append _ _⟩
theorem brow_le (x:α) (wd:List Nat) (s:Bs α) (n m:Nat) (h:n ≤ m):(brow nx x wd s n).le (brow nx x wd s m):=by
 induction m with
 | zero => obtain rfl:n = 0:=by omega
           exact Bs.le_refl _
 | succ m ih =>
  by_cases hn:n = m+1
  ·subst hn;exact Bs.le_refl _
  ·exact Bs.le_trans (ih (by omega)) (bvisit_le _ _ _ _)
theorem bpart_le {k n m:Nat} (h:n ≤ m):(bpart nx a k n).le (bpart nx a k m):=brow_le _ _ _ n m h
theorem bat_le_succ (k:Nat):(bat nx a k).le (bat nx a (k+1)):=by
 by_cases h:k < (bat nx a k).met.length
 ·rw [bat_succ h]
  exact brow_le _ _ _ 0 3 (by omega)
 ·rw [bat_stay (by omega)]
  exact Bs.le_refl _
theorem bat_le {k m:Nat} (h:k ≤ m):(bat nx a k).le (bat nx a m):=by
 induction m with
 | zero => obtain rfl:k = 0:=by omega
           exact Bs.le_refl _
 | succ m ih =>
  by_cases hn:k = m+1
  ·subst hn;exact Bs.le_refl _
  ·exact Bs.le_trans (ih (by omega)) (bat_le_succ _)
theorem bpart_le_bat {k n m:Nat} (hk:k < (bat nx a k).met.length) (hn:n ≤ 3) (hm:k < m):(bpart nx a k n).le (bat nx a m):=by
 have h1:(bpart nx a k n).le (bat nx a (k+1)):=by rw [bat_succ hk];exact bpart_le hn
 exact Bs.le_trans h1 (bat_le hm)
theorem bat_done {k m:Nat} (h:(bat nx a k).met.length ≤ k) (hm:k ≤ m):bat nx a m = bat nx a k:=by
 induction m with
 | zero => obtain rfl:k = 0:=by omega
           rfl
 | succ m ih =>
  by_cases hn:k = m+1
  ·subst hn;rfl
  ·have e:=ih (by omega)
   rw [bat_stay (by rw [e];omega),e]
def placeOf (l:List α) (x:α):Nat:=l.idxOf x
theorem placeOf_lt {l:List α} {x:α} (h:x ∈ l):placeOf l x < l.length:=List.idxOf_lt_length_iff.2 h
omit [DecidableEq α] in
theorem prefix_getD {l m:List α} (h:l <+: m) {k:Nat} (hk:k < l.length) (d:α):m.getD k d = l.getD k d:=by
 obtain ⟨t,rfl⟩:=h
 simp [List.getElem?_append_left hk]
theorem prefix_idx {l m:List α} (h:l <+: m) {x:α} (hx:x ∈ l):placeOf m x = placeOf l x:=by
 obtain ⟨t,rfl⟩:=h
 unfold placeOf
 rw [List.idxOf_append,if_pos hx]
theorem idx_snoc {l m:List α} {x:α} (h:l ++ [x] <+: m) (hx:x ∉ l):placeOf m x = l.length:=by
 rw [prefix_idx h (by simp)]
 unfold placeOf
 rw [List.idxOf_append,if_neg hx]
 simp
theorem idx_getD {l:List α} {k:Nat} (hk:k < l.length) (hn:l.Nodup) (d:α):placeOf l (l.getD k d) = k:=by
 unfold placeOf
 rw [List.getD_eq_getElem?_getD,List.getElem?_eq_getElem hk]
 simp [hn]
theorem getD_idx {l:List α} {x:α} (hx:x ∈ l) (d:α):l.getD (placeOf l x) d = x:=by
 unfold placeOf
 rw [List.getD_eq_getElem?_getD,List.getElem?_eq_getElem (List.idxOf_lt_length_iff.2 hx)]
 simp
theorem bpart_mem {k n c:Nat} (hc:c < n):nx ((bat nx a k).met.getD k a) c ∈ (bpart nx a k n).met:=by
 have h1:nx ((bat nx a k).met.getD k a) c ∈ (bpart nx a k (c+1)).met:=by
  by_cases h:nx ((bat nx a k).met.getD k a) c ∈ (bpart nx a k c).met
  ·rw [bpart_old h];exact h
  ·rw [bpart_new h];simp
 exact (bpart_le (nx:=nx) (a:=a) (k:=k) (show c+1 ≤ n by omega)).1.subset h1
theorem nodup_le {l m:List α} (hn:l.Nodup) (hs:∀ x ∈ l,x ∈ m):l.length ≤ m.length:=by
 induction l generalizing m with
 | nil => simp
 | cons x l ih =>
  rw [List.nodup_cons] at hn
  have h1:=ih (m:=m.erase x) hn.2 fun y hy => (List.mem_erase_of_ne (fun e => hn.1 (by rw [← e];exact hy))).2 (hs y (by simp [hy]))
  have h2:=List.length_erase_of_mem (hs x (by simp))
  have h3:=List.length_pos_of_mem (hs x (by simp))
  simp only [List.length_cons]
  omega
end
def numNext {α:Type} [DecidableEq α] (nx:α → Nat → α) (a:α) (F:List α) (s:Int) (c:Nat):Int:=placeOf F (nx (F.getD s.toNat a) c)
def upInts (n:Nat):List Int:=(List.range n).map Int.ofNat
theorem upInts_succ (n:Nat):upInts (n+1) = upInts n ++ [(n:Int)]:=by simp [upInts,List.range_succ]
theorem mem_upInts {n:Nat} {x:Nat}:(x:Int) ∈ upInts n ↔ x < n:=by
 simp only [upInts,List.mem_map,List.mem_range]
 constructor
 ·rintro ⟨y,hy,e⟩
  have e2:(y:Int) = (x:Int):=e
  omega
 ·intro h
  exact ⟨x,h,rfl⟩
theorem upInts_getD {n k:Nat} (h:k < n):(upInts n).getD k 0 = (k:Int):=by simp [upInts,h]
theorem upInts_len (n:Nat):(upInts n).length = n:=by simp [upInts]
theorem num_sim {α:Type} [DecidableEq α] (nx:α → Nat → α) (a:α) (K:Nat):∀ k,k ≤ K →
  bat (numNext nx a (bat nx a K).met) 0 k = ⟨upInts (bat nx a k).met.length,(bat nx a k).words⟩
 | 0,_ => rfl
 | k+1,hK => by
  have ih:=num_sim nx a K k (by omega)
  have hlen:(bat (numNext nx a (bat nx a K).met) 0 k).met.length = (bat nx a k).met.length:=by rw [ih];exact upInts_len _
  by_cases h:k < (bat nx a k).met.length
  ·rw [bat_succ h,bat_succ (by rw [hlen];exact h)]
   have hrow:∀ n,n ≤ 3 → bpart (numNext nx a (bat nx a K).met) 0 k n = ⟨upInts (bpart nx a k n).met.length,(bpart nx a k n).words⟩:=by
    intro n
    induction n with
    | zero => intro _;rw [bpart_zero,bpart_zero];exact ih
    | succ n ihn =>
     intro hn
     have e:=ihn (by omega)
     have hx:(bat (numNext nx a (bat nx a K).met) 0 k).met.getD k 0 = (k:Int):=by rw [ih];exact upInts_getD h
     have hF:(bat nx a K).met.getD k a = (bat nx a k).met.getD k a:=prefix_getD (bat_le (show k ≤ K by omega)).1 h a
     have hnx:numNext nx a (bat nx a K).met (k:Int) n = (placeOf (bat nx a K).met (nx ((bat nx a k).met.getD k a) n):Int):=by
      unfold numNext
      rw [show ((k:Int).toNat) = k from rfl,hF]
     by_cases hm:nx ((bat nx a k).met.getD k a) n ∈ (bpart nx a k n).met
     ·rw [bpart_old hm]
      have hi:=prefix_idx (bpart_le_bat (m:=K) h (show n ≤ 3 by omega) (by omega)).1 hm
      have hlt:placeOf (bat nx a K).met (nx ((bat nx a k).met.getD k a) n) < (bpart nx a k n).met.length:=by rw [hi];exact placeOf_lt hm
      rw [bpart_old (by rw [hx,hnx,e];exact mem_upInts.2 hlt),e]
     ·have hb:=bpart_le_bat (nx:=nx) (a:=a) (m:=K) h hn (by omega)
      rw [bpart_new hm] at hb
      have hi:=idx_snoc hb.1 hm
      rw [bpart_new (by rw [hx,hnx,e,hi];simp [mem_upInts]),bpart_new hm,hx,hnx,hi,e,ih]
      simp [upInts_succ]
   exact hrow 3 (by omega)
  ·rw [bat_stay (k:=k) (a:=a) (by omega),bat_stay (by rw [hlen];omega)]
   exact ih
end Go.Proofs.YtfgpkadhegdffaaGreat
namespace Go.Proofs.YtfgpkadhegdffaaGreat
open Go.RowKit
section
variable {α:Type} [DecidableEq α]
def numbered (l:List α):List (α × Value):=l.zipIdx.map fun p => (p.1,Value.int .i64 (p.2:Int))
omit [DecidableEq α] in
theorem numbered_snoc (l:List α) (x:α):numbered (l ++ [x]) = numbered l ++ [(x,Value.int .i64 (l.length:Int))]:=by simp [numbered,List.zipIdx_append]
omit [DecidableEq α] in
theorem numbered_keys (l:List α):(numbered l).map (·.1) = l:=by
 simp only [numbered,List.map_map]
 have:((fun x:α × Value => x.1) ∘ fun p:α × Nat => (p.1,Value.int .i64 (p.2:Int))) = Prod.fst:=rfl
 rw [this,List.zipIdx_map_fst]
theorem look_numbered {l:List α} (hn:l.Nodup) {x:α} (hx:x ∈ l):look x (numbered l) = some (.int .i64 (placeOf l x:Int)):=by
 refine look_hit (by rw [numbered_keys];exact hn) (j:=placeOf l x) ?_
 have hlt:=List.idxOf_lt_length_iff.2 hx
 unfold placeOf
 simp only [numbered,List.getElem?_map,List.getElem?_zipIdx,List.getElem?_eq_getElem hlt,Option.map_some,Nat.zero_add,List.getElem_idxOf]
theorem look_unnumbered {l:List α} {x:α} (hx:x ∉ l):look x (numbered l) = none :=
 look_miss fun p hp e => hx (by rw [← numbered_keys l,← e];exact List.mem_map.2 ⟨p,hp,rfl⟩)
theorem upd_unnumbered {l:List α} {x:α} (hx:x ∉ l):upd x (.int .i64 (l.length:Int)) (numbered l) = numbered (l ++ [x]):=by
 rw [numbered_snoc]
 exact upd_miss fun p hp e => hx (by rw [← numbered_keys l,← e];exact List.mem_map.2 ⟨p,hp,rfl⟩)
end
end Go.Proofs.YtfgpkadhegdffaaGreat
namespace Go.Proofs.YtfgpkadhegdffaaGreat
open Go.RowKit
theorem memD {α:Type} {xs:List α} {k:Nat} {d:α} (h:k < xs.length):xs.getD k d ∈ xs:=by
 rw [List.getD_eq_getElem?_getD,List.getElem?_eq_getElem h]
 simp
theorem getD_at {α:Type} {xs:List α} {k:Nat} {d:α} (h:k < xs.length):xs.getD k d = xs[k]:=by simp [h]
def dnx (d:DfaD) (s:Int) (c:Nat):Int:=(d.next.getD s.toNat []).getD c 0
def den (d:DfaD) (s:Int):Bool:=d.ends.getD s.toNat false
def firstHit {α:Type} (en:α → Bool) (s:Bs α):Option (List Nat):=((s.met.zip s.words).find? fun p => en p.1).map (·.2)
def fine (d:DfaD):Prop:=1 ≤ d.next.length ∧ d.next.length ≤ 100000 ∧ d.ends.length = d.next.length ∧ ∀ i,i < d.next.length → (d.next.getD i []).length = 3 ∧ ∀ c,c < 3 → 0 ≤ (d.next.getD i []).getD c 0 ∧ (d.next.getD i []).getD c 0 < d.next.length
section
variable {α:Type} [DecidableEq α] {nx nx':α → Nat → α} {a:α}
theorem brow_congr {x:α} {wd:List Nat} {s:Bs α} (h:∀ c,c < 3 → nx x c = nx' x c):∀ n,n ≤ 3 → brow nx x wd s n = brow nx' x wd s n
 | 0,_ => rfl
 | n+1,hn => by
  show bvisit nx x wd (brow nx x wd s n) n = bvisit nx' x wd (brow nx' x wd s n) n
  rw [brow_congr h n (by omega)]
  unfold bvisit
  rw [h n (by omega)]
theorem bat_congr {Q:α → Prop} (h0:Q a) (hv:∀ x c,c < 3 → Q x → Q (nx x c)) (he:∀ x c,c < 3 → Q x → nx x c = nx' x c):∀ k,bat nx a k = bat nx' a k
 | 0 => rfl
 | k+1 => by
  have ih:=bat_congr h0 hv he k
  by_cases h:k < (bat nx a k).met.length
  ·rw [bat_succ h,bat_succ (by rw [← ih];exact h)]
   unfold bpart
   rw [← ih]
   exact brow_congr (fun c hc => he _ c hc (bat_all h0 hv k _ (memD h))) 3 (by omega)
  ·rw [bat_stay (by omega),bat_stay (by rw [← ih];omega),ih]
theorem bat_closed {K:Nat} (hK:(bat nx a K).met.length ≤ K) {x:α} (hx:x ∈ (bat nx a K).met) {c:Nat} (hc:c < 3):nx x c ∈ (bat nx a K).met:=by
 obtain ⟨k,hk,rfl⟩:=List.mem_iff_getElem.1 hx
 have hkk:k < (bat nx a k).met.length:=by
  by_cases h:k < (bat nx a k).met.length
  ·exact h
  ·have:=bat_done (nx:=nx) (a:=a) (k:=k) (m:=K) (by omega) (by omega)
   rw [this] at hk
   omega
 have e:(bat nx a K).met[k] = (bat nx a k).met.getD k a:=by
  rw [← prefix_getD (bat_le (nx:=nx) (a:=a) (show k ≤ K by omega)).1 hkk a,getD_at hk]
 rw [e]
 exact (bpart_le_bat (nx:=nx) (a:=a) hkk (Nat.le_refl 3) (show k < K by omega)).1.subset (bpart_mem hc)
theorem bat_wlen:∀ k:Nat,∀ wd ∈ (bat nx a k).words,wd.length ≤ k
 | 0,wd,h => by simp [bat] at h;simp [h]
 | k+1,wd,h => by
  have ih:=bat_wlen k
  by_cases hk:k < (bat nx a k).met.length
  ·rw [bat_succ hk] at h
   have hg:=(bat_good (nx:=nx) (a:=a) k).2.1
   refine brow_ind (fun t => ∀ wd ∈ t.words,wd.length ≤ k+1) (fun wd h => Nat.le_succ_of_le (ih wd h)) (fun t c _ ht => ?_) 3 (Nat.le_refl 3) wd h
   unfold bvisit
   split
   ·exact ht
   ·intro v hv
    simp only [List.mem_append,List.mem_singleton] at hv
    rcases hv with hv | rfl
    ·exact ht v hv
    ·have:=ih _ (memD (d:=[]) (show k < (bat nx a k).words.length by omega))
     simpa using this
  ·rw [bat_stay (by omega)] at h
   exact Nat.le_succ_of_le (ih wd h)
theorem bat_mem_first (K:Nat):a ∈ (bat nx a K).met:=by
 have h:=memD (d:=a) (bat_pos (nx:=nx) (a:=a) K)
 rwa [bat_first] at h
def numRow (nx:α → Nat → α) (F:List α) (x:α):List Int:=(List.range 3).map fun c => (placeOf F (nx x c):Int)
def numDfa (nx:α → Nat → α) (en:α → Bool) (F:List α):DfaD:=⟨F.map (numRow nx F),F.map en⟩
theorem numDfa_len (nx:α → Nat → α) (en:α → Bool) (F:List α):(numDfa nx en F).next.length = F.length:=by simp [numDfa]
theorem numDfa_row {en:α → Bool} {F:List α} {i:Nat} (hi:i < F.length):(numDfa nx en F).next.getD i [] = numRow nx F (F.getD i a):=by
 simp [numDfa,List.getElem?_eq_getElem hi]
theorem numRow_at {F:List α} {x:α} {c:Nat} (hc:c < 3):(numRow nx F x).getD c 0 = (placeOf F (nx x c):Int):=by
 simp [numRow,hc]
theorem dnx_num {en:α → Bool} {F:List α} {s:Int} {c:Nat} (h0:0 ≤ s) (h1:s < F.length) (hc:c < 3):dnx (numDfa nx en F) s c = numNext nx a F s c:=by
 unfold dnx numNext
 rw [numDfa_row (a:=a) (by omega),numRow_at hc]
theorem den_num {en:α → Bool} {F:List α} {i:Nat} (hi:i < F.length):den (numDfa nx en F) (i:Int) = en F[i]:=by
 simp [den,numDfa,hi]
theorem fine_num {en:α → Bool} {K:Nat} (hK:(bat nx a K).met.length ≤ K) (hK2:K ≤ 100000):fine (numDfa nx en (bat nx a K).met):=by
 refine ⟨?_,?_,?_,fun i hi => ?_⟩
 ·rw [numDfa_len];exact bat_pos K
 ·rw [numDfa_len];omega
 ·simp [numDfa]
 ·rw [numDfa_len] at hi
  rw [numDfa_row (a:=a) hi]
  refine ⟨by simp [numRow],fun c hc => ?_⟩
  rw [numRow_at hc,numDfa_len]
  exact ⟨by omega,by exact_mod_cast placeOf_lt (bat_closed hK (memD hi) hc)⟩
end
theorem Tryz.infoInt:(Tryz.prog.info? 3).map (fun i => (i.zero,i.size,i.bytes)) = some (some (.int .i64 0),1,8):=by kernel_rfl
theorem Tryz.infoBool:(Tryz.prog.info? 4).map (fun i => (i.zero,i.size,i.bytes)) = some (some (.bool false),1,1):=by kernel_rfl
theorem Tryz.infoInts:(Tryz.prog.info? 67).map (fun i => (i.zero,i.size,i.bytes)) = some (some (.slice none 0 0),1,24):=by kernel_rfl
theorem cells_set {xs:List Value} {n k:Nat} {cs:List Value} {u:Value} (hl:cs.length = n) (hx:xs.length = n) (hk:k < n) (h:cs.take k = xs.take k) (hu:xs[k]? = some u) :
  (cs.set k u).take (k+1) = xs.take (k+1):=by
 apply List.ext_getElem?
 intro j
 rw [List.getElem?_take,List.getElem?_take]
 by_cases hj:j < k+1
 ·rw [if_pos hj,if_pos hj,List.getElem?_set]
  by_cases he:k = j
  ·subst he
   rw [if_pos rfl,if_pos (by omega),hu]
  ·rw [if_neg he]
   have:=congrArg (fun l => l[j]?) h
   simpa [List.getElem?_take,show j < k by omega] using this
 ·rw [if_neg hj,if_neg hj]
def small (d:DfaD):Prop:=d.next.length ≤ 1048576 ∧ (∀ i,i < d.next.length → (d.next.getD i []).length ≤ 1048576) ∧ d.ends.length ≤ 1048576
end Go.Proofs.YtfgpkadhegdffaaGreat
namespace Go.Proofs.YtfgpkadhegdffaaGreat
open Go.RowKit Go.Maps
section
variable {α:Type}
structure ExW (kt sz:Nat) (enc:α → Value) (cel:α → List Value) (B B1 B2 B4 hi:Nat) (w:World) (met:List α) (rows:List (List Int)) (ends:List Bool) (vm vn ve:Value):Prop where
 m:w.ownsRow B kt sz vm met.length (met.flatMap cel)
 n:MapL Tryz.prog kt enc w B2 (numbered met)
 r:Bx w B1 #[.slice none 0 0,.slice none 0 0] 25
 d:Bx w B4 #[vn,ve] 25
 nx:OIntSS 67 3 B hi w vn rows
 en:w.ownsRow B 4 1 ve ends.length (boolCells ends)
 ne:B1 ≠ B4
variable {kt sz B B1 B2 B4 hi:Nat} {enc:α → Value} {cel:α → List Value} {w w':World} {met:List α} {rows:List (List Int)} {ends:List Bool} {vm vn ve:Value}
theorem ExW.below (h:ExW kt sz enc cel B B1 B2 B4 hi w met rows ends vm vn ve) (hb:Below w.heap.size w w'):ExW kt sz enc cel B B1 B2 B4 hi w' met rows ends vm vn ve :=
 ⟨(Own.below (own_of_row h.m) hb).1,h.n.below hb,h.r.below hb h.r.lt,h.d.below hb h.d.lt,h.nx.below hb,(Own.below (own_of_row h.en) hb).1,h.ne⟩
theorem ExW.up {hi':Nat} (h:ExW kt sz enc cel B B1 B2 B4 hi w met rows ends vm vn ve) (hh:hi ≤ hi'):ExW kt sz enc cel B B1 B2 B4 hi' w met rows ends vm vn ve :=
 ⟨h.m,h.n,h.r,h.d,h.nx.mono (Nat.le_refl _) hh,h.en,h.ne⟩
def Own4 (kt:Nat):Prop:=kt ≠ 3 ∧ kt ≠ 67 ∧ kt ≠ 4 ∧ kt ≠ 25
theorem ExW.newState (hk:Own4 kt) (h:ExW kt sz enc cel B B1 B2 B4 hi w met rows ends vm vn ve) {x:α} {w1 w2 w3:World} {vm':Value} (hn:MapL Tryz.prog kt enc w1 B2 (numbered (met ++ [x]))) (hg1:w.grownBy w1 (some B2))
  (hb:Below w1.heap.size w1 w2) (hown:w3.ownsRow B kt sz vm' (met.length+1) (met.flatMap cel ++ cel x)) (hg2:w2.grownBy w3 vm.ownBlock) :
  ExW kt sz enc cel B B1 B2 B4 hi w3 (met ++ [x]) rows ends vm' vn ve:=by
 obtain ⟨k1,k2,k3,k4⟩:=hk
 have a:∀ e,Apart w (some B2) e:=fun e => h.n.apart
 have m2:w2.ownsRow B kt sz vm met.length (met.flatMap cel):=(Own.below (own_of_row (ownsRow_grown h.m hg1 (a _))) hb).1
 have b:∀ e,kt ≠ e → Apart w2 vm.ownBlock e:=fun e he => ownsRow_apart m2 he
 refine ⟨?_,(hn.below hb).grown hg2 (ownsRow_cells m2),?_,?_,?_,?_,h.ne⟩
 ·simpa using hown
 ·have r1:=h.r.grown hg1 (a _)
  exact (r1.below hb r1.lt).grown hg2 (b _ k4)
 ·have r1:=h.d.grown hg1 (a _)
  exact (r1.below hb r1.lt).grown hg2 (b _ k4)
 ·exact ((h.nx.grown hg1 (a _) (a _)).below hb).grown hg2 (b _ k2) (b _ k1)
 ·exact ownsRow_grown (Own.below (own_of_row (ownsRow_grown h.en hg1 (a _))) hb).1 hg2 (b _ k3)
theorem ExW.setRow (hk:Own4 kt) (h:ExW kt sz enc cel B B1 B2 B4 hi w met rows ends vm vn ve) {R n:Nat} {cs:List Value} (hR:hi ≤ R) {base:Nat} (hrow:w.ownsRow base 3 1 (.slice (some ⟨R,0,none⟩) n n) n cs) (j:Nat) (v:Value) :
  ExW kt sz enc cel B B1 B2 B4 hi (w.setCell ⟨R,j,none⟩ v) met rows ends vm vn ve:=by
 obtain ⟨k1,k2,k3,k4⟩:=hk
 have hg:=grown_set w R j v
 have a:∀ e,3 ≠ e → Apart w (some R) e:=fun e he => ownsRow_apart (v:=.slice (some ⟨R,0,none⟩) n n) hrow he
 have c:CellsRow w (some R):=ownsRow_cells (v:=.slice (some ⟨R,0,none⟩) n n) hrow
 exact ⟨ownsRow_grown h.m hg (a _ (Ne.symm k1)),h.n.grown hg c,h.r.grown hg (a _ (by decide)),h.d.grown hg (a _ (by decide)),h.nx.far hR j v,ownsRow_grown h.en hg (a _ (by decide)),h.ne⟩
theorem row_kept {w1 w2 w3:World} {R n base e:Nat} {cs:List Value} {vm:Value} {b2 mb:Nat} {ms:List Value} (hrow:w.ownsRow base e 1 (.slice (some ⟨R,0,none⟩) n n) n cs) (hne:kt ≠ e)
  (hm2:w2.ownsRow mb kt sz vm b2 ms) (ha:Apart w (some B2) e) (hg1:w.grownBy w1 (some B2)) (hb:Below w1.heap.size w1 w2) (hg2:w2.grownBy w3 vm.ownBlock):w3.ownsRow base e 1 (.slice (some ⟨R,0,none⟩) n n) n cs :=
 ownsRow_grown (Own.below (own_of_row (ownsRow_grown hrow hg1 ha)) hb).1 hg2 (ownsRow_apart hm2 hne)
theorem ExW.addRow (hk:Own4 kt) (h:ExW kt sz enc cel B B1 B2 B4 hi w met rows ends vm vn ve) {vs:List Value} {rv vn':Value} {x:List Int} {w3:World} {lr:Nat}
  (h1:Own B hi w 67 1 vn rows.length vs) (h2:∀ i,i < rows.length → OInts 3 B hi w (vs.getD i undef) (rows.getD i []))
  (h3:∀ i j k,i < j → j < rows.length → (vs.getD i undef).ownBlock = some k → (vs.getD j undef).ownBlock ≠ some k)
  (hrow:OInts 3 lr w.heap.size w rv x) (hlr:hi ≤ lr) (hlo:B ≤ lr) (hg:w.grownBy w3 vn.ownBlock) (hown:w3.ownsRow B 67 1 vn' (rows.length+1) (vs ++ [rv])) :
  ExW kt sz enc cel B B1 B2 B4 w3.heap.size (w3.setCell ⟨B4,0,none⟩ vn') met (rows ++ [x]) ends vm vn' ve:=by
 obtain ⟨k1,k2,k3,k4⟩:=hk
 have a:∀ e,67 ≠ e → Apart w vn.ownBlock e:=fun e he => ownsRow_apart h1.1 he
 have d3:Bx w3 B4 #[vn,ve] 25:=h.d.grown hg (a _ (by decide))
 have hg4:=grown_set w3 B4 0 vn'
 have b:∀ e,25 ≠ e → Apart w3 (some B4) e:=fun e he => d3.apart he
 have r3:Bx w3 B1 #[.slice none 0 0,.slice none 0 0] 25:=h.r.grown hg (a _ (by decide))
 have n4:MapL Tryz.prog kt enc (w3.setCell ⟨B4,0,none⟩ vn') B2 (numbered met):=(h.n.grown hg (ownsRow_cells h1.1)).grown hg4 d3.cells
 refine ⟨ownsRow_grown (ownsRow_grown h.m hg (a _ (Ne.symm k2))) hg4 (b _ (Ne.symm k4)),n4,?_,d3.set 0 vn',?_,ownsRow_grown (ownsRow_grown h.en hg (a _ (by decide))) hg4 (b _ (by decide)),h.ne⟩
 ·exact r3.set_ne _ _ h.ne
 ·exact (OIntSS.snoc h1 h2 h3 hrow hlr hlo (by decide) hg hown).grown hg4 (b _ (by decide)) (b _ (by decide))
theorem ExW.addEnd (hk:Own4 kt) (h:ExW kt sz enc cel B B1 B2 B4 hi w met rows ends vm vn ve) {w3:World} {ve':Value} {e:Bool} (hg:w.grownBy w3 ve.ownBlock) (hown:w3.ownsRow B 4 1 ve' (ends.length+1) (boolCells ends ++ [.bool e])) :
  ExW kt sz enc cel B B1 B2 B4 hi (w3.setCell ⟨B4,1,none⟩ ve') met rows (ends ++ [e]) vm vn ve':=by
 obtain ⟨k1,k2,k3,k4⟩:=hk
 have a:∀ t,4 ≠ t → Apart w ve.ownBlock t:=fun t ht => ownsRow_apart h.en ht
 have d3:Bx w3 B4 #[vn,ve] 25:=h.d.grown hg (a _ (by decide))
 have hg4:=grown_set w3 B4 1 ve'
 have b:∀ t,25 ≠ t → Apart w3 (some B4) t:=fun t ht => d3.apart ht
 have r3:Bx w3 B1 #[.slice none 0 0,.slice none 0 0] 25:=h.r.grown hg (a _ (by decide))
 have n4:MapL Tryz.prog kt enc (w3.setCell ⟨B4,1,none⟩ ve') B2 (numbered met):=(h.n.grown hg (ownsRow_cells h.en)).grown hg4 d3.cells
 refine ⟨ownsRow_grown (ownsRow_grown h.m hg (a _ (Ne.symm k3))) hg4 (b _ (Ne.symm k4)),n4,r3.set_ne _ _ h.ne,d3.set 1 ve',(h.nx.grown hg (a _ (by decide)) (a _ (by decide))).grown hg4 (b _ (by decide)) (b _ (by decide)),?_,h.ne⟩
 refine ownsRow_grown ?_ hg4 (b _ (by decide))
 simpa using hown
end
end Go.Proofs.YtfgpkadhegdffaaGreat
namespace Go.Proofs.YtfgpkadhegdffaaGreat
open Go.RowKit
def upFrom (k:Int) (n:Nat):List Int:=(List.range n).map fun (i:Nat) => k+i
def upBools (k:Int) (n:Nat):List Bool:=(List.range n).map fun (i:Nat) => (k+i) % 3 == 0
def sumLen (xss:List (List Int)):Nat:=(xss.map List.length).sum
def upRows (k:Int) (xss:List (List Int)):List (List Int):=(List.range xss.length).map fun i => upFrom (k+sumLen (xss.take i)) (xss.getD i []).length
theorem upFrom_len (k:Int) (n:Nat):(upFrom k n).length = n:=by simp [upFrom]
theorem upBools_len (k:Int) (n:Nat):(upBools k n).length = n:=by simp [upBools]
theorem upRows_len (k:Int) (xss:List (List Int)):(upRows k xss).length = xss.length:=by simp [upRows]
theorem upFrom_at {k:Int} {n j:Nat} (h:j < n):(intCells (upFrom k n))[j]? = some (.int .i64 (k+j)):=by simp [upFrom,h]
theorem upBools_at {k:Int} {n j:Nat} (h:j < n):(boolCells (upBools k n))[j]? = some (.bool ((k+j) % 3 == 0)):=by simp [upBools,h]
theorem upFrom_getD {k:Int} {n j:Nat} (h:j < n):(upFrom k n).getD j 0 = k+j:=by simp [upFrom,h]
theorem upBools_getD {k:Int} {n j:Nat} (h:j < n):(upBools k n).getD j false = ((k+j) % 3 == 0):=by simp [upBools,h]
theorem upRows_getD {k:Int} {xss:List (List Int)} {j:Nat} (h:j < xss.length):(upRows k xss).getD j [] = upFrom (k+sumLen (xss.take j)) (xss.getD j []).length:=by
 simp [upRows,h]
theorem sumLen_succ {xss:List (List Int)} {j:Nat} (h:j < xss.length):sumLen (xss.take (j+1)) = sumLen (xss.take j)+(xss.getD j []).length:=by
 unfold sumLen
 rw [List.take_succ_eq_append_getElem h,List.map_append,List.sum_append]
 simp only [List.map_cons,List.map_nil,List.sum_cons,List.sum_nil,Nat.add_zero]
 simp [h]
theorem sumLen_le (xss:List (List Int)) (j:Nat):sumLen (xss.take j) ≤ sumLen xss:=by
 unfold sumLen
 have:(xss.map List.length).sum = ((xss.take j).map List.length).sum+((xss.drop j).map List.length).sum:=by
  rw [← List.sum_append,← List.map_append,List.take_append_drop]
 omega
structure Touch (e lo hi:Nat) (w w':World):Prop where
 os:w'.os = w.os
 tape:w'.tape = w.tape
 output:w'.output = w.output
 size:w.heap.size ≤ w'.heap.size
 block:∀ k,k < w.heap.size → ((k < lo ∨ hi ≤ k) ∨ ∀ cur fr,w.heap[k]? ≠ some (.cells cur e fr)) → w'.heap[k]? = w.heap[k]?
theorem Touch.refl (e lo hi:Nat) (w:World):Touch e lo hi w w:=⟨rfl,rfl,rfl,Nat.le_refl _,fun _ _ _ => rfl⟩
theorem Touch.trans {e lo hi:Nat} {a b c:World} (h:Touch e lo hi a b) (k:Touch e lo hi b c):Touch e lo hi a c:=by
 refine ⟨k.os.trans h.os,k.tape.trans h.tape,k.output.trans h.output,Nat.le_trans h.size k.size,fun i hi hh => ?_⟩
 have e1:=h.block i hi hh
 refine (k.block i (Nat.lt_of_lt_of_le hi h.size) ?_).trans e1
 rcases hh with hh | hh
 ·exact .inl hh
 ·exact .inr (by rw [e1];exact hh)
theorem Touch.only {e lo hi:Nat} {a b:World} (h:Touch e lo hi a b):Only lo hi a b:=⟨h.os,h.tape,h.output,h.size,fun k hk hh => h.block k hk (.inl hh)⟩
theorem Touch.of_grown {e lo hi size n:Nat} {w w':World} {v:Value} {cs:List Value} (h:Own lo hi w e size v n cs) (hg:w.grownBy w' v.ownBlock):Touch e lo hi w w':=by
 refine ⟨hg.os,hg.tape,hg.output,hg.size,fun k hk hh => hg.block k hk fun hr => ?_⟩
 obtain ⟨l1,l2,l3⟩:=h.lt k hr.symm
 rcases hh with hh | hh
 ·omega
 ·obtain ⟨cu,hcu⟩:=ownsRow_obj h.1 hr.symm
  exact hh _ _ hcu
theorem Own.touch {e e' lo hi lo' hi' size n:Nat} {w w':World} {v:Value} {cs:List Value} (h:Own lo hi w e' size v n cs) (ht:Touch e lo' hi' w w') (hne:e' ≠ e):Own lo hi w' e' size v n cs :=
 h.kept fun k hk => ht.block k (h.lt k hk).2.2 (.inr fun cur fr hc => by
  obtain ⟨cu,hcu⟩:=ownsRow_obj h.1 hk
  rw [hcu] at hc
  simp only [Option.some.injEq,Obj.cells.injEq] at hc
  exact hne hc.2.1)
theorem Bx.touch {e lo hi T b:Nat} {w w':World} {cs:Array Value} (h:Bx w b cs T) (ht:Touch e lo hi w w') (hne:T ≠ e):Bx w' b cs T :=
 (ht.block b h.lt (.inr fun cur fr hc => by
  unfold Bx at h
  rw [h] at hc
  simp only [Option.some.injEq,Obj.cells.injEq] at hc
  exact hne hc.2.1)).trans h
theorem Own.lt' {lo hi e size n:Nat} {w:World} {v:Value} {cs:List Value} (h:Own lo hi w e size v n cs):w.ownsRow lo e size v n cs:=h.1
theorem OIntSS.row {es e lo hi:Nat} {w w':World} {v:Value} {xss:List (List Int)} {vs:List Value} {x:List Int} {j:Nat} (hne:es ≠ e)
  (h1:Own lo hi w es 1 v xss.length vs) (h2:∀ i,i < xss.length → OInts e lo hi w (vs.getD i undef) (xss.getD i []))
  (h3:∀ i j k,i < j → j < xss.length → (vs.getD i undef).ownBlock = some k → (vs.getD j undef).ownBlock ≠ some k)
  (hj:j < xss.length) (hx:OInts e lo hi w' (vs.getD j undef) x) (hg:w.grownBy w' (vs.getD j undef).ownBlock) :
  Own lo hi w' es 1 v (xss.set j x).length vs ∧ (∀ i,i < (xss.set j x).length → OInts e lo hi w' (vs.getD i undef) ((xss.set j x).getD i [])) ∧
   (∀ i j' k,i < j' → j' < (xss.set j x).length → (vs.getD i undef).ownBlock = some k → (vs.getD j' undef).ownBlock ≠ some k):=by
 have ha:Apart w (vs.getD j undef).ownBlock es:=ownsRow_apart (Own.lt' (h2 j hj)) (Ne.symm hne)
 rw [List.length_set]
 refine ⟨h1.grown hg ha,fun i hi => ?_,h3⟩
 by_cases hij:j = i
 ·subst hij
  have:(xss.set j x).getD j [] = x:=by simp [hj]
  rw [this]
  exact hx
 ·have:(xss.set j x).getD i [] = xss.getD i []:=by simp [List.getElem?_set_ne hij]
  rw [this]
  refine Own.kept (h2 i hi) fun k hk => hg.block k (Own.lt (h2 i hi) k hk).2.2 fun hr => ?_
  rcases Nat.lt_or_gt_of_ne hij with hlt | hgt
  ·exact h3 j i k hlt hi hr.symm hk
  ·exact h3 i j k hgt hj hk hr.symm
def markD (k:Int) (d:DfaD):DfaD:=⟨upRows k d.next,upBools (k+sumLen d.next) d.ends.length⟩
def totD (d:DfaD):Nat:=sumLen d.next+d.ends.length
theorem markInts_any (xs:List Int) (k:Int) (lo hi:Nat) (v:Value) (w:World) (hk0:0 ≤ k) (hk1:k ≤ 10000000000) (hx:xs.length ≤ 100000000) (h:OInts 3 lo hi w v xs) :
  Calls Tryz.prog 83 #[v,.int .i64 k] w fun en w' => en = .returned (.int .i64 (k+xs.length)) ∧ OInts 3 lo hi w' v (upFrom k xs.length) ∧ w.grownBy w' v.ownBlock:=by
 obtain ⟨n,hn⟩:∃ n,n = xs.length:=⟨_,rfl⟩
 unfold OInts at h
 rw [← hn] at h hx
 rw [← hn]
 by_cases h0:n = 0
 ·subst h0
  obtain ⟨a1,c1,rfl,-⟩:=(Own.sl h (by omega)).form
  go_enter Tryz.func83, Tryz.ntmps83
  go_wp2
  go_loop [1,5] (fun kv i => kv = .int .i64 k ∧ i = .int .i64 0) (fun _ _ => 0)
  case atStart => exact ⟨rfl,rfl⟩
  case round =>
   obtain ⟨rfl,rfl⟩:=hrel
   have Hh:=qh h
   clear h hn
   go_wp2
   go_ret
   refine ⟨ret_int (by simp),?_,World.grownBy.refl _ _⟩
   have hl:=Hh.out.1.1
   have:_ = []:=List.eq_nil_of_length_eq_zero (by simpa using hl)
   have h2:=Hh.out
   rw [this] at h2
   simpa [upFrom,OInts] using h2
 ·obtain ⟨g,cap,rfl,hg0,hg1⟩:=h.1.form (by omega)
  have Hh:=qh h
  have Hhn:=qh hn;clear hn
  clear h
  go_enter Tryz.func83, Tryz.ntmps83
  go_wp2
  go_loopw [1,5] (fun kv i wr => ∃ j:Nat,j ≤ n ∧ i = .int .i64 j ∧ kv = .int .i64 (k+j) ∧ w.grownBy wr (some g) ∧ ∃ cs,wr.ownsRow lo 3 1 (.slice (some ⟨g,0,none⟩) n cap) n cs ∧ cs.take j = (intCells (upFrom k n)).take j)
   (fun _ i _ => n - (intOf i).toNat)
  case atStart => exact ⟨0,Nat.zero_le _,rfl,by simp,World.grownBy.refl _ _,_,Hh.out.1,rfl⟩
  case round =>
   obtain ⟨j,hj,rfl,rfl,hgr,cs,hown,htk⟩:=hrel
   have hlen:=hown.1
   have Hhtk:=qh htk;clear htk
   have Hhown:=qh hown;clear hown
   have Hhgr:=qh hgr;clear hgr
   by_cases hlt:j < n
   ·obtain ⟨u0,hold⟩:=row_some Hhown.out j (by omega)
    have hfr:wr.frozen? ⟨g,j,none⟩ = false:=Hhown.out.frozenAt j
    have hkj0:0 ≤ k+(j:Int):=by omega
    have hkj1:k+(j:Int) ≤ 20000000000:=by omega
    have Hhlen:=qh hlen;clear hlen
    go_wp2
    go_roundw
    case rel =>
     refine ⟨j+1,by omega,by go_num,by go_num,Hhgr.out.trans (grown_set _ _ _ _),_,(Hhown.out.stored j _).1,?_⟩
     exact cells_set (n:=n) (by have:=Hhlen.out;omega) (by simp [upFrom]) hlt Hhtk.out (upFrom_at hlt)
    case measure => simp [intOf];omega
   ·obtain rfl:j = n:=by omega
    have Hhlen:=qh hlen;clear hlen
    go_wp2
    go_ret
    have he:cs = intCells (upFrom k j):=by
     have h:=Hhtk.out
     rwa [List.take_of_length_le (by have:=Hhlen.out;omega),List.take_of_length_le (by simp [upFrom])] at h
    refine ⟨rfl,?_,Hhgr.out⟩
    unfold OInts
    rw [upFrom_len,← he]
    exact ⟨Hhown.out,Hh.out.2⟩
theorem heldInts_any (n:Nat) (k:Int) (B:Nat) (v:Value) (w:World) (hk0:0 ≤ k) (hk1:k ≤ 10000000000) (hx:n ≤ 100000000) (h:Ints B w v (upFrom k n)) :
  Calls Tryz.prog 84 #[v,.int .i64 k] w fun en w' => en = .returned (.int .i64 (k+n)) ∧ w = w':=by
 obtain ⟨a1,c1,hv,hc1,hm1,hr1⟩:=h.form
 rw [upFrom_len] at hv hc1 hr1
 subst hv
 clear h
 have Hhr1:=qh hr1;clear hr1
 go_enter Tryz.func84, Tryz.ntmps84
 go_wp2
 go_loop [1,4,5] (fun kv r i => ∃ j:Nat,j ≤ n ∧ i = .int .i64 j ∧ kv = .int .i64 (k+j)) (fun _ _ i => n - (intOf i).toNat)
 case atStart => exact ⟨0,Nat.zero_le _,rfl,by simp⟩
 case round =>
  obtain ⟨j,hj,rfl,rfl⟩:=hrel
  by_cases hlt:j < n
  ·obtain ⟨b1,o1,rfl,-,-,hcs⟩:=Hhr1.out (by omega)
   have hc:=hcs j hlt
   rw [upFrom_getD hlt] at hc
   have hkj0:0 ≤ k+(j:Int):=by omega
   have hkj1:k+(j:Int) ≤ 20000000000:=by omega
   clear hcs
   go_wp2
   go_round
   case rel => exact ⟨j+1,by omega,by go_num,by go_num⟩
   case measure => simp [intOf];omega
  ·obtain rfl:j = n:=by omega
   go_wp2
   go_ret
   exact ⟨rfl,rfl⟩
theorem markBools_any (xs:List Bool) (k:Int) (lo hi:Nat) (v:Value) (w:World) (hk0:0 ≤ k) (hk1:k ≤ 10000000000) (hx:xs.length ≤ 100000000) (h:OBools 4 lo hi w v xs) :
  Calls Tryz.prog 41 #[v,.int .i64 k] w fun en w' => en = .returned (.int .i64 (k+xs.length)) ∧ OBools 4 lo hi w' v (upBools k xs.length) ∧ w.grownBy w' v.ownBlock:=by
 obtain ⟨n,hn⟩:∃ n,n = xs.length:=⟨_,rfl⟩
 unfold OBools at h
 rw [← hn] at h hx
 rw [← hn]
 by_cases h0:n = 0
 ·subst h0
  obtain ⟨a1,c1,rfl,-⟩:=(Own.sl h (by omega)).form
  go_enter Tryz.func41, Tryz.ntmps41
  go_wp2
  go_loop [1,5] (fun kv i => kv = .int .i64 k ∧ i = .int .i64 0) (fun _ _ => 0)
  case atStart => exact ⟨rfl,rfl⟩
  case round =>
   obtain ⟨rfl,rfl⟩:=hrel
   have Hh:=qh h
   clear h hn
   go_wp2
   go_ret
   refine ⟨ret_int (by simp),?_,World.grownBy.refl _ _⟩
   have hl:=Hh.out.1.1
   have:_ = []:=List.eq_nil_of_length_eq_zero (by simpa using hl)
   have h2:=Hh.out
   rw [this] at h2
   simpa [upBools,OBools] using h2
 ·obtain ⟨g,cap,rfl,hg0,hg1⟩:=h.1.form (by omega)
  have Hh:=qh h
  have Hhn:=qh hn;clear hn
  clear h
  go_enter Tryz.func41, Tryz.ntmps41
  go_wp2
  go_loopw [1,5] (fun kv i wr => ∃ j:Nat,j ≤ n ∧ i = .int .i64 j ∧ kv = .int .i64 (k+j) ∧ w.grownBy wr (some g) ∧ ∃ cs,wr.ownsRow lo 4 1 (.slice (some ⟨g,0,none⟩) n cap) n cs ∧ cs.take j = (boolCells (upBools k n)).take j)
   (fun _ i _ => n - (intOf i).toNat)
  case atStart => exact ⟨0,Nat.zero_le _,rfl,by simp,World.grownBy.refl _ _,_,Hh.out.1,rfl⟩
  case round =>
   obtain ⟨j,hj,rfl,rfl,hgr,cs,hown,htk⟩:=hrel
   have hlen:=hown.1
   have Hhtk:=qh htk;clear htk
   have Hhown:=qh hown;clear hown
   have Hhgr:=qh hgr;clear hgr
   by_cases hlt:j < n
   ·obtain ⟨u0,hold⟩:=row_some Hhown.out j (by omega)
    have hfr:wr.frozen? ⟨g,j,none⟩ = false:=Hhown.out.frozenAt j
    have hkj0:0 ≤ k+(j:Int):=by omega
    have hkj1:k+(j:Int) ≤ 20000000000:=by omega
    have Hhlen:=qh hlen;clear hlen
    go_wp2
    go_roundw
    case rel =>
     refine ⟨j+1,by omega,by go_num,by go_num,Hhgr.out.trans (grown_set _ _ _ _),_,(Hhown.out.stored j _).1,?_⟩
     exact cells_set (n:=n) (by have:=Hhlen.out;omega) (by simp [upBools]) hlt Hhtk.out (upBools_at hlt)
    case measure => simp [intOf];omega
   ·obtain rfl:j = n:=by omega
    have Hhlen:=qh hlen;clear hlen
    go_wp2
    go_ret
    have he:cs = boolCells (upBools k j):=by
     have h:=Hhtk.out
     rwa [List.take_of_length_le (by have:=Hhlen.out;omega),List.take_of_length_le (by simp [upBools])] at h
    refine ⟨rfl,?_,Hhgr.out⟩
    unfold OBools
    rw [upBools_len,← he]
    exact ⟨Hhown.out,Hh.out.2⟩
theorem heldBools_any (n:Nat) (k:Int) (B:Nat) (v:Value) (w:World) (hk0:0 ≤ k) (hk1:k ≤ 10000000000) (hx:n ≤ 100000000) (h:Bools B w v (upBools k n)) :
  Calls Tryz.prog 43 #[v,.int .i64 k] w fun en w' => en = .returned (.int .i64 (k+n)) ∧ w = w':=by
 obtain ⟨a1,c1,hv,hc1,hm1,hr1⟩:=h.form
 rw [upBools_len] at hv hc1 hr1
 subst hv
 clear h
 have Hhr1:=qh hr1;clear hr1
 go_enter Tryz.func43, Tryz.ntmps43
 go_wp2
 go_loop [1,4,5] (fun kv r i => ∃ j:Nat,j ≤ n ∧ i = .int .i64 j ∧ kv = .int .i64 (k+j)) (fun _ _ i => n - (intOf i).toNat)
 case atStart => exact ⟨0,Nat.zero_le _,rfl,by simp⟩
 case round =>
  obtain ⟨j,hj,rfl,rfl⟩:=hrel
  by_cases hlt:j < n
  ·obtain ⟨b1,o1,rfl,-,-,hcs⟩:=Hhr1.out (by omega)
   have hc:=hcs j hlt
   rw [upBools_getD hlt] at hc
   have hkj0:0 ≤ k+(j:Int):=by omega
   have hkj1:k+(j:Int) ≤ 20000000000:=by omega
   clear hcs
   go_wp2
   go_round
   case rel => exact ⟨j+1,by omega,by go_num,by go_num⟩
   case measure => simp [intOf];omega
  ·obtain rfl:j = n:=by omega
   go_wp2
   go_ret
   exact ⟨rfl,rfl⟩
theorem markIntSS_any (xss:List (List Int)) (k:Int) (lo hi:Nat) (v:Value) (w:World) (hk0:0 ≤ k) (hk1:k ≤ 5000000000) (hx:xss.length ≤ 100000000) (hs:sumLen xss ≤ 100000000) (h:OIntSS 67 3 lo hi w v xss) :
  Calls Tryz.prog 40 #[v,.int .i64 k] w fun en w' => en = .returned (.int .i64 (k+sumLen xss)) ∧ OIntSS 67 3 lo hi w' v (upRows k xss) ∧ Touch 3 lo hi w w':=by
 obtain ⟨vs,h1,h2,h3⟩:=h
 obtain ⟨a1,c1,hv,hc1,hm1,hr1⟩:=(Own.sl h1 (by omega)).form
 have Hh1:=qh h1
 have Hh2:=qh h2
 have Hh3:=qh h3
 have hsl:=fun j => sumLen_le xss j
 subst hv
 have Hhsl:=qh hsl;clear hsl
 have Hhr1:=qh hr1;clear hr1
 clear h1 h2 h3
 go_enter Tryz.func40, Tryz.ntmps40
 go_wp2
 go_loopw [1,5] (fun kv i wr => ∃ j:Nat,j ≤ xss.length ∧ i = .int .i64 j ∧ kv = .int .i64 (k+sumLen (xss.take j)) ∧ Touch 3 lo hi w wr ∧ ∃ yss:List (List Int),yss.length = xss.length ∧ (∀ i,i < j → yss.getD i [] = (upRows k xss).getD i []) ∧ (∀ i,j ≤ i → yss.getD i [] = xss.getD i []) ∧
   Own lo hi wr 67 1 (.slice a1 xss.length c1) yss.length vs ∧ (∀ i,i < yss.length → OInts 3 lo hi wr (vs.getD i undef) (yss.getD i [])) ∧ (∀ i j k,i < j → j < yss.length → (vs.getD i undef).ownBlock = some k → (vs.getD j undef).ownBlock ≠ some k))
  (fun _ i _ => xss.length - (intOf i).toNat)
 case atStart => exact ⟨0,Nat.zero_le _,rfl,by simp [sumLen],Touch.refl _ _ _ _,xss,rfl,fun i hi => absurd hi (by omega),fun _ _ => rfl,Hh1.out,Hh2.out,Hh3.out⟩
 case round =>
  obtain ⟨j,hj,rfl,rfl,hto,yss,hyl,hy1,hy2,g1,g2,g3⟩:=hrel
  have hsj:=Hhsl.out j
  by_cases hlt:j < xss.length
  ·have hrj:=g2 j (by omega)
   rw [hy2 j (Nat.le_refl _)] at hrj
   have hrl:=sumLen_succ hlt
   have hs1:=Hhsl.out (j+1)
   obtain ⟨b1,o1,rfl,-,-,hcs⟩:=Hhr1.out (by omega)
   have hbx:o1 = 0:=by
    have hh:=Hh1.out.1.form (by omega)
    obtain ⟨g,cap,hv,-⟩:=hh
    simp only [Value.slice.injEq,Option.some.injEq,Addr.mk.injEq] at hv
    exact hv.1.2.1
   subst hbx
   have g1':=g1.1
   rw [hyl] at g1'
   have hcell:=g1'.cellAt j (by omega)
   have hvl:vs.length = xss.length:=by have:=g1'.1;omega
   obtain ⟨rv,hrv⟩:∃ rv,rv = vs.getD j undef:=⟨_,rfl⟩
   have hcell2:wr.cell? ⟨b1,0+j,none⟩ = some rv:=by
    rw [Nat.zero_add,hrv]
    rw [hcell]
    simp [hvl,hlt]
   obtain ⟨x,hxx⟩:∃ x,x = xss.getD j []:=⟨_,rfl⟩
   rw [← hxx] at hrj hrl
   obtain ⟨ar,cr,hvr,-⟩:=(OInts.ints hrj).form
   rw [← hrv] at hrj hvr
   have hrow:x.length ≤ 100000000:=by omega
   obtain ⟨S,hS⟩:∃ S,S = sumLen (xss.take j):=⟨_,rfl⟩
   rw [← hS] at hrl hsj
   rw [← hS]
   have hkS0:0 ≤ k+(S:Int):=by omega
   have hkS1:k+(S:Int) ≤ 10000000000:=by omega
   simp only [Nat.zero_add] at hcell2
   have Hhrl:=qh hrl;clear hrl
   have Hhxx:=qh hxx;clear hxx
   have HhS:=qh hS;clear hS
   have Hhrj:=qh hrj;clear hrj
   have Hhrv:=qh hrv;clear hrv
   have Hhto:=qh hto;clear hto
   have Hhyl:=qh hyl;clear hyl
   have Hhy1:=qh hy1;clear hy1
   have Hhy2:=qh hy2;clear hy2
   have Hg1:=qh g1;clear g1
   have Hg2:=qh g2;clear g2
   have Hg3:=qh g3;clear g3
   have Hhvl:=qh hvl;clear hvl
   subst hvr
   clear hcell hcs g1'
   go_wp2_with fail
   refine (markInts_any x (k+S) lo hi _ _ hkS0 hkS1 hrow Hhrj.out).mono ?_
   rintro e w2 ⟨rfl,ho2,hg2⟩
   have Hho2:=qh ho2;clear ho2
   have Hhg2:=qh hg2;clear hg2
   go_wp2
   go_roundw
   case rel =>
    have hyj:j < yss.length:=by rw [Hhyl.out];exact hlt
    have R:=OIntSS.row (w':=w2) (x:=upFrom (k+S) x.length) (by decide) Hg1.out Hg2.out Hg3.out hyj (by rw [← Hhrv.out];exact Hho2.out) (by rw [← Hhrv.out];exact Hhg2.out)
    refine ⟨j+1,by omega,by go_num,by rw [Hhrl.out];congr 1;push_cast;omega,Hhto.out.trans (Touch.of_grown Hhrj.out Hhg2.out),yss.set j (upFrom (k+S) x.length),by rw [List.length_set];exact Hhyl.out,fun i hi => ?_,fun i hi => ?_,R⟩
    ·by_cases hij:j = i
     ·subst hij
      rw [upRows_getD hlt,← HhS.out,← Hhxx.out]
      simp [hyj]
     ·have:(yss.set j (upFrom (k+S) x.length)).getD i [] = yss.getD i []:=by simp [List.getElem?_set_ne hij]
      rw [this]
      exact Hhy1.out i (by omega)
    ·have:(yss.set j (upFrom (k+S) x.length)).getD i [] = yss.getD i []:=by simp [List.getElem?_set_ne (show j ≠ i by omega)]
     rw [this]
     exact Hhy2.out i (by omega)
   case measure => simp [intOf];omega
  ·obtain rfl:j = xss.length:=by omega
   have hye:yss = upRows k xss:=by
    apply List.ext_getElem
    ·rw [hyl,upRows_len]
    ·intro i h1 h2
     have:=hy1 i (by omega)
     simpa [h1,h2] using this
   subst hye
   have Hhyl:=qh hyl;clear hyl
   have Hhy1:=qh hy1;clear hy1
   have Hhy2:=qh hy2;clear hy2
   have Hg1:=qh g1;clear g1
   have Hg2:=qh g2;clear g2
   have Hg3:=qh g3;clear g3
   have Hhto:=qh hto;clear hto
   go_wp2
   go_ret
   refine ⟨by first | rfl | rw [List.take_length],⟨vs,?_,Hg2.out,Hg3.out⟩,Hhto.out⟩
   exact Hg1.out
theorem heldIntSS_any (xss:List (List Int)) (k:Int) (B:Nat) (v:Value) (w:World) (hk0:0 ≤ k) (hk1:k ≤ 5000000000) (hx:xss.length ≤ 100000000) (hs:sumLen xss ≤ 100000000) (h:IntSS B w v (upRows k xss)) :
  Calls Tryz.prog 42 #[v,.int .i64 k] w fun en w' => en = .returned (.int .i64 (k+sumLen xss)) ∧ w = w':=by
 obtain ⟨a1,c1,hv,hc1,hm1,hr1⟩:=h.formI
 rw [upRows_len] at hv hc1 hr1
 subst hv
 have hsl:=fun j => sumLen_le xss j
 have Hhsl:=qh hsl;clear hsl
 have Hhr1:=qh hr1;clear hr1
 clear h
 go_enter Tryz.func42, Tryz.ntmps42
 go_wp2
 go_loop [1,4,5] (fun kv r i => ∃ j:Nat,j ≤ xss.length ∧ i = .int .i64 j ∧ kv = .int .i64 (k+sumLen (xss.take j))) (fun _ _ i => xss.length - (intOf i).toNat)
 case atStart => exact ⟨0,Nat.zero_le _,rfl,by simp [sumLen]⟩
 case round =>
  obtain ⟨j,hj,rfl,rfl⟩:=hrel
  have hsj:=Hhsl.out j
  by_cases hlt:j < xss.length
  ·have hrl:=sumLen_succ hlt
   have hs1:=Hhsl.out (j+1)
   obtain ⟨b1,o1,rfl,-,-,hcs⟩:=Hhr1.out (by omega)
   obtain ⟨ar,cr,hc,hcl,hcm,hri⟩:=hcs j hlt
   rw [upRows_getD hlt] at hc hcl hri
   rw [upFrom_len] at hc hcl hri
   have hrow:(xss.getD j []).length ≤ 100000000:=by omega
   obtain ⟨S,hS⟩:∃ S,S = sumLen (xss.take j):=⟨_,rfl⟩
   rw [← hS] at hrl hsj hri
   rw [← hS]
   have hkS0:0 ≤ k+(S:Int):=by omega
   have hkS1:k+(S:Int) ≤ 10000000000:=by omega
   have hkS2:0 ≤ k+(S:Int)+((xss.getD j []).length:Int):=by omega
   obtain ⟨n,hn⟩:∃ n,n = (xss.getD j []).length:=⟨_,rfl⟩
   rw [← hn] at hc hcl hri hrow hkS2 hrl
   have Hhrl:=qh hrl;clear hrl
   have HhS:=qh hS;clear hS
   have Hhri:=qh hri;clear hri
   have Hhn:=qh hn;clear hn
   clear hcs
   go_wp2_with fail
   refine (heldInts_any n (k+S) B _ _ hkS0 hkS1 hrow Hhri.out).mono ?_
   rintro e w2 ⟨rfl,rfl⟩
   go_wp2
   go_round
   case rel => exact ⟨j+1,by omega,by go_num,by rw [Hhrl.out];congr 1;push_cast;omega⟩
   case measure => simp [intOf];omega
  ·obtain rfl:j = xss.length:=by omega
   go_wp2
   go_ret
   exact ⟨by first | rfl | rw [List.take_length],rfl⟩
theorem markDfa_any (d:DfaD) (k:Int) (lo hi:Nat) (v:Value) (w:World) (hk0:0 ≤ k) (hk1:k ≤ 4000000000) (hx:d.next.length ≤ 100000000) (hs:sumLen d.next ≤ 100000000) (he:d.ends.length ≤ 100000000) (_:hi ≤ w.heap.size) (h:DfaO 67 3 4 lo hi w v d) :
  Calls Tryz.prog 13 #[v,.int .i64 k] w fun en w' => en = .returned (.int .i64 (k+totD d)) ∧ DfaO 67 3 4 lo hi w' v (markD k d) ∧ Only lo hi w w':=by
 obtain ⟨u1,u2,rfl,g1,g2⟩:=h
 have hb:Below w.heap.size w (w.alloc (.cells #[u1,u2] 25)):=(Below.refl _ _).alloc (Nat.le_refl _) _
 have x0:=Bx.new w #[u1,u2] 25
 have f1:=g1.below hb
 have f2:=Own.below g2 hb
 have Hon:Hid (Only lo hi w (w.alloc (.cells #[u1,u2] 25))):=qh (Only.of_below hb)
 have Hx0:=qh x0;clear x0
 have Hf1:=qh f1;clear f1
 have Hf2:=qh f2;clear f2
 clear g1 g2 hb
 go_enter Tryz.func13, Tryz.ntmps13
 go_wp2_with fail
 refine (markIntSS_any d.next k lo hi _ _ hk0 (by omega) hx hs Hf1.out).mono ?_
 rintro e w2 ⟨rfl,ho2,ht2⟩
 have y0:=Hx0.out.touch ht2 (by decide)
 have g2:=Hf2.out.touch ht2 (by decide)
 have hon:=Hon.out.trans ht2.only
 have c1:=y0.cell 1
 simp only [List.getElem?_toArray,List.getElem?_cons_zero,List.getElem?_cons_succ] at c1
 have Hho2:=qh ho2;clear ho2
 have Hht2:=qh ht2;clear ht2
 have Hy0:=qh y0;clear y0
 have Hg2:=qh g2;clear g2
 have Hhon:=qh hon;clear hon
 go_wp2_with fail
 refine (markBools_any d.ends (k+sumLen d.next) lo hi _ _ (by omega) (by omega) he Hg2.out).mono ?_
 rintro e w3 ⟨rfl,ho3,hg3⟩
 have Hho3:=qh ho3;clear ho3
 have Hhg3:=qh hg3;clear hg3
 go_wp2
 go_ret
 have ht3:=Touch.of_grown Hg2.out Hhg3.out
 refine ⟨ret_int (by unfold totD;push_cast;omega),⟨_,_,rfl,?_,Hho3.out⟩,Hhon.out.trans ht3.only⟩
 obtain ⟨vs,a1,a2,a3⟩:=Hho2.out
 exact ⟨vs,a1.touch ht3 (by decide),fun i hi => Own.touch (a2 i hi) ht3 (by decide),a3⟩
theorem heldDfa_any (d:DfaD) (k:Int) (B:Nat) (v:Value) (w:World) (hk0:0 ≤ k) (hk1:k ≤ 4000000000) (hx:d.next.length ≤ 100000000) (hs:sumLen d.next ≤ 100000000) (he:d.ends.length ≤ 100000000) (h:DfaR B w v (markD k d)) :
  Calls Tryz.prog 14 #[v,.int .i64 k] w fun en w' => en = .returned (.int .i64 (k+totD d)) ∧ Below w.heap.size w w':=by
 obtain ⟨u1,u2,rfl,g1,g2⟩:=h
 have hb:Below w.heap.size w (w.alloc (.cells #[u1,u2] 25)):=(Below.refl _ _).alloc (Nat.le_refl _) _
 have x0:=Bx.new w #[u1,u2] 25
 have f1:=g1.below hb
 have f2:=g2.below hb
 have c1:=x0.cell 1
 simp only [List.getElem?_toArray,List.getElem?_cons_zero,List.getElem?_cons_succ] at c1
 have hq:0 ≤ k+(sumLen d.next:Int):=by omega
 have hq2:0 ≤ k+(sumLen d.next:Int)+(d.ends.length:Int):=by omega
 have Hf1:=qh f1;clear f1
 have Hf2:=qh f2;clear f2
 have Hhb:=qh hb;clear hb
 clear g1 g2 x0
 go_enter Tryz.func14, Tryz.ntmps14
 go_wp2_with fail
 refine (heldIntSS_any d.next k B _ _ hk0 (by omega) hx hs Hf1.out).mono ?_
 rintro e w2 ⟨rfl,rfl⟩
 go_wp2_with fail
 refine (heldBools_any d.ends.length (k+sumLen d.next) B _ _ (by omega) (by omega) he Hf2.out).mono ?_
 rintro e w3 ⟨rfl,rfl⟩
 go_wp2
 go_ret
 exact ⟨ret_int (by unfold totD;push_cast;omega),Hhb.out⟩
end Go.Proofs.YtfgpkadhegdffaaGreat
