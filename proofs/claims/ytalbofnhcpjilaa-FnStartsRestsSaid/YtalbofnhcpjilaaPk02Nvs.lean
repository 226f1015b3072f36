/-
  States met in breadth, letter by letter, with the words that lead to them: the plain meaning of the program's and of the reference's searches.
  No condition: this text speaks of no program.
  A map from things to their places in a list.
  No condition: this text speaks of no program.
  The first of the things met that ends, and its word: plain laws; the same for the numbered automaton.
  No condition: this text speaks of no program.
-/
import Derived.Test.YtalbofnhcpjilaaPk01Dvi
namespace Go.Proofs.Ytalbofnhcpjilaa
structure Bs (α : Type) where
 met : List α
 words : List (List Nat)
section
variable {α : Type} [DecidableEq α]
def bvisit (nx : α → Nat → α) (x : α) (wd : List Nat) (s : Bs α) (c : Nat) : Bs α :=
 if nx x c ∈ s.met then s else ⟨s.met ++ [nx x c], s.words ++ [wd ++ [c]]⟩
def brow (nx : α → Nat → α) (x : α) (wd : List Nat) (s : Bs α) : Nat → Bs α
 | 0 => s
 | n + 1 => bvisit nx x wd (brow nx x wd s n) n
def bat (nx : α → Nat → α) (a : α) : Nat → Bs α
 | 0 => ⟨[a], [[]]⟩
 | k + 1 => if k < (bat nx a k).met.length then brow nx ((bat nx a k).met.getD k a) ((bat nx a k).words.getD k []) (bat nx a k) 3 else bat nx a k
def bpart (nx : α → Nat → α) (a : α) (k n : Nat) : Bs α := brow nx ((bat nx a k).met.getD k a) ((bat nx a k).words.getD k []) (bat nx a k) n
variable {nx : α → Nat → α} {a : α}
theorem bpart_zero (k : Nat) : bpart nx a k 0 = bat nx a k := rfl
theorem bat_succ {k : Nat} (h : k < (bat nx a k).met.length) : bat nx a (k + 1) = bpart nx a k 3 := by
 simp only [bat, if_pos h]
 rfl
theorem bat_stay {k : Nat} (h : (bat nx a k).met.length ≤ k) : bat nx a (k + 1) = bat nx a k := by
 simp only [bat, if_neg (show ¬ k < (bat nx a k).met.length by omega)]
theorem bpart_succ (k n : Nat) : bpart nx a k (n + 1) = bvisit nx ((bat nx a k).met.getD k a) ((bat nx a k).words.getD k []) (bpart nx a k n) n := rfl
theorem bpart_old {k n : Nat} (h : nx ((bat nx a k).met.getD k a) n ∈ (bpart nx a k n).met) : bpart nx a k (n + 1) = bpart nx a k n := by
 rw [bpart_succ, bvisit, if_pos h]
theorem bpart_new {k n : Nat} (h : nx ((bat nx a k).met.getD k a) n ∉ (bpart nx a k n).met) : bpart nx a k (n + 1) = ⟨(bpart nx a k n).met ++ [nx ((bat nx a k).met.getD k a) n], (bpart nx a k n).words ++ [(bat nx a k).words.getD k [] ++ [n]]⟩ := by
 rw [bpart_succ, bvisit, if_neg h]
theorem brow_ind (Q : Bs α → Prop) {x : α} {wd : List Nat} {s : Bs α} (hs : Q s) (hv : ∀ t c, c < 3 → Q t → Q (bvisit nx x wd t c)) : ∀ n, n ≤ 3 → Q (brow nx x wd s n)
 | 0, _ => hs
 | n + 1, h => hv _ n (by omega) (brow_ind Q hs hv n (by omega))
theorem bat_ind (Q : Bs α → Prop) (h0 : Q ⟨[a], [[]]⟩) (hv : ∀ s k, k < s.met.length → ∀ t c, c < 3 → Q s → Q t → Q (bvisit nx (s.met.getD k a) (s.words.getD k []) t c)) : ∀ k, Q (bat nx a k)
 | 0 => h0
 | k + 1 => by
  have ih := bat_ind Q h0 hv k
  by_cases h : k < (bat nx a k).met.length
  ·rw [bat_succ h]
   exact brow_ind Q ih (fun t c hc ht => hv _ k h t c hc ih ht) 3 (by omega)
  ·rw [bat_stay (by omega)]
   exact ih
theorem bpart_ind (Q : Bs α → Prop) (h0 : Q ⟨[a], [[]]⟩) (hv : ∀ s k, k < s.met.length → ∀ t c, c < 3 → Q s → Q t → Q (bvisit nx (s.met.getD k a) (s.words.getD k []) t c)) {k n : Nat} (hk : k < (bat nx a k).met.length) (hn : n ≤ 3) : Q (bpart nx a k n) :=
 brow_ind Q (bat_ind Q h0 hv k) (fun t c hc ht => hv _ k hk t c hc (bat_ind Q h0 hv k) ht) n hn
omit [DecidableEq α] in
theorem nodup_snoc {l : List α} {x : α} (h : l.Nodup) (hx : x ∉ l) : (l ++ [x]).Nodup := by
 rw [List.nodup_append]
 refine ⟨h, by simp, ?_⟩
 intro b hb c hc
 simp only [List.mem_singleton] at hc
 subst hc
 intro e
 subst e
 exact hx hb
theorem bvisit_good (x : α) (wd : List Nat) {t : Bs α} (c : Nat) (h : t.met.Nodup ∧ t.words.length = t.met.length ∧ t.met.head? = some a) :
  (bvisit nx x wd t c).met.Nodup ∧ (bvisit nx x wd t c).words.length = (bvisit nx x wd t c).met.length ∧ (bvisit nx x wd t c).met.head? = some a := by
 unfold bvisit
 split
 ·exact h
 ·rename_i hx
  obtain ⟨h1, h2, h3⟩ := h
  exact ⟨nodup_snoc h1 hx, by simp [h2], by simp [h3]⟩
theorem bat_good (k : Nat) : (bat nx a k).met.Nodup ∧ (bat nx a k).words.length = (bat nx a k).met.length ∧ (bat nx a k).met.head? = some a :=
 bat_ind (fun s => s.met.Nodup ∧ s.words.length = s.met.length ∧ s.met.head? = some a) (by simp) (fun s k _ t c _ _ ht => bvisit_good _ _ _ ht) k
theorem bpart_good {k n : Nat} (hk : k < (bat nx a k).met.length) (hn : n ≤ 3) : (bpart nx a k n).met.Nodup ∧ (bpart nx a k n).words.length = (bpart nx a k n).met.length ∧ (bpart nx a k n).met.head? = some a :=
 bpart_ind (fun s => s.met.Nodup ∧ s.words.length = s.met.length ∧ s.met.head? = some a) (by simp) (fun s k _ t c _ _ ht => bvisit_good _ _ _ ht) hk hn
theorem bat_pos (k : Nat) : 0 < (bat nx a k).met.length := by
 have := (bat_good (nx := nx) (a := a) k).2.2
 cases h : (bat nx a k).met with
 | nil => rw [h] at this; simp at this
 | cons => simp
theorem bat_first (k : Nat) : (bat nx a k).met.getD 0 a = a := by
 have := (bat_good (nx := nx) (a := a) k).2.2
 cases h : (bat nx a k).met with
 | nil => rw [h] at this; simp at this
 | cons => rw [h] at this; simpa using this
theorem bat_all {Q : α → Prop} (h0 : Q a) (hv : ∀ x c, c < 3 → Q x → Q (nx x c)) (k : Nat) : ∀ x ∈ (bat nx a k).met, Q x := by
 refine bat_ind (fun s => ∀ x ∈ s.met, Q x) (by simpa using h0) (fun s k hk t c hc hs ht => ?_) k
 unfold bvisit
 split
 ·exact ht
 ·intro x hx
  simp only [List.mem_append, List.mem_singleton] at hx
  rcases hx with hx | rfl
  ·exact ht x hx
  ·refine hv _ c hc (hs _ ?_)
   rw [List.getD_eq_getElem?_getD, List.getElem?_eq_getElem hk]
   simp
theorem bpart_all {Q : α → Prop} (h0 : Q a) (hv : ∀ x c, c < 3 → Q x → Q (nx x c)) {k n : Nat} (hk : k < (bat nx a k).met.length) (hn : n ≤ 3) : ∀ x ∈ (bpart nx a k n).met, Q x := by
 refine bpart_ind (fun s => ∀ x ∈ s.met, Q x) (by simpa using h0) (fun s k hk t c hc hs ht => ?_) hk hn
 unfold bvisit
 split
 ·exact ht
 ·intro x hx
  simp only [List.mem_append, List.mem_singleton] at hx
  rcases hx with hx | rfl
  ·exact ht x hx
  ·refine hv _ c hc (hs _ ?_)
   rw [List.getD_eq_getElem?_getD, List.getElem?_eq_getElem hk]
   simp
def Bs.le (s t : Bs α) : Prop := s.met <+: t.met ∧ s.words <+: t.words
omit [DecidableEq α] in
theorem Bs.le_refl (s : Bs α) : s.le s := ⟨List.prefix_rfl, List.prefix_rfl⟩
omit [DecidableEq α] in
theorem Bs.le_trans {s t u : Bs α} (h : s.le t) (k : t.le u) : s.le u := ⟨h.1.trans k.1, h.2.trans k.2⟩
theorem bvisit_le (x : α) (wd : List Nat) (s : Bs α) (c : Nat) : s.le (bvisit nx x wd s c) := by
 unfold bvisit
 split
 ·exact Bs.le_refl _
 ·exact ⟨List.prefix_append _ _, List.prefix_append _ _⟩
theorem brow_le (x : α) (wd : List Nat) (s : Bs α) (n m : Nat) (h : n ≤ m) : (brow nx x wd s n).le (brow nx x wd s m) := by
 induction m with
 | zero => obtain rfl : n = 0 := by omega
           exact Bs.le_refl _
 | succ m ih =>
  by_cases hn : n = m + 1
  ·subst hn; exact Bs.le_refl _
  ·exact Bs.le_trans (ih (by omega)) (bvisit_le _ _ _ _)
theorem bpart_le {k n m : Nat} (h : n ≤ m) : (bpart nx a k n).le (bpart nx a k m) := brow_le _ _ _ n m h
theorem bat_le_succ (k : Nat) : (bat nx a k).le (bat nx a (k + 1)) := by
 by_cases h : k < (bat nx a k).met.length
 ·rw [bat_succ h]
  exact brow_le _ _ _ 0 3 (by omega)
 ·rw [bat_stay (by omega)]
  exact Bs.le_refl _
theorem bat_le {k m : Nat} (h : k ≤ m) : (bat nx a k).le (bat nx a m) := by
 induction m with
 | zero => obtain rfl : k = 0 := by omega
           exact Bs.le_refl _
 | succ m ih =>
  by_cases hn : k = m + 1
  ·subst hn; exact Bs.le_refl _
  ·exact Bs.le_trans (ih (by omega)) (bat_le_succ _)
theorem bpart_le_bat {k n m : Nat} (hk : k < (bat nx a k).met.length) (hn : n ≤ 3) (hm : k < m) : (bpart nx a k n).le (bat nx a m) := by
 have h1 : (bpart nx a k n).le (bat nx a (k + 1)) := by rw [bat_succ hk]; exact bpart_le hn
 exact Bs.le_trans h1 (bat_le hm)
theorem bat_done {k m : Nat} (h : (bat nx a k).met.length ≤ k) (hm : k ≤ m) : bat nx a m = bat nx a k := by
 induction m with
 | zero => obtain rfl : k = 0 := by omega
           rfl
 | succ m ih =>
  by_cases hn : k = m + 1
  ·subst hn; rfl
  ·have e := ih (by omega)
   rw [bat_stay (by rw [e]; omega), e]
def placeOf (l : List α) (x : α) : Nat := l.idxOf x
theorem placeOf_lt {l : List α} {x : α} (h : x ∈ l) : placeOf l x < l.length := List.idxOf_lt_length_iff.2 h
omit [DecidableEq α] in
theorem prefix_getD {l m : List α} (h : l <+: m) {k : Nat} (hk : k < l.length) (d : α) : m.getD k d = l.getD k d := by
 obtain ⟨t, rfl⟩ := h
 simp [List.getElem?_append_left hk]
theorem prefix_idx {l m : List α} (h : l <+: m) {x : α} (hx : x ∈ l) : placeOf m x = placeOf l x := by
 obtain ⟨t, rfl⟩ := h
 unfold placeOf
 rw [List.idxOf_append, if_pos hx]
theorem idx_snoc {l m : List α} {x : α} (h : l ++ [x] <+: m) (hx : x ∉ l) : placeOf m x = l.length := by
 rw [prefix_idx h (by simp)]
 unfold placeOf
 rw [List.idxOf_append, if_neg hx]
 simp
theorem idx_getD {l : List α} {k : Nat} (hk : k < l.length) (hn : l.Nodup) (d : α) : placeOf l (l.getD k d) = k := by
 unfold placeOf
 rw [List.getD_eq_getElem?_getD, List.getElem?_eq_getElem hk]
 simp [hn]
theorem getD_idx {l : List α} {x : α} (hx : x ∈ l) (d : α) : l.getD (placeOf l x) d = x := by
 unfold placeOf
 rw [List.getD_eq_getElem?_getD, List.getElem?_eq_getElem (List.idxOf_lt_length_iff.2 hx)]
 simp
theorem bpart_mem {k n c : Nat} (hc : c < n) : nx ((bat nx a k).met.getD k a) c ∈ (bpart nx a k n).met := by
 have h1 : nx ((bat nx a k).met.getD k a) c ∈ (bpart nx a k (c + 1)).met := by
  by_cases h : nx ((bat nx a k).met.getD k a) c ∈ (bpart nx a k c).met
  ·rw [bpart_old h]; exact h
  ·rw [bpart_new h]; simp
 exact (bpart_le (nx := nx) (a := a) (k := k) (show c + 1 ≤ n by omega)).1.subset h1
theorem nodup_le {l m : List α} (hn : l.Nodup) (hs : ∀ x ∈ l, x ∈ m) : l.length ≤ m.length := by
 induction l generalizing m with
 | nil => simp
 | cons x l ih =>
  rw [List.nodup_cons] at hn
  have h1 := ih (m := m.erase x) hn.2 fun y hy => (List.mem_erase_of_ne (fun e => hn.1 (by rw [← e]; exact hy))).2 (hs y (by simp [hy]))
  have h2 := List.length_erase_of_mem (hs x (by simp))
  have h3 := List.length_pos_of_mem (hs x (by simp))
  simp only [List.length_cons]
  omega
end
def numNext {α : Type} [DecidableEq α] (nx : α → Nat → α) (a : α) (F : List α) (s : Int) (c : Nat) : Int := placeOf F (nx (F.getD s.toNat a) c)
def upInts (n : Nat) : List Int := (List.range n).map Int.ofNat
theorem upInts_succ (n : Nat) : upInts (n + 1) = upInts n ++ [(n : Int)] := by simp [upInts, List.range_succ]
theorem mem_upInts {n : Nat} {x : Nat} : (x : Int) ∈ upInts n ↔ x < n := by
 simp only [upInts, List.mem_map, List.mem_range]
 constructor
 ·rintro ⟨y, hy, e⟩
  have e2 : (y : Int) = (x : Int) := e
  omega
 ·intro h
  exact ⟨x, h, rfl⟩
theorem upInts_getD {n k : Nat} (h : k < n) : (upInts n).getD k 0 = (k : Int) := by simp [upInts, h]
theorem upInts_len (n : Nat) : (upInts n).length = n := by simp [upInts]
theorem num_sim {α : Type} [DecidableEq α] (nx : α → Nat → α) (a : α) (K : Nat) : ∀ k, k ≤ K →
  bat (numNext nx a (bat nx a K).met) 0 k = ⟨upInts (bat nx a k).met.length, (bat nx a k).words⟩
 | 0, _ => rfl
 | k + 1, hK => by
  have ih := num_sim nx a K k (by omega)
  have hlen : (bat (numNext nx a (bat nx a K).met) 0 k).met.length = (bat nx a k).met.length := by rw [ih]; exact upInts_len _
  by_cases h : k < (bat nx a k).met.length
  ·rw [bat_succ h, bat_succ (by rw [hlen]; exact h)]
   have hrow : ∀ n, n ≤ 3 → bpart (numNext nx a (bat nx a K).met) 0 k n = ⟨upInts (bpart nx a k n).met.length, (bpart nx a k n).words⟩ := by
    intro n
    induction n with
    | zero => intro _; rw [bpart_zero, bpart_zero]; exact ih
    | succ n ihn =>
     intro hn
     have e := ihn (by omega)
     have hx : (bat (numNext nx a (bat nx a K).met) 0 k).met.getD k 0 = (k : Int) := by rw [ih]; exact upInts_getD h
     have hF : (bat nx a K).met.getD k a = (bat nx a k).met.getD k a := prefix_getD (bat_le (show k ≤ K by omega)).1 h a
     have hnx : numNext nx a (bat nx a K).met (k : Int) n = (placeOf (bat nx a K).met (nx ((bat nx a k).met.getD k a) n) : Int) := by
      unfold numNext
      rw [show ((k : Int).toNat) = k from rfl, hF]
     by_cases hm : nx ((bat nx a k).met.getD k a) n ∈ (bpart nx a k n).met
     ·rw [bpart_old hm]
      have hi := prefix_idx (bpart_le_bat (m := K) h (show n ≤ 3 by omega) (by omega)).1 hm
      have hlt : placeOf (bat nx a K).met (nx ((bat nx a k).met.getD k a) n) < (bpart nx a k n).met.length := by rw [hi]; exact placeOf_lt hm
      rw [bpart_old (by rw [hx, hnx, e]; exact mem_upInts.2 hlt), e]
     ·have hb := bpart_le_bat (nx := nx) (a := a) (m := K) h hn (by omega)
      rw [bpart_new hm] at hb
      have hi := idx_snoc hb.1 hm
      rw [bpart_new (by rw [hx, hnx, e, hi]; simp [mem_upInts]), bpart_new hm, hx, hnx, hi, e, ih]
      simp [upInts_succ]
   exact hrow 3 (by omega)
  ·rw [bat_stay (k := k) (a := a) (by omega), bat_stay (by rw [hlen]; omega)]
   exact ih
end Go.Proofs.Ytalbofnhcpjilaa
namespace Go.Proofs.Ytalbofnhcpjilaa
open Go.RowKit
section
variable {α : Type} [DecidableEq α]
def numbered (l : List α) : List (α × Value) := l.zipIdx.map fun p => (p.1, Value.int .i64 (p.2 : Int))
omit [DecidableEq α] in
theorem numbered_snoc (l : List α) (x : α) : numbered (l ++ [x]) = numbered l ++ [(x, Value.int .i64 (l.length : Int))] := by simp [numbered, List.zipIdx_append]
omit [DecidableEq α] in
theorem numbered_keys (l : List α) : (numbered l).map (·.1) = l := by
 simp only [numbered, List.map_map]
 have : ((fun x : α × Value => x.1) ∘ fun p : α × Nat => (p.1, Value.int .i64 (p.2 : Int))) = Prod.fst := rfl
 rw [this, List.zipIdx_map_fst]
theorem look_numbered {l : List α} (hn : l.Nodup) {x : α} (hx : x ∈ l) : look x (numbered l) = some (.int .i64 (placeOf l x : Int)) := by
 refine look_hit (by rw [numbered_keys]; exact hn) (j := placeOf l x) ?_
 have hlt := List.idxOf_lt_length_iff.2 hx
 unfold placeOf
 simp only [numbered, List.getElem?_map, List.getElem?_zipIdx, List.getElem?_eq_getElem hlt, Option.map_some, Nat.zero_add, List.getElem_idxOf]
theorem look_unnumbered {l : List α} {x : α} (hx : x ∉ l) : look x (numbered l) = none :=
 look_miss fun p hp e => hx (by rw [← numbered_keys l, ← e]; exact List.mem_map.2 ⟨p, hp, rfl⟩)
theorem upd_unnumbered {l : List α} {x : α} (hx : x ∉ l) : upd x (.int .i64 (l.length : Int)) (numbered l) = numbered (l ++ [x]) := by
 rw [numbered_snoc]
 exact upd_miss fun p hp e => hx (by rw [← numbered_keys l, ← e]; exact List.mem_map.2 ⟨p, hp, rfl⟩)
end
end Go.Proofs.Ytalbofnhcpjilaa
namespace Go.Proofs.Ytalbofnhcpjilaa
open Go.RowKit
theorem memD {α : Type} {xs : List α} {k : Nat} {d : α} (h : k < xs.length) : xs.getD k d ∈ xs := by
 rw [List.getD_eq_getElem?_getD, List.getElem?_eq_getElem h]
 simp
theorem getD_at {α : Type} {xs : List α} {k : Nat} {d : α} (h : k < xs.length) : xs.getD k d = xs[k] := by simp [h]
def dnx (d : DfaD) (s : Int) (c : Nat) : Int := (d.next.getD s.toNat []).getD c 0
def den (d : DfaD) (s : Int) : Bool := d.ends.getD s.toNat false
def firstHit {α : Type} (en : α → Bool) (s : Bs α) : Option (List Nat) := ((s.met.zip s.words).find? fun p => en p.1).map (·.2)
def fine (d : DfaD) : Prop := 1 ≤ d.next.length ∧ d.next.length ≤ 100000 ∧ d.ends.length = d.next.length ∧ ∀ i, i < d.next.length → (d.next.getD i []).length = 3 ∧ ∀ c, c < 3 → 0 ≤ (d.next.getD i []).getD c 0 ∧ (d.next.getD i []).getD c 0 < d.next.length
section
variable {α : Type} [DecidableEq α] {nx nx' : α → Nat → α} {a : α}
theorem brow_congr {x : α} {wd : List Nat} {s : Bs α} (h : ∀ c, c < 3 → nx x c = nx' x c) : ∀ n, n ≤ 3 → brow nx x wd s n = brow nx' x wd s n
 | 0, _ => rfl
 | n + 1, hn => by
  show bvisit nx x wd (brow nx x wd s n) n = bvisit nx' x wd (brow nx' x wd s n) n
  rw [brow_congr h n (by omega)]
  unfold bvisit
  rw [h n (by omega)]
theorem bat_congr {Q : α → Prop} (h0 : Q a) (hv : ∀ x c, c < 3 → Q x → Q (nx x c)) (he : ∀ x c, c < 3 → Q x → nx x c = nx' x c) : ∀ k, bat nx a k = bat nx' a k
 | 0 => rfl
 | k + 1 => by
  have ih := bat_congr h0 hv he k
  by_cases h : k < (bat nx a k).met.length
  ·rw [bat_succ h, bat_succ (by rw [← ih]; exact h)]
   unfold bpart
   rw [← ih]
   exact brow_congr (fun c hc => he _ c hc (bat_all h0 hv k _ (memD h))) 3 (by omega)
  ·rw [bat_stay (by omega), bat_stay (by rw [← ih]; omega), ih]
theorem bat_closed {K : Nat} (hK : (bat nx a K).met.length ≤ K) {x : α} (hx : x ∈ (bat nx a K).met) {c : Nat} (hc : c < 3) : nx x c ∈ (bat nx a K).met := by
 obtain ⟨k, hk, rfl⟩ := List.mem_iff_getElem.1 hx
 have hkk : k < (bat nx a k).met.length := by
  by_cases h : k < (bat nx a k).met.length
  ·exact h
  ·have := bat_done (nx := nx) (a := a) (k := k) (m := K) (by omega) (by omega)
   rw [this] at hk
   omega
 have e : (bat nx a K).met[k] = (bat nx a k).met.getD k a := by
  rw [← prefix_getD (bat_le (nx := nx) (a := a) (show k ≤ K by omega)).1 hkk a, getD_at hk]
 rw [e]
 exact (bpart_le_bat (nx := nx) (a := a) hkk (Nat.le_refl 3) (show k < K by omega)).1.subset (bpart_mem hc)
theorem bat_wlen : ∀ k : Nat, ∀ wd ∈ (bat nx a k).words, wd.length ≤ k
 | 0, wd, h => by simp [bat] at h; simp [h]
 | k + 1, wd, h => by
  have ih := bat_wlen k
  by_cases hk : k < (bat nx a k).met.length
  ·rw [bat_succ hk] at h
   have hg := (bat_good (nx := nx) (a := a) k).2.1
   refine brow_ind (fun t => ∀ wd ∈ t.words, wd.length ≤ k + 1) (fun wd h => Nat.le_succ_of_le (ih wd h)) (fun t c _ ht => ?_) 3 (Nat.le_refl 3) wd h
   unfold bvisit
   split
   ·exact ht
   ·intro v hv
    simp only [List.mem_append, List.mem_singleton] at hv
    rcases hv with hv | rfl
    ·exact ht v hv
    ·have := ih _ (memD (d := []) (show k < (bat nx a k).words.length by omega))
     simpa using this
  ·rw [bat_stay (by omega)] at h
   exact Nat.le_succ_of_le (ih wd h)
theorem bat_mem_first (K : Nat) : a ∈ (bat nx a K).met := by
 have h := memD (d := a) (bat_pos (nx := nx) (a := a) K)
 rwa [bat_first] at h
def numRow (nx : α → Nat → α) (F : List α) (x : α) : List Int := (List.range 3).map fun c => (placeOf F (nx x c) : Int)
def numDfa (nx : α → Nat → α) (en : α → Bool) (F : List α) : DfaD := ⟨F.map (numRow nx F), F.map en⟩
theorem numDfa_len (nx : α → Nat → α) (en : α → Bool) (F : List α) : (numDfa nx en F).next.length = F.length := by simp [numDfa]
theorem numDfa_row {en : α → Bool} {F : List α} {i : Nat} (hi : i < F.length) : (numDfa nx en F).next.getD i [] = numRow nx F (F.getD i a) := by
 simp [numDfa, List.getElem?_eq_getElem hi]
theorem numRow_at {F : List α} {x : α} {c : Nat} (hc : c < 3) : (numRow nx F x).getD c 0 = (placeOf F (nx x c) : Int) := by
 simp [numRow, hc]
theorem dnx_num {en : α → Bool} {F : List α} {s : Int} {c : Nat} (h0 : 0 ≤ s) (h1 : s < F.length) (hc : c < 3) : dnx (numDfa nx en F) s c = numNext nx a F s c := by
 unfold dnx numNext
 rw [numDfa_row (a := a) (by omega), numRow_at hc]
theorem den_num {en : α → Bool} {F : List α} {i : Nat} (hi : i < F.length) : den (numDfa nx en F) (i : Int) = en F[i] := by
 simp [den, numDfa, hi]
theorem fine_num {en : α → Bool} {K : Nat} (hK : (bat nx a K).met.length ≤ K) (hK2 : K ≤ 100000) : fine (numDfa nx en (bat nx a K).met) := by
 refine ⟨?_, ?_, ?_, fun i hi => ?_⟩
 ·rw [numDfa_len]; exact bat_pos K
 ·rw [numDfa_len]; omega
 ·simp [numDfa]
 ·rw [numDfa_len] at hi
  rw [numDfa_row (a := a) hi]
  refine ⟨by simp [numRow], fun c hc => ?_⟩
  rw [numRow_at hc, numDfa_len]
  exact ⟨by omega, by exact_mod_cast placeOf_lt (bat_closed hK (memD hi) hc)⟩
end
def BoolSS (B : Nat) (w : World) (v : Value) (xss : List (List Bool)) : Prop :=
 ∃ vs : List Value, Sl B w v xss.length 1 vs ∧ ∀ i, i < xss.length → Bools B w (vs.getD i undef) (xss.getD i [])
theorem BoolSS.below {B : Nat} {w w' : World} {v : Value} {xss : List (List Bool)} (h : BoolSS B w v xss) (he : Below w.heap.size w w') : BoolSS B w' v xss := by
 obtain ⟨vs, h1, h2⟩ := h
 exact ⟨vs, h1.below he, fun i hi => (h2 i hi).below he⟩
theorem BoolSS.form {B : Nat} {w : World} {v : Value} {xss : List (List Bool)} (h : BoolSS B w v xss) : ∃ a cap, v = .slice a xss.length cap ∧ xss.length ≤ cap ∧ cap ≤ 9223372036854775807 ∧
  (0 < xss.length → ∃ b off, a = some ⟨b, off, none⟩ ∧ b < w.heap.size ∧ ∀ i, i < xss.length → ∃ a' cap', w.cell? ⟨b, off + i, none⟩ = some (.slice a' (xss.getD i []).length cap') ∧ Bools B w (.slice a' (xss.getD i []).length cap') (xss.getD i [])) := by
 obtain ⟨vs, ⟨hl, a, cap, hv, h1, h2, h3⟩, hr⟩ := h
 refine ⟨a, cap, hv, h1, h2, fun hn => ?_⟩
 obtain ⟨b, off, ha, hb, hlt, hc⟩ := h3 hn
 refine ⟨b, off, ha, hlt, fun i hi => ?_⟩
 obtain ⟨a', cap', hv', -⟩ := (hr i hi).form
 refine ⟨a', cap', ?_, ?_⟩
 ·rw [hc i (by omega), ← hv']
  simp at hl
  simp [show i < vs.length by omega]
 ·rw [← hv']
  exact hr i hi
theorem St.boolSS {w0 w : World} {L : List Ent} (h : St w0 w L) (i : Nat) {es e : Nat} {v : Value} {vs : List Value} {xss : List (List Bool)} (hx : L[i]? = some (Ent.rows es e v vs (xss.map boolCells))) : BoolSS 0 w v xss := by
 obtain ⟨p1, p2, -⟩ := h.rows i hx
 rw [List.length_map] at p1 p2
 refine ⟨vs, ((own_of_row p1).sl (by omega)).mono (Nat.zero_le _), fun i hi => ?_⟩
 have := p2 i hi
 have e1 : (xss.map boolCells).getD i [] = boolCells (xss.getD i []) := by simp [hi]
 rw [e1] at this
 have := ((own_of_row this).sl (by omega)).mono (Nat.zero_le _)
 simpa [Bools] using this
theorem St.bools {w0 w : World} {L : List Ent} (h : St w0 w L) (i : Nat) {e : Nat} {v : Value} {xs : List Bool} {n : Nat} (hx : L[i]? = some (Ent.row e 1 v n (boolCells xs))) : Bools 0 w v xs := by
 have hr := h.row i hx
 have e1 : n = xs.length := by have := hr.1; simp at this; omega
 subst e1
 exact ((own_of_row hr).sl (by omega)).mono (Nat.zero_le _)
theorem St.intsR {w0 w : World} {L : List Ent} (h : St w0 w L) (i : Nat) {e : Nat} {v : Value} {xs : List Int} {n : Nat} (hx : L[i]? = some (Ent.row e 1 v n (intCells xs))) : Ints 0 w v xs := by
 have hr := h.row i hx
 have e1 : n = xs.length := by have := hr.1; simp at this; omega
 subst e1
 exact ((own_of_row hr).sl (by omega)).mono (Nat.zero_le _)
theorem bools_of_row {w : World} {B e n : Nat} {v : Value} {xs : List Bool} (hr : w.ownsRow B e 1 v n (boolCells xs)) : Bools 0 w v xs := by
 have e1 : n = xs.length := by have := hr.1; simp at this; omega
 subst e1
 exact ((own_of_row hr).sl (by omega)).mono (Nat.zero_le _)
theorem boolsB_of_row {w : World} {B e n : Nat} {v : Value} {xs : List Bool} (hr : w.ownsRow B e 1 v n (boolCells xs)) : Bools B w v xs := by
 have e1 : n = xs.length := by have := hr.1; simp at this; omega
 subst e1
 exact (own_of_row hr).sl (by omega)
theorem St.rowAt {w0 w : World} {L : List Ent} (h : St w0 w L) (i : Nat) {es e g n cap : Nat} {vs : List Value} {css : List (List Value)} (hx : L[i]? = some (Ent.rows es e (.slice (some ⟨g, 0, none⟩) n cap) vs css)) (hn : css.length = n) {k : Nat} (hk : k < n) :
  ∃ a c, w.cell? ⟨g, k, none⟩ = some (.slice a (css.getD k []).length c) ∧ w.ownsRow w0.heap.size e 1 (.slice a (css.getD k []).length c) (css.getD k []).length (css.getD k []) ∧ (css.getD k []).length ≤ c ∧ c ≤ 9223372036854775807 ∧ n ≤ cap ∧ cap ≤ 9223372036854775807 ∧ g < w.heap.size := by
 obtain ⟨p1, p2, -⟩ := h.rows i hx
 subst hn
 have hv : vs.length = css.length := by have := p1.1; omega
 have h2 := p2 k hk
 have hc := p1.cellAt k (by omega)
 have hgl := (p1.lt g rfl).2
 obtain ⟨a, c, hva, h3, h4⟩ : ∃ a c, vs.getD k undef = .slice a (css.getD k []).length c ∧ (css.getD k []).length ≤ c ∧ c ≤ 9223372036854775807 := by
  rcases h2.2 with ⟨h5, h6⟩ | ⟨g', cap', cur, h5, -, -, h6, h7, -⟩
  ·exact ⟨none, 0, by rw [h5, h6], by omega, by omega⟩
  ·exact ⟨_, _, h5, h6, h7⟩
 rw [hva] at h2
 refine ⟨a, c, ?_, h2, h3, h4, ?_⟩
 ·rw [hc, ← hva]
  simp [show k < vs.length by omega]
 ·rcases p1.2 with ⟨h5, -⟩ | ⟨g', cap', cur, h5, -, -, h6, h7, -⟩
  ·cases h5
  ·simp only [Value.slice.injEq, true_and] at h5
   obtain ⟨-, rfl⟩ := h5
   exact ⟨h6, h7, hgl⟩
set_option maxHeartbeats 1600000 in
theorem l9Same_any (xs ys : List Bool) (n : Nat) (v1 v2 : Value) (w : World) (hx : xs.length = n) (hy : ys.length = n) (h1 : Bools 0 w v1 xs) (h2 : Bools 0 w v2 ys) (r : Bool) (hr : decide (xs = ys) = r) :
  Calls Try.prog 157 #[v1, v2] w fun e w' => e = .returned (.bool r) ∧ Below w.heap.size w w' := by
 obtain ⟨a1, c1, rfl, hc1, hm1, hr1⟩ := h1.form
 obtain ⟨a2, c2, rfl, hc2, hm2, hr2⟩ := h2.form
 rw [hx] at hc1 hr1
 rw [hy] at hc2 hr2
 rw [hx, hy]
 have Hhx := Lib.hid hx; clear hx
 have Hhy := Lib.hid hy; clear hy
 have Hhr := Lib.hid hr; clear hr
 clear h1 h2
 go_enter Try.func157, Try.ntmps157
 go_wp2
 go_loopw [4, 5] (fun r i wr => ∃ k : Nat, k ≤ n ∧ i = .int .i64 k ∧ xs.take k = ys.take k ∧ Below w.heap.size w wr) (fun _ i _ => n - (intOf i).toNat)
 case atStart => exact ⟨0, Nat.zero_le _, rfl, rfl, Below.refl _ _⟩
 case round =>
  obtain ⟨k, hk, rfl, htk, hb⟩ := hrel
  have Hhtk := Lib.hid htk; clear htk
  by_cases hlt : k < n
  ·obtain ⟨b1, o1, rfl, -, hbl1, hcs1⟩ := hr1 (by omega)
   obtain ⟨b2, o2, rfl, -, hbl2, hcs2⟩ := hr2 (by omega)
   have k1 := (bcell hb b1 (o1 + k) hbl1).trans (hcs1 k hlt)
   have k2 := (bcell hb b2 (o2 + k) hbl2).trans (hcs2 k hlt)
   obtain ⟨p, hp⟩ : ∃ p, p = xs.getD k false := ⟨_, rfl⟩
   obtain ⟨q, hq⟩ : ∃ q, q = ys.getD k false := ⟨_, rfl⟩
   rw [← hp] at k1
   rw [← hq] at k2
   have Hhp := Lib.hid hp; clear hp
   have Hhq := Lib.hid hq; clear hq
   have Hhb := Lib.hid hb; clear hb
   clear hcs1 hcs2 hr1 hr2
   by_cases hpq : p = q
   ·have g1 : (p != q) = false := by simpa using hpq
    have g2 : (!(p == q)) = false := by simpa using hpq
    have Hhpq := Lib.hid hpq; clear hpq
    go_wp2
    go_quiet (fail)
    go_wp2
    go_roundw
    case rel => exact ⟨k + 1, by omega, by go_num, take_snoc_eq (d := false) (by rw [Hhx.out]; exact hlt) (by rw [Hhy.out]; exact hlt) Hhtk.out (by rw [← Hhp.out, ← Hhq.out]; exact Hhpq.out), below_drewN Hhb.out _⟩
    case measure => simp [intOf]; omega
   ·have g1 : (p != q) = true := by simpa using hpq
    have g2 : (!(p == q)) = true := by simpa using hpq
    have Hhpq := Lib.hid hpq; clear hpq
    go_wp2
    go_quiet (fail)
    go_wp2
    go_ret
    exact ⟨by rw [← Hhr.out, decide_eq_false (ne_of_getD (k := k) (d := false) (by rw [← Hhp.out, ← Hhq.out]; exact Hhpq.out))]; rfl, below_drewN Hhb.out _⟩
  ·obtain rfl : k = n := by omega
   have Hhb := Lib.hid hb; clear hb
   clear hr1 hr2
   go_wp2
   go_ret
   refine ⟨?_, Hhb.out⟩
   have h := Hhtk.out
   rw [List.take_of_length_le (by rw [Hhx.out]; exact Nat.le_refl _), List.take_of_length_le (by rw [Hhy.out]; exact Nat.le_refl _)] at h
   rw [← Hhr.out, decide_eq_true h]
   rfl
def findB (S : List (List Bool)) (x : List Bool) : Int := if x ∈ S then (placeOf S x : Int) else -1
theorem findB_at {S : List (List Bool)} {x : List Bool} {k : Nat} (hk : k < S.length) (hn : x ∉ S.take k) (h : S.getD k [] = x) : findB S x = (k : Int) := by
 have hm : x ∈ S := by rw [← h]; exact memD hk
 have hp : S.take k ++ [x] <+: S := by
  rw [← h, show S.getD k [] = S[k] from by simp [hk], ← List.take_succ_eq_append_getElem hk]
  exact List.take_prefix _ _
 have hi := idx_snoc hp hn
 unfold findB
 rw [if_pos hm, hi]
 simp
 omega
theorem findB_none {S : List (List Bool)} {x : List Bool} (h : x ∉ S) : findB S x = -1 := by
 unfold findB
 rw [if_neg h]
theorem take_snoc_mem {α : Type} {S : List α} {k : Nat} (hk : k < S.length) (x : α) {d : α} (h : x ∈ S.take (k + 1)) : x ∈ S.take k ∨ x = S.getD k d := by
 rw [List.take_succ_eq_append_getElem hk, List.mem_append, List.mem_singleton] at h
 rcases h with h | h
 ·exact Or.inl h
 ·right
  rw [h]
  simp [hk]
set_option maxHeartbeats 1600000 in
theorem l9Find_any (S : List (List Bool)) (x : List Bool) (n : Nat) (v1 v2 : Value) (w : World) (hS : ∀ y ∈ S, y.length = n) (hx : x.length = n) (hl : S.length ≤ 1000000) (h1 : BoolSS 0 w v1 S) (h2 : Bools 0 w v2 x) :
  Calls Try.prog 145 #[v1, v2] w fun e w' => e = .returned (.int .i64 (findB S x)) ∧ Below w.heap.size w w' := by
 obtain ⟨a1, c1, rfl, hc1, hm1, hr1⟩ := h1.form
 have H2 := Lib.hid h2
 obtain ⟨a2, c2, rfl, hc2, hm2, -⟩ := h2.form
 have HhS := Lib.hid hS; clear hS
 have Hhx := Lib.hid hx; clear hx
 clear h1 h2
 go_enter Try.func145, Try.ntmps145
 go_wp2
 go_loopw [4, 5] (fun r i wr => ∃ k : Nat, k ≤ S.length ∧ i = .int .i64 k ∧ x ∉ S.take k ∧ Below w.heap.size w wr) (fun _ i _ => S.length - (intOf i).toNat)
 case atStart => exact ⟨0, Nat.zero_le _, rfl, by simp, Below.refl _ _⟩
 case round =>
  obtain ⟨k, hk, rfl, htk, hb⟩ := hrel
  have Hhtk := Lib.hid htk; clear htk
  by_cases hlt : k < S.length
  ·obtain ⟨b1, o1, rfl, hbl1, hcs1⟩ := hr1 (by omega)
   obtain ⟨a3, c3, k1, hrow⟩ := hcs1 k hlt
   replace k1 := (bcell hb b1 (o1 + k) hbl1).trans k1
   have hrow' := hrow.below hb
   have hyl := HhS.out _ (memD (d := []) hlt)
   have hin := fun h => take_snoc_mem (d := []) hlt x h
   obtain ⟨y, hy⟩ : ∃ y, y = S.getD k [] := ⟨_, rfl⟩
   rw [← hy] at k1 hrow' hyl hin
   have Hhrow' := Lib.hid hrow'; clear hrow'
   have Hhyl := Lib.hid hyl; clear hyl
   have Hhin := Lib.hid hin; clear hin
   have Hhy := Lib.hid hy; clear hy
   have Hhb := Lib.hid hb; clear hb
   clear hcs1 hr1 hrow
   cases hd : decide (y = x)
   all_goals
    have Hhd := Lib.hid hd; clear hd
    go_wp2_with fail
    refine (l9Same_any y x n _ _ _ Hhyl.out Hhx.out Hhrow'.out (H2.out.below Hhb.out) _ Hhd.out).mono ?_
    rintro e w2 ⟨rfl, hb2⟩
    have hb3 := Hhb.out.trans (hb2.mono Hhb.out.size)
    have Hhb3 := Lib.hid hb3; clear hb3
    clear hb2
    go_wp2
   ·go_roundw
    case rel => exact ⟨k + 1, by omega, by go_num, fun h => by rcases Hhin.out h with h | h; exact Hhtk.out h; exact of_decide_eq_false Hhd.out h.symm, Hhb3.out⟩
    case measure => simp [intOf]; omega
   ·go_ret
    exact ⟨ret_int (by rw [findB_at hlt Hhtk.out (by rw [← Hhy.out]; exact of_decide_eq_true Hhd.out)]), Hhb3.out⟩
  ·obtain rfl : k = S.length := by omega
   have Hhb := Lib.hid hb; clear hb
   clear hr1
   go_wp2
   go_ret
   refine ⟨ret_int (by rw [findB_none]; have h := Hhtk.out; rwa [List.take_length] at h), Hhb.out⟩
def okAt (l : List Int) (n : Int) (j : Nat) : Bool := inB (l.getD j 0) 0 (n - 1) && (decide (j = 0) || decide (l.getD (j - 1) 0 < l.getD j 0))
def stOk (l : List Int) (n : Int) : Bool := (List.range l.length).all (okAt l n)
def mvOk (n : Int) (m : Int × Int × Int) : Bool := inB m.1 0 (n - 1) && inB m.2.2 0 (n - 1) && inB m.2.1 (-1) 2
def nfaOk (n : NfaD) : Bool := inB n.states 0 40 && decide (n.moves.length ≤ 400) && stOk n.firsts n.states && stOk n.ends n.states && n.moves.all (mvOk n.states)
theorem stOk_bad {l : List Int} {n : Int} {k : Nat} (hk : k < l.length) (h : okAt l n k = false) : stOk l n = false := by
 unfold stOk
 rw [List.all_eq_false]
 exact ⟨k, List.mem_range.2 hk, by rw [h]; simp⟩
theorem range_snoc {p : Nat → Bool} {k : Nat} (h : (List.range k).all p = true) (hp : p k = true) : (List.range (k + 1)).all p = true := by
 rw [List.range_succ, List.all_append, h]
 simp [hp]
set_option maxRecDepth 100000 in
set_option maxHeartbeats 1600000 in
theorem areStates_any (xs : List Int) (v : Value) (n : Int) (w : World) (hn : 0 ≤ n ∧ n ≤ 40) (h : Ints 0 w v xs) (r : Bool) (hr : stOk xs n = r) :
  Calls Try.prog 118 #[v, .int .i64 n] w fun e w' => e = .returned (.bool r) ∧ w = w' := by
 obtain ⟨a1, c1, rfl, hc1, hm1, hr1⟩ := h.form
 obtain ⟨hn0, hn1⟩ := hn
 clear h
 have Hhr := Lib.hid hr; clear hr
 go_enter Try.func118, Try.ntmps118
 go_wp2
 go_loop [4, 9] (fun r i => ∃ k : Nat, k ≤ xs.length ∧ i = .int .i64 k ∧ (List.range k).all (okAt xs n) = true) (fun _ i => xs.length - (intOf i).toNat)
 case atStart => exact ⟨0, Nat.zero_le _, rfl, rfl⟩
 case round =>
  obtain ⟨k, hk, rfl, hall⟩ := hrel
  have Hhall := Lib.hid hall; clear hall
  by_cases hlt : k < xs.length
  ·obtain ⟨b1, o1, rfl, hB1, hbl1, hcs1⟩ := hr1 (by omega)
   have hx1 := hcs1 k hlt
   obtain ⟨x, hxx⟩ : ∃ x, x = xs.getD k 0 := ⟨_, rfl⟩
   rw [← hxx] at hx1
   cases hin : inB x 0 (n - 1)
   ·have Hhin := Lib.hid hin; clear hin
    have Hhxx := Lib.hid hxx; clear hxx
    clear hcs1 hr1
    go_wp2_with (go_at_call 86; refine (within_any _ _ _ _ _ Hhin.out).mono ?_; rintro e w' ⟨rfl, rfl⟩)
    go_ret
    exact ⟨by rw [← Hhr.out, stOk_bad hlt (by unfold okAt; rw [← Hhxx.out, Hhin.out]; rfl)]; rfl, rfl⟩
   ·have Hhin := Lib.hid hin; clear hin
    cases k with
    | zero =>
     have Hhxx := Lib.hid hxx; clear hxx
     simp only [Nat.add_zero] at hx1
     clear hcs1 hr1
     go_wp2_with (go_at_call 86; refine (within_any _ _ _ _ _ Hhin.out).mono ?_; rintro e w' ⟨rfl, rfl⟩)
     go_round
     case rel => exact ⟨1, by omega, by go_num, range_snoc Hhall.out (by unfold okAt; rw [← Hhxx.out, Hhin.out]; rfl)⟩
     case measure => simp [intOf]; omega
    | succ j =>
     have hx0 := hcs1 j (by omega)
     obtain ⟨y, hyy⟩ : ∃ y, y = xs.getD j 0 := ⟨_, rfl⟩
     rw [← hyy] at hx0
     have Hhxx := Lib.hid hxx; clear hxx
     have Hhyy := Lib.hid hyy; clear hyy
     clear hcs1 hr1
     have hjl : (j : Int) < xs.length := by omega
     by_cases hyx : y < x
     ·go_wp2_with (go_at_call 86; refine (within_any _ _ _ _ _ Hhin.out).mono ?_; rintro e w' ⟨rfl, rfl⟩)
      go_round
      case rel => exact ⟨j + 1 + 1, by omega, by go_num, range_snoc Hhall.out (by unfold okAt; rw [Nat.add_sub_cancel, ← Hhxx.out, ← Hhyy.out, Hhin.out, decide_eq_true hyx]; simp)⟩
      case measure => simp [intOf]; omega
     ·go_wp2_with (go_at_call 86; refine (within_any _ _ _ _ _ Hhin.out).mono ?_; rintro e w' ⟨rfl, rfl⟩)
      go_ret
      exact ⟨by rw [← Hhr.out, stOk_bad hlt (by unfold okAt; rw [Nat.add_sub_cancel, ← Hhxx.out, ← Hhyy.out, Hhin.out, decide_eq_false (show ¬ y < x by omega)]; simp)]; rfl, rfl⟩
  ·clear hr1
   obtain rfl : k = xs.length := by omega
   go_wp2
   go_ret
   exact ⟨by rw [← Hhr.out, stOk, Hhall.out]; rfl, rfl⟩
def badM (n : Int) (m : Int × Int × Int) : Bool := !mvOk n m
set_option maxRecDepth 100000 in
set_option maxHeartbeats 1600000 in
theorem nfaValid1_any (x : Int × Int × Int) (n : Int) (b : Nat) (w : World) (hn : 0 ≤ n ∧ n ≤ 40) (hb : b < w.heap.size) (hc : w.cell? ⟨b, 0, none⟩ = some (.int .i64 n)) (r : Bool) (hr : badM n x = r) :
  Calls Try.prog 120 #[.agg #[.int .i64 x.1, .int .i64 x.2.1, .int .i64 x.2.2], .pointer (some ⟨b, 0, none⟩)] w fun e w' => e = .returned (.bool r) ∧ ∃ o, w' = w.alloc o := by
 obtain ⟨x1, x2, x3⟩ := x
 obtain ⟨hn0, hn1⟩ := hn
 have Hhr := Lib.hid hr; clear hr
 cases h1 : inB x1 0 (n - 1)
 ·have Hh1 := Lib.hid h1; clear h1
  go_enter Try.func120, Try.ntmps120
  go_wp2_with (go_at_call 86; (with_reducible refine (within_any _ _ _ _ _ Hh1.out).mono ?_); rintro e w' ⟨rfl, rfl⟩)
  go_ret
  exact ⟨by rw [← Hhr.out, badM, mvOk, Hh1.out]; rfl, _, rfl⟩
 ·cases h2 : inB x3 0 (n - 1)
  ·have Hh1 := Lib.hid h1; clear h1
   have Hh2 := Lib.hid h2; clear h2
   go_enter Try.func120, Try.ntmps120
   go_wp2_with (first | (go_at_call 86; (with_reducible refine (within_any _ _ _ _ _ Hh1.out).mono ?_); rintro e w' ⟨rfl, rfl⟩) | (go_at_call 86; (with_reducible refine (within_any _ _ _ _ _ Hh2.out).mono ?_); rintro e w' ⟨rfl, rfl⟩))
   go_ret
   exact ⟨by rw [← Hhr.out, badM, mvOk, Hh1.out, Hh2.out]; rfl, _, rfl⟩
  ·cases h3 : inB x2 (-1) 2
   all_goals
    have Hh1 := Lib.hid h1; clear h1
    have Hh2 := Lib.hid h2; clear h2
    have Hh3 := Lib.hid h3; clear h3
    go_enter Try.func120, Try.ntmps120
    go_wp2_with (first | (go_at_call 86; (with_reducible refine (within_any _ _ _ _ _ Hh1.out).mono ?_); rintro e w' ⟨rfl, rfl⟩) | (go_at_call 86; (with_reducible refine (within_any _ _ _ _ _ Hh2.out).mono ?_); rintro e w' ⟨rfl, rfl⟩) | (go_at_call 86; (with_reducible refine (within_any _ _ _ _ _ Hh3.out).mono ?_); rintro e w' ⟨rfl, rfl⟩))
    go_ret
    exact ⟨by rw [← Hhr.out, badM, mvOk, Hh1.out, Hh2.out, Hh3.out]; rfl, _, rfl⟩
set_option maxRecDepth 100000 in
set_option maxHeartbeats 1600000 in
theorem indexFuncNv_any (xs : List (Int × Int × Int)) (v : Value) (n : Int) (b : Nat) (w : World) (hn : 0 ≤ n ∧ n ≤ 40) (hbb : b < w.heap.size) (hc : w.cell? ⟨b, 0, none⟩ = some (.int .i64 n)) (h1 : Moves 0 w v xs) :
  Calls Try.prog 146 #[v, .func (.func 120) #[] #[.pointer (some ⟨b, 0, none⟩)]] w fun e w' => e = .returned (.int .i64 (firstIdx (badM n) xs)) ∧ Below w.heap.size w w' := by
 obtain ⟨a1, c1, rfl, hc1, hm1, hr1⟩ := h1.form
 clear h1
 go_enter Try.func146, Try.ntmps146
 go_wp2
 go_loopw [4, 8] (fun r i wr => ∃ k : Nat, k ≤ xs.length ∧ i = .int .i64 k ∧ (xs.take k).any (badM n) = false ∧ Below w.heap.size w wr) (fun _ i _ => xs.length - (intOf i).toNat)
 case atStart => exact ⟨0, Nat.zero_le _, rfl, rfl, Below.refl _ _⟩
 case round =>
  obtain ⟨k, hk, rfl, htk, hb⟩ := hrel
  have Hhtk := Lib.hid htk; clear htk
  have hc' := (bcell hb b 0 hbb).trans hc
  have hbb' : b < wr.heap.size := Nat.lt_of_lt_of_le hbb hb.size
  have Hc' := Lib.hid hc'
  clear hc'
  by_cases hlt : k < xs.length
  ·obtain ⟨b1, o1, rfl, hB1, hbl1, hcs1⟩ := hr1 (by omega)
   have hx1 := (bcell hb b1 (o1 + k * 3) hbl1).trans (hcs1 k hlt).1
   have hx2 := (bcell hb b1 (o1 + k * 3 + 1) hbl1).trans (hcs1 k hlt).2.1
   have hx3 := (bcell hb b1 (o1 + k * 3 + 2) hbl1).trans (hcs1 k hlt).2.2
   have hsz := hb.size
   obtain ⟨x, hxx⟩ : ∃ x, x = xs.getD k (0, 0, 0) := ⟨_, rfl⟩
   rw [← hxx] at hx1 hx2 hx3
   have Hhxx := Lib.hid hxx; clear hxx
   have Hhb := Lib.hid hb; clear hb
   clear hcs1 hr1
   cases hbd : badM n x
   ·have Hhbd := Lib.hid hbd; clear hbd
    go_wp2_with (go_at_call 120; refine (nfaValid1_any x n b _ hn hbb' Hc'.out _ Hhbd.out).mono ?_; rintro e w' ⟨rfl, o, rfl⟩)
    go_roundw
    case rel => exact ⟨k + 1, by omega, by go_num, any_snoc (d := (0, 0, 0)) hlt Hhtk.out (by rw [← Hhxx.out]; exact Hhbd.out), Hhb.out.alloc hsz _⟩
    case measure => simp [intOf]; omega
   ·have Hhbd := Lib.hid hbd; clear hbd
    go_wp2_with (go_at_call 120; refine (nfaValid1_any x n b _ hn hbb' Hc'.out _ Hhbd.out).mono ?_; rintro e w' ⟨rfl, o, rfl⟩)
    go_ret
    exact ⟨ret_int (by rw [firstIdx_hit (d := (0, 0, 0)) hlt Hhtk.out (by rw [← Hhxx.out]; exact Hhbd.out)]), Hhb.out.alloc hsz _⟩
  ·clear hr1
   have Hhb := Lib.hid hb; clear hb
   go_wp2
   go_ret
   exact ⟨ret_int (by rw [firstIdx_miss (by omega) Hhtk.out]), Hhb.out⟩
set_option maxHeartbeats 800000 in
theorem containsFuncNv_any (xs : List (Int × Int × Int)) (v : Value) (n : Int) (b : Nat) (w : World) (hn : 0 ≤ n ∧ n ≤ 40) (hbb : b < w.heap.size) (hc : w.cell? ⟨b, 0, none⟩ = some (.int .i64 n)) (h1 : Moves 0 w v xs) (r : Bool) (hr : xs.any (badM n) = r) :
  Calls Try.prog 119 #[v, .func (.func 120) #[] #[.pointer (some ⟨b, 0, none⟩)]] w fun e w' => e = .returned (.bool r) ∧ Below w.heap.size w w' := by
 obtain ⟨a1, c1, hv, -⟩ := h1.form
 have H1 := Lib.hid h1
 subst hv
 clear h1
 have Hhr := Lib.hid hr; clear hr
 go_enter Try.func119, Try.ntmps119
 go_wp2_with (go_at_call 146; refine (indexFuncNv_any xs _ n b _ hn hbb hc H1.out).mono ?_; rintro e w' ⟨rfl, hb'⟩; have Hb' := Lib.hid hb'; clear hb')
 go_ret
 exact ⟨ret_bool (by rw [← Hhr.out, firstIdx_any]), Hb'.out⟩
end Go.Proofs.Ytalbofnhcpjilaa
namespace Go.Proofs.Ytalbofnhcpjilaa
open Go.RowKit
theorem moves_bad {n : Int} {ms : List (Int × Int × Int)} : ms.any (badM n) = !ms.all (mvOk n) := by
 induction ms with
 | nil => rfl
 | cons m ms ih => rw [List.any_cons, List.all_cons, ih]; simp [badM]
set_option maxRecDepth 100000 in
set_option maxHeartbeats 3200000 in
theorem implNfaValid_any (d : NfaD) (v : Value) (w : World) (h : NfaR 0 w v d) (r : Bool) (hr : nfaOk d = r) :
  Calls Try.prog 69 #[v] w fun e w' => e = .returned (.bool r) ∧ Below w.heap.size w w' := by
 obtain ⟨states, moves, firsts, ends⟩ := d
 obtain ⟨v1, v2, v3, rfl, h1, h2, h3, hb1, hb2⟩ := h
 simp only at h1 h2 h3 hb1 hb2
 unfold nfaOk at hr
 simp only at hr
 have H1 := Lib.hid h1
 have H2 := Lib.hid h2
 have H3 := Lib.hid h3
 obtain ⟨a1, c1, rfl, hc1, hm1, -⟩ := h1.form
 clear h1 h2 h3
 obtain ⟨W, hW⟩ : ∃ W, W = w.alloc (.cells #[.int .i64 states, .slice a1 moves.length c1, v2, v3] 50) := ⟨_, rfl⟩
 have hB : Below w.heap.size w W := by rw [hW]; exact (Below.refl _ _).alloc (Nat.le_refl _) _
 have x0 : Bx W w.heap.size #[.int .i64 states, .slice a1 moves.length c1, v2, v3] 50 := by rw [hW]; exact Bx.new w _ _
 have hlt := x0.lt
 have d0 := x0.cell 0
 have d1 := x0.cell 1
 have d2 := x0.cell 2
 have d3 := x0.cell 3
 simp only [List.getElem?_toArray, List.getElem?_cons_zero, List.getElem?_cons_succ] at d0 d1 d2 d3
 have HhW := Lib.hid hW; clear hW
 have HhB := Lib.hid hB; clear hB
 have Hx0 := Lib.hid x0; clear x0
 go_enter Try.func69, Try.ntmps69
 cases hA : inB states 0 40
 ·rw [hA] at hr
  have HhA := Lib.hid hA; clear hA
  have Hhr := Lib.hid hr; clear hr
  go_wp2_with fail
  rw [← HhW.out]
  go_wp2_with (go_at_call 86; refine (within_any _ _ _ _ _ HhA.out).mono ?_; rintro e w' ⟨rfl, rfl⟩)
  go_ret
  exact ⟨by rw [← Hhr.out]; rfl, HhB.out⟩
 ·have hin : 0 ≤ states ∧ states ≤ 40 := by simpa [inB] using hA
  obtain ⟨hs0, hs1⟩ := hin
  rw [hA] at hr
  have HhA := Lib.hid hA; clear hA
  by_cases hL : moves.length ≤ 400
  ·have hL1 : decide ((moves.length : Int) > 400) = false := by simp; omega
   rw [decide_eq_true hL] at hr
   cases hC : stOk firsts states
   ·rw [hC] at hr
    have HhC := Lib.hid hC; clear hC
    have Hhr := Lib.hid hr; clear hr
    go_wp2_with fail
    rw [← HhW.out]
    go_wp2_with (first | (go_at_call 86; refine (within_any _ _ _ _ _ HhA.out).mono ?_; rintro e w' ⟨rfl, rfl⟩) | (go_at_call 118; (with_reducible refine (areStates_any firsts _ _ _ ⟨hs0, hs1⟩ (H2.out.below HhB.out) _ HhC.out).mono ?_); rintro e w' ⟨rfl, rfl⟩))
    go_ret
    exact ⟨by rw [← Hhr.out]; rfl, HhB.out⟩
   ·rw [hC] at hr
    have HhC := Lib.hid hC; clear hC
    cases hD : stOk ends states
    ·rw [hD] at hr
     have HhD := Lib.hid hD; clear hD
     have Hhr := Lib.hid hr; clear hr
     go_wp2_with fail
     rw [← HhW.out]
     go_wp2_with (first | (go_at_call 86; refine (within_any _ _ _ _ _ HhA.out).mono ?_; rintro e w' ⟨rfl, rfl⟩) | (go_at_call 118; (with_reducible refine (areStates_any firsts v2 _ _ ⟨hs0, hs1⟩ (H2.out.below HhB.out) _ HhC.out).mono ?_); rintro e w' ⟨rfl, rfl⟩) | (go_at_call 118; (with_reducible refine (areStates_any ends v3 _ _ ⟨hs0, hs1⟩ (H3.out.below HhB.out) _ HhD.out).mono ?_); rintro e w' ⟨rfl, rfl⟩))
     go_ret
     exact ⟨by rw [← Hhr.out]; rfl, HhB.out⟩
    ·rw [hD] at hr
     have HhD := Lib.hid hD; clear hD
     cases hE : moves.any (badM states)
     all_goals
      have hE' := hE
      rw [moves_bad] at hE'
      have HhE := Lib.hid hE; clear hE
      have HhE' := Lib.hid hE'; clear hE'
      have Hhr := Lib.hid hr; clear hr
      go_wp2_with fail
      rw [← HhW.out]
      go_wp2_with (first | (go_at_call 86; refine (within_any _ _ _ _ _ HhA.out).mono ?_; rintro e w' ⟨rfl, rfl⟩) | (go_at_call 118; (with_reducible refine (areStates_any firsts v2 _ _ ⟨hs0, hs1⟩ (H2.out.below HhB.out) _ HhC.out).mono ?_); rintro e w' ⟨rfl, rfl⟩) | (go_at_call 118; (with_reducible refine (areStates_any ends v3 _ _ ⟨hs0, hs1⟩ (H3.out.below HhB.out) _ HhD.out).mono ?_); rintro e w' ⟨rfl, rfl⟩) | (go_at_call 119; refine (containsFuncNv_any moves _ states w.heap.size _ ⟨hs0, hs1⟩ hlt d0 (H1.out.below HhB.out) _ HhE.out).mono ?_; rintro e w' ⟨rfl, hb'⟩; have Hb' := Lib.hid hb'; clear hb'))
      go_ret
      exact ⟨by rw [← Hhr.out]; simpa using HhE'.out, HhB.out.trans (Hb'.out.mono HhB.out.size)⟩
  ·have hL1 : decide ((moves.length : Int) > 400) = true := by simp; omega
   rw [decide_eq_false hL] at hr
   have Hhr := Lib.hid hr; clear hr
   go_wp2_with fail
   rw [← HhW.out]
   go_wp2_with (go_at_call 86; refine (within_any _ _ _ _ _ HhA.out).mono ?_; rintro e w' ⟨rfl, rfl⟩)
   go_ret
   exact ⟨by rw [← Hhr.out]; rfl, HhB.out⟩
end Go.Proofs.Ytalbofnhcpjilaa
namespace Go.Proofs.Ytalbofnhcpjilaa
open Go.RowKit
end Go.Proofs.Ytalbofnhcpjilaa
