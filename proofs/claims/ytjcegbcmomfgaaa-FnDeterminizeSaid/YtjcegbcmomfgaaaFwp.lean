/-
  States met in breadth, letter by letter, with the words that lead to them: the plain meaning of the program's and of the reference's searches.
  No condition: this text speaks of no program.
  A map from things to their places in a list.
  No condition: this text speaks of no program.
  The first of the things met that ends, and its word: plain laws; the same for the numbered automaton.
  No condition: this text speaks of no program.
-/
import Derived.Test.YtjcegbcmomfgaaaGrow
namespace Go.Proofs.Ytjcegbcmomfgaaa

structure Bs (α : Type) where
  met : List α
  words : List (List Nat)

section
variable {α : Type} [DecidableEq α]
def bvisit (nx : α → Nat → α) (x : α) (wd : List Nat) (s : Bs α) (c : Nat) : Bs α :=
  if nx x c ∈ s.met then s else ⟨s.met ++ [nx x c], s.words ++ [wd ++ [c]]⟩
def brow (nx : α → Nat → α) (x : α) (wd : List Nat) (s : Bs α) : Nat → Bs α
  | 0 => s
  | n + 1 => bvisit nx x wd (brow nx x wd s n) n
def bat (nx : α → Nat → α) (a : α) : Nat → Bs α
  | 0 => ⟨[a], [[]]⟩
  | k + 1 => if k < (bat nx a k).met.length then brow nx ((bat nx a k).met.getD k a) ((bat nx a k).words.getD k []) (bat nx a k) 3 else bat nx a k
/-- The k-th state's letters before n are done. -/
def bpart (nx : α → Nat → α) (a : α) (k n : Nat) : Bs α := brow nx ((bat nx a k).met.getD k a) ((bat nx a k).words.getD k []) (bat nx a k) n

variable {nx : α → Nat → α} {a : α}
theorem bpart_zero (k : Nat) : bpart nx a k 0 = bat nx a k := rfl
theorem bat_succ {k : Nat} (h : k < (bat nx a k).met.length) : bat nx a (k + 1) = bpart nx a k 3 := by
  simp only [bat, if_pos h]
  rfl
theorem bat_stay {k : Nat} (h : (bat nx a k).met.length ≤ k) : bat nx a (k + 1) = bat nx a k := by
  simp only [bat, if_neg (show ¬ k < (bat nx a k).met.length by omega)]
theorem bpart_succ (k n : Nat) : bpart nx a k (n + 1) = bvisit nx ((bat nx a k).met.getD k a) ((bat nx a k).words.getD k []) (bpart nx a k n) n := rfl
theorem bpart_old {k n : Nat} (h : nx ((bat nx a k).met.getD k a) n ∈ (bpart nx a k n).met) : bpart nx a k (n + 1) = bpart nx a k n := by
  rw [bpart_succ, bvisit, if_pos h]
theorem bpart_new {k n : Nat} (h : nx ((bat nx a k).met.getD k a) n ∉ (bpart nx a k n).met) : bpart nx a k (n + 1) = ⟨(bpart nx a k n).met ++ [nx ((bat nx a k).met.getD k a) n], (bpart nx a k n).words ++ [(bat nx a k).words.getD k [] ++ [n]]⟩ := by
  rw [bpart_succ, bvisit, if_neg h]

/-- A property that the visits keep holds everywhere. -/
theorem brow_ind (Q : Bs α → Prop) {x : α} {wd : List Nat} {s : Bs α} (hs : Q s) (hv : ∀ t c, c < 3 → Q t → Q (bvisit nx x wd t c)) : ∀ n, n ≤ 3 → Q (brow nx x wd s n)
  | 0, _ => hs
  | n + 1, h => hv _ n (by omega) (brow_ind Q hs hv n (by omega))
theorem bat_ind (Q : Bs α → Prop) (h0 : Q ⟨[a], [[]]⟩) (hv : ∀ s k, k < s.met.length → ∀ t c, c < 3 → Q s → Q t → Q (bvisit nx (s.met.getD k a) (s.words.getD k []) t c)) : ∀ k, Q (bat nx a k)
  | 0 => h0
  | k + 1 => by
    have ih := bat_ind Q h0 hv k
    by_cases h : k < (bat nx a k).met.length
    · rw [bat_succ h]
      exact brow_ind Q ih (fun t c hc ht => hv _ k h t c hc ih ht) 3 (by omega)
    · rw [bat_stay (by omega)]
      exact ih
theorem bpart_ind (Q : Bs α → Prop) (h0 : Q ⟨[a], [[]]⟩) (hv : ∀ s k, k < s.met.length → ∀ t c, c < 3 → Q s → Q t → Q (bvisit nx (s.met.getD k a) (s.words.getD k []) t c)) {k n : Nat} (hk : k < (bat nx a k).met.length) (hn : n ≤ 3) : Q (bpart nx a k n) :=
  brow_ind Q (bat_ind Q h0 hv k) (fun t c hc ht => hv _ k hk t c hc (bat_ind Q h0 hv k) ht) n hn

omit [DecidableEq α] in
theorem nodup_snoc {l : List α} {x : α} (h : l.Nodup) (hx : x ∉ l) : (l ++ [x]).Nodup := by
  rw [List.nodup_append]
  refine ⟨h, by simp, ?_⟩
  intro b hb c hc
  simp only [List.mem_singleton] at hc
  subst hc
  intro e
  subst e
  exact hx hb
theorem bvisit_good (x : α) (wd : List Nat) {t : Bs α} (c : Nat) (h : t.met.Nodup ∧ t.words.length = t.met.length ∧ t.met.head? = some a) :
    (bvisit nx x wd t c).met.Nodup ∧ (bvisit nx x wd t c).words.length = (bvisit nx x wd t c).met.length ∧ (bvisit nx x wd t c).met.head? = some a := by
  unfold bvisit
  split
  · exact h
  · rename_i hx
    obtain ⟨h1, h2, h3⟩ := h
    exact ⟨nodup_snoc h1 hx, by simp [h2], by simp [h3]⟩
theorem bat_good (k : Nat) : (bat nx a k).met.Nodup ∧ (bat nx a k).words.length = (bat nx a k).met.length ∧ (bat nx a k).met.head? = some a :=
  bat_ind (fun s => s.met.Nodup ∧ s.words.length = s.met.length ∧ s.met.head? = some a) (by simp) (fun s k _ t c _ _ ht => bvisit_good _ _ _ ht) k
theorem bpart_good {k n : Nat} (hk : k < (bat nx a k).met.length) (hn : n ≤ 3) : (bpart nx a k n).met.Nodup ∧ (bpart nx a k n).words.length = (bpart nx a k n).met.length ∧ (bpart nx a k n).met.head? = some a :=
  bpart_ind (fun s => s.met.Nodup ∧ s.words.length = s.met.length ∧ s.met.head? = some a) (by simp) (fun s k _ t c _ _ ht => bvisit_good _ _ _ ht) hk hn
theorem bat_pos (k : Nat) : 0 < (bat nx a k).met.length := by
  have := (bat_good (nx := nx) (a := a) k).2.2
  cases h : (bat nx a k).met with
  | nil => rw [h] at this; simp at this
  | cons => simp
theorem bat_first (k : Nat) : (bat nx a k).met.getD 0 a = a := by
  have := (bat_good (nx := nx) (a := a) k).2.2
  cases h : (bat nx a k).met with
  | nil => rw [h] at this; simp at this
  | cons => rw [h] at this; simpa using this
theorem bat_all {Q : α → Prop} (h0 : Q a) (hv : ∀ x c, c < 3 → Q x → Q (nx x c)) (k : Nat) : ∀ x ∈ (bat nx a k).met, Q x := by
  refine bat_ind (fun s => ∀ x ∈ s.met, Q x) (by simpa using h0) (fun s k hk t c hc hs ht => ?_) k
  unfold bvisit
  split
  · exact ht
  · intro x hx
    simp only [List.mem_append, List.mem_singleton] at hx
    rcases hx with hx | rfl
    · exact ht x hx
    · refine hv _ c hc (hs _ ?_)
      rw [List.getD_eq_getElem?_getD, List.getElem?_eq_getElem hk]
      simp
theorem bpart_all {Q : α → Prop} (h0 : Q a) (hv : ∀ x c, c < 3 → Q x → Q (nx x c)) {k n : Nat} (hk : k < (bat nx a k).met.length) (hn : n ≤ 3) : ∀ x ∈ (bpart nx a k n).met, Q x := by
  refine bpart_ind (fun s => ∀ x ∈ s.met, Q x) (by simpa using h0) (fun s k hk t c hc hs ht => ?_) hk hn
  unfold bvisit
  split
  · exact ht
  · intro x hx
    simp only [List.mem_append, List.mem_singleton] at hx
    rcases hx with hx | rfl
    · exact ht x hx
    · refine hv _ c hc (hs _ ?_)
      rw [List.getD_eq_getElem?_getD, List.getElem?_eq_getElem hk]
      simp

/-- What was met stays, in its place. -/
def Bs.le (s t : Bs α) : Prop := s.met <+: t.met ∧ s.words <+: t.words
omit [DecidableEq α] in
theorem Bs.le_refl (s : Bs α) : s.le s := ⟨List.prefix_rfl, List.prefix_rfl⟩
omit [DecidableEq α] in
theorem Bs.le_trans {s t u : Bs α} (h : s.le t) (k : t.le u) : s.le u := ⟨h.1.trans k.1, h.2.trans k.2⟩
theorem bvisit_le (x : α) (wd : List Nat) (s : Bs α) (c : Nat) : s.le (bvisit nx x wd s c) := by
  unfold bvisit
  split
  · exact Bs.le_refl _
  · exact ⟨List.prefix_append _ _, List.prefix_append _ _⟩
theorem brow_le (x : α) (wd : List Nat) (s : Bs α) (n m : Nat) (h : n ≤ m) : (brow nx x wd s n).le (brow nx x wd s m) := by
  induction m with
  | zero => obtain rfl : n = 0 := by omega
            exact Bs.le_refl _
  | succ m ih =>
    by_cases hn : n = m + 1
    · subst hn; exact Bs.le_refl _
    · exact Bs.le_trans (ih (by omega)) (bvisit_le _ _ _ _)
theorem bpart_le {k n m : Nat} (h : n ≤ m) : (bpart nx a k n).le (bpart nx a k m) := brow_le _ _ _ n m h
theorem bat_le_succ (k : Nat) : (bat nx a k).le (bat nx a (k + 1)) := by
  by_cases h : k < (bat nx a k).met.length
  · rw [bat_succ h]
    exact brow_le _ _ _ 0 3 (by omega)
  · rw [bat_stay (by omega)]
    exact Bs.le_refl _
theorem bat_le {k m : Nat} (h : k ≤ m) : (bat nx a k).le (bat nx a m) := by
  induction m with
  | zero => obtain rfl : k = 0 := by omega
            exact Bs.le_refl _
  | succ m ih =>
    by_cases hn : k = m + 1
    · subst hn; exact Bs.le_refl _
    · exact Bs.le_trans (ih (by omega)) (bat_le_succ _)
theorem bpart_le_bat {k n m : Nat} (hk : k < (bat nx a k).met.length) (hn : n ≤ 3) (hm : k < m) : (bpart nx a k n).le (bat nx a m) := by
  have h1 : (bpart nx a k n).le (bat nx a (k + 1)) := by rw [bat_succ hk]; exact bpart_le hn
  exact Bs.le_trans h1 (bat_le hm)
theorem bat_done {k m : Nat} (h : (bat nx a k).met.length ≤ k) (hm : k ≤ m) : bat nx a m = bat nx a k := by
  induction m with
  | zero => obtain rfl : k = 0 := by omega
            rfl
  | succ m ih =>
    by_cases hn : k = m + 1
    · subst hn; rfl
    · have e := ih (by omega)
      rw [bat_stay (by rw [e]; omega), e]

/-- The place of a thing in a list. -/
def placeOf (l : List α) (x : α) : Nat := l.idxOf x
theorem placeOf_lt {l : List α} {x : α} (h : x ∈ l) : placeOf l x < l.length := List.idxOf_lt_length_iff.2 h
omit [DecidableEq α] in
theorem prefix_getD {l m : List α} (h : l <+: m) {k : Nat} (hk : k < l.length) (d : α) : m.getD k d = l.getD k d := by
  obtain ⟨t, rfl⟩ := h
  simp [List.getElem?_append_left hk]
theorem prefix_idx {l m : List α} (h : l <+: m) {x : α} (hx : x ∈ l) : placeOf m x = placeOf l x := by
  obtain ⟨t, rfl⟩ := h
  unfold placeOf
  rw [List.idxOf_append, if_pos hx]
theorem idx_snoc {l m : List α} {x : α} (h : l ++ [x] <+: m) (hx : x ∉ l) : placeOf m x = l.length := by
  rw [prefix_idx h (by simp)]
  unfold placeOf
  rw [List.idxOf_append, if_neg hx]
  simp
theorem idx_getD {l : List α} {k : Nat} (hk : k < l.length) (hn : l.Nodup) (d : α) : placeOf l (l.getD k d) = k := by
  unfold placeOf
  rw [List.getD_eq_getElem?_getD, List.getElem?_eq_getElem hk]
  simp [hn]
theorem getD_idx {l : List α} {x : α} (hx : x ∈ l) (d : α) : l.getD (placeOf l x) d = x := by
  unfold placeOf
  rw [List.getD_eq_getElem?_getD, List.getElem?_eq_getElem (List.idxOf_lt_length_iff.2 hx)]
  simp

/-- Where a state leads is met when its letter is done. -/
theorem bpart_mem {k n c : Nat} (hc : c < n) : nx ((bat nx a k).met.getD k a) c ∈ (bpart nx a k n).met := by
  have h1 : nx ((bat nx a k).met.getD k a) c ∈ (bpart nx a k (c + 1)).met := by
    by_cases h : nx ((bat nx a k).met.getD k a) c ∈ (bpart nx a k c).met
    · rw [bpart_old h]; exact h
    · rw [bpart_new h]; simp
  exact (bpart_le (nx := nx) (a := a) (k := k) (show c + 1 ≤ n by omega)).1.subset h1

/-- As many different things as fit. -/
theorem nodup_le {l m : List α} (hn : l.Nodup) (hs : ∀ x ∈ l, x ∈ m) : l.length ≤ m.length := by
  induction l generalizing m with
  | nil => simp
  | cons x l ih =>
    rw [List.nodup_cons] at hn
    have h1 := ih (m := m.erase x) hn.2 fun y hy => (List.mem_erase_of_ne (fun e => hn.1 (by rw [← e]; exact hy))).2 (hs y (by simp [hy]))
    have h2 := List.length_erase_of_mem (hs x (by simp))
    have h3 := List.length_pos_of_mem (hs x (by simp))
    simp only [List.length_cons]
    omega
end

/-- The automaton of what was met meets its own states in their order. -/
def numNext {α : Type} [DecidableEq α] (nx : α → Nat → α) (a : α) (F : List α) (s : Int) (c : Nat) : Int := placeOf F (nx (F.getD s.toNat a) c)
def upInts (n : Nat) : List Int := (List.range n).map Int.ofNat
theorem upInts_succ (n : Nat) : upInts (n + 1) = upInts n ++ [(n : Int)] := by simp [upInts, List.range_succ]
theorem mem_upInts {n : Nat} {x : Nat} : (x : Int) ∈ upInts n ↔ x < n := by
  simp only [upInts, List.mem_map, List.mem_range]
  constructor
  · rintro ⟨y, hy, e⟩
    have e2 : (y : Int) = (x : Int) := e
    omega
  · intro h
    exact ⟨x, h, rfl⟩
theorem upInts_getD {n k : Nat} (h : k < n) : (upInts n).getD k 0 = (k : Int) := by simp [upInts, h]
theorem upInts_len (n : Nat) : (upInts n).length = n := by simp [upInts]
theorem num_sim {α : Type} [DecidableEq α] (nx : α → Nat → α) (a : α) (K : Nat) : ∀ k, k ≤ K →
    bat (numNext nx a (bat nx a K).met) 0 k = ⟨upInts (bat nx a k).met.length, (bat nx a k).words⟩
  | 0, _ => rfl
  | k + 1, hK => by
    have ih := num_sim nx a K k (by omega)
    have hlen : (bat (numNext nx a (bat nx a K).met) 0 k).met.length = (bat nx a k).met.length := by rw [ih]; exact upInts_len _
    by_cases h : k < (bat nx a k).met.length
    · rw [bat_succ h, bat_succ (by rw [hlen]; exact h)]
      have hrow : ∀ n, n ≤ 3 → bpart (numNext nx a (bat nx a K).met) 0 k n = ⟨upInts (bpart nx a k n).met.length, (bpart nx a k n).words⟩ := by
        intro n
        induction n with
        | zero => intro _; rw [bpart_zero, bpart_zero]; exact ih
        | succ n ihn =>
          intro hn
          have e := ihn (by omega)
          have hx : (bat (numNext nx a (bat nx a K).met) 0 k).met.getD k 0 = (k : Int) := by rw [ih]; exact upInts_getD h
          have hF : (bat nx a K).met.getD k a = (bat nx a k).met.getD k a := prefix_getD (bat_le (show k ≤ K by omega)).1 h a
          have hnx : numNext nx a (bat nx a K).met (k : Int) n = (placeOf (bat nx a K).met (nx ((bat nx a k).met.getD k a) n) : Int) := by
            unfold numNext
            rw [show ((k : Int).toNat) = k from rfl, hF]
          by_cases hm : nx ((bat nx a k).met.getD k a) n ∈ (bpart nx a k n).met
          · rw [bpart_old hm]
            have hi := prefix_idx (bpart_le_bat (m := K) h (show n ≤ 3 by omega) (by omega)).1 hm
            have hlt : placeOf (bat nx a K).met (nx ((bat nx a k).met.getD k a) n) < (bpart nx a k n).met.length := by rw [hi]; exact placeOf_lt hm
            rw [bpart_old (by rw [hx, hnx, e]; exact mem_upInts.2 hlt), e]
          · have hb := bpart_le_bat (nx := nx) (a := a) (m := K) h hn (by omega)
            rw [bpart_new hm] at hb
            have hi := idx_snoc hb.1 hm
            rw [bpart_new (by rw [hx, hnx, e, hi]; simp [mem_upInts]), bpart_new hm, hx, hnx, hi, e, ih]
            simp [upInts_succ]
      exact hrow 3 (by omega)
    · rw [bat_stay (k := k) (a := a) (by omega), bat_stay (by rw [hlen]; omega)]
      exact ih
end Go.Proofs.Ytjcegbcmomfgaaa
namespace Go.Proofs.Ytjcegbcmomfgaaa
open Go.RowKit

section
variable {α : Type} [DecidableEq α]
def numbered (l : List α) : List (α × Value) := l.zipIdx.map fun p => (p.1, Value.int .i64 (p.2 : Int))
omit [DecidableEq α] in
theorem numbered_nil : numbered ([] : List α) = [] := rfl
omit [DecidableEq α] in
theorem numbered_snoc (l : List α) (x : α) : numbered (l ++ [x]) = numbered l ++ [(x, Value.int .i64 (l.length : Int))] := by simp [numbered, List.zipIdx_append]
omit [DecidableEq α] in
theorem numbered_keys (l : List α) : (numbered l).map (·.1) = l := by
  simp only [numbered, List.map_map]
  have : ((fun x : α × Value => x.1) ∘ fun p : α × Nat => (p.1, Value.int .i64 (p.2 : Int))) = Prod.fst := rfl
  rw [this, List.zipIdx_map_fst]
theorem look_numbered {l : List α} (hn : l.Nodup) {x : α} (hx : x ∈ l) : look x (numbered l) = some (.int .i64 (placeOf l x : Int)) := by
  refine look_hit (by rw [numbered_keys]; exact hn) (j := placeOf l x) ?_
  have hlt := List.idxOf_lt_length_iff.2 hx
  unfold placeOf
  simp only [numbered, List.getElem?_map, List.getElem?_zipIdx, List.getElem?_eq_getElem hlt, Option.map_some, Nat.zero_add, List.getElem_idxOf]
theorem look_unnumbered {l : List α} {x : α} (hx : x ∉ l) : look x (numbered l) = none :=
  look_miss fun p hp e => hx (by rw [← numbered_keys l, ← e]; exact List.mem_map.2 ⟨p, hp, rfl⟩)
theorem upd_unnumbered {l : List α} {x : α} (hx : x ∉ l) : upd x (.int .i64 (l.length : Int)) (numbered l) = numbered (l ++ [x]) := by
  rw [numbered_snoc]
  exact upd_miss fun p hp e => hx (by rw [← numbered_keys l, ← e]; exact List.mem_map.2 ⟨p, hp, rfl⟩)
end
end Go.Proofs.Ytjcegbcmomfgaaa
namespace Go.Proofs.Ytjcegbcmomfgaaa
open Go.RowKit

theorem memD {α : Type} {xs : List α} {k : Nat} {d : α} (h : k < xs.length) : xs.getD k d ∈ xs := by
  rw [List.getD_eq_getElem?_getD, List.getElem?_eq_getElem h]
  simp
theorem getD_at {α : Type} {xs : List α} {k : Nat} {d : α} (h : k < xs.length) : xs.getD k d = xs[k] := by simp [h]

/-- Where a state leads. -/
def dnx (d : DfaD) (s : Int) (c : Nat) : Int := (d.next.getD s.toNat []).getD c 0
def den (d : DfaD) (s : Int) : Bool := d.ends.getD s.toNat false
/-- The first of the things met that ends: its word. -/
def firstHit {α : Type} (en : α → Bool) (s : Bs α) : Option (List Nat) := ((s.met.zip s.words).find? fun p => en p.1).map (·.2)
/-- As an automaton is after the checks. -/
def fine (d : DfaD) : Prop := 1 ≤ d.next.length ∧ d.next.length ≤ 100000 ∧ d.ends.length = d.next.length ∧ ∀ i, i < d.next.length → (d.next.getD i []).length = 3 ∧ ∀ c, c < 3 → 0 ≤ (d.next.getD i []).getD c 0 ∧ (d.next.getD i []).getD c 0 < d.next.length

theorem firstHit_at {α : Type} {en : α → Bool} {s t : Bs α} {k : Nat} {d : α} (hst : s.le t) (hl : s.words.length = s.met.length) (htl : t.words.length = t.met.length) (hk : k < s.met.length) (hno : ∀ j, j < k → en (s.met.getD j d) = false) (hyes : en (s.met.getD k d) = true) : firstHit en t = some (s.words.getD k []) := by
  have hml : s.met.length ≤ t.met.length := hst.1.length_le
  have hget : ∀ j, j < s.met.length → t.met.getD j d = s.met.getD j d := fun j hj => by
    obtain ⟨u, hu⟩ := hst.1
    rw [← hu]
    simp [List.getElem?_append_left hj]
  have hgw : t.words.getD k [] = s.words.getD k [] := by
    obtain ⟨u, hu⟩ := hst.2
    rw [← hu]
    simp [List.getElem?_append_left (show k < s.words.length by omega)]
  have hat : ∀ j, (hj : j < t.met.length) → t.met[j] = t.met.getD j d := fun j hj => by simp [hj]
  have hf : (t.met.zip t.words).find? (fun p => en p.1) = some (t.met.getD k d, t.words.getD k []) := by
    rw [List.find?_eq_some_iff_getElem]
    refine ⟨by simp only; rw [hget k hk]; exact hyes, k, by rw [List.length_zip]; omega, ?_, fun j hj => ?_⟩
    · simp [List.getElem_zip, show k < t.met.length by omega, show k < t.words.length by omega]
    · simp only [List.getElem_zip]
      rw [hat j (by omega), hget j (by omega), hno j hj]
      rfl
  unfold firstHit
  rw [hf, ← hgw]
  rfl
theorem firstHit_none {α : Type} {en : α → Bool} {s : Bs α} {d : α} (hno : ∀ j, j < s.met.length → en (s.met.getD j d) = false) : firstHit en s = none := by
  unfold firstHit
  rw [List.find?_eq_none.2]
  · rfl
  · intro p hp
    obtain ⟨j, hj, rfl⟩ := List.mem_iff_getElem.1 hp
    have hjm : j < s.met.length := by rw [List.length_zip] at hj; omega
    have := hno j hjm
    simp only [List.getElem_zip]
    rw [List.getD_eq_getElem?_getD, List.getElem?_eq_getElem hjm] at this
    simpa using this
theorem firstHit_congr {α β : Type} (e1 : α → Bool) (e2 : β → Bool) : ∀ (l1 : List α) (l2 : List β) (ws : List (List Nat)), l1.length = l2.length → (∀ j (h1 : j < l1.length) (h2 : j < l2.length), e1 l1[j] = e2 l2[j]) → firstHit e1 ⟨l1, ws⟩ = firstHit e2 ⟨l2, ws⟩
  | [], [], ws, _, _ => by simp [firstHit]
  | [], _ :: _, _, h, _ => by simp at h
  | _ :: _, [], _, h, _ => by simp at h
  | x :: l1, y :: l2, [], _, _ => by simp [firstHit]
  | x :: l1, y :: l2, v :: ws, hl, h => by
    have ih := firstHit_congr e1 e2 l1 l2 ws (by simpa using hl) (fun j h1 h2 => by have := h (j + 1) (by simpa using h1) (by simpa using h2); simpa using this)
    have h0 : e1 x = e2 y := h 0 (by simp) (by simp)
    unfold firstHit at ih ⊢
    simp only [List.zip_cons_cons, List.find?_cons, h0]
    cases e2 y <;> simp_all

section
variable {α : Type} [DecidableEq α] {nx nx' : α → Nat → α} {a : α}
theorem brow_congr {x : α} {wd : List Nat} {s : Bs α} (h : ∀ c, c < 3 → nx x c = nx' x c) : ∀ n, n ≤ 3 → brow nx x wd s n = brow nx' x wd s n
  | 0, _ => rfl
  | n + 1, hn => by
    show bvisit nx x wd (brow nx x wd s n) n = bvisit nx' x wd (brow nx' x wd s n) n
    rw [brow_congr h n (by omega)]
    unfold bvisit
    rw [h n (by omega)]
theorem bat_congr {Q : α → Prop} (h0 : Q a) (hv : ∀ x c, c < 3 → Q x → Q (nx x c)) (he : ∀ x c, c < 3 → Q x → nx x c = nx' x c) : ∀ k, bat nx a k = bat nx' a k
  | 0 => rfl
  | k + 1 => by
    have ih := bat_congr h0 hv he k
    by_cases h : k < (bat nx a k).met.length
    · rw [bat_succ h, bat_succ (by rw [← ih]; exact h)]
      unfold bpart
      rw [← ih]
      exact brow_congr (fun c hc => he _ c hc (bat_all h0 hv k _ (memD h))) 3 (by omega)
    · rw [bat_stay (by omega), bat_stay (by rw [← ih]; omega), ih]
theorem bat_closed {K : Nat} (hK : (bat nx a K).met.length ≤ K) {x : α} (hx : x ∈ (bat nx a K).met) {c : Nat} (hc : c < 3) : nx x c ∈ (bat nx a K).met := by
  obtain ⟨k, hk, rfl⟩ := List.mem_iff_getElem.1 hx
  have hkk : k < (bat nx a k).met.length := by
    by_cases h : k < (bat nx a k).met.length
    · exact h
    · have := bat_done (nx := nx) (a := a) (k := k) (m := K) (by omega) (by omega)
      rw [this] at hk
      omega
  have e : (bat nx a K).met[k] = (bat nx a k).met.getD k a := by
    rw [← prefix_getD (bat_le (nx := nx) (a := a) (show k ≤ K by omega)).1 hkk a, getD_at hk]
  rw [e]
  exact (bpart_le_bat (nx := nx) (a := a) hkk (Nat.le_refl 3) (show k < K by omega)).1.subset (bpart_mem hc)
theorem bat_wlen : ∀ k : Nat, ∀ wd ∈ (bat nx a k).words, wd.length ≤ k
  | 0, wd, h => by simp [bat] at h; simp [h]
  | k + 1, wd, h => by
    have ih := bat_wlen k
    by_cases hk : k < (bat nx a k).met.length
    · rw [bat_succ hk] at h
      have hg := (bat_good (nx := nx) (a := a) k).2.1
      refine brow_ind (fun t => ∀ wd ∈ t.words, wd.length ≤ k + 1) (fun wd h => Nat.le_succ_of_le (ih wd h)) (fun t c _ ht => ?_) 3 (Nat.le_refl 3) wd h
      unfold bvisit
      split
      · exact ht
      · intro v hv
        simp only [List.mem_append, List.mem_singleton] at hv
        rcases hv with hv | rfl
        · exact ht v hv
        · have := ih _ (memD (d := []) (show k < (bat nx a k).words.length by omega))
          simpa using this
    · rw [bat_stay (by omega)] at h
      exact Nat.le_succ_of_le (ih wd h)
theorem bat_mem_first (K : Nat) : a ∈ (bat nx a K).met := by
  have h := memD (d := a) (bat_pos (nx := nx) (a := a) K)
  rwa [bat_first] at h

/-- The automaton of what was met. -/
def numRow (nx : α → Nat → α) (F : List α) (x : α) : List Int := (List.range 3).map fun c => (placeOf F (nx x c) : Int)
def numDfa (nx : α → Nat → α) (en : α → Bool) (F : List α) : DfaD := ⟨F.map (numRow nx F), F.map en⟩
theorem numDfa_len (nx : α → Nat → α) (en : α → Bool) (F : List α) : (numDfa nx en F).next.length = F.length := by simp [numDfa]
theorem numDfa_row {en : α → Bool} {F : List α} {i : Nat} (hi : i < F.length) : (numDfa nx en F).next.getD i [] = numRow nx F (F.getD i a) := by
  simp [numDfa, List.getElem?_eq_getElem hi]
theorem numRow_at {F : List α} {x : α} {c : Nat} (hc : c < 3) : (numRow nx F x).getD c 0 = (placeOf F (nx x c) : Int) := by
  simp [numRow, hc]
theorem dnx_num {en : α → Bool} {F : List α} {s : Int} {c : Nat} (h0 : 0 ≤ s) (h1 : s < F.length) (hc : c < 3) : dnx (numDfa nx en F) s c = numNext nx a F s c := by
  unfold dnx numNext
  rw [numDfa_row (a := a) (by omega), numRow_at hc]
theorem den_num {en : α → Bool} {F : List α} {i : Nat} (hi : i < F.length) : den (numDfa nx en F) (i : Int) = en F[i] := by
  simp [den, numDfa, hi]
theorem fine_num {en : α → Bool} {K : Nat} (hK : (bat nx a K).met.length ≤ K) (hK2 : K ≤ 100000) : fine (numDfa nx en (bat nx a K).met) := by
  refine ⟨?_, ?_, ?_, fun i hi => ?_⟩
  · rw [numDfa_len]; exact bat_pos K
  · rw [numDfa_len]; omega
  · simp [numDfa]
  · rw [numDfa_len] at hi
    rw [numDfa_row (a := a) hi]
    refine ⟨by simp [numRow], fun c hc => ?_⟩
    rw [numRow_at hc, numDfa_len]
    exact ⟨by omega, by exact_mod_cast placeOf_lt (bat_closed hK (memD hi) hc)⟩
/-- The numbered automaton hits first where the things themselves do. -/
theorem firstHit_num {en : α → Bool} {K : Nat} (hK : (bat nx a K).met.length ≤ K) :
    firstHit (den (numDfa nx en (bat nx a K).met)) (bat (dnx (numDfa nx en (bat nx a K).met)) 0 (numDfa nx en (bat nx a K).met).next.length) = firstHit en (bat nx a K) := by
  rw [numDfa_len]
  obtain ⟨m, hm⟩ : ∃ m, m = (bat nx a K).met.length := ⟨_, rfl⟩
  have hle : (bat nx a m).met.length ≤ m := by
    have := (bat_le (nx := nx) (a := a) (show m ≤ K by omega)).1.length_le
    omega
  have hd : bat nx a K = bat nx a m := bat_done hle (by omega)
  have hp := bat_pos (nx := nx) (a := a) K
  have hlt : ∀ (s : Int) c, c < 3 → 0 ≤ s ∧ s < m → 0 ≤ numNext nx a (bat nx a K).met s c ∧ numNext nx a (bat nx a K).met s c < m := fun s c hc hs => by
    unfold numNext
    have := placeOf_lt (bat_closed hK (memD (d := a) (show s.toNat < (bat nx a K).met.length by omega)) hc)
    omega
  have e1 : bat (numNext nx a (bat nx a K).met) 0 m = bat (dnx (numDfa nx en (bat nx a K).met)) 0 m :=
    bat_congr (Q := fun s => 0 ≤ s ∧ s < (m : Int)) (by omega) (fun s c hc hs => hlt s c hc hs) (fun s c hc hs => (dnx_num (by omega) (by omega) hc).symm) m
  rw [← hm, ← e1, num_sim nx a K m (by omega), ← hd]
  show firstHit _ _ = firstHit en ⟨(bat nx a K).met, (bat nx a K).words⟩
  refine firstHit_congr _ _ _ _ _ (by simp [upInts]) fun j h1 h2 => ?_
  have : (upInts (bat nx a K).met.length)[j] = (j : Int) := by simp [upInts]
  rw [this]
  exact den_num h2
end
end Go.Proofs.Ytjcegbcmomfgaaa
