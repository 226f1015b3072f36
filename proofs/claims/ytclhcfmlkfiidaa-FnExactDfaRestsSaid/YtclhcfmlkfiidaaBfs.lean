/-
  States met in breadth, letter by letter, with the words that lead to them: the plain meaning of the program's and of the reference's searches.
  No condition: this text speaks of no program.
-/
import Derived.Test.YtclhcfmlkfiidaaLib
namespace Go.Proofs.Ytclhcfmlkfiidaa

structure Bs (α : Type) where
  met : List α
  words : List (List Nat)

section
variable {α : Type} [DecidableEq α]
def bvisit (nx : α → Nat → α) (x : α) (wd : List Nat) (s : Bs α) (c : Nat) : Bs α :=
  if nx x c ∈ s.met then s else ⟨s.met ++ [nx x c], s.words ++ [wd ++ [c]]⟩
def brow (nx : α → Nat → α) (x : α) (wd : List Nat) (s : Bs α) : Nat → Bs α
  | 0 => s
  | n + 1 => bvisit nx x wd (brow nx x wd s n) n
def bat (nx : α → Nat → α) (a : α) : Nat → Bs α
  | 0 => ⟨[a], [[]]⟩
  | k + 1 => if k < (bat nx a k).met.length then brow nx ((bat nx a k).met.getD k a) ((bat nx a k).words.getD k []) (bat nx a k) 3 else bat nx a k
/-- The k-th state's letters before n are done. -/
def bpart (nx : α → Nat → α) (a : α) (k n : Nat) : Bs α := brow nx ((bat nx a k).met.getD k a) ((bat nx a k).words.getD k []) (bat nx a k) n

variable {nx : α → Nat → α} {a : α}
theorem bpart_zero (k : Nat) : bpart nx a k 0 = bat nx a k := rfl
theorem bat_succ {k : Nat} (h : k < (bat nx a k).met.length) : bat nx a (k + 1) = bpart nx a k 3 := by
  simp only [bat, if_pos h]
  rfl
theorem bat_stay {k : Nat} (h : (bat nx a k).met.length ≤ k) : bat nx a (k + 1) = bat nx a k := by
  simp only [bat, if_neg (show ¬ k < (bat nx a k).met.length by omega)]
theorem bpart_succ (k n : Nat) : bpart nx a k (n + 1) = bvisit nx ((bat nx a k).met.getD k a) ((bat nx a k).words.getD k []) (bpart nx a k n) n := rfl
theorem bpart_old {k n : Nat} (h : nx ((bat nx a k).met.getD k a) n ∈ (bpart nx a k n).met) : bpart nx a k (n + 1) = bpart nx a k n := by
  rw [bpart_succ, bvisit, if_pos h]
theorem bpart_new {k n : Nat} (h : nx ((bat nx a k).met.getD k a) n ∉ (bpart nx a k n).met) : bpart nx a k (n + 1) = ⟨(bpart nx a k n).met ++ [nx ((bat nx a k).met.getD k a) n], (bpart nx a k n).words ++ [(bat nx a k).words.getD k [] ++ [n]]⟩ := by
  rw [bpart_succ, bvisit, if_neg h]

/-- A property that the visits keep holds everywhere. -/
theorem brow_ind (Q : Bs α → Prop) {x : α} {wd : List Nat} {s : Bs α} (hs : Q s) (hv : ∀ t c, c < 3 → Q t → Q (bvisit nx x wd t c)) : ∀ n, n ≤ 3 → Q (brow nx x wd s n)
  | 0, _ => hs
  | n + 1, h => hv _ n (by omega) (brow_ind Q hs hv n (by omega))
theorem bat_ind (Q : Bs α → Prop) (h0 : Q ⟨[a], [[]]⟩) (hv : ∀ s k, k < s.met.length → ∀ t c, c < 3 → Q s → Q t → Q (bvisit nx (s.met.getD k a) (s.words.getD k []) t c)) : ∀ k, Q (bat nx a k)
  | 0 => h0
  | k + 1 => by
    have ih := bat_ind Q h0 hv k
    by_cases h : k < (bat nx a k).met.length
    · rw [bat_succ h]
      exact brow_ind Q ih (fun t c hc ht => hv _ k h t c hc ih ht) 3 (by omega)
    · rw [bat_stay (by omega)]
      exact ih
theorem bpart_ind (Q : Bs α → Prop) (h0 : Q ⟨[a], [[]]⟩) (hv : ∀ s k, k < s.met.length → ∀ t c, c < 3 → Q s → Q t → Q (bvisit nx (s.met.getD k a) (s.words.getD k []) t c)) {k n : Nat} (hk : k < (bat nx a k).met.length) (hn : n ≤ 3) : Q (bpart nx a k n) :=
  brow_ind Q (bat_ind Q h0 hv k) (fun t c hc ht => hv _ k hk t c hc (bat_ind Q h0 hv k) ht) n hn

omit [DecidableEq α] in
theorem nodup_snoc {l : List α} {x : α} (h : l.Nodup) (hx : x ∉ l) : (l ++ [x]).Nodup := by
  rw [List.nodup_append]
  refine ⟨h, by simp, ?_⟩
  intro b hb c hc
  simp only [List.mem_singleton] at hc
  subst hc
  intro e
  subst e
  exact hx hb
theorem bvisit_good (x : α) (wd : List Nat) {t : Bs α} (c : Nat) (h : t.met.Nodup ∧ t.words.length = t.met.length ∧ t.met.head? = some a) :
    (bvisit nx x wd t c).met.Nodup ∧ (bvisit nx x wd t c).words.length = (bvisit nx x wd t c).met.length ∧ (bvisit nx x wd t c).met.head? = some a := by
  unfold bvisit
  split
  · exact h
  · rename_i hx
    obtain ⟨h1, h2, h3⟩ := h
    exact ⟨nodup_snoc h1 hx, by simp [h2], by simp [h3]⟩
theorem bat_good (k : Nat) : (bat nx a k).met.Nodup ∧ (bat nx a k).words.length = (bat nx a k).met.length ∧ (bat nx a k).met.head? = some a :=
  bat_ind (fun s => s.met.Nodup ∧ s.words.length = s.met.length ∧ s.met.head? = some a) (by simp) (fun s k _ t c _ _ ht => bvisit_good _ _ _ ht) k
theorem bpart_good {k n : Nat} (hk : k < (bat nx a k).met.length) (hn : n ≤ 3) : (bpart nx a k n).met.Nodup ∧ (bpart nx a k n).words.length = (bpart nx a k n).met.length ∧ (bpart nx a k n).met.head? = some a :=
  bpart_ind (fun s => s.met.Nodup ∧ s.words.length = s.met.length ∧ s.met.head? = some a) (by simp) (fun s k _ t c _ _ ht => bvisit_good _ _ _ ht) hk hn
theorem bat_pos (k : Nat) : 0 < (bat nx a k).met.length := by
  have := (bat_good (nx := nx) (a := a) k).2.2
  cases h : (bat nx a k).met with
  | nil => rw [h] at this; simp at this
  | cons => simp
theorem bat_first (k : Nat) : (bat nx a k).met.getD 0 a = a := by
  have := (bat_good (nx := nx) (a := a) k).2.2
  cases h : (bat nx a k).met with
  | nil => rw [h] at this; simp at this
  | cons => rw [h] at this; simpa using this
theorem bat_all {Q : α → Prop} (h0 : Q a) (hv : ∀ x c, c < 3 → Q x → Q (nx x c)) (k : Nat) : ∀ x ∈ (bat nx a k).met, Q x := by
  refine bat_ind (fun s => ∀ x ∈ s.met, Q x) (by simpa using h0) (fun s k hk t c hc hs ht => ?_) k
  unfold bvisit
  split
  · exact ht
  · intro x hx
    simp only [List.mem_append, List.mem_singleton] at hx
    rcases hx with hx | rfl
    · exact ht x hx
    · refine hv _ c hc (hs _ ?_)
      rw [List.getD_eq_getElem?_getD, List.getElem?_eq_getElem hk]
      simp
theorem bpart_all {Q : α → Prop} (h0 : Q a) (hv : ∀ x c, c < 3 → Q x → Q (nx x c)) {k n : Nat} (hk : k < (bat nx a k).met.length) (hn : n ≤ 3) : ∀ x ∈ (bpart nx a k n).met, Q x := by
  refine bpart_ind (fun s => ∀ x ∈ s.met, Q x) (by simpa using h0) (fun s k hk t c hc hs ht => ?_) hk hn
  unfold bvisit
  split
  · exact ht
  · intro x hx
    simp only [List.mem_append, List.mem_singleton] at hx
    rcases hx with hx | rfl
    · exact ht x hx
    · refine hv _ c hc (hs _ ?_)
      rw [List.getD_eq_getElem?_getD, List.getElem?_eq_getElem hk]
      simp

/-- What was met stays, in its place. -/
def Bs.le (s t : Bs α) : Prop := s.met <+: t.met ∧ s.words <+: t.words
omit [DecidableEq α] in
theorem Bs.le_refl (s : Bs α) : s.le s := ⟨List.prefix_rfl, List.prefix_rfl⟩
omit [DecidableEq α] in
theorem Bs.le_trans {s t u : Bs α} (h : s.le t) (k : t.le u) : s.le u := ⟨h.1.trans k.1, h.2.trans k.2⟩
theorem bvisit_le (x : α) (wd : List Nat) (s : Bs α) (c : Nat) : s.le (bvisit nx x wd s c) := by
  unfold bvisit
  split
  · exact Bs.le_refl _
  · exact ⟨List.prefix_append _ _, List.prefix_append _ _⟩
theorem brow_le (x : α) (wd : List Nat) (s : Bs α) (n m : Nat) (h : n ≤ m) : (brow nx x wd s n).le (brow nx x wd s m) := by
  induction m with
  | zero => obtain rfl : n = 0 := by omega
            exact Bs.le_refl _
  | succ m ih =>
    by_cases hn : n = m + 1
    · subst hn; exact Bs.le_refl _
    · exact Bs.le_trans (ih (by omega)) (bvisit_le _ _ _ _)
theorem bpart_le {k n m : Nat} (h : n ≤ m) : (bpart nx a k n).le (bpart nx a k m) := brow_le _ _ _ n m h
theorem bat_le_succ (k : Nat) : (bat nx a k).le (bat nx a (k + 1)) := by
  by_cases h : k < (bat nx a k).met.length
  · rw [bat_succ h]
    exact brow_le _ _ _ 0 3 (by omega)
  · rw [bat_stay (by omega)]
    exact Bs.le_refl _
theorem bat_le {k m : Nat} (h : k ≤ m) : (bat nx a k).le (bat nx a m) := by
  induction m with
  | zero => obtain rfl : k = 0 := by omega
            exact Bs.le_refl _
  | succ m ih =>
    by_cases hn : k = m + 1
    · subst hn; exact Bs.le_refl _
    · exact Bs.le_trans (ih (by omega)) (bat_le_succ _)
theorem bpart_le_bat {k n m : Nat} (hk : k < (bat nx a k).met.length) (hn : n ≤ 3) (hm : k < m) : (bpart nx a k n).le (bat nx a m) := by
  have h1 : (bpart nx a k n).le (bat nx a (k + 1)) := by rw [bat_succ hk]; exact bpart_le hn
  exact Bs.le_trans h1 (bat_le hm)
theorem bat_done {k m : Nat} (h : (bat nx a k).met.length ≤ k) (hm : k ≤ m) : bat nx a m = bat nx a k := by
  induction m with
  | zero => obtain rfl : k = 0 := by omega
            rfl
  | succ m ih =>
    by_cases hn : k = m + 1
    · subst hn; rfl
    · have e := ih (by omega)
      rw [bat_stay (by rw [e]; omega), e]

/-- The place of a thing in a list. -/
def placeOf (l : List α) (x : α) : Nat := l.idxOf x
theorem placeOf_lt {l : List α} {x : α} (h : x ∈ l) : placeOf l x < l.length := List.idxOf_lt_length_iff.2 h
omit [DecidableEq α] in
theorem prefix_getD {l m : List α} (h : l <+: m) {k : Nat} (hk : k < l.length) (d : α) : m.getD k d = l.getD k d := by
  obtain ⟨t, rfl⟩ := h
  simp [List.getElem?_append_left hk]
theorem prefix_idx {l m : List α} (h : l <+: m) {x : α} (hx : x ∈ l) : placeOf m x = placeOf l x := by
  obtain ⟨t, rfl⟩ := h
  unfold placeOf
  rw [List.idxOf_append, if_pos hx]
theorem idx_snoc {l m : List α} {x : α} (h : l ++ [x] <+: m) (hx : x ∉ l) : placeOf m x = l.length := by
  rw [prefix_idx h (by simp)]
  unfold placeOf
  rw [List.idxOf_append, if_neg hx]
  simp
theorem idx_getD {l : List α} {k : Nat} (hk : k < l.length) (hn : l.Nodup) (d : α) : placeOf l (l.getD k d) = k := by
  unfold placeOf
  rw [List.getD_eq_getElem?_getD, List.getElem?_eq_getElem hk]
  simp [hn]
theorem getD_idx {l : List α} {x : α} (hx : x ∈ l) (d : α) : l.getD (placeOf l x) d = x := by
  unfold placeOf
  rw [List.getD_eq_getElem?_getD, List.getElem?_eq_getElem (List.idxOf_lt_length_iff.2 hx)]
  simp

/-- Where a state leads is met when its letter is done. -/
theorem bpart_mem {k n c : Nat} (hc : c < n) : nx ((bat nx a k).met.getD k a) c ∈ (bpart nx a k n).met := by
  have h1 : nx ((bat nx a k).met.getD k a) c ∈ (bpart nx a k (c + 1)).met := by
    by_cases h : nx ((bat nx a k).met.getD k a) c ∈ (bpart nx a k c).met
    · rw [bpart_old h]; exact h
    · rw [bpart_new h]; simp
  exact (bpart_le (nx := nx) (a := a) (k := k) (show c + 1 ≤ n by omega)).1.subset h1

/-- As many different things as fit. -/
theorem nodup_le {l m : List α} (hn : l.Nodup) (hs : ∀ x ∈ l, x ∈ m) : l.length ≤ m.length := by
  induction l generalizing m with
  | nil => simp
  | cons x l ih =>
    rw [List.nodup_cons] at hn
    have h1 := ih (m := m.erase x) hn.2 fun y hy => (List.mem_erase_of_ne (fun e => hn.1 (by rw [← e]; exact hy))).2 (hs y (by simp [hy]))
    have h2 := List.length_erase_of_mem (hs x (by simp))
    have h3 := List.length_pos_of_mem (hs x (by simp))
    simp only [List.length_cons]
    omega
end

/-- The automaton of what was met meets its own states in their order. -/
def numNext {α : Type} [DecidableEq α] (nx : α → Nat → α) (a : α) (F : List α) (s : Int) (c : Nat) : Int := placeOf F (nx (F.getD s.toNat a) c)
def upInts (n : Nat) : List Int := (List.range n).map Int.ofNat
theorem upInts_succ (n : Nat) : upInts (n + 1) = upInts n ++ [(n : Int)] := by simp [upInts, List.range_succ]
theorem mem_upInts {n : Nat} {x : Nat} : (x : Int) ∈ upInts n ↔ x < n := by
  simp only [upInts, List.mem_map, List.mem_range]
  constructor
  · rintro ⟨y, hy, e⟩
    have e2 : (y : Int) = (x : Int) := e
    omega
  · intro h
    exact ⟨x, h, rfl⟩
theorem upInts_getD {n k : Nat} (h : k < n) : (upInts n).getD k 0 = (k : Int) := by simp [upInts, h]
theorem upInts_len (n : Nat) : (upInts n).length = n := by simp [upInts]
theorem num_sim {α : Type} [DecidableEq α] (nx : α → Nat → α) (a : α) (K : Nat) : ∀ k, k ≤ K →
    bat (numNext nx a (bat nx a K).met) 0 k = ⟨upInts (bat nx a k).met.length, (bat nx a k).words⟩
  | 0, _ => rfl
  | k + 1, hK => by
    have ih := num_sim nx a K k (by omega)
    have hlen : (bat (numNext nx a (bat nx a K).met) 0 k).met.length = (bat nx a k).met.length := by rw [ih]; exact upInts_len _
    by_cases h : k < (bat nx a k).met.length
    · rw [bat_succ h, bat_succ (by rw [hlen]; exact h)]
      have hrow : ∀ n, n ≤ 3 → bpart (numNext nx a (bat nx a K).met) 0 k n = ⟨upInts (bpart nx a k n).met.length, (bpart nx a k n).words⟩ := by
        intro n
        induction n with
        | zero => intro _; rw [bpart_zero, bpart_zero]; exact ih
        | succ n ihn =>
          intro hn
          have e := ihn (by omega)
          have hx : (bat (numNext nx a (bat nx a K).met) 0 k).met.getD k 0 = (k : Int) := by rw [ih]; exact upInts_getD h
          have hF : (bat nx a K).met.getD k a = (bat nx a k).met.getD k a := prefix_getD (bat_le (show k ≤ K by omega)).1 h a
          have hnx : numNext nx a (bat nx a K).met (k : Int) n = (placeOf (bat nx a K).met (nx ((bat nx a k).met.getD k a) n) : Int) := by
            unfold numNext
            rw [show ((k : Int).toNat) = k from rfl, hF]
          by_cases hm : nx ((bat nx a k).met.getD k a) n ∈ (bpart nx a k n).met
          · rw [bpart_old hm]
            have hi := prefix_idx (bpart_le_bat (m := K) h (show n ≤ 3 by omega) (by omega)).1 hm
            have hlt : placeOf (bat nx a K).met (nx ((bat nx a k).met.getD k a) n) < (bpart nx a k n).met.length := by rw [hi]; exact placeOf_lt hm
            rw [bpart_old (by rw [hx, hnx, e]; exact mem_upInts.2 hlt), e]
          · have hb := bpart_le_bat (nx := nx) (a := a) (m := K) h hn (by omega)
            rw [bpart_new hm] at hb
            have hi := idx_snoc hb.1 hm
            rw [bpart_new (by rw [hx, hnx, e, hi]; simp [mem_upInts]), bpart_new hm, hx, hnx, hi, e, ih]
            simp [upInts_succ]
      exact hrow 3 (by omega)
    · rw [bat_stay (k := k) (a := a) (by omega), bat_stay (by rw [hlen]; omega)]
      exact ih
end Go.Proofs.Ytclhcfmlkfiidaa
