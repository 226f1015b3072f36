/-
  Refining classes of states till they stay, plain: the least state of the same class, round by round; it ends.
  No condition: this text speaks of no program.
-/
import Derived.Test.YtclhcfmlkfiidaaNs
namespace Go.Proofs.Ytclhcfmlkfiidaa
section
variable (n : Nat) (nx : Nat → Nat → Nat)
/-- Two states of one class from which all letters lead to the same classes. -/
def sameAt (cl : Nat → Nat) (t s : Nat) : Bool := decide (cl t = cl s) && (List.range 3).all fun c => decide (cl (nx t c) = cl (nx s c))
theorem sameAt_iff {cl : Nat → Nat} {t s : Nat} : sameAt nx cl t s = true ↔ cl t = cl s ∧ ∀ c, c < 3 → cl (nx t c) = cl (nx s c) := by
  simp [sameAt]
theorem sameAt_refl (cl : Nat → Nat) (s : Nat) : sameAt nx cl s s = true := (sameAt_iff nx).2 ⟨rfl, fun _ _ => rfl⟩
theorem sameAt_symm {cl : Nat → Nat} {t s : Nat} (h : sameAt nx cl t s = true) : sameAt nx cl s t = true := by
  obtain ⟨h1, h2⟩ := (sameAt_iff nx).1 h
  exact (sameAt_iff nx).2 ⟨h1.symm, fun c hc => (h2 c hc).symm⟩
theorem sameAt_trans {cl : Nat → Nat} {t s r : Nat} (h : sameAt nx cl t s = true) (h' : sameAt nx cl s r = true) : sameAt nx cl t r = true := by
  obtain ⟨h1, h2⟩ := (sameAt_iff nx).1 h
  obtain ⟨h3, h4⟩ := (sameAt_iff nx).1 h'
  exact (sameAt_iff nx).2 ⟨h1.trans h3, fun c hc => (h2 c hc).trans (h4 c hc)⟩
/-- The least number below a bound that has a property, or the bound. -/
def leastN (p : Nat → Bool) : Nat → Nat
  | 0 => 0
  | k + 1 => if p (leastN p k) && decide (leastN p k < k) then leastN p k else if p k then k else k + 1
end
theorem least_spec (p : Nat → Bool) : ∀ k, (leastN p k < k ∧ p (leastN p k) = true ∧ ∀ j, j < leastN p k → p j = false) ∨ (leastN p k = k ∧ ∀ j, j < k → p j = false)
  | 0 => Or.inr ⟨rfl, fun j hj => absurd hj (by omega)⟩
  | k + 1 => by
    rcases least_spec p k with ⟨h1, h2, h3⟩ | ⟨h1, h2⟩
    · left
      have e : leastN p (k + 1) = leastN p k := by simp [leastN, h1, h2]
      rw [e]
      exact ⟨by omega, h2, h3⟩
    · by_cases hp : p k = true
      · left
        have e : leastN p (k + 1) = k := by simp [leastN, h1, hp]
        rw [e]
        exact ⟨by omega, hp, h2⟩
      · right
        have e : leastN p (k + 1) = k + 1 := by simp [leastN, h1, hp]
        refine ⟨e, fun j hj => ?_⟩
        by_cases hjk : j = k
        · subst hjk; simpa using hp
        · exact h2 j (by omega)
theorem least_of {p : Nat → Bool} {k s : Nat} (hs : s < k) (hp : p s = true) : leastN p k ≤ s ∧ p (leastN p k) = true ∧ ∀ j, j < leastN p k → p j = false := by
  rcases least_spec p k with ⟨h1, h2, h3⟩ | ⟨h1, h2⟩
  · refine ⟨?_, h2, h3⟩
    rcases Nat.lt_or_ge s (leastN p k) with h | h
    · rw [h3 s h] at hp; cases hp
    · exact h
  · rw [h2 s hs] at hp; cases hp
section
variable {n : Nat} {nx : Nat → Nat → Nat}
/-- The least state of the class. -/
structure GoodC (n : Nat) (cl : Nat → Nat) : Prop where
  le : ∀ s, s < n → cl s ≤ s
  id : ∀ s, s < n → cl (cl s) = cl s
def refineC (n : Nat) (nx : Nat → Nat → Nat) (cl : Nat → Nat) (s : Nat) : Nat := leastN (fun t => sameAt nx cl t s) n
theorem refine_facts {cl : Nat → Nat} {s : Nat} (hs : s < n) : refineC n nx cl s ≤ s ∧ sameAt nx cl (refineC n nx cl s) s = true ∧ ∀ j, j < refineC n nx cl s → sameAt nx cl j s = false :=
  least_of hs (sameAt_refl nx cl s)
theorem refine_eq {cl : Nat → Nat} {s t : Nat} (hs : s < n) (ht : t < n) : refineC n nx cl s = refineC n nx cl t ↔ sameAt nx cl s t = true := by
  obtain ⟨a1, a2, a3⟩ := refine_facts (nx := nx) (cl := cl) hs
  obtain ⟨b1, b2, b3⟩ := refine_facts (nx := nx) (cl := cl) ht
  constructor
  · intro h
    rw [h] at a2
    exact sameAt_trans nx (sameAt_symm nx a2) b2
  · intro h
    have h1 : ¬ refineC n nx cl s < refineC n nx cl t := fun hlt => by
      have := b3 _ hlt
      rw [sameAt_trans nx a2 h] at this
      cases this
    have h2 : ¬ refineC n nx cl t < refineC n nx cl s := fun hlt => by
      have := a3 _ hlt
      rw [sameAt_trans nx b2 (sameAt_symm nx h)] at this
      cases this
    omega
theorem refine_good {cl : Nat → Nat} : GoodC n (refineC n nx cl) := by
  refine ⟨fun s hs => (refine_facts hs).1, fun s hs => ?_⟩
  obtain ⟨a1, a2, a3⟩ := refine_facts (nx := nx) (cl := cl) hs
  exact (refine_eq (by omega) hs).2 a2
/-- A state that stands for its class goes on to do so. -/
theorem refine_rep {cl : Nat → Nat} (hg : GoodC n cl) {s : Nat} (hs : s < n) (h : cl s = s) : refineC n nx cl s = s := by
  obtain ⟨a1, a2, a3⟩ := refine_facts (nx := nx) (cl := cl) hs
  have e := ((sameAt_iff nx).1 a2).1
  have := hg.le (refineC n nx cl s) (by omega)
  omega
def reps (n : Nat) (cl : Nat → Nat) : Nat := ((List.range n).filter fun s => decide (cl s = s)).length
theorem refine_more {cl : Nat → Nat} (hg : GoodC n cl) {s : Nat} (hs : s < n) (hne : refineC n nx cl s ≠ cl s) : reps n cl < reps n (refineC n nx cl) := by
  obtain ⟨a1, a2, a3⟩ := refine_facts (nx := nx) (cl := cl) hs
  have e := ((sameAt_iff nx).1 a2).1
  have hr : refineC n nx cl s < n := by omega
  refine filter_lt (a := refineC n nx cl s) ?_ ?_ (List.mem_range.2 hr) fun x hx h => ?_
  · have : cl (refineC n nx cl s) ≠ refineC n nx cl s := by rw [e]; exact fun h => hne h.symm
    simpa using this
  · simpa using refine_good.id s hs
  · simp only [decide_eq_true_eq] at h ⊢
    exact refine_rep hg (List.mem_range.1 hx) h
theorem reps_le (n : Nat) (cl : Nat → Nat) : reps n cl ≤ n := by
  have := List.length_filter_le (fun s => decide (cl s = s)) (List.range n)
  simpa [reps] using this
def clAt (n : Nat) (nx : Nat → Nat → Nat) (en : Nat → Bool) : Nat → Nat → Nat
  | 0 => fun s => leastN (fun t => en t == en s) n
  | i + 1 => refineC n nx (clAt n nx en i)
theorem cl0_facts {en : Nat → Bool} {s : Nat} (hs : s < n) : clAt n nx en 0 s ≤ s ∧ en (clAt n nx en 0 s) = en s ∧ ∀ j, j < clAt n nx en 0 s → en j ≠ en s := by
  obtain ⟨a, b, c⟩ := least_of (p := fun t => en t == en s) hs (by simp)
  have b' : en (leastN (fun t => en t == en s) n) = en s := by simpa using b
  exact ⟨a, b', fun j hj => by simpa using c j hj⟩
theorem cl0_eq {en : Nat → Bool} {s t : Nat} (hs : s < n) (ht : t < n) : clAt n nx en 0 s = clAt n nx en 0 t ↔ en s = en t := by
  obtain ⟨a1, a2, a3⟩ := cl0_facts (nx := nx) (en := en) hs
  obtain ⟨b1, b2, b3⟩ := cl0_facts (nx := nx) (en := en) ht
  constructor
  · intro h; rw [← a2, ← b2, h]
  · intro h
    have h1 : ¬ clAt n nx en 0 s < clAt n nx en 0 t := fun hlt => b3 _ hlt (a2.trans h)
    have h2 : ¬ clAt n nx en 0 t < clAt n nx en 0 s := fun hlt => a3 _ hlt (b2.trans h.symm)
    omega
theorem clAt_good (en : Nat → Bool) : ∀ i, GoodC n (clAt n nx en i)
  | 0 => ⟨fun s hs => (cl0_facts hs).1, fun s hs => by
    obtain ⟨a1, a2, a3⟩ := cl0_facts (nx := nx) (en := en) hs
    exact (cl0_eq (by omega) hs).2 a2⟩
  | _ + 1 => refine_good
/-- The classes stay as they are from i on. -/
def stays (n : Nat) (nx : Nat → Nat → Nat) (en : Nat → Bool) (i : Nat) : Prop := ∀ s, s < n → clAt n nx en (i + 1) s = clAt n nx en i s
theorem stays_ex (en : Nat → Bool) : ∃ i, i ≤ n ∧ stays n nx en i ∧ ∀ j, j < i → ¬ stays n nx en j := by
  have key : ∀ k, (∀ j, j < k → ¬ stays n nx en j) → k ≤ reps n (clAt n nx en k) := by
    intro k
    induction k with
    | zero => intro _; exact Nat.zero_le _
    | succ k ih =>
      intro h
      have h1 := ih fun j hj => h j (by omega)
      have h2 := h k (by omega)
      have h3 : ∃ s, s < n ∧ clAt n nx en (k + 1) s ≠ clAt n nx en k s := Classical.byContradiction fun hn => h2 fun s hs => Classical.byContradiction fun hne => hn ⟨s, hs, hne⟩
      obtain ⟨s, hs, hne⟩ := h3
      have := refine_more (nx := nx) (clAt_good (nx := nx) en k) hs hne
      show k + 1 ≤ reps n (refineC n nx (clAt n nx en k))
      omega
  have hex : ∃ i, i ≤ n ∧ stays n nx en i := Classical.byContradiction fun hn => by
    have := key (n + 1) fun j hj hs => hn ⟨j, by omega, hs⟩
    have := reps_le n (clAt n nx en (n + 1))
    omega
  obtain ⟨i, hi, hs⟩ := hex
  have key2 : ∀ k, (∃ j, j < k ∧ stays n nx en j) → ∃ i, i < k ∧ stays n nx en i ∧ ∀ j, j < i → ¬ stays n nx en j := by
    intro k
    induction k with
    | zero => rintro ⟨j, hj, -⟩; omega
    | succ k ih =>
      rintro ⟨j, hj, hs⟩
      by_cases h : ∃ j, j < k ∧ stays n nx en j
      · obtain ⟨i, h1, h2⟩ := ih h
        exact ⟨i, by omega, h2⟩
      · have : j = k := Classical.byContradiction fun hne => h ⟨j, by omega, hs⟩
        subst this
        exact ⟨j, by omega, hs, fun i hi hs' => h ⟨i, hi, hs'⟩⟩
  obtain ⟨i', h1, h2⟩ := key2 (n + 1) ⟨i, by omega, hs⟩
  exact ⟨i', by omega, h2⟩
theorem leastN_congr {p q : Nat → Bool} : ∀ {k : Nat}, (∀ t, t < k → p t = q t) → leastN p k = leastN q k
  | 0, _ => rfl
  | k + 1, h => by
    have ih := leastN_congr (k := k) fun t ht => h t (by omega)
    have hk := h k (by omega)
    unfold leastN
    rw [← ih, ← hk]
    by_cases hl : leastN p k < k
    · rw [h _ (by omega)]
    · simp [hl]
theorem refine_congr (hnx : ∀ s c, s < n → c < 3 → nx s c < n) {cl cl' : Nat → Nat} (h : ∀ s, s < n → cl s = cl' s) {s : Nat} (hs : s < n) : refineC n nx cl s = refineC n nx cl' s := by
  unfold refineC
  refine leastN_congr fun t ht => ?_
  rw [Bool.eq_iff_iff, sameAt_iff, sameAt_iff, h t ht, h s hs]
  constructor
  · rintro ⟨h1, h2⟩
    exact ⟨h1, fun c hc => by rw [← h _ (hnx t c ht hc), ← h _ (hnx s c hs hc)]; exact h2 c hc⟩
  · rintro ⟨h1, h2⟩
    exact ⟨h1, fun c hc => by rw [h _ (hnx t c ht hc), h _ (hnx s c hs hc)]; exact h2 c hc⟩
theorem stays_all (hnx : ∀ s c, s < n → c < 3 → nx s c < n) {en : Nat → Bool} {i : Nat} (h : stays n nx en i) : ∀ j, i ≤ j → ∀ s, s < n → clAt n nx en j s = clAt n nx en i s := by
  intro j
  induction j with
  | zero =>
    intro hj s _
    obtain rfl : i = 0 := by omega
    rfl
  | succ j ih =>
    intro hj s hs
    by_cases hij : i = j + 1
    · subst hij; rfl
    · have e : clAt n nx en (j + 1) s = refineC n nx (clAt n nx en j) s := rfl
      rw [e, refine_congr hnx (ih (by omega)) hs]
      exact h s hs
/-- The classes at the end: those of round n. -/
def clEnd (n : Nat) (nx : Nat → Nat → Nat) (en : Nat → Bool) : Nat → Nat := clAt n nx en n
theorem clEnd_at (hnx : ∀ s c, s < n → c < 3 → nx s c < n) {en : Nat → Bool} {i : Nat} (hi : i ≤ n) (h : stays n nx en i) {s : Nat} (hs : s < n) : clEnd n nx en s = clAt n nx en i s := stays_all hnx h n hi s hs
theorem clEnd_stays (hnx : ∀ s c, s < n → c < 3 → nx s c < n) (en : Nat → Bool) : stays n nx en n := by
  obtain ⟨i, hi, hs, -⟩ := stays_ex (n := n) (nx := nx) en
  intro s hsn
  rw [stays_all hnx hs (n + 1) (by omega) s hsn, stays_all hnx hs n hi s hsn]
/-- Two states are in one class at the end exactly if they are of one class and so is where they lead. -/
theorem clEnd_eq (hnx : ∀ s c, s < n → c < 3 → nx s c < n) {en : Nat → Bool} {s t : Nat} (hs : s < n) (ht : t < n) : clEnd n nx en s = clEnd n nx en t → ∀ c, c < 3 → clEnd n nx en (nx s c) = clEnd n nx en (nx t c) := by
  intro h
  have h1 := clEnd_stays hnx en
  have h2 : refineC n nx (clEnd n nx en) s = refineC n nx (clEnd n nx en) t := by
    have a := h1 s hs
    have b := h1 t ht
    exact a.trans (h.trans b.symm)
  exact ((sameAt_iff nx).1 ((refine_eq hs ht).1 h2)).2
theorem clAt_ends {en : Nat → Bool} : ∀ (i : Nat) {s t : Nat}, s < n → t < n → clAt n nx en i s = clAt n nx en i t → en s = en t
  | 0, _, _, hs, ht, h => (cl0_eq hs ht).1 h
  | i + 1, _, _, hs, ht, h => clAt_ends i hs ht ((sameAt_iff nx).1 ((refine_eq hs ht).1 h)).1
theorem clEnd_ends {en : Nat → Bool} {s t : Nat} (hs : s < n) (ht : t < n) (h : clEnd n nx en s = clEnd n nx en t) : en s = en t := clAt_ends n hs ht h
end
end Go.Proofs.Ytclhcfmlkfiidaa
