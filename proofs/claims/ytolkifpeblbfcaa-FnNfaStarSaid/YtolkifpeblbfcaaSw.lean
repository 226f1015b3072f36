/-
  NfaStar, of the program and of the reference, over readable automata; what the laws over it say, plain.
  Condition: the automaton is readable.
-/
import Derived.Test.YtolkifpeblbfcaaIs
import Derived.Test.YtolkifpeblbfcaaNr
namespace Go.Proofs.Ytolkifpeblbfcaa
open Go.RowKit

theorem implStarR_any (n X : NfaD) (ok : Bool) (v : Value) (w : World) (hX : starL n = (X, ok)) (h : NfaR 0 w v n) :
    Calls Try.prog 34 #[v] w fun e w' => RNt X ok w e w' := by
  obtain ⟨v1, v2, v3, rfl, h1, h2, h3, hs0, hs1⟩ := h
  have := implStar_any n v1 v2 v3 w h1 h2 h3 hs0 hs1
  rwa [hX] at this
theorem specStarR_any (n X : NfaD) (ok : Bool) (v : Value) (w : World) (hX : starL n = (X, ok)) (h : NfaR 0 w v n) :
    Calls Try.prog 35 #[v] w fun e w' => RNt X ok w e w' := by
  obtain ⟨v1, v2, v3, rfl, h1, h2, h3, hs0, hs1⟩ := h
  have := star_any n v1 v2 v3 w h1 h2 h3 hs0 hs1
  rwa [hX] at this
theorem starL_cases (n : NfaD) : starL n = (zeN, false) ∨ (nfaOk n = true ∧ nfaOk (starN n) = true ∧ starL n = (starN n, true)) := by
  unfold starL limN
  cases h1 : nfaOk n
  · exact .inl (if_neg (by simp))
  · rw [if_pos rfl]
    cases h2 : nfaOk (starN n)
    · exact .inl (if_neg (by simp))
    · exact .inr ⟨rfl, rfl, if_pos rfl⟩
theorem limN_bound {n X : NfaD} {ok : Bool} (h : starL n = (X, ok)) (h0 : -1000 ≤ n.states) (h1 : n.states ≤ 1000) : -9223372036854775808 ≤ X.states ∧ X.states ≤ 9223372036854775807 := by
  rcases starL_cases n with h2 | ⟨-, -, h2⟩ <;> rw [h2] at h <;> injection h with h3 h4 <;> subst h3
  · simp [zeN]
  · simp only [starN]; omega
/-- Repeated twice is repeated once. -/
theorem starT {n X Y : NfaD} (h1 : starL n = (X, true)) (h2 : starL X = (Y, true)) (l : List Nat) : accT Y l = accT X l := by
  rcases starL_cases n with h | ⟨a1, a2, h⟩ <;> rw [h] at h1 <;> injection h1 with h3 h4
  · cases h4
  · subst h3
    rcases starL_cases (starN n) with h | ⟨a3, a4, h⟩ <;> rw [h] at h2 <;> injection h2 with h3 h4
    · cases h4
    · subst h3
      unfold accT
      rw [a4, a3, star_star a2 a4]
end Go.Proofs.Ytolkifpeblbfcaa
