/-
  The steps of an automaton with choices, as lists: impl.NfaStep, spec.NfaStep.
  Condition: the automaton and the list are readable.
-/
import Derived.Test.YtjcegbcmomfgaaaCv
import Derived.Test.YtjcegbcmomfgaaaTb
namespace Go.Proofs.Ytjcegbcmomfgaaa
open Go.RowKit


/-- The states to which a letter leads, as a list. -/
def stepL (n : NfaD) (L : List Int) (c : Int) : List Int := if nfaOk n = true ∧ stOk L n.states = true ∧ inB c 0 2 = true then members 40 (stV 40 n.moves (setV L) c) else []
theorem stepL_bad {n : NfaD} {L : List Int} {c : Int} (h : nfaOk n = false ∨ stOk L n.states = false ∨ inB c 0 2 = false) : stepL n L c = [] := by
  unfold stepL
  rw [if_neg]
  rintro ⟨h1, h2, h3⟩
  rcases h with h | h | h
  · rw [h] at h1; cases h1
  · rw [h] at h2; cases h2
  · rw [h] at h3; cases h3
theorem stepL_ok {n : NfaD} {L : List Int} {c : Int} (h1 : nfaOk n = true) (h2 : stOk L n.states = true) (h3 : inB c 0 2 = true) : stepL n L c = members 40 (stV 40 n.moves (setV L) c) := if_pos ⟨h1, h2, h3⟩
theorem stV_lt2 {m : Nat} {ms : List (Int × Int × Int)} (h : mvIn m ms) (v : Nat) (c : Int) : stV 40 ms v c < 2 ^ m :=
  clIt_lt h (foldl_inv _ (fun u => u < 2 ^ m) (fun _ _ hx hu => stMove_lt h hx hu) (Nat.two_pow_pos m)) 40
end Go.Proofs.Ytjcegbcmomfgaaa
