/-
  The walks over impl.product with the functions that are handed to it.
  Conditions: the automata read as such and are valid.
-/
import Derived.Test.YtjcegbcmomfgaaaExp
namespace Go.Proofs.Ytjcegbcmomfgaaa
open Go.RowKit Go.Maps

/-- The pairs that two automata meet. -/
abbrev metP (a b : DfaD) (most : Nat) : List (Int × Int) := (bat (stepP a b) (0, 0) most).met
theorem inPair_zero {a b : DfaD} (hda : dfaOk a.next a.ends = true) (hdb : dfaOk b.next b.ends = true) : inPair a b (0, 0) = true := by
  have h1 := dfaOk_len hda
  have h2 := dfaOk_len hdb
  simp [inPair, inB]
  omega
theorem inPair_step {a b : DfaD} (hda : dfaOk a.next a.ends = true) (hdb : dfaOk b.next b.ends = true) {x : Int × Int} {c : Nat} (hc : c < 3) (hx : inPair a b x = true) : inPair a b (stepP a b x c) = true := by
  obtain ⟨i, j, rfl, hi, hj⟩ := inPair_nat hx
  have h1 := (dfaOk_row hda hi).2 c hc
  have h2 := (dfaOk_row hdb hj).2 c hc
  have e : stepP a b ((i : Int), (j : Int)) c = ((a.next.getD i []).getD c 0, (b.next.getD j []).getD c 0) := rfl
  rw [e]
  simp only [inPair, inB, Bool.and_eq_true, decide_eq_true_eq]
  omega
theorem inPair_fit {a b : DfaD} (hda : dfaOk a.next a.ends = true) (hdb : dfaOk b.next b.ends = true) {x : Int × Int} (hx : inPair a b x = true) : fitI x.1 ∧ fitI x.2 := by
  obtain ⟨i, j, rfl, hi, hj⟩ := inPair_nat hx
  have h1 := dfaOk_len hda
  have h2 := dfaOk_len hdb
  unfold fitI
  simp only
  omega

end Go.Proofs.Ytjcegbcmomfgaaa
