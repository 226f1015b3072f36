/-
  The plain meaning of 'pairs prove that two automata are alike', and the walk over the reference's CheckPairs.
  Conditions: the arguments read as automata and as a list of pairs.
-/
import Derived.Test.YtjcegbcmomfgaaaDvi
namespace Go.Proofs.Ytjcegbcmomfgaaa
open Go.RowKit

/-- The pair of the next states. -/
def stepP (a b : DfaD) (p : Int × Int) (c : Nat) : Int × Int := ((a.next.getD p.1.toNat []).getD c 0, (b.next.getD p.2.toNat []).getD c 0)
def inPair (a b : DfaD) (p : Int × Int) : Bool := inB p.1 0 ((a.next.length : Int) - 1) && inB p.2 0 ((b.next.length : Int) - 1)
def endsPair (a b : DfaD) (p : Int × Int) : Bool := a.ends.getD p.1.toNat false == b.ends.getD p.2.toNat false
def nextPair (a b : DfaD) (ps : List (Int × Int)) (p : Int × Int) : Bool := (List.range 3).all fun c => decide (stepP a b p c ∈ ps)
def pairOk (a b : DfaD) (ps : List (Int × Int)) (p : Int × Int) : Bool := inPair a b p && endsPair a b p && nextPair a b ps p
def provesB (a b : DfaD) (ps : List (Int × Int)) : Bool := decide (ps.length ≤ 1600) && ps.all (pairOk a b ps) && decide ((0, 0) ∈ ps)
def checkB (a b : DfaD) (ps : List (Int × Int)) : Bool := dfaOk a.next a.ends && dfaOk b.next b.ends && provesB a b ps

theorem provesB_bad {a b : DfaD} {ps : List (Int × Int)} {k : Nat} (hk : k < ps.length) (h : pairOk a b ps (ps.getD k (0, 0)) = false) : provesB a b ps = false := by
  unfold provesB
  have : ps.all (pairOk a b ps) = false := by
    rw [List.all_eq_false]
    exact ⟨_, mem_getD (d := (0, 0)) hk, by rw [h]; simp⟩
  simp [this]
theorem pairOk_in {a b : DfaD} {ps : List (Int × Int)} {p : Int × Int} (h : inPair a b p = false) : pairOk a b ps p = false := by simp [pairOk, h]
theorem pairOk_ends {a b : DfaD} {ps : List (Int × Int)} {p : Int × Int} (h : endsPair a b p = false) : pairOk a b ps p = false := by simp [pairOk, h]
theorem pairOk_next {a b : DfaD} {ps : List (Int × Int)} {p : Int × Int} {c : Nat} (hc : c < 3) (h : decide (stepP a b p c ∈ ps) = false) : pairOk a b ps p = false := by
  unfold pairOk nextPair
  have : ((List.range 3).all fun c => decide (stepP a b p c ∈ ps)) = false := by
    rw [List.all_eq_false]
    exact ⟨c, List.mem_range.2 hc, by rw [h]; simp⟩
  simp [this]
theorem inB_false_left {x lo hi : Int} (h : x < lo) : inB x lo hi = false := by simp [inB]; omega
theorem inB_true {x lo hi : Int} (h : inB x lo hi = true) : lo ≤ x ∧ x ≤ hi := by simpa [inB] using h

/-- What validity says of a row of an automaton. -/
theorem dfaOk_row {next : List (List Int)} {ends : List Bool} (h : dfaOk next ends = true) {i : Nat} (hi : i < next.length) :
    (next.getD i []).length = 3 ∧ ∀ c, c < 3 → 0 ≤ (next.getD i []).getD c 0 ∧ (next.getD i []).getD c 0 < next.length := by
  simp only [dfaOk, Bool.and_eq_true, List.all_eq_true] at h
  have hr := h.1.1 _ (mem_getD (d := []) hi)
  simp only [rowOk, Bool.and_eq_true, decide_eq_true_eq, List.all_eq_true] at hr
  refine ⟨hr.1, fun c hc => ?_⟩
  have := inB_true (hr.2 _ (mem_getD (d := 0) (show c < (next.getD i []).length by omega)))
  omega
theorem dfaOk_len {next : List (List Int)} {ends : List Bool} (h : dfaOk next ends = true) : 1 ≤ next.length ∧ next.length ≤ 40 ∧ ends.length = next.length := by
  simp only [dfaOk, Bool.and_eq_true, decide_eq_true_eq] at h
  have := inB_true h.1.2
  omega


/-- The rest of the reference's check, behind the checks of the automata. -/
theorem below_two {w w' : World} {o1 o2 : Obj} {B : Nat} (hb : Below B ((w.alloc o1).alloc o2) w') (hB : w.heap.size ≤ B) : Below w.heap.size w w' :=
  (((Below.refl _ _).alloc (Nat.le_refl _) _).alloc (by simp) _).trans (hb.mono hB)

end Go.Proofs.Ytjcegbcmomfgaaa
