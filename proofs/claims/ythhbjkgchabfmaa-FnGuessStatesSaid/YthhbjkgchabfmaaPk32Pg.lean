/-
  The walks over the reference's GuessCount, GuessStates and LearnDfa.
  Conditions: the automaton reads as such; J is the number of the guess that does not differ.
-/
import Derived.Test.YthhbjkgchabfmaaPk28Li
namespace Go.Proofs.Ythhbjkgchabfmaa
open Go.RowKit
theorem specDfaValidD_any (d : DfaD) (v : Value) (w : World) (h : DfaR 0 w v d) (r : Bool) (hr : dfaOk d.next d.ends = r) :
    Calls Try.prog 19 #[v] w fun e w' => e = .returned (.bool r) ∧ Below w.heap.size w w' := by
  obtain ⟨v1, v2, rfl, q1, q2⟩ := h
  exact specDfaValid_any d.next d.ends v1 v2 w q1 q2 r hr
theorem min_dfaOk {d : DfaD} (hd : dfaOk d.next d.ends = true) : dfaOk (minD d).next (minD d).ends = true := by
  rw [← small_min (fine_of hd)]
  exact (trim_ok (fold_ok (trim_ok hd).1)).1
theorem gueW_ok {d : DfaD} (hd : dfaOk d.next d.ends = true) {j : Nat} (hy : ∀ i, i < j → (hitD d (gueW d i)).isSome = true) : dfaOk (gueW d j).next (gueW d j).ends = true :=
  guess_ok hd (tab_inv hd (hitD_ok d) j hy).1
end Go.Proofs.Ythhbjkgchabfmaa
