/-
  Plain: the guesses of the learner grow, and the last one is as small as the smallest automaton.
  No condition.
-/
import Derived.Test.YthhbjkgchabfmaaPk32Pg
namespace Go.Proofs.Ythhbjkgchabfmaa
open Go.RowKit
theorem gueW_len (d : DfaD) (j : Nat) : (gueW d j).next.length = (staW d j).length := (guess_len d _ _).1
theorem gueW_small {d : DfaD} (hd : dfaOk d.next d.ends = true) {j : Nat} (hy : ∀ i, i < j → (hitD d (gueW d i)).isSome = true) : (gueW d j).next.length ≤ (minD d).next.length := by
  rw [gueW_len]
  have h := (tab_inv hd (hitD_ok d) j hy).1
  have hf := fine_of hd
  refine rows_le (min_dfaOk hd) (rests := resW d j) h.sw ?_
  have : (staW d j).map (rowW (minD d) (resW d j)) = (staW d j).map (rowW d (resW d j)) := by
    refine List.map_congr_left fun w hw => ?_
    unfold rowW
    exact List.map_congr_left fun r hr => min_acc hf (isW_append (h.sw w hw) (h.rw r hr))
  rw [this]
  exact h.nd
end Go.Proofs.Ythhbjkgchabfmaa
