/-
  Plain: the guesses of the learner grow, and the last one is as small as the smallest automaton.
  No condition.
-/
import Derived.Test.YthhbjkgchabfmaaPk25Pa
import Derived.Test.YthhbjkgchabfmaaPk35My
import Derived.Test.YthhbjkgchabfmaaPk39Pg
namespace Go.Proofs.Ythhbjkgchabfmaa
open Go.RowKit
theorem gueW_same {d : DfaD} (hd : dfaOk d.next d.ends = true) {J : Nat} (hJ : lastG d J) : ∀ w, isW w → accD d w = accD (gueW d J) w := by
  obtain ⟨h0, hy⟩ := hJ hd
  have hn : hitK mostP d (gueW d J) = none := by
    rw [← hitD_eq]
    cases h : hitD d (gueW d J) with
    | none => rfl
    | some x => rw [h] at h0; cases h0
  exact (hitK_iff hd (gueW_ok hd hy) mostP_ge).1 hn
theorem gueW_last {d : DfaD} (hd : dfaOk d.next d.ends = true) {J : Nat} (hJ : lastG d J) : (gueW d J).next.length = (minD d).next.length := by
  obtain ⟨h0, hy⟩ := hJ hd
  have hg := gueW_ok hd hy
  have h1 := gueW_small hd hy
  have h2 := min_canon (fine_of hd) (fine_of hg) (gueW_same hd hJ)
  have h3 := (minD_len hg).1
  rw [← h2] at h3
  omega
end Go.Proofs.Ythhbjkgchabfmaa
