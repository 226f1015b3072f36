/-
  The walk over the program's exploration of pairs of states.
  Conditions: a bound on the number of pairs; contracts for the two functions that are handed in.
-/
import Derived.Test.YtjcegbcmomfgaaaMk
import Derived.Test.YtjcegbcmomfgaaaKeysS
import Derived.Test.YtjcegbcmomfgaaaProd
import Derived.Test.YtjcegbcmomfgaaaFwp
import Derived.Deep.RegionHeldLaw
import Derived.Deep.RegionLaw
namespace Go.Proofs.Ytjcegbcmomfgaaa
open Go.RowKit Go.Maps

theorem zeroInt (w : World) : (zeroValue 3).run Try.prog w = .ok (.int .i64 0) w := by kernel_rfl
theorem flat_snoc {α : Type} (f : α → List Value) (l : List α) (x : α) : (l ++ [x]).flatMap f = l.flatMap f ++ f x := by simp

abbrev pairZ : Value := .agg #[.int .i64 0, .int .i64 0]


theorem pair_cells {w : World} {base e g n cap : Nat} {S : List (Int × Int)} (h : w.ownsRow base e 2 (.slice (some ⟨g, 0, none⟩) n cap) S.length (S.flatMap pairCells)) {k : Nat} (hk : k < S.length) :
    w.cell? ⟨g, k * 2, none⟩ = some (.int .i64 (S.getD k (0, 0)).1) ∧ w.cell? ⟨g, k * 2 + 1, none⟩ = some (.int .i64 (S.getD k (0, 0)).2) := by
  have h0 := flat_get pairCells 2 (fun _ => rfl) S k 0 (0, 0) hk (by omega)
  have h1 := flat_get pairCells 2 (fun _ => rfl) S k 1 (0, 0) hk (by omega)
  have hn : n = S.length := by
    rcases h.2 with ⟨hh, _⟩ | ⟨g', cap', cur, hh, _⟩
    · cases hh
    · simp only [Value.slice.injEq] at hh; exact hh.2.1
  subst hn
  exact ⟨(h.cellAt _ (by omega)).trans (by simpa [pairCells] using h0), (h.cellAt _ (by omega)).trans (by simpa [pairCells] using h1)⟩
theorem far_two {w : World} {g B o p : Nat} {a b : Value} (hne : g ≠ B) (h : w.cell? ⟨g, o, none⟩ = some a ∧ w.cell? ⟨g, p, none⟩ = some b) {u : Value} {j : Nat} : (w.setCell ⟨B, j, none⟩ u).cell? ⟨g, o, none⟩ = some a ∧ (w.setCell ⟨B, j, none⟩ u).cell? ⟨g, p, none⟩ = some b := by
  have hb := Below.heap_setCell w ⟨B, j, none⟩ u g hne
  exact ⟨(World.cell?_of_block (a := ⟨g, o, none⟩) hb).trans h.1, (World.cell?_of_block (a := ⟨g, p, none⟩) hb).trans h.2⟩
end Go.Proofs.Ytjcegbcmomfgaaa
