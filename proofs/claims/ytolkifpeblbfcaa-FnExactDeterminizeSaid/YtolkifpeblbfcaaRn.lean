/-
  Opening an automaton with choices, an argument of the exact laws, and closed facts for its row.
  No condition.
-/
import Derived.Test.YtolkifpeblbfcaaRb
namespace Go.Proofs.Ytolkifpeblbfcaa
open Go.ChangeShapes Go.WideShapes Go.ChangeAt Go.RowKit Go.Joins
open Go.RowKit Go.Deep Go.ChangeShapes Go.ChangeAt

section
variable {P : Program} {H : Type} {enc : TypeId × Value → H} {w : World} {held : Bool}
theorem open_moves_R {t e f : TypeId} {f0 f1 f2 : Field} {fuel : Nat} {cs : List Value} {x : DataW H × List MemPlace} (ht : P.underlying t = some (.slice e)) (he : P.underlying e = some (.struct #[f0, f1, f2])) (hf0 : f0.type = f ∧ f0.offset = 0) (hf1 : f1.type = f ∧ f1.offset = 1) (hf2 : f2.type = f ∧ f2.offset = 2)
    (hf : P.underlying f = some (.int .i64)) (hc : P.cellsOf f = 1) (hce : P.cellsOf e = 3) (h : DataW.trod enc P w 0 (fun _ => true) held fuel t cs = some x) : ∃ v xs, cs = [v] ∧ Moves 0 w v xs := by
  rcases open_slice ht h with ⟨hcs, -⟩ | ⟨a, len, cap, m, n, D, Pl, hcs, -, hl, hm, hmm, -, hx⟩
  · exact ⟨_, [], hcs, by simp, none, 0, rfl, Nat.le_refl _, Nat.zero_le _, fun h => by simp at h⟩
  · simp only [if_true] at hmm
    rw [hce] at hx
    have hrow : ∀ i, i < len → ∃ p : Int × Int × Int, ∀ j, j < 3 → w.cell? ((a.add (i * 3)).add j) = (moveCells p)[j]? := fun i hi => by
      obtain ⟨cs', h1, h2⟩ := hx i (by omega)
      obtain ⟨-, hlen, hcell⟩ := World.cells?_some h1
      obtain ⟨p, q, r, hpq⟩ := open_struct3 he hf0 hf1 hf2 hf hc hlen h2
      exact ⟨(p, q, r), fun j hj => by rw [hcell j hj, hpq]; rfl⟩
    obtain ⟨X, hX⟩ := choose_lt hrow
    refine ⟨_, (List.range len).map X, hcs, ?_⟩
    unfold Moves
    rw [List.length_map, List.length_range, List.flatMap_def]
    refine sl_of_rows (by omega) (by simp) (fun r hr => ?_) hl hm fun i hi j hj => ?_
    · obtain ⟨p, -, rfl⟩ := List.mem_map.1 hr
      rfl
    · rw [hX i hi j hj]
      simp [hi]
end
theorem Try.cellsLNfa : Try.prog.cellsOf 66 = 4 := by kernel_rfl
theorem Try.cellsLMove : Try.prog.cellsOf 162 = 3 := by kernel_rfl
theorem Try.recLNfa : Try.prog.readableRec 66 = true := by kernel_rfl
theorem Try.rowLNfa : (66 : TypeId) < Try.prog.types.size := of_decide_eq_true (by kernel_rfl)
theorem Try.oneLNfa : ∃ f0 f1 f2 f3 : Field, Try.prog.underlying 66 = some (.struct #[f0, f1, f2, f3]) ∧ Go.Deep.oneCellFields Try.prog #[f0, f1, f2, f3] = true ∧ f0.type = 3 ∧ f1.type = 64 ∧ f2.type = 44 ∧ f3.type = 44 := ⟨_, _, _, _, Try.underlying66, by kernel_rfl, rfl, rfl, rfl, rfl⟩
theorem Try.oneLMove : ∃ f0 f1 f2 : Field, Try.prog.underlying 162 = some (.struct #[f0, f1, f2]) ∧ (f0.type = 3 ∧ f0.offset = 0) ∧ (f1.type = 3 ∧ f1.offset = 1) ∧ f2.type = 3 ∧ f2.offset = 2 := ⟨_, _, _, Try.underlying162, ⟨rfl, rfl⟩, ⟨rfl, rfl⟩, rfl, rfl⟩
theorem wf_i64 {n : Int} (h : (Lit.int .i64 n).wf = true) : -9223372036854775808 ≤ n ∧ n ≤ 9223372036854775807 := by
  have e1 : IntKind.i64.min = -9223372036854775808 := rfl
  have e2 : IntKind.i64.max = 9223372036854775807 := rfl
  simp only [Lit.wf, Bool.and_eq_true, decide_eq_true_eq, e1, e2] at h
  exact h
section
variable {H : Type} {enc : TypeId × Value → H} {W : World}
set_option maxRecDepth 100000 in
theorem open_nfa {r : Reach} {b0 : Nat} {held : Bool} {v : Value} {d : DataW H} {p : List MemPlace} (hv : Value.okWide Try.prog W r b0 66 v) (h : DataW.Trod enc Try.prog W 0 (fun _ => true) held 66 v d p) : ∃ D : NfaD, NfaR 0 W v D := by
  obtain ⟨f0, f1, f2, f3, hu, ho, ht0, ht1, ht2, ht3⟩ := Try.oneLNfa
  obtain ⟨g0, g1, g2, hm, hg0, hg1, hg2⟩ := Try.oneLMove
  obtain ⟨c0, c1, c2, c3, y0, y1, y2, y3, m, rfl, -, -, hy0, hy1, hy2, hy3⟩ := open_agg4 hu ho Try.cellsLNfa hv h
  rw [ht0] at hy0
  rw [ht1] at hy1
  rw [ht2] at hy2
  rw [ht3] at hy3
  obtain ⟨s, hs, -, hw⟩ := DataW.trod_int Try.underlying3 hy0
  obtain ⟨u1, ms, hu1, hx1⟩ := open_moves_R Try.underlying64 hm hg0 hg1 hg2 Try.underlying3 Try.cellsInt Try.cellsLMove hy1
  obtain ⟨u2, xs, hu2, hx2⟩ := open_ints_R Try.underlying44 Try.underlying3 Try.cellsInt hy2
  obtain ⟨u3, ys, hu3, hx3⟩ := open_ints_R Try.underlying44 Try.underlying3 Try.cellsInt hy3
  simp only [List.cons.injEq, and_true] at hs hu1 hu2 hu3
  subst hs hu1 hu2 hu3
  obtain ⟨w1, w2⟩ := wf_i64 hw
  exact ⟨⟨s, ms, xs, ys⟩, _, _, _, rfl, hx1, hx2, hx3, w1, w2⟩
end
end Go.Proofs.Ytolkifpeblbfcaa
