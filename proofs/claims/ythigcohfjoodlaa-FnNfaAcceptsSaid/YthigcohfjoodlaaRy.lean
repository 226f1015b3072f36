/-
  Opening the arguments of the exact laws, and closed facts for their rows.
  No condition.
  Opening an argument of bytes, and closed facts for its rows.
  No condition.
-/
import Derived.Test.YthigcohfjoodlaaRows
import Derived.Test.YthigcohfjoodlaaDr
namespace Go.Proofs.Ythigcohfjoodlaa
open Go.ChangeShapes Go.WideShapes Go.ChangeAt Go.RowKit Go.Joins

theorem Try.own : ownKnob Try.prog.godebug = none := by kernel_rfl
theorem Try.cellsInt : Try.prog.cellsOf 3 = 1 := by kernel_rfl
theorem Try.cellsBool : Try.prog.cellsOf 4 = 1 := by kernel_rfl
theorem Try.cellsInts : Try.prog.cellsOf 43 = 1 := by kernel_rfl
theorem Try.cellsLDfa : Try.prog.cellsOf 25 = 2 := by kernel_rfl
theorem Try.cellsLPair : Try.prog.cellsOf 94 = 2 := by kernel_rfl
theorem Try.recLDfa : Try.prog.readableRec 25 = true := by kernel_rfl
theorem Try.recLPairs : Try.prog.readableRec 26 = true := by kernel_rfl
theorem Try.rowLDfa : (25 : TypeId) < Try.prog.types.size := of_decide_eq_true (by kernel_rfl)
theorem Try.rowLPairs : (26 : TypeId) < Try.prog.types.size := of_decide_eq_true (by kernel_rfl)
theorem Try.oneLDfa : ∃ f0 f1 : Field, Try.prog.underlying 25 = some (.struct #[f0, f1]) ∧ Go.Deep.oneCellFields Try.prog #[f0, f1] = true ∧ f0.type = 22 ∧ f1.type = 23 := ⟨_, _, Try.underlying25, by kernel_rfl, rfl, rfl⟩
theorem Try.oneLPair : ∃ f0 f1 : Field, Try.prog.underlying 94 = some (.struct #[f0, f1]) ∧ (f0.type = 3 ∧ f0.offset = 0) ∧ f1.type = 3 ∧ f1.offset = 1 := ⟨_, _, Try.underlying94, ⟨rfl, rfl⟩, rfl, rfl⟩

section
variable {H : Type} {enc : TypeId × Value → H} {W : World}
set_option maxRecDepth 100000 in
theorem open_dfa {r : Reach} {b0 : Nat} {held : Bool} {v : Value} {d : DataW H} {p : List MemPlace} (hv : Value.okWide Try.prog W r b0 25 v) (h : DataW.Trod enc Try.prog W 0 (fun _ => true) held 25 v d p) : ∃ D : DfaD, DfaR 0 W v D := by
  obtain ⟨f0, f1, hu, ho, ht0, ht1⟩ := Try.oneLDfa
  obtain ⟨c0, c1, y0, y1, m, rfl, -, -, hy0, hy1⟩ := open_agg2 hu ho Try.cellsLDfa hv h
  rw [ht0] at hy0
  rw [ht1] at hy1
  obtain ⟨u0, xss, hu0, hx⟩ := open_intSS_R Try.underlying22 Try.underlying43 Try.underlying3 Try.cellsInts Try.cellsInt hy0
  obtain ⟨u1, es, hu1, he⟩ := open_bools_R Try.underlying23 Try.underlying4 Try.cellsBool hy1
  simp only [List.cons.injEq, and_true] at hu0 hu1
  subst hu0 hu1
  exact ⟨⟨xss, es⟩, _, _, rfl, hx, he⟩
set_option maxRecDepth 100000 in
theorem open_lpairs {held : Bool} {v : Value} {d : DataW H} {p : List MemPlace} (h : DataW.Trod enc Try.prog W 0 (fun _ => true) held 26 v d p) (hv : v.cells.toList = [v]) : ∃ ps, Pairs 0 W v ps := by
  obtain ⟨f0, f1, hu, h0, h1⟩ := Try.oneLPair
  obtain ⟨fuel, hf⟩ := h
  obtain ⟨u, xs, hux, hx⟩ := open_pairs_R Try.underlying26 hu h0 h1 Try.underlying3 Try.cellsInt Try.cellsLPair hf
  rw [hv] at hux
  simp only [List.cons.injEq, and_true] at hux
  subst hux
  exact ⟨xs, hx⟩
end

end Go.Proofs.Ythigcohfjoodlaa
namespace Go.Proofs.Ythigcohfjoodlaa
open Go.ChangeShapes Go.WideShapes Go.ChangeAt Go.RowKit Go.Joins

theorem Try.cellsByte : Try.prog.cellsOf 5 = 1 := by kernel_rfl
theorem Try.recLBytes : Try.prog.readableRec 56 = true := by kernel_rfl
theorem Try.rowLBytes : (56 : TypeId) < Try.prog.types.size := of_decide_eq_true (by kernel_rfl)
section
variable {H : Type} {enc : TypeId × Value → H} {W : World}
set_option maxRecDepth 100000 in
theorem open_lbytes {held : Bool} {v : Value} {d : DataW H} {p : List MemPlace} (h : DataW.Trod enc Try.prog W 0 (fun _ => true) held 56 v d p) (hv : v.cells.toList = [v]) : ∃ bs, Bytes 0 W v bs := by
  obtain ⟨fuel, hf⟩ := h
  obtain ⟨u, bs, hu, hx⟩ := open_bytes_R Try.underlying56 Try.underlying5 Try.cellsByte hf
  rw [hv] at hu
  simp only [List.cons.injEq, and_true] at hu
  subst hu
  exact ⟨bs, hx⟩
end
end Go.Proofs.Ythigcohfjoodlaa
