/-
  FnExactCheckPairs: for all arguments the law answers true, and each argument reads as it did.
  No condition.
-/
import Derived.Test.YtolkifpeblbfcaaRows
import Derived.Test.YtolkifpeblbfcaaLcp
import Derived.Test.YtolkifpeblbfcaaOpen
namespace Go.Proofs.Ytolkifpeblbfcaa
open Go.ChangeShapes Go.WideShapes Go.ChangeAt Go.RowKit Go.Joins

theorem Try.own : ownKnob Try.prog.godebug = none := by kernel_rfl
theorem Try.cellsInt : Try.prog.cellsOf 3 = 1 := by kernel_rfl
theorem Try.cellsBool : Try.prog.cellsOf 4 = 1 := by kernel_rfl
theorem Try.cellsInts : Try.prog.cellsOf 44 = 1 := by kernel_rfl
theorem Try.cellsLDfa : Try.prog.cellsOf 25 = 2 := by kernel_rfl
theorem Try.cellsLPair : Try.prog.cellsOf 94 = 2 := by kernel_rfl
theorem Try.recLDfa : Try.prog.readableRec 25 = true := by kernel_rfl
theorem Try.recLPairs : Try.prog.readableRec 26 = true := by kernel_rfl
theorem Try.rowLDfa : (25 : TypeId) < Try.prog.types.size := of_decide_eq_true (by kernel_rfl)
theorem Try.rowLPairs : (26 : TypeId) < Try.prog.types.size := of_decide_eq_true (by kernel_rfl)
theorem Try.oneLDfa : ∃ f0 f1 : Field, Try.prog.underlying 25 = some (.struct #[f0, f1]) ∧ Go.Deep.oneCellFields Try.prog #[f0, f1] = true ∧ f0.type = 22 ∧ f1.type = 23 := ⟨_, _, Try.underlying25, by kernel_rfl, rfl, rfl⟩
theorem Try.oneLPair : ∃ f0 f1 : Field, Try.prog.underlying 94 = some (.struct #[f0, f1]) ∧ (f0.type = 3 ∧ f0.offset = 0) ∧ f1.type = 3 ∧ f1.offset = 1 := ⟨_, _, Try.underlying94, ⟨rfl, rfl⟩, rfl, rfl⟩

section
variable {H : Type} {enc : TypeId × Value → H} {W : World}
set_option maxRecDepth 100000 in
theorem open_dfa {r : Reach} {b0 : Nat} {held : Bool} {v : Value} {d : DataW H} {p : List MemPlace} (hv : Value.okWide Try.prog W r b0 25 v) (h : DataW.Trod enc Try.prog W 0 (fun _ => true) held 25 v d p) : ∃ D : DfaD, DfaR 0 W v D := by
  obtain ⟨f0, f1, hu, ho, ht0, ht1⟩ := Try.oneLDfa
  obtain ⟨c0, c1, y0, y1, m, rfl, -, -, hy0, hy1⟩ := open_agg2 hu ho Try.cellsLDfa hv h
  rw [ht0] at hy0
  rw [ht1] at hy1
  obtain ⟨u0, xss, hu0, hx⟩ := open_intSS_R Try.underlying22 Try.underlying44 Try.underlying3 Try.cellsInts Try.cellsInt hy0
  obtain ⟨u1, es, hu1, he⟩ := open_bools_R Try.underlying23 Try.underlying4 Try.cellsBool hy1
  simp only [List.cons.injEq, and_true] at hu0 hu1
  subst hu0 hu1
  exact ⟨⟨xss, es⟩, _, _, rfl, hx, he⟩
set_option maxRecDepth 100000 in
theorem open_lpairs {held : Bool} {v : Value} {d : DataW H} {p : List MemPlace} (h : DataW.Trod enc Try.prog W 0 (fun _ => true) held 26 v d p) (hv : v.cells.toList = [v]) : ∃ ps, Pairs 0 W v ps := by
  obtain ⟨f0, f1, hu, h0, h1⟩ := Try.oneLPair
  obtain ⟨fuel, hf⟩ := h
  obtain ⟨u, xs, hux, hx⟩ := open_pairs_R Try.underlying26 hu h0 h1 Try.underlying3 Try.cellsInt Try.cellsLPair hf
  rw [hv] at hux
  simp only [List.cons.injEq, and_true] at hux
  subst hux
  exact ⟨xs, hx⟩
end

set_option maxRecDepth 100000 in
theorem fnExactCheckPairs_lifted (os : Os) (started : os.Started) (H : Type) (enc : TypeId × Value → H) :
    ReturnsInHanded {} Try.checked os 3 .any (Rows.fnExactCheckPairsSpec.pre6 enc Try.prog Try.f3 Rows.fnExactCheckPairsRow.domain false) (Rows.fnExactCheckPairsSpec.post enc Try.prog Try.f3 false true false false) := by
  refine returnsInHanded_of_change (C := Try.checked) Try.own started (by kernel_rfl) Try.func3
    (ChangeSpec.witness6 (enc := enc) (C := Try.checked) false ⟨#[], #[.agg #[.slice none 0 0, .slice none 0 0], .agg #[.slice none 0 0, .slice none 0 0], .slice none 0 0], []⟩ 8 (by kernel_rfl) (by kernel_rfl) (by kernel_rfl) (by kernel_rfl)) ?_
  intro W base args ds gs before hval0 hW _ _
  have hval : ∀ (j : Nat) t v, Try.f3.params[j]? = some t → args[j]? = some v → Value.okWide Try.prog W .any base t v := hval0
  have hW' := hW
  obtain ⟨p, q, hA0, hV, rfl, _, _⟩ := hW
  have hA : DataW.TrodAll enc Try.prog W 0 (fun _ => true) true Try.f3.params.toList args.toList ds p := hA0
  rw [Try.params3] at hA hval
  obtain ⟨v0, v1, v2, d0, d1, d2, p0, p1, p2, rfl, rfl, rfl, h0, h1, h2⟩ := trodAll_three hA
  obtain ⟨rfl, rfl⟩ := trodVars_none hV
  have hlt : ∀ x ∈ p0 ++ (p1 ++ p2), x.block < W.heap.size := fun x hx => by
    have := hW'.lt x
    simp only [List.append_nil] at this
    exact this (by simpa using hx)
  obtain ⟨D1, R1⟩ := open_dfa (hval 0 _ v0 rfl rfl) h0
  obtain ⟨D2, R2⟩ := open_dfa (hval 1 _ v1 rfl rfl) h1
  obtain ⟨a0, len, cap, hv2⟩ := okWide_slice Try.underlying26 (hval 2 _ v2 rfl rfl)
  obtain ⟨ps, R3⟩ := open_lpairs h2 (by rw [hv2]; rfl)
  clear hA0 hval0 hA
  simp only [List.append_nil] at hW'
  refine (exactCheckPairs_walk D1 D2 ps v0 v1 v2 W R1 R2 R3).mono fun e W' ⟨he, hb⟩ => ?_
  subst he
  refine ⟨_, rfl, _, _, _, [], p0 ++ (p1 ++ p2), [], hW', trodAll_mk1 (shut_bool Try.underlying4 _), ?_, rfl, hb.frame _, fun h => by cases h⟩
  exact trodAll_mk3 (Below.trod Try.laidOut Try.recLDfa Try.rowLDfa h0 hb (fun x hx => hlt x (by simp [hx]))) (Below.trod Try.laidOut Try.recLDfa Try.rowLDfa h1 hb (fun x hx => hlt x (by simp [hx])))
    (Below.trod Try.laidOut Try.recLPairs Try.rowLPairs h2 hb (fun x hx => hlt x (by simp [hx])))

theorem fnExactCheckPairs_holds : Rows.FnExactCheckPairsSaid :=
  OpenClaim.holds_of_wide 3 Try.f3 rfl rfl rfl rfl rfl rfl rfl ⟨rfl, rfl, rfl, rfl, rfl⟩ rfl rfl rfl rfl rfl (by kernel_rfl) Try.func3 (by kernel_rfl)
    (of_decide_eq_true (by kernel_rfl)) (by unfold Func.isWrapper; first | (rw [if_pos (by decide +kernel)]; kernel_rfl) | (rw [if_neg (by decide +kernel)]; exact ⟨rfl, rfl⟩))
    (fun os started H enc _ => fnExactCheckPairs_lifted os started H enc)

#print axioms fnExactCheckPairs_holds
end Go.Proofs.Ytolkifpeblbfcaa
