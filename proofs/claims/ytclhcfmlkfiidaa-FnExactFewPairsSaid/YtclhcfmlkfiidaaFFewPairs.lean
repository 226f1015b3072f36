/-
  FnExactFewPairs: for all arguments the law answers true, and each argument reads as it did.
  No condition.
-/
import Derived.Test.YtclhcfmlkfiidaaRows
import Derived.Test.YtclhcfmlkfiidaaLFewPairs
import Derived.Test.YtclhcfmlkfiidaaRb
namespace Go.Proofs.Ytclhcfmlkfiidaa
open Go.ChangeShapes Go.WideShapes Go.ChangeAt Go.RowKit Go.Joins

set_option maxRecDepth 100000 in
theorem fnExactFewPairs_lifted (os : Os) (started : os.Started) (H : Type) (enc : TypeId × Value → H) :
    ReturnsInHanded {} Try.checked os 3 .any (Rows.fnExactFewPairsSpec.pre6 enc Try.prog Try.f3 Rows.fnExactFewPairsRow.domain false) (Rows.fnExactFewPairsSpec.post enc Try.prog Try.f3 false true false false) := by
  refine returnsInHanded_of_change (C := Try.checked) Try.own started (by kernel_rfl) Try.func3
    (ChangeSpec.witness6 (enc := enc) (C := Try.checked) false ⟨#[], #[.agg #[.slice none 0 0, .slice none 0 0], .agg #[.slice none 0 0, .slice none 0 0], .slice none 0 0], []⟩ 8 (by kernel_rfl) (by kernel_rfl) (by kernel_rfl) (by kernel_rfl)) ?_
  intro W base args ds gs before hval0 hW _ _
  have hval : ∀ (j : Nat) t v, Try.f3.params[j]? = some t → args[j]? = some v → Value.okWide Try.prog W .any base t v := hval0
  have hW' := hW
  obtain ⟨p, q, hA0, hV, rfl, _, _⟩ := hW
  have hA : DataW.TrodAll enc Try.prog W 0 (fun _ => true) true Try.f3.params.toList args.toList ds p := hA0
  rw [Try.params3] at hA hval
  obtain ⟨v0, v1, v2, d0, d1, d2, p0, p1, p2, rfl, rfl, rfl, h0, h1, h2⟩ := trodAll_three hA
  obtain ⟨rfl, rfl⟩ := trodVars_none hV
  have hlt : ∀ x ∈ p0 ++ (p1 ++ p2), x.block < W.heap.size := fun x hx => by
    have := hW'.lt x
    simp only [List.append_nil] at this
    exact this (by simpa using hx)
  obtain ⟨D0, R0⟩ := open_dfa (hval 0 _ v0 rfl rfl) h0
  obtain ⟨D1, R1⟩ := open_dfa (hval 1 _ v1 rfl rfl) h1
  obtain ⟨a2, len2, cap2, hv2⟩ := okWide_slice Try.underlying26 (hval 2 _ v2 rfl rfl)
  obtain ⟨D2, R2⟩ := open_lpairs h2 (by rw [hv2]; rfl)
  clear hA0 hval0 hA
  simp only [List.append_nil] at hW'
  refine (exactFewPairs_walk D0 D1 D2 v0 v1 v2 W R0 R1 R2).mono fun e W' ⟨he, hb⟩ => ?_
  subst he
  refine ⟨_, rfl, _, _, _, [], p0 ++ (p1 ++ p2), [], hW', trodAll_mk1 (shut_bool Try.underlying4 _), ?_, rfl, hb.frame _, fun h => by cases h⟩
  exact trodAll_mk3 (Below.trod Try.laidOut Try.recLDfa Try.rowLDfa h0 hb (fun x hx => hlt x (by simp [hx]))) (Below.trod Try.laidOut Try.recLDfa Try.rowLDfa h1 hb (fun x hx => hlt x (by simp [hx]))) (Below.trod Try.laidOut Try.recLPairs Try.rowLPairs h2 hb (fun x hx => hlt x (by simp [hx])))

theorem fnExactFewPairs_holds : Rows.FnExactFewPairsSaid :=
  OpenClaim.holds_of_wide 3 Try.f3 rfl rfl rfl rfl rfl rfl rfl ⟨rfl, rfl, rfl, rfl, rfl⟩ rfl rfl rfl rfl rfl (by kernel_rfl) Try.func3 (by kernel_rfl)
    (of_decide_eq_true (by kernel_rfl)) (by unfold Func.isWrapper; first | (rw [if_pos (by decide +kernel)]; kernel_rfl) | (rw [if_neg (by decide +kernel)]; exact ⟨rfl, rfl⟩))
    (fun os started H enc _ => fnExactFewPairs_lifted os started H enc)

#print axioms fnExactFewPairs_holds
end Go.Proofs.Ytclhcfmlkfiidaa
