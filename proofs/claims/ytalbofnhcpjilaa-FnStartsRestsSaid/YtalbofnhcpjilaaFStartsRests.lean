/-
  FnStartsRests: for all arguments the law answers true, and each argument reads as it did.
  No condition.
-/
import Derived.Test.YtalbofnhcpjilaaRows
import Derived.Test.YtalbofnhcpjilaaPk34LStartsRests
import Derived.Test.YtalbofnhcpjilaaPk35Ry
namespace Go.Proofs.Ytalbofnhcpjilaa
open Go.ChangeShapes Go.WideShapes Go.ChangeAt Go.RowKit Go.Joins
set_option maxRecDepth 100000 in
theorem fnStartsRests_lifted (os : Os) (started : os.Started) (H : Type) (enc : TypeId × Value → H) :
  ReturnsInHanded {} Try.checked os 6 .any (Rows.fnStartsRestsSpec.pre6 enc Try.prog Try.f6 Rows.fnStartsRestsRow.domain false) (Rows.fnStartsRestsSpec.post enc Try.prog Try.f6 false true false false) := by
 refine returnsInHanded_of_change (C := Try.checked) Try.own started (by kernel_rfl) Try.func6
  (ChangeSpec.witness6 (enc := enc) (C := Try.checked) false ⟨#[], #[.slice none 0 0, .slice none 0 0], []⟩ 8 (by kernel_rfl) (by kernel_rfl) (by kernel_rfl) (by kernel_rfl)) ?_
 intro W base args ds gs before hval0 hW _ _
 have hval : ∀ (j : Nat) t v, Try.f6.params[j]? = some t → args[j]? = some v → Value.okWide Try.prog W .any base t v := hval0
 have hW' := hW
 obtain ⟨p, q, hA0, hV, rfl, _, _⟩ := hW
 have hA : DataW.TrodAll enc Try.prog W 0 (fun _ => true) true Try.f6.params.toList args.toList ds p := hA0
 rw [Try.params6] at hA hval
 obtain ⟨v0, v1, d0, d1, p0, p1, rfl, rfl, rfl, h0, h1⟩ := trodAll_two hA
 obtain ⟨rfl, rfl⟩ := trodVars_none hV
 have hlt : ∀ x ∈ p0 ++ p1, x.block < W.heap.size := fun x hx => by
  have := hW'.lt x
  simp only [List.append_nil] at this
  exact this (by simpa using hx)
 obtain ⟨a0, len0, cap0, hv0⟩ := okWide_slice Try.underlying38 (hval 0 _ v0 rfl rfl)
 obtain ⟨D0, R0⟩ := open_lbytes h0 (by rw [hv0]; rfl)
 obtain ⟨a1, len1, cap1, hv1⟩ := okWide_slice Try.underlying38 (hval 1 _ v1 rfl rfl)
 obtain ⟨D1, R1⟩ := open_lbytes h1 (by rw [hv1]; rfl)
 clear hA0 hval0 hA
 simp only [List.append_nil] at hW'
 refine (startsRests_walk D0 D1 v0 v1 W R0 R1).mono fun e W' ⟨he, hb⟩ => ?_
 subst he
 refine ⟨_, rfl, _, _, _, [], p0 ++ p1, [], hW', trodAll_mk1 (shut_bool Try.underlying4 _), ?_, rfl, hb.frame _, fun h => by cases h⟩
 exact trodAll_mk2 (Below.trod Try.laidOut Try.recLBytes Try.rowLBytes h0 hb (fun x hx => hlt x (by simp [hx]))) (Below.trod Try.laidOut Try.recLBytes Try.rowLBytes h1 hb (fun x hx => hlt x (by simp [hx])))
theorem fnStartsRests_holds : Rows.FnStartsRestsSaid :=
 OpenClaim.holds_of_wide 6 Try.f6 rfl rfl rfl rfl rfl rfl rfl ⟨rfl, rfl, rfl, rfl, rfl⟩ rfl rfl rfl rfl rfl (by kernel_rfl) Try.func6 (by kernel_rfl)
  (of_decide_eq_true (by kernel_rfl)) (by unfold Func.isWrapper; first | (rw [if_pos (by decide +kernel)]; kernel_rfl) | (rw [if_neg (by decide +kernel)]; exact ⟨rfl, rfl⟩))
  (fun os started H enc _ => fnStartsRests_lifted os started H enc)
#print axioms fnStartsRests_holds
end Go.Proofs.Ytalbofnhcpjilaa
