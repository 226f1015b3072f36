/-
  Keys that are arrays of two integers.
  Condition: the numbers fit their kind.
-/
import Derived.Test.YtclhcfmlkfiidaaKeys
namespace Go.Proofs.Ytclhcfmlkfiidaa
open Go.RowKit Go.Maps

theorem keyLits_one {P : Program} {t : TypeId} {D : Nat} {q : IntKind} {x : Int} (ht : P.underlying t = some (.int q)) (hx : (Lit.int q x).wf = true) : P.keyLits (D + 1) t [.int q x] = some [.int q x] := by
  unfold Program.keyLits
  rw [ht]
  simp [hx]
theorem keyOf_two {P : Program} {t e : TypeId} {q : IntKind} (hu : P.underlying t = some (.array 2 e)) (he : P.underlying e = some (.int q)) (hk : P.keyType t = true) (hc : P.cellsOf t = 2) (hce : P.cellsOf e = 1) (hrow : t < P.types.size)
    (x y : Int) (hx : (Lit.int q x).wf = true) (hy : (Lit.int q y).wf = true) : ∃ l, keyOf P t (.agg #[.int q x, .int q y]) = some l := by
  have hfm : (Value.agg #[.int q x, .int q y]).formed P t = true := by simp [Value.formed, hu, hc]
  obtain ⟨n, hn⟩ : ∃ n, P.types.size = n + 1 := ⟨P.types.size - 1, (Nat.succ_pred_eq_of_pos (Nat.lt_of_le_of_lt (Nat.zero_le _) hrow)).symm⟩
  have e1 := keyLits_one (D := n) he hx
  have e2 := keyLits_one (D := n) he hy
  have hlits : P.keyLits (P.types.size + 1) t (Value.agg #[.int q x, .int q y]).cells.toList = some [.int q x, .int q y] := by
    rw [hn]
    show P.keyLits (n + 1 + 1) t [.int q x, .int q y] = _
    unfold Program.keyLits
    rw [hu]
    simp [hc, hce, List.range_succ, e1, e2]
  exact ⟨_, by
    unfold keyOf
    rw [hu]
    simp only [hk, hfm, Bool.and_self, if_true, hlits]
    rfl⟩
theorem arr_inj {q : IntKind} : ∀ x y : Int × Int, (Value.agg #[.int q x.1, .int q x.2]) = .agg #[.int q y.1, .int q y.2] → x = y := by
  rintro ⟨a, b⟩ ⟨c, d⟩ h
  simp only [Value.agg.injEq] at h
  have h1 := congrArg (fun (l : Array Value) => l[0]?) h
  have h2 := congrArg (fun (l : Array Value) => l[1]?) h
  simp at h1 h2
  rw [h1, h2]

theorem Try.rowPr : (84 : TypeId) < Try.prog.types.size := of_decide_eq_true (by kernel_rfl)
theorem Try.widePr : (match Try.prog.underlying 84 with | some (.array _ _) | some (.struct _) => true | _ => false) = true := by kernel_rfl
theorem Try.keyPr : Try.prog.keyType 84 = true := by kernel_rfl
theorem Try.keyAtPr : Try.prog.keyTypeAt 5 84 = true := by kernel_rfl
theorem Try.cellsPr : Try.prog.cellsOf 84 = 2 := by kernel_rfl
theorem Try.cellsInt : Try.prog.cellsOf 3 = 1 := by kernel_rfl
theorem Try.kindPr : Try.prog.underlying 84 = some (.array 2 3) := by kernel_rfl
set_option maxRecDepth 100000 in
theorem Try.lawPr : Keyed Try.prog 84 := Keyed.of_law (deep_law_laid Try.laidOut five_small Try.rowPr Try.keyAtPr Try.widePr)
set_option maxRecDepth 100000 in
theorem Try.keyOfPr (p : Int × Int) (h1 : fitI p.1) (h2 : fitI p.2) : ∃ l, keyOf Try.prog 84 (pairEnc p) = some l :=
  keyOf_two Try.kindPr Try.underlying3 Try.keyPr Try.cellsPr Try.cellsInt Try.rowPr _ _ (fit_wf h1) (fit_wf h2)
end Go.Proofs.Ytclhcfmlkfiidaa
