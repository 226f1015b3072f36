/-
  The keys of the program's maps.
  Condition: the numbers in a key fit an int.
  Keys that are arrays of two integers.
  Condition: the numbers fit their kind.
  Keys that are sets of states: arrays of two numbers of 64 bits.
  Condition: the numbers fit their kind.
-/
import Derived.Test.YtjcegbcmomfgaaaProg
import Derived.Test.YtjcegbcmomfgaaaGrow
import Derived.KernelRfl
namespace Go.Proofs.Ytjcegbcmomfgaaa
open Go.RowKit Go.Maps

def fitI (x : Int) : Prop := -9223372036854775808 ≤ x ∧ x ≤ 9223372036854775807
theorem fit_wf {x : Int} (h : fitI x) : (Lit.int .i64 x).wf = true := WalkArith.wf_i64 h
theorem Try.laidOut : laidOutB Try.prog = true := by kernel_rfl

theorem five_small : 5 + 1 ≤ 10000 := by omega
def pairEnc (p : Int × Int) : Value := .agg #[.int .i64 p.1, .int .i64 p.2]
theorem pairEnc_inj : ∀ x y : Int × Int, pairEnc x = pairEnc y → x = y := by
  rintro ⟨a, b⟩ ⟨c, d⟩ h
  simp only [pairEnc, Value.agg.injEq] at h
  have h1 := congrArg (fun (l : Array Value) => l[0]?) h
  have h2 := congrArg (fun (l : Array Value) => l[1]?) h
  simp at h1 h2
  rw [h1, h2]
theorem keyLits_int {P : Program} {t : TypeId} {D : Nat} {x : Int} (ht : P.underlying t = some (.int .i64)) (hx : fitI x) : P.keyLits (D + 1) t [.int .i64 x] = some [.int .i64 x] := by
  unfold Program.keyLits
  rw [ht]
  simp [fit_wf hx]
end Go.Proofs.Ytjcegbcmomfgaaa
namespace Go.Proofs.Ytjcegbcmomfgaaa
open Go.RowKit Go.Maps

theorem keyLits_one {P : Program} {t : TypeId} {D : Nat} {q : IntKind} {x : Int} (ht : P.underlying t = some (.int q)) (hx : (Lit.int q x).wf = true) : P.keyLits (D + 1) t [.int q x] = some [.int q x] := by
  unfold Program.keyLits
  rw [ht]
  simp [hx]
theorem keyOf_two {P : Program} {t e : TypeId} {q : IntKind} (hu : P.underlying t = some (.array 2 e)) (he : P.underlying e = some (.int q)) (hk : P.keyType t = true) (hc : P.cellsOf t = 2) (hce : P.cellsOf e = 1) (hrow : t < P.types.size)
    (x y : Int) (hx : (Lit.int q x).wf = true) (hy : (Lit.int q y).wf = true) : ∃ l, keyOf P t (.agg #[.int q x, .int q y]) = some l := by
  have hfm : (Value.agg #[.int q x, .int q y]).formed P t = true := by simp [Value.formed, hu, hc]
  obtain ⟨n, hn⟩ : ∃ n, P.types.size = n + 1 := ⟨P.types.size - 1, (Nat.succ_pred_eq_of_pos (Nat.lt_of_le_of_lt (Nat.zero_le _) hrow)).symm⟩
  have e1 := keyLits_one (D := n) he hx
  have e2 := keyLits_one (D := n) he hy
  have hlits : P.keyLits (P.types.size + 1) t (Value.agg #[.int q x, .int q y]).cells.toList = some [.int q x, .int q y] := by
    rw [hn]
    show P.keyLits (n + 1 + 1) t [.int q x, .int q y] = _
    unfold Program.keyLits
    rw [hu]
    simp [hc, hce, List.range_succ, e1, e2]
  exact ⟨_, by
    unfold keyOf
    rw [hu]
    simp only [hk, hfm, Bool.and_self, if_true, hlits]
    rfl⟩
theorem arr_inj {q : IntKind} : ∀ x y : Int × Int, (Value.agg #[.int q x.1, .int q x.2]) = .agg #[.int q y.1, .int q y.2] → x = y := by
  rintro ⟨a, b⟩ ⟨c, d⟩ h
  simp only [Value.agg.injEq] at h
  have h1 := congrArg (fun (l : Array Value) => l[0]?) h
  have h2 := congrArg (fun (l : Array Value) => l[1]?) h
  simp at h1 h2
  rw [h1, h2]

theorem Try.cellsInt : Try.prog.cellsOf 3 = 1 := by kernel_rfl
end Go.Proofs.Ytjcegbcmomfgaaa
namespace Go.Proofs.Ytjcegbcmomfgaaa
open Go.RowKit Go.Maps

def fitU (x : Int) : Prop := 0 ≤ x ∧ x ≤ 18446744073709551615
theorem fitU_wf {x : Int} (h : fitU x) : (Lit.int .u64 x).wf = true := WalkArith.wf_u64 h
def setEnc (p : Int × Int) : Value := .agg #[.int .u64 p.1, .int .u64 p.2]
theorem setEnc_inj : ∀ x y : Int × Int, setEnc x = setEnc y → x = y := arr_inj
def setCells (p : Int × Int) : List Value := [.int .u64 p.1, .int .u64 p.2]
def OSets (e lo hi : Nat) (w : World) (v : Value) (xs : List (Int × Int)) : Prop := Own lo hi w e 2 v xs.length (xs.flatMap setCells)
theorem Try.rowSet : (52 : TypeId) < Try.prog.types.size := of_decide_eq_true (by kernel_rfl)
theorem Try.wideSet : (match Try.prog.underlying 52 with | some (.array _ _) | some (.struct _) => true | _ => false) = true := by kernel_rfl
theorem Try.keySet : Try.prog.keyType 52 = true := by kernel_rfl
theorem Try.keyAtSet : Try.prog.keyTypeAt 5 52 = true := by kernel_rfl
theorem Try.cellsSet : Try.prog.cellsOf 52 = 2 := by kernel_rfl
theorem Try.cellsU64 : Try.prog.cellsOf 50 = 1 := by kernel_rfl
theorem Try.kindSet : Try.prog.underlying 52 = some (.array 2 50) := by kernel_rfl
set_option maxRecDepth 100000 in
theorem Try.lawSet : Keyed Try.prog 52 := Keyed.of_law (deep_law_laid Try.laidOut five_small Try.rowSet Try.keyAtSet Try.wideSet)
set_option maxRecDepth 100000 in
theorem Try.keyOfSet (p : Int × Int) (h1 : fitU p.1) (h2 : fitU p.2) : ∃ l, keyOf Try.prog 52 (setEnc p) = some l :=
  keyOf_two Try.kindSet Try.underlying50 Try.keySet Try.cellsSet Try.cellsU64 Try.rowSet _ _ (fitU_wf h1) (fitU_wf h2)
end Go.Proofs.Ytjcegbcmomfgaaa
