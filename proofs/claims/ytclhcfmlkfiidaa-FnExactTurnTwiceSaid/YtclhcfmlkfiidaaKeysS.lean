/-
  Keys that are sets of states: arrays of two numbers of 64 bits.
  Condition: the numbers fit their kind.
-/
import Derived.Test.YtclhcfmlkfiidaaKeysA
import Derived.Test.YtclhcfmlkfiidaaOwn
namespace Go.Proofs.Ytclhcfmlkfiidaa
open Go.RowKit Go.Maps

def fitU (x : Int) : Prop := 0 ≤ x ∧ x ≤ 18446744073709551615
theorem fitU_wf {x : Int} (h : fitU x) : (Lit.int .u64 x).wf = true := WalkArith.wf_u64 h
def setEnc (p : Int × Int) : Value := .agg #[.int .u64 p.1, .int .u64 p.2]
theorem setEnc_inj : ∀ x y : Int × Int, setEnc x = setEnc y → x = y := arr_inj
def setCells (p : Int × Int) : List Value := [.int .u64 p.1, .int .u64 p.2]
def OSets (e lo hi : Nat) (w : World) (v : Value) (xs : List (Int × Int)) : Prop := Own lo hi w e 2 v xs.length (xs.flatMap setCells)
theorem Try.rowSet : (99 : TypeId) < Try.prog.types.size := of_decide_eq_true (by kernel_rfl)
theorem Try.wideSet : (match Try.prog.underlying 99 with | some (.array _ _) | some (.struct _) => true | _ => false) = true := by kernel_rfl
theorem Try.keySet : Try.prog.keyType 99 = true := by kernel_rfl
theorem Try.keyAtSet : Try.prog.keyTypeAt 5 99 = true := by kernel_rfl
theorem Try.cellsSet : Try.prog.cellsOf 99 = 2 := by kernel_rfl
theorem Try.cellsU64 : Try.prog.cellsOf 97 = 1 := by kernel_rfl
theorem Try.kindSet : Try.prog.underlying 99 = some (.array 2 97) := by kernel_rfl
set_option maxRecDepth 100000 in
theorem Try.lawSet : Keyed Try.prog 99 := Keyed.of_law (deep_law_laid Try.laidOut five_small Try.rowSet Try.keyAtSet Try.wideSet)
set_option maxRecDepth 100000 in
theorem Try.keyOfSet (p : Int × Int) (h1 : fitU p.1) (h2 : fitU p.2) : ∃ l, keyOf Try.prog 99 (setEnc p) = some l :=
  keyOf_two Try.kindSet Try.underlying97 Try.keySet Try.cellsSet Try.cellsU64 Try.rowSet _ _ (fitU_wf h1) (fitU_wf h2)
end Go.Proofs.Ytclhcfmlkfiidaa
