/-
  No cell of these rows narrows 'for every input' (looked for: loops, veiled, ifaces, maps, wideKeys, modest, calm, conditions, laid).
  DERIVED. THE GIVEN ROWS OF THIS SEAT. 3 by the template 'for every input the law returns true; each argument reads behind the call as it read before'; 0 by the template 'total and deterministic' (their statements: YtfikabecgaappaaGreatTotals.lean).
  GIVEN WITH THE SEED: the statements are not yours to turn. If you find one false, say at which input.
  Laid BY PROGRAM, IN A SANDBOX (cutbox-rows.mjs): the forced cells as the released guide's own fill.sh prints them over the translation 24f474393c6a4ce4… (all of the seat's roots in one cut). By AI agents, Wed Nov 11 2026. No macro, syntax, notation, axiom, sorry.
-/
import Derived.Test.YtfikabecgaappaaGreatChecked
import GoSem.Claim
import GoSem.ClaimJoined
import GoSem.ClaimMapViews
import Derived.JoinedTies
import Derived.KernelRfl
namespace Go.Proofs.YtfikabecgaappaaGreat
/- THE CELL 'sum', in the pinned program and in every row, IS THE sha256 OF THE DUMP (.gsa) THAT YtfikabecgaappaaGreatProg.lean LOADS. Nothing in Lean hashes anything: it is a label: what it is worth is what the hold of that sum in a sandbox is worth. -/
noncomputable def Tryz.pinned : Pinned := { name := "ytfikabecgaappaagreat", sum := "24f474393c6a4ce436b37ff07c1d7ba14b7c41d9a8409aa9038a70f4b05dcfef", checked := Tryz.checked }
namespace Rows
def none {H : Type} : Left H := { results := [], args := [] }

/-- 'laws.FnBuildNfa': WHATEVER THE INPUT: true; the input reads as it did. -/
def fnBuildNfaSpec : ChangeSpec := { name := "fnBuildNfa", fn := fun _ => fun
  | [d1, d2] => { results := [.lit (.bool true)], args := [d1, d2] }
  | _ => none }
def fnBuildNfaRow : OpenClaim := { program := "ytfikabecgaappaagreat", sum := "24f474393c6a4ce436b37ff07c1d7ba14b7c41d9a8409aa9038a70f4b05dcfef", func := "loop.example/regularlanguages/laws.FnBuildNfa", spec := "fnBuildNfa", unfollowed := true, recurses := true, plainKeys := false, apart := false }
def FnBuildNfaSaid : Prop := fnBuildNfaRow.holds Tryz.pinned (OpenSpec.ofChange fnBuildNfaSpec)

/-- ITS FALSE NEIGHBOUR: 'it returns false'. Refute it at one input. -/
def fnBuildNfaWrong : ChangeSpec := { name := "fnBuildNfa", fn := fun _ => fun
  | [d1, d2] => { results := [.lit (.bool false)], args := [d1, d2] }
  | _ => none }
def FnBuildNfaWrongFalsely : Prop := fnBuildNfaRow.holds Tryz.pinned (OpenSpec.ofChange fnBuildNfaWrong)

/-- 'laws.FnDeriveAfter': WHATEVER THE INPUT: true; the input reads as it did. -/
def fnDeriveAfterSpec : ChangeSpec := { name := "fnDeriveAfter", fn := fun _ => fun
  | [d] => { results := [.lit (.bool true)], args := [d] }
  | _ => none }
def fnDeriveAfterRow : OpenClaim := { program := "ytfikabecgaappaagreat", sum := "24f474393c6a4ce436b37ff07c1d7ba14b7c41d9a8409aa9038a70f4b05dcfef", func := "loop.example/regularlanguages/laws.FnDeriveAfter", spec := "fnDeriveAfter", unfollowed := true, recurses := true, plainKeys := false, apart := false }
def FnDeriveAfterSaid : Prop := fnDeriveAfterRow.holds Tryz.pinned (OpenSpec.ofChange fnDeriveAfterSpec)

/-- ITS FALSE NEIGHBOUR: 'it returns false'. Refute it at one input. -/
def fnDeriveAfterWrong : ChangeSpec := { name := "fnDeriveAfter", fn := fun _ => fun
  | [d] => { results := [.lit (.bool false)], args := [d] }
  | _ => none }
def FnDeriveAfterWrongFalsely : Prop := fnDeriveAfterRow.holds Tryz.pinned (OpenSpec.ofChange fnDeriveAfterWrong)

/-- 'laws.FnReplaceSame': WHATEVER THE INPUT: true; the input reads as it did. -/
def fnReplaceSameSpec : ChangeSpec := { name := "fnReplaceSame", fn := fun _ => fun
  | [d] => { results := [.lit (.bool true)], args := [d] }
  | _ => none }
def fnReplaceSameRow : OpenClaim := { program := "ytfikabecgaappaagreat", sum := "24f474393c6a4ce436b37ff07c1d7ba14b7c41d9a8409aa9038a70f4b05dcfef", func := "loop.example/regularlanguages/laws.FnReplaceSame", spec := "fnReplaceSame", unfollowed := true, recurses := true, plainKeys := false, apart := false }
def FnReplaceSameSaid : Prop := fnReplaceSameRow.holds Tryz.pinned (OpenSpec.ofChange fnReplaceSameSpec)

/-- ITS FALSE NEIGHBOUR: 'it returns false'. Refute it at one input. -/
def fnReplaceSameWrong : ChangeSpec := { name := "fnReplaceSame", fn := fun _ => fun
  | [d] => { results := [.lit (.bool false)], args := [d] }
  | _ => none }
def FnReplaceSameWrongFalsely : Prop := fnReplaceSameRow.holds Tryz.pinned (OpenSpec.ofChange fnReplaceSameWrong)

/- THE SECOND FORM. 'bulk': how many values and letters a reading holds, each counted each time it is reached (what is shared counts as often as it is met; a slice's spare places count too). A statement '..UptoSaid' is the law's where the arguments, and the package variables that the reading takes, are together of bulk at most 1048576: NARROWER than '..Said'. Prove '..Said' where nothing that the law and all that it calls make is longer than what came in: it says more and counts as full. Else prove '..UptoSaid'. A law counts once. -/
mutual
def uptoBulk {H : Type} : DataW H → Nat
  | .lit (.string bytes) => bytes.length + 1
  | .lit _ => 1
  | .nil => 1
  | .ptr d => uptoBulk d + 1
  | .slice elems spare => uptoBulkAll elems + uptoBulkAll spare + 1
  | .agg parts => uptoBulkAll parts + 1
  | .iface _ d => uptoBulk d + 1
  | .map entries => uptoBulkEntries entries + 1
  | .held _ => 1
def uptoBulkAll {H : Type} : List (DataW H) → Nat
  | [] => 0
  | d :: r => uptoBulk d + uptoBulkAll r
def uptoBulkEntries {H : Type} : List (Lit × DataW H) → Nat
  | [] => 0
  | x :: r => uptoBulkEntry x + uptoBulkEntries r
def uptoBulkEntry {H : Type} : Lit × DataW H → Nat
  | (.string bytes, d) => bytes.length + uptoBulk d + 1
  | (_, d) => uptoBulk d + 1
 end
def uptoSmall : (H : Type) → List (DataW H) → Bool := fun _ ds => decide (uptoBulkAll ds ≤ 1048576)
def OpenSpec.upto (s : _root_.Go.ChangeSpec) : _root_.Go.OpenSpec := { _root_.Go.OpenSpec.ofChange s with cond := some uptoSmall }

/-- 'laws.FnBuildNfa', WHERE WHAT IT READS IS OF BULK AT MOST 1048576: true; the input reads as it did. -/
def fnBuildNfaUptoRow : OpenClaim := { program := "ytfikabecgaappaagreat", sum := "24f474393c6a4ce436b37ff07c1d7ba14b7c41d9a8409aa9038a70f4b05dcfef", func := "loop.example/regularlanguages/laws.FnBuildNfa", spec := "fnBuildNfa", unfollowed := true, recurses := true, plainKeys := false, apart := false, narrowed := true }
def FnBuildNfaUptoSaid : Prop := fnBuildNfaUptoRow.holds Tryz.pinned (OpenSpec.upto fnBuildNfaSpec)

/-- 'laws.FnDeriveAfter', WHERE WHAT IT READS IS OF BULK AT MOST 1048576: true; the input reads as it did. -/
def fnDeriveAfterUptoRow : OpenClaim := { program := "ytfikabecgaappaagreat", sum := "24f474393c6a4ce436b37ff07c1d7ba14b7c41d9a8409aa9038a70f4b05dcfef", func := "loop.example/regularlanguages/laws.FnDeriveAfter", spec := "fnDeriveAfter", unfollowed := true, recurses := true, plainKeys := false, apart := false, narrowed := true }
def FnDeriveAfterUptoSaid : Prop := fnDeriveAfterUptoRow.holds Tryz.pinned (OpenSpec.upto fnDeriveAfterSpec)

/-- 'laws.FnReplaceSame', WHERE WHAT IT READS IS OF BULK AT MOST 1048576: true; the input reads as it did. -/
def fnReplaceSameUptoRow : OpenClaim := { program := "ytfikabecgaappaagreat", sum := "24f474393c6a4ce436b37ff07c1d7ba14b7c41d9a8409aa9038a70f4b05dcfef", func := "loop.example/regularlanguages/laws.FnReplaceSame", spec := "fnReplaceSame", unfollowed := true, recurses := true, plainKeys := false, apart := false, narrowed := true }
def FnReplaceSameUptoSaid : Prop := fnReplaceSameUptoRow.holds Tryz.pinned (OpenSpec.upto fnReplaceSameSpec)

end Rows
end Go.Proofs.YtfikabecgaappaaGreat
