/-
  No cell of these rows narrows 'for every input' (looked for: loops, veiled, ifaces, maps, wideKeys, modest, calm, conditions, laid).
  DERIVED. THE GIVEN ROWS OF THIS SEAT. 6 by the template 'for every input the law returns true; each argument reads behind the call as it read before'; 0 by the template 'total and deterministic' (their statements: YtalbofnhcpjilaaTotals.lean).
  GIVEN WITH THE SEED: the statements are not yours to turn. If you find one false, say at which input.
  Laid BY PROGRAM, IN A SANDBOX (cutbox-rows.mjs): the forced cells as the released guide's own fill.sh prints them over the translation a6edbd2bc6b89310… (all of the seat's roots in one cut). By AI agents, Wed Nov 11 2026. No macro, syntax, notation, axiom, sorry.
-/
import Derived.Test.YtalbofnhcpjilaaChecked
import GoSem.Claim
import GoSem.ClaimJoined
import GoSem.ClaimMapViews
import Derived.JoinedTies
import Derived.KernelRfl
namespace Go.Proofs.Ytalbofnhcpjilaa
/- THE CELL 'sum', in the pinned program and in every row, IS THE sha256 OF THE DUMP (.gsa) THAT YtalbofnhcpjilaaProg.lean LOADS. Nothing in Lean hashes anything: it is a label: what it is worth is what the hold of that sum in a sandbox is worth. -/
noncomputable def Try.pinned : Pinned := { name := "ytalbofnhcpjilaa", sum := "a6edbd2bc6b89310c29a3fb2c04377c34ea87b55e9abb8404ba36469a7c22ccf", checked := Try.checked }
namespace Rows
def none {H : Type} : Left H := { results := [], args := [] }

/-- 'laws.FnExactCompileExpr': WHATEVER THE INPUT: true; the input reads as it did. -/
def fnExactCompileExprSpec : ChangeSpec := { name := "fnExactCompileExpr", fn := fun _ => fun
  | [d] => { results := [.lit (.bool true)], args := [d] }
  | _ => none }
def fnExactCompileExprRow : OpenClaim := { program := "ytalbofnhcpjilaa", sum := "a6edbd2bc6b89310c29a3fb2c04377c34ea87b55e9abb8404ba36469a7c22ccf", func := "loop.example/regularlanguages/laws.FnExactCompileExpr", spec := "fnExactCompileExpr", unfollowed := true, recurses := true, plainKeys := false, apart := false }
def FnExactCompileExprSaid : Prop := fnExactCompileExprRow.holds Try.pinned (OpenSpec.ofChange fnExactCompileExprSpec)

/-- ITS FALSE NEIGHBOUR: 'it returns false'. Refute it at one input. -/
def fnExactCompileExprWrong : ChangeSpec := { name := "fnExactCompileExpr", fn := fun _ => fun
  | [d] => { results := [.lit (.bool false)], args := [d] }
  | _ => none }
def FnExactCompileExprWrongFalsely : Prop := fnExactCompileExprRow.holds Try.pinned (OpenSpec.ofChange fnExactCompileExprWrong)

/-- 'laws.FnExactStateCount': WHATEVER THE INPUT: true; the input reads as it did. -/
def fnExactStateCountSpec : ChangeSpec := { name := "fnExactStateCount", fn := fun _ => fun
  | [d] => { results := [.lit (.bool true)], args := [d] }
  | _ => none }
def fnExactStateCountRow : OpenClaim := { program := "ytalbofnhcpjilaa", sum := "a6edbd2bc6b89310c29a3fb2c04377c34ea87b55e9abb8404ba36469a7c22ccf", func := "loop.example/regularlanguages/laws.FnExactStateCount", spec := "fnExactStateCount", unfollowed := true, recurses := true, plainKeys := false, apart := false }
def FnExactStateCountSaid : Prop := fnExactStateCountRow.holds Try.pinned (OpenSpec.ofChange fnExactStateCountSpec)

/-- ITS FALSE NEIGHBOUR: 'it returns false'. Refute it at one input. -/
def fnExactStateCountWrong : ChangeSpec := { name := "fnExactStateCount", fn := fun _ => fun
  | [d] => { results := [.lit (.bool false)], args := [d] }
  | _ => none }
def FnExactStateCountWrongFalsely : Prop := fnExactStateCountRow.holds Try.pinned (OpenSpec.ofChange fnExactStateCountWrong)

/-- 'laws.FnStateCount': WHATEVER THE INPUT: true; the input reads as it did. -/
def fnStateCountSpec : ChangeSpec := { name := "fnStateCount", fn := fun _ => fun
  | [d] => { results := [.lit (.bool true)], args := [d] }
  | _ => none }
def fnStateCountRow : OpenClaim := { program := "ytalbofnhcpjilaa", sum := "a6edbd2bc6b89310c29a3fb2c04377c34ea87b55e9abb8404ba36469a7c22ccf", func := "loop.example/regularlanguages/laws.FnStateCount", spec := "fnStateCount", unfollowed := true, recurses := true, plainKeys := false, apart := false }
def FnStateCountSaid : Prop := fnStateCountRow.holds Try.pinned (OpenSpec.ofChange fnStateCountSpec)

/-- ITS FALSE NEIGHBOUR: 'it returns false'. Refute it at one input. -/
def fnStateCountWrong : ChangeSpec := { name := "fnStateCount", fn := fun _ => fun
  | [d] => { results := [.lit (.bool false)], args := [d] }
  | _ => none }
def FnStateCountWrongFalsely : Prop := fnStateCountRow.holds Try.pinned (OpenSpec.ofChange fnStateCountWrong)

/-- 'laws.FnStartsRests': WHATEVER THE INPUT: true; the input reads as it did. -/
def fnStartsRestsSpec : ChangeSpec := { name := "fnStartsRests", fn := fun _ => fun
  | [d1, d2] => { results := [.lit (.bool true)], args := [d1, d2] }
  | _ => none }
def fnStartsRestsRow : OpenClaim := { program := "ytalbofnhcpjilaa", sum := "a6edbd2bc6b89310c29a3fb2c04377c34ea87b55e9abb8404ba36469a7c22ccf", func := "loop.example/regularlanguages/laws.FnStartsRests", spec := "fnStartsRests", unfollowed := true, recurses := true, plainKeys := false, apart := false }
def FnStartsRestsSaid : Prop := fnStartsRestsRow.holds Try.pinned (OpenSpec.ofChange fnStartsRestsSpec)

/-- ITS FALSE NEIGHBOUR: 'it returns false'. Refute it at one input. -/
def fnStartsRestsWrong : ChangeSpec := { name := "fnStartsRests", fn := fun _ => fun
  | [d1, d2] => { results := [.lit (.bool false)], args := [d1, d2] }
  | _ => none }
def FnStartsRestsWrongFalsely : Prop := fnStartsRestsRow.holds Try.pinned (OpenSpec.ofChange fnStartsRestsWrong)

/-- 'laws.FnPartsStar': WHATEVER THE INPUT: true; the input reads as it did. -/
def fnPartsStarSpec : ChangeSpec := { name := "fnPartsStar", fn := fun _ => fun
  | [d] => { results := [.lit (.bool true)], args := [d] }
  | _ => none }
def fnPartsStarRow : OpenClaim := { program := "ytalbofnhcpjilaa", sum := "a6edbd2bc6b89310c29a3fb2c04377c34ea87b55e9abb8404ba36469a7c22ccf", func := "loop.example/regularlanguages/laws.FnPartsStar", spec := "fnPartsStar", unfollowed := true, recurses := true, plainKeys := false, apart := false }
def FnPartsStarSaid : Prop := fnPartsStarRow.holds Try.pinned (OpenSpec.ofChange fnPartsStarSpec)

/-- ITS FALSE NEIGHBOUR: 'it returns false'. Refute it at one input. -/
def fnPartsStarWrong : ChangeSpec := { name := "fnPartsStar", fn := fun _ => fun
  | [d] => { results := [.lit (.bool false)], args := [d] }
  | _ => none }
def FnPartsStarWrongFalsely : Prop := fnPartsStarRow.holds Try.pinned (OpenSpec.ofChange fnPartsStarWrong)

/-- 'laws.FnCountTurn': WHATEVER THE INPUT: true; the input reads as it did. -/
def fnCountTurnSpec : ChangeSpec := { name := "fnCountTurn", fn := fun _ => fun
  | [d] => { results := [.lit (.bool true)], args := [d] }
  | _ => none }
def fnCountTurnRow : OpenClaim := { program := "ytalbofnhcpjilaa", sum := "a6edbd2bc6b89310c29a3fb2c04377c34ea87b55e9abb8404ba36469a7c22ccf", func := "loop.example/regularlanguages/laws.FnCountTurn", spec := "fnCountTurn", unfollowed := true, recurses := true, plainKeys := false, apart := false }
def FnCountTurnSaid : Prop := fnCountTurnRow.holds Try.pinned (OpenSpec.ofChange fnCountTurnSpec)

/-- ITS FALSE NEIGHBOUR: 'it returns false'. Refute it at one input. -/
def fnCountTurnWrong : ChangeSpec := { name := "fnCountTurn", fn := fun _ => fun
  | [d] => { results := [.lit (.bool false)], args := [d] }
  | _ => none }
def FnCountTurnWrongFalsely : Prop := fnCountTurnRow.holds Try.pinned (OpenSpec.ofChange fnCountTurnWrong)

/- THE SECOND FORM. 'bulk': how many values and letters a reading holds, each counted each time it is reached (what is shared counts as often as it is met; a slice's spare places count too). A statement '..UptoSaid' is the law's where the arguments, and the package variables that the reading takes, are together of bulk at most 1048576: NARROWER than '..Said'. Prove '..Said' where nothing that the law and all that it calls make is longer than what came in: it says more and counts as full. Else prove '..UptoSaid'. A law counts once. -/
mutual
def uptoBulk {H : Type} : DataW H → Nat
  | .lit (.string bytes) => bytes.length + 1
  | .lit _ => 1
  | .nil => 1
  | .ptr d => uptoBulk d + 1
  | .slice elems spare => uptoBulkAll elems + uptoBulkAll spare + 1
  | .agg parts => uptoBulkAll parts + 1
  | .iface _ d => uptoBulk d + 1
  | .map entries => uptoBulkEntries entries + 1
  | .held _ => 1
def uptoBulkAll {H : Type} : List (DataW H) → Nat
  | [] => 0
  | d :: r => uptoBulk d + uptoBulkAll r
def uptoBulkEntries {H : Type} : List (Lit × DataW H) → Nat
  | [] => 0
  | x :: r => uptoBulkEntry x + uptoBulkEntries r
def uptoBulkEntry {H : Type} : Lit × DataW H → Nat
  | (.string bytes, d) => bytes.length + uptoBulk d + 1
  | (_, d) => uptoBulk d + 1
 end
def uptoSmall : (H : Type) → List (DataW H) → Bool := fun _ ds => decide (uptoBulkAll ds ≤ 1048576)
def OpenSpec.upto (s : _root_.Go.ChangeSpec) : _root_.Go.OpenSpec := { _root_.Go.OpenSpec.ofChange s with cond := some uptoSmall }

/-- 'laws.FnExactCompileExpr', WHERE WHAT IT READS IS OF BULK AT MOST 1048576: true; the input reads as it did. -/
def fnExactCompileExprUptoRow : OpenClaim := { program := "ytalbofnhcpjilaa", sum := "a6edbd2bc6b89310c29a3fb2c04377c34ea87b55e9abb8404ba36469a7c22ccf", func := "loop.example/regularlanguages/laws.FnExactCompileExpr", spec := "fnExactCompileExpr", unfollowed := true, recurses := true, plainKeys := false, apart := false, narrowed := true }
def FnExactCompileExprUptoSaid : Prop := fnExactCompileExprUptoRow.holds Try.pinned (OpenSpec.upto fnExactCompileExprSpec)

/-- 'laws.FnExactStateCount', WHERE WHAT IT READS IS OF BULK AT MOST 1048576: true; the input reads as it did. -/
def fnExactStateCountUptoRow : OpenClaim := { program := "ytalbofnhcpjilaa", sum := "a6edbd2bc6b89310c29a3fb2c04377c34ea87b55e9abb8404ba36469a7c22ccf", func := "loop.example/regularlanguages/laws.FnExactStateCount", spec := "fnExactStateCount", unfollowed := true, recurses := true, plainKeys := false, apart := false, narrowed := true }
def FnExactStateCountUptoSaid : Prop := fnExactStateCountUptoRow.holds Try.pinned (OpenSpec.upto fnExactStateCountSpec)

/-- 'laws.FnStateCount', WHERE WHAT IT READS IS OF BULK AT MOST 1048576: true; the input reads as it did. -/
def fnStateCountUptoRow : OpenClaim := { program := "ytalbofnhcpjilaa", sum := "a6edbd2bc6b89310c29a3fb2c04377c34ea87b55e9abb8404ba36469a7c22ccf", func := "loop.example/regularlanguages/laws.FnStateCount", spec := "fnStateCount", unfollowed := true, recurses := true, plainKeys := false, apart := false, narrowed := true }
def FnStateCountUptoSaid : Prop := fnStateCountUptoRow.holds Try.pinned (OpenSpec.upto fnStateCountSpec)

/-- 'laws.FnStartsRests', WHERE WHAT IT READS IS OF BULK AT MOST 1048576: true; the input reads as it did. -/
def fnStartsRestsUptoRow : OpenClaim := { program := "ytalbofnhcpjilaa", sum := "a6edbd2bc6b89310c29a3fb2c04377c34ea87b55e9abb8404ba36469a7c22ccf", func := "loop.example/regularlanguages/laws.FnStartsRests", spec := "fnStartsRests", unfollowed := true, recurses := true, plainKeys := false, apart := false, narrowed := true }
def FnStartsRestsUptoSaid : Prop := fnStartsRestsUptoRow.holds Try.pinned (OpenSpec.upto fnStartsRestsSpec)

/-- 'laws.FnPartsStar', WHERE WHAT IT READS IS OF BULK AT MOST 1048576: true; the input reads as it did. -/
def fnPartsStarUptoRow : OpenClaim := { program := "ytalbofnhcpjilaa", sum := "a6edbd2bc6b89310c29a3fb2c04377c34ea87b55e9abb8404ba36469a7c22ccf", func := "loop.example/regularlanguages/laws.FnPartsStar", spec := "fnPartsStar", unfollowed := true, recurses := true, plainKeys := false, apart := false, narrowed := true }
def FnPartsStarUptoSaid : Prop := fnPartsStarUptoRow.holds Try.pinned (OpenSpec.upto fnPartsStarSpec)

/-- 'laws.FnCountTurn', WHERE WHAT IT READS IS OF BULK AT MOST 1048576: true; the input reads as it did. -/
def fnCountTurnUptoRow : OpenClaim := { program := "ytalbofnhcpjilaa", sum := "a6edbd2bc6b89310c29a3fb2c04377c34ea87b55e9abb8404ba36469a7c22ccf", func := "loop.example/regularlanguages/laws.FnCountTurn", spec := "fnCountTurn", unfollowed := true, recurses := true, plainKeys := false, apart := false, narrowed := true }
def FnCountTurnUptoSaid : Prop := fnCountTurnUptoRow.holds Try.pinned (OpenSpec.upto fnCountTurnSpec)

end Rows
end Go.Proofs.Ytalbofnhcpjilaa
