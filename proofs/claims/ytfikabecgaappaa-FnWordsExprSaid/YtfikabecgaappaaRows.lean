/-
  No cell of these rows narrows 'for every input' (looked for: loops, veiled, ifaces, maps, wideKeys, modest, calm, conditions, laid).
  DERIVED. THE GIVEN ROWS OF THIS SEAT. 2 by the template 'for every input the law returns true; each argument reads behind the call as it read before'; 0 by the template 'total and deterministic' (their statements: YtfikabecgaappaaTotals.lean).
  GIVEN WITH THE SEED: the statements are not yours to turn. If you find one false, say at which input.
  Laid BY PROGRAM, IN A SANDBOX (cutbox-rows.mjs): the forced cells as the released guide's own fill.sh prints them over the translation c65a284fd4cc8fba… (all of the seat's roots in one cut). By AI agents, Wed Nov 11 2026. No macro, syntax, notation, axiom, sorry.
-/
import Derived.Test.YtfikabecgaappaaChecked
import GoSem.Claim
import GoSem.ClaimJoined
import GoSem.ClaimMapViews
import Derived.JoinedTies
import Derived.KernelRfl
namespace Go.Proofs.Ytfikabecgaappaa
/- THE CELL 'sum', in the pinned program and in every row, IS THE sha256 OF THE DUMP (.gsa) THAT YtfikabecgaappaaProg.lean LOADS. Nothing in Lean hashes anything: it is a label: what it is worth is what the hold of that sum in a sandbox is worth. -/
noncomputable def Try.pinned : Pinned := { name := "ytfikabecgaappaa", sum := "c65a284fd4cc8fba0cb143b148762e73c98bc23afc9598c9d72b1f63031e80d8", checked := Try.checked }
namespace Rows
def none {H : Type} : Left H := { results := [], args := [] }

/-- 'laws.FnWordAfter': WHATEVER THE INPUT: true; the input reads as it did. -/
def fnWordAfterSpec : ChangeSpec := { name := "fnWordAfter", fn := fun _ => fun
  | [d] => { results := [.lit (.bool true)], args := [d] }
  | _ => none }
def fnWordAfterRow : OpenClaim := { program := "ytfikabecgaappaa", sum := "c65a284fd4cc8fba0cb143b148762e73c98bc23afc9598c9d72b1f63031e80d8", func := "loop.example/regularlanguages/laws.FnWordAfter", spec := "fnWordAfter", unfollowed := true, recurses := true, plainKeys := false, apart := false }
def FnWordAfterSaid : Prop := fnWordAfterRow.holds Try.pinned (OpenSpec.ofChange fnWordAfterSpec)

/-- ITS FALSE NEIGHBOUR: 'it returns false'. Refute it at one input. -/
def fnWordAfterWrong : ChangeSpec := { name := "fnWordAfter", fn := fun _ => fun
  | [d] => { results := [.lit (.bool false)], args := [d] }
  | _ => none }
def FnWordAfterWrongFalsely : Prop := fnWordAfterRow.holds Try.pinned (OpenSpec.ofChange fnWordAfterWrong)

/-- 'laws.FnWordsExpr': WHATEVER THE INPUT: true; the input reads as it did. -/
def fnWordsExprSpec : ChangeSpec := { name := "fnWordsExpr", fn := fun _ => fun
  | [d] => { results := [.lit (.bool true)], args := [d] }
  | _ => none }
def fnWordsExprRow : OpenClaim := { program := "ytfikabecgaappaa", sum := "c65a284fd4cc8fba0cb143b148762e73c98bc23afc9598c9d72b1f63031e80d8", func := "loop.example/regularlanguages/laws.FnWordsExpr", spec := "fnWordsExpr", unfollowed := true, recurses := true, plainKeys := false, apart := false }
def FnWordsExprSaid : Prop := fnWordsExprRow.holds Try.pinned (OpenSpec.ofChange fnWordsExprSpec)

/-- ITS FALSE NEIGHBOUR: 'it returns false'. Refute it at one input. -/
def fnWordsExprWrong : ChangeSpec := { name := "fnWordsExpr", fn := fun _ => fun
  | [d] => { results := [.lit (.bool false)], args := [d] }
  | _ => none }
def FnWordsExprWrongFalsely : Prop := fnWordsExprRow.holds Try.pinned (OpenSpec.ofChange fnWordsExprWrong)

/- THE SECOND FORM. 'bulk': how many values and letters a reading holds, each counted each time it is reached (what is shared counts as often as it is met; a slice's spare places count too). A statement '..UptoSaid' is the law's where the arguments, and the package variables that the reading takes, are together of bulk at most 1048576: NARROWER than '..Said'. Prove '..Said' where nothing that the law and all that it calls make is longer than what came in: it says more and counts as full. Else prove '..UptoSaid'. A law counts once. -/
mutual
def uptoBulk {H : Type} : DataW H → Nat
  | .lit (.string bytes) => bytes.length + 1
  | .lit _ => 1
  | .nil => 1
  | .ptr d => uptoBulk d + 1
  | .slice elems spare => uptoBulkAll elems + uptoBulkAll spare + 1
  | .agg parts => uptoBulkAll parts + 1
  | .iface _ d => uptoBulk d + 1
  | .map entries => uptoBulkEntries entries + 1
  | .held _ => 1
def uptoBulkAll {H : Type} : List (DataW H) → Nat
  | [] => 0
  | d :: r => uptoBulk d + uptoBulkAll r
def uptoBulkEntries {H : Type} : List (Lit × DataW H) → Nat
  | [] => 0
  | x :: r => uptoBulkEntry x + uptoBulkEntries r
def uptoBulkEntry {H : Type} : Lit × DataW H → Nat
  | (.string bytes, d) => bytes.length + uptoBulk d + 1
  | (_, d) => uptoBulk d + 1
 end
def uptoSmall : (H : Type) → List (DataW H) → Bool := fun _ ds => decide (uptoBulkAll ds ≤ 1048576)
def OpenSpec.upto (s : _root_.Go.ChangeSpec) : _root_.Go.OpenSpec := { _root_.Go.OpenSpec.ofChange s with cond := some uptoSmall }

/-- 'laws.FnWordAfter', WHERE WHAT IT READS IS OF BULK AT MOST 1048576: true; the input reads as it did. -/
def fnWordAfterUptoRow : OpenClaim := { program := "ytfikabecgaappaa", sum := "c65a284fd4cc8fba0cb143b148762e73c98bc23afc9598c9d72b1f63031e80d8", func := "loop.example/regularlanguages/laws.FnWordAfter", spec := "fnWordAfter", unfollowed := true, recurses := true, plainKeys := false, apart := false, narrowed := true }
def FnWordAfterUptoSaid : Prop := fnWordAfterUptoRow.holds Try.pinned (OpenSpec.upto fnWordAfterSpec)

/-- 'laws.FnWordsExpr', WHERE WHAT IT READS IS OF BULK AT MOST 1048576: true; the input reads as it did. -/
def fnWordsExprUptoRow : OpenClaim := { program := "ytfikabecgaappaa", sum := "c65a284fd4cc8fba0cb143b148762e73c98bc23afc9598c9d72b1f63031e80d8", func := "loop.example/regularlanguages/laws.FnWordsExpr", spec := "fnWordsExpr", unfollowed := true, recurses := true, plainKeys := false, apart := false, narrowed := true }
def FnWordsExprUptoSaid : Prop := fnWordsExprUptoRow.holds Try.pinned (OpenSpec.upto fnWordsExprSpec)

end Rows
end Go.Proofs.Ytfikabecgaappaa
