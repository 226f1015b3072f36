/-
  No cell of these rows narrows 'for every input' (looked for: loops, veiled, ifaces, maps, wideKeys, modest, calm, conditions, laid).
  DERIVED. THE GIVEN ROWS OF THIS SEAT. 3 by the template 'for every input the law returns true; each argument reads behind the call as it read before'; 0 by the template 'total and deterministic' (their statements: YtfanhfcamblghaaTotals.lean).
  GIVEN WITH THE SEED: the statements are not yours to turn. If you find one false, say at which input.
  Laid BY PROGRAM, IN A SANDBOX (cutbox-rows.mjs): the forced cells as the released guide's own fill.sh prints them over the translation 03c52646555783cf… (all of the seat's roots in one cut). By AI agents, Wed Nov 11 2026. No macro, syntax, notation, axiom, sorry.
-/
import Derived.Test.YtfanhfcamblghaaChecked
import GoSem.Claim
import GoSem.ClaimJoined
import GoSem.ClaimMapViews
import Derived.JoinedTies
import Derived.KernelRfl
namespace Go.Proofs.Ytfanhfcamblghaa
/- THE CELL 'sum', in the pinned program and in every row, IS THE sha256 OF THE DUMP (.gsa) THAT YtfanhfcamblghaaProg.lean LOADS. Nothing in Lean hashes anything: it is a label: what it is worth is what the hold of that sum in a sandbox is worth. -/
noncomputable def Try.pinned : Pinned := { name := "ytfanhfcamblghaa", sum := "03c52646555783cffcdaa8decc2500defb25db9f6a47acfed813785bc5500bf5", checked := Try.checked }
namespace Rows
def none {H : Type} : Left H := { results := [], args := [] }

/-- 'laws.FnPositionNfa': WHATEVER THE INPUT: true; the input reads as it did. -/
def fnPositionNfaSpec : ChangeSpec := { name := "fnPositionNfa", fn := fun _ => fun
  | [d1, d2] => { results := [.lit (.bool true)], args := [d1, d2] }
  | _ => none }
def fnPositionNfaRow : OpenClaim := { program := "ytfanhfcamblghaa", sum := "03c52646555783cffcdaa8decc2500defb25db9f6a47acfed813785bc5500bf5", func := "loop.example/regularlanguages/laws.FnPositionNfa", spec := "fnPositionNfa", unfollowed := true, recurses := true, plainKeys := false, apart := false }
def FnPositionNfaSaid : Prop := fnPositionNfaRow.holds Try.pinned (OpenSpec.ofChange fnPositionNfaSpec)

/-- ITS FALSE NEIGHBOUR: 'it returns false'. Refute it at one input. -/
def fnPositionNfaWrong : ChangeSpec := { name := "fnPositionNfa", fn := fun _ => fun
  | [d1, d2] => { results := [.lit (.bool false)], args := [d1, d2] }
  | _ => none }
def FnPositionNfaWrongFalsely : Prop := fnPositionNfaRow.holds Try.pinned (OpenSpec.ofChange fnPositionNfaWrong)

/-- 'laws.FnPositionBuild': WHATEVER THE INPUT: true; the input reads as it did. -/
def fnPositionBuildSpec : ChangeSpec := { name := "fnPositionBuild", fn := fun _ => fun
  | [d] => { results := [.lit (.bool true)], args := [d] }
  | _ => none }
def fnPositionBuildRow : OpenClaim := { program := "ytfanhfcamblghaa", sum := "03c52646555783cffcdaa8decc2500defb25db9f6a47acfed813785bc5500bf5", func := "loop.example/regularlanguages/laws.FnPositionBuild", spec := "fnPositionBuild", unfollowed := true, recurses := true, plainKeys := false, apart := false }
def FnPositionBuildSaid : Prop := fnPositionBuildRow.holds Try.pinned (OpenSpec.ofChange fnPositionBuildSpec)

/-- ITS FALSE NEIGHBOUR: 'it returns false'. Refute it at one input. -/
def fnPositionBuildWrong : ChangeSpec := { name := "fnPositionBuild", fn := fun _ => fun
  | [d] => { results := [.lit (.bool false)], args := [d] }
  | _ => none }
def FnPositionBuildWrongFalsely : Prop := fnPositionBuildRow.holds Try.pinned (OpenSpec.ofChange fnPositionBuildWrong)

/-- 'laws.FnRewriteBack': WHATEVER THE INPUT: true; the input reads as it did. -/
def fnRewriteBackSpec : ChangeSpec := { name := "fnRewriteBack", fn := fun _ => fun
  | [d1, d2] => { results := [.lit (.bool true)], args := [d1, d2] }
  | _ => none }
def fnRewriteBackRow : OpenClaim := { program := "ytfanhfcamblghaa", sum := "03c52646555783cffcdaa8decc2500defb25db9f6a47acfed813785bc5500bf5", func := "loop.example/regularlanguages/laws.FnRewriteBack", spec := "fnRewriteBack", unfollowed := true, recurses := true, plainKeys := false, apart := false }
def FnRewriteBackSaid : Prop := fnRewriteBackRow.holds Try.pinned (OpenSpec.ofChange fnRewriteBackSpec)

/-- ITS FALSE NEIGHBOUR: 'it returns false'. Refute it at one input. -/
def fnRewriteBackWrong : ChangeSpec := { name := "fnRewriteBack", fn := fun _ => fun
  | [d1, d2] => { results := [.lit (.bool false)], args := [d1, d2] }
  | _ => none }
def FnRewriteBackWrongFalsely : Prop := fnRewriteBackRow.holds Try.pinned (OpenSpec.ofChange fnRewriteBackWrong)

/- THE SECOND FORM. 'bulk': how many values and letters a reading holds, each counted each time it is reached (what is shared counts as often as it is met; a slice's spare places count too). A statement '..UptoSaid' is the law's where the arguments, and the package variables that the reading takes, are together of bulk at most 1048576: NARROWER than '..Said'. Prove '..Said' where nothing that the law and all that it calls make is longer than what came in: it says more and counts as full. Else prove '..UptoSaid'. A law counts once. -/
mutual
def uptoBulk {H : Type} : DataW H → Nat
  | .lit (.string bytes) => bytes.length + 1
  | .lit _ => 1
  | .nil => 1
  | .ptr d => uptoBulk d + 1
  | .slice elems spare => uptoBulkAll elems + uptoBulkAll spare + 1
  | .agg parts => uptoBulkAll parts + 1
  | .iface _ d => uptoBulk d + 1
  | .map entries => uptoBulkEntries entries + 1
  | .held _ => 1
def uptoBulkAll {H : Type} : List (DataW H) → Nat
  | [] => 0
  | d :: r => uptoBulk d + uptoBulkAll r
def uptoBulkEntries {H : Type} : List (Lit × DataW H) → Nat
  | [] => 0
  | x :: r => uptoBulkEntry x + uptoBulkEntries r
def uptoBulkEntry {H : Type} : Lit × DataW H → Nat
  | (.string bytes, d) => bytes.length + uptoBulk d + 1
  | (_, d) => uptoBulk d + 1
 end
def uptoSmall : (H : Type) → List (DataW H) → Bool := fun _ ds => decide (uptoBulkAll ds ≤ 1048576)
def OpenSpec.upto (s : _root_.Go.ChangeSpec) : _root_.Go.OpenSpec := { _root_.Go.OpenSpec.ofChange s with cond := some uptoSmall }

/-- 'laws.FnPositionNfa', WHERE WHAT IT READS IS OF BULK AT MOST 1048576: true; the input reads as it did. -/
def fnPositionNfaUptoRow : OpenClaim := { program := "ytfanhfcamblghaa", sum := "03c52646555783cffcdaa8decc2500defb25db9f6a47acfed813785bc5500bf5", func := "loop.example/regularlanguages/laws.FnPositionNfa", spec := "fnPositionNfa", unfollowed := true, recurses := true, plainKeys := false, apart := false, narrowed := true }
def FnPositionNfaUptoSaid : Prop := fnPositionNfaUptoRow.holds Try.pinned (OpenSpec.upto fnPositionNfaSpec)

/-- 'laws.FnPositionBuild', WHERE WHAT IT READS IS OF BULK AT MOST 1048576: true; the input reads as it did. -/
def fnPositionBuildUptoRow : OpenClaim := { program := "ytfanhfcamblghaa", sum := "03c52646555783cffcdaa8decc2500defb25db9f6a47acfed813785bc5500bf5", func := "loop.example/regularlanguages/laws.FnPositionBuild", spec := "fnPositionBuild", unfollowed := true, recurses := true, plainKeys := false, apart := false, narrowed := true }
def FnPositionBuildUptoSaid : Prop := fnPositionBuildUptoRow.holds Try.pinned (OpenSpec.upto fnPositionBuildSpec)

/-- 'laws.FnRewriteBack', WHERE WHAT IT READS IS OF BULK AT MOST 1048576: true; the input reads as it did. -/
def fnRewriteBackUptoRow : OpenClaim := { program := "ytfanhfcamblghaa", sum := "03c52646555783cffcdaa8decc2500defb25db9f6a47acfed813785bc5500bf5", func := "loop.example/regularlanguages/laws.FnRewriteBack", spec := "fnRewriteBack", unfollowed := true, recurses := true, plainKeys := false, apart := false, narrowed := true }
def FnRewriteBackUptoSaid : Prop := fnRewriteBackUptoRow.holds Try.pinned (OpenSpec.upto fnRewriteBackSpec)

end Rows
end Go.Proofs.Ytfanhfcamblghaa
