/-
  No cell of these rows narrows 'for every input' (looked for: loops, veiled, ifaces, maps, wideKeys, modest, calm, conditions, laid).
  DERIVED. THE GIVEN ROWS OF THIS SEAT. 12 by the template 'for every input the law returns true; each argument reads behind the call as it read before'; 0 by the template 'total and deterministic' (their statements: YthhbjkgchabfmaaTotals.lean).
  GIVEN WITH THE SEED: the statements are not yours to turn. If you find one false, say at which input.
  Laid BY PROGRAM, IN A SANDBOX (cutbox-rows.mjs): the forced cells as the released guide's own fill.sh prints them over the translation c8beeb0c0ce7e91d… (all of the seat's roots in one cut). By AI agents, Wed Nov 11 2026. No macro, syntax, notation, axiom, sorry.
-/
import Derived.Test.YthhbjkgchabfmaaChecked
import GoSem.Claim
import GoSem.ClaimJoined
import GoSem.ClaimMapViews
import Derived.JoinedTies
import Derived.KernelRfl
namespace Go.Proofs.Ythhbjkgchabfmaa
/- THE CELL 'sum', in the pinned program and in every row, IS THE sha256 OF THE DUMP (.gsa) THAT YthhbjkgchabfmaaProg.lean LOADS. Nothing in Lean hashes anything: it is a label: what it is worth is what the hold of that sum in a sandbox is worth. -/
noncomputable def Try.pinned : Pinned := { name := "ythhbjkgchabfmaa", sum := "c8beeb0c0ce7e91d22aa668dbe59dfb2d179efcf3117fcec3bbe160045b4e311", checked := Try.checked }
namespace Rows
def none {H : Type} : Left H := { results := [], args := [] }

/-- 'laws.FnNfaOf': WHATEVER THE INPUT: true; the input reads as it did. -/
def fnNfaOfSpec : ChangeSpec := { name := "fnNfaOf", fn := fun _ => fun
  | [d] => { results := [.lit (.bool true)], args := [d] }
  | _ => none }
def fnNfaOfRow : OpenClaim := { program := "ythhbjkgchabfmaa", sum := "c8beeb0c0ce7e91d22aa668dbe59dfb2d179efcf3117fcec3bbe160045b4e311", func := "loop.example/regularlanguages/laws.FnNfaOf", spec := "fnNfaOf", unfollowed := true, recurses := true, plainKeys := false, apart := false }
def FnNfaOfSaid : Prop := fnNfaOfRow.holds Try.pinned (OpenSpec.ofChange fnNfaOfSpec)

/-- ITS FALSE NEIGHBOUR: 'it returns false'. Refute it at one input. -/
def fnNfaOfWrong : ChangeSpec := { name := "fnNfaOf", fn := fun _ => fun
  | [d] => { results := [.lit (.bool false)], args := [d] }
  | _ => none }
def FnNfaOfWrongFalsely : Prop := fnNfaOfRow.holds Try.pinned (OpenSpec.ofChange fnNfaOfWrong)

/-- 'laws.FnTurnTwice': WHATEVER THE INPUT: true; the input reads as it did. -/
def fnTurnTwiceSpec : ChangeSpec := { name := "fnTurnTwice", fn := fun _ => fun
  | [d] => { results := [.lit (.bool true)], args := [d] }
  | _ => none }
def fnTurnTwiceRow : OpenClaim := { program := "ythhbjkgchabfmaa", sum := "c8beeb0c0ce7e91d22aa668dbe59dfb2d179efcf3117fcec3bbe160045b4e311", func := "loop.example/regularlanguages/laws.FnTurnTwice", spec := "fnTurnTwice", unfollowed := true, recurses := true, plainKeys := false, apart := false }
def FnTurnTwiceSaid : Prop := fnTurnTwiceRow.holds Try.pinned (OpenSpec.ofChange fnTurnTwiceSpec)

/-- ITS FALSE NEIGHBOUR: 'it returns false'. Refute it at one input. -/
def fnTurnTwiceWrong : ChangeSpec := { name := "fnTurnTwice", fn := fun _ => fun
  | [d] => { results := [.lit (.bool false)], args := [d] }
  | _ => none }
def FnTurnTwiceWrongFalsely : Prop := fnTurnTwiceRow.holds Try.pinned (OpenSpec.ofChange fnTurnTwiceWrong)

/-- 'laws.FnDfaRests': WHATEVER THE INPUT: true; the input reads as it did. -/
def fnDfaRestsSpec : ChangeSpec := { name := "fnDfaRests", fn := fun _ => fun
  | [d1, d2] => { results := [.lit (.bool true)], args := [d1, d2] }
  | _ => none }
def fnDfaRestsRow : OpenClaim := { program := "ythhbjkgchabfmaa", sum := "c8beeb0c0ce7e91d22aa668dbe59dfb2d179efcf3117fcec3bbe160045b4e311", func := "loop.example/regularlanguages/laws.FnDfaRests", spec := "fnDfaRests", unfollowed := true, recurses := true, plainKeys := false, apart := false }
def FnDfaRestsSaid : Prop := fnDfaRestsRow.holds Try.pinned (OpenSpec.ofChange fnDfaRestsSpec)

/-- ITS FALSE NEIGHBOUR: 'it returns false'. Refute it at one input. -/
def fnDfaRestsWrong : ChangeSpec := { name := "fnDfaRests", fn := fun _ => fun
  | [d1, d2] => { results := [.lit (.bool false)], args := [d1, d2] }
  | _ => none }
def FnDfaRestsWrongFalsely : Prop := fnDfaRestsRow.holds Try.pinned (OpenSpec.ofChange fnDfaRestsWrong)

/-- 'laws.FnMinimize': WHATEVER THE INPUT: true; the input reads as it did. -/
def fnMinimizeSpec : ChangeSpec := { name := "fnMinimize", fn := fun _ => fun
  | [d] => { results := [.lit (.bool true)], args := [d] }
  | _ => none }
def fnMinimizeRow : OpenClaim := { program := "ythhbjkgchabfmaa", sum := "c8beeb0c0ce7e91d22aa668dbe59dfb2d179efcf3117fcec3bbe160045b4e311", func := "loop.example/regularlanguages/laws.FnMinimize", spec := "fnMinimize", unfollowed := true, recurses := true, plainKeys := false, apart := false }
def FnMinimizeSaid : Prop := fnMinimizeRow.holds Try.pinned (OpenSpec.ofChange fnMinimizeSpec)

/-- ITS FALSE NEIGHBOUR: 'it returns false'. Refute it at one input. -/
def fnMinimizeWrong : ChangeSpec := { name := "fnMinimize", fn := fun _ => fun
  | [d] => { results := [.lit (.bool false)], args := [d] }
  | _ => none }
def FnMinimizeWrongFalsely : Prop := fnMinimizeRow.holds Try.pinned (OpenSpec.ofChange fnMinimizeWrong)

/-- 'laws.FnPairsSmall': WHATEVER THE INPUT: true; the input reads as it did. -/
def fnPairsSmallSpec : ChangeSpec := { name := "fnPairsSmall", fn := fun _ => fun
  | [d] => { results := [.lit (.bool true)], args := [d] }
  | _ => none }
def fnPairsSmallRow : OpenClaim := { program := "ythhbjkgchabfmaa", sum := "c8beeb0c0ce7e91d22aa668dbe59dfb2d179efcf3117fcec3bbe160045b4e311", func := "loop.example/regularlanguages/laws.FnPairsSmall", spec := "fnPairsSmall", unfollowed := true, recurses := true, plainKeys := false, apart := false }
def FnPairsSmallSaid : Prop := fnPairsSmallRow.holds Try.pinned (OpenSpec.ofChange fnPairsSmallSpec)

/-- ITS FALSE NEIGHBOUR: 'it returns false'. Refute it at one input. -/
def fnPairsSmallWrong : ChangeSpec := { name := "fnPairsSmall", fn := fun _ => fun
  | [d] => { results := [.lit (.bool false)], args := [d] }
  | _ => none }
def FnPairsSmallWrongFalsely : Prop := fnPairsSmallRow.holds Try.pinned (OpenSpec.ofChange fnPairsSmallWrong)

/-- 'laws.FnMakePairs': WHATEVER THE INPUT: true; the input reads as it did. -/
def fnMakePairsSpec : ChangeSpec := { name := "fnMakePairs", fn := fun _ => fun
  | [d] => { results := [.lit (.bool true)], args := [d] }
  | _ => none }
def fnMakePairsRow : OpenClaim := { program := "ythhbjkgchabfmaa", sum := "c8beeb0c0ce7e91d22aa668dbe59dfb2d179efcf3117fcec3bbe160045b4e311", func := "loop.example/regularlanguages/laws.FnMakePairs", spec := "fnMakePairs", unfollowed := true, recurses := true, plainKeys := false, apart := false }
def FnMakePairsSaid : Prop := fnMakePairsRow.holds Try.pinned (OpenSpec.ofChange fnMakePairsSpec)

/-- ITS FALSE NEIGHBOUR: 'it returns false'. Refute it at one input. -/
def fnMakePairsWrong : ChangeSpec := { name := "fnMakePairs", fn := fun _ => fun
  | [d] => { results := [.lit (.bool false)], args := [d] }
  | _ => none }
def FnMakePairsWrongFalsely : Prop := fnMakePairsRow.holds Try.pinned (OpenSpec.ofChange fnMakePairsWrong)

/-- 'laws.FnCheckPairs': WHATEVER THE INPUT: true; the input reads as it did. -/
def fnCheckPairsSpec : ChangeSpec := { name := "fnCheckPairs", fn := fun _ => fun
  | [d] => { results := [.lit (.bool true)], args := [d] }
  | _ => none }
def fnCheckPairsRow : OpenClaim := { program := "ythhbjkgchabfmaa", sum := "c8beeb0c0ce7e91d22aa668dbe59dfb2d179efcf3117fcec3bbe160045b4e311", func := "loop.example/regularlanguages/laws.FnCheckPairs", spec := "fnCheckPairs", unfollowed := true, recurses := true, plainKeys := false, apart := false }
def FnCheckPairsSaid : Prop := fnCheckPairsRow.holds Try.pinned (OpenSpec.ofChange fnCheckPairsSpec)

/-- ITS FALSE NEIGHBOUR: 'it returns false'. Refute it at one input. -/
def fnCheckPairsWrong : ChangeSpec := { name := "fnCheckPairs", fn := fun _ => fun
  | [d] => { results := [.lit (.bool false)], args := [d] }
  | _ => none }
def FnCheckPairsWrongFalsely : Prop := fnCheckPairsRow.holds Try.pinned (OpenSpec.ofChange fnCheckPairsWrong)

/-- 'laws.FnFewPairs': WHATEVER THE INPUT: true; the input reads as it did. -/
def fnFewPairsSpec : ChangeSpec := { name := "fnFewPairs", fn := fun _ => fun
  | [d] => { results := [.lit (.bool true)], args := [d] }
  | _ => none }
def fnFewPairsRow : OpenClaim := { program := "ythhbjkgchabfmaa", sum := "c8beeb0c0ce7e91d22aa668dbe59dfb2d179efcf3117fcec3bbe160045b4e311", func := "loop.example/regularlanguages/laws.FnFewPairs", spec := "fnFewPairs", unfollowed := true, recurses := true, plainKeys := false, apart := false }
def FnFewPairsSaid : Prop := fnFewPairsRow.holds Try.pinned (OpenSpec.ofChange fnFewPairsSpec)

/-- ITS FALSE NEIGHBOUR: 'it returns false'. Refute it at one input. -/
def fnFewPairsWrong : ChangeSpec := { name := "fnFewPairs", fn := fun _ => fun
  | [d] => { results := [.lit (.bool false)], args := [d] }
  | _ => none }
def FnFewPairsWrongFalsely : Prop := fnFewPairsRow.holds Try.pinned (OpenSpec.ofChange fnFewPairsWrong)

/-- 'laws.FnGuessCount': WHATEVER THE INPUT: true; the input reads as it did. -/
def fnGuessCountSpec : ChangeSpec := { name := "fnGuessCount", fn := fun _ => fun
  | [d] => { results := [.lit (.bool true)], args := [d] }
  | _ => none }
def fnGuessCountRow : OpenClaim := { program := "ythhbjkgchabfmaa", sum := "c8beeb0c0ce7e91d22aa668dbe59dfb2d179efcf3117fcec3bbe160045b4e311", func := "loop.example/regularlanguages/laws.FnGuessCount", spec := "fnGuessCount", unfollowed := true, recurses := true, plainKeys := false, apart := false }
def FnGuessCountSaid : Prop := fnGuessCountRow.holds Try.pinned (OpenSpec.ofChange fnGuessCountSpec)

/-- ITS FALSE NEIGHBOUR: 'it returns false'. Refute it at one input. -/
def fnGuessCountWrong : ChangeSpec := { name := "fnGuessCount", fn := fun _ => fun
  | [d] => { results := [.lit (.bool false)], args := [d] }
  | _ => none }
def FnGuessCountWrongFalsely : Prop := fnGuessCountRow.holds Try.pinned (OpenSpec.ofChange fnGuessCountWrong)

/-- 'laws.FnGuessStates': WHATEVER THE INPUT: true; the input reads as it did. -/
def fnGuessStatesSpec : ChangeSpec := { name := "fnGuessStates", fn := fun _ => fun
  | [d] => { results := [.lit (.bool true)], args := [d] }
  | _ => none }
def fnGuessStatesRow : OpenClaim := { program := "ythhbjkgchabfmaa", sum := "c8beeb0c0ce7e91d22aa668dbe59dfb2d179efcf3117fcec3bbe160045b4e311", func := "loop.example/regularlanguages/laws.FnGuessStates", spec := "fnGuessStates", unfollowed := true, recurses := true, plainKeys := false, apart := false }
def FnGuessStatesSaid : Prop := fnGuessStatesRow.holds Try.pinned (OpenSpec.ofChange fnGuessStatesSpec)

/-- ITS FALSE NEIGHBOUR: 'it returns false'. Refute it at one input. -/
def fnGuessStatesWrong : ChangeSpec := { name := "fnGuessStates", fn := fun _ => fun
  | [d] => { results := [.lit (.bool false)], args := [d] }
  | _ => none }
def FnGuessStatesWrongFalsely : Prop := fnGuessStatesRow.holds Try.pinned (OpenSpec.ofChange fnGuessStatesWrong)

/-- 'laws.FnLearnDfa': WHATEVER THE INPUT: true; the input reads as it did. -/
def fnLearnDfaSpec : ChangeSpec := { name := "fnLearnDfa", fn := fun _ => fun
  | [d] => { results := [.lit (.bool true)], args := [d] }
  | _ => none }
def fnLearnDfaRow : OpenClaim := { program := "ythhbjkgchabfmaa", sum := "c8beeb0c0ce7e91d22aa668dbe59dfb2d179efcf3117fcec3bbe160045b4e311", func := "loop.example/regularlanguages/laws.FnLearnDfa", spec := "fnLearnDfa", unfollowed := true, recurses := true, plainKeys := false, apart := false }
def FnLearnDfaSaid : Prop := fnLearnDfaRow.holds Try.pinned (OpenSpec.ofChange fnLearnDfaSpec)

/-- ITS FALSE NEIGHBOUR: 'it returns false'. Refute it at one input. -/
def fnLearnDfaWrong : ChangeSpec := { name := "fnLearnDfa", fn := fun _ => fun
  | [d] => { results := [.lit (.bool false)], args := [d] }
  | _ => none }
def FnLearnDfaWrongFalsely : Prop := fnLearnDfaRow.holds Try.pinned (OpenSpec.ofChange fnLearnDfaWrong)

/-- 'laws.FnLearnOther': WHATEVER THE INPUT: true; the input reads as it did. -/
def fnLearnOtherSpec : ChangeSpec := { name := "fnLearnOther", fn := fun _ => fun
  | [d] => { results := [.lit (.bool true)], args := [d] }
  | _ => none }
def fnLearnOtherRow : OpenClaim := { program := "ythhbjkgchabfmaa", sum := "c8beeb0c0ce7e91d22aa668dbe59dfb2d179efcf3117fcec3bbe160045b4e311", func := "loop.example/regularlanguages/laws.FnLearnOther", spec := "fnLearnOther", unfollowed := true, recurses := true, plainKeys := false, apart := false }
def FnLearnOtherSaid : Prop := fnLearnOtherRow.holds Try.pinned (OpenSpec.ofChange fnLearnOtherSpec)

/-- ITS FALSE NEIGHBOUR: 'it returns false'. Refute it at one input. -/
def fnLearnOtherWrong : ChangeSpec := { name := "fnLearnOther", fn := fun _ => fun
  | [d] => { results := [.lit (.bool false)], args := [d] }
  | _ => none }
def FnLearnOtherWrongFalsely : Prop := fnLearnOtherRow.holds Try.pinned (OpenSpec.ofChange fnLearnOtherWrong)

/- THE SECOND FORM. 'bulk': how many values and letters a reading holds, each counted each time it is reached (what is shared counts as often as it is met; a slice's spare places count too). A statement '..UptoSaid' is the law's where the arguments, and the package variables that the reading takes, are together of bulk at most 1048576: NARROWER than '..Said'. Prove '..Said' where nothing that the law and all that it calls make is longer than what came in: it says more and counts as full. Else prove '..UptoSaid'. A law counts once. -/
mutual
def uptoBulk {H : Type} : DataW H → Nat
  | .lit (.string bytes) => bytes.length + 1
  | .lit _ => 1
  | .nil => 1
  | .ptr d => uptoBulk d + 1
  | .slice elems spare => uptoBulkAll elems + uptoBulkAll spare + 1
  | .agg parts => uptoBulkAll parts + 1
  | .iface _ d => uptoBulk d + 1
  | .map entries => uptoBulkEntries entries + 1
  | .held _ => 1
def uptoBulkAll {H : Type} : List (DataW H) → Nat
  | [] => 0
  | d :: r => uptoBulk d + uptoBulkAll r
def uptoBulkEntries {H : Type} : List (Lit × DataW H) → Nat
  | [] => 0
  | x :: r => uptoBulkEntry x + uptoBulkEntries r
def uptoBulkEntry {H : Type} : Lit × DataW H → Nat
  | (.string bytes, d) => bytes.length + uptoBulk d + 1
  | (_, d) => uptoBulk d + 1
 end
def uptoSmall : (H : Type) → List (DataW H) → Bool := fun _ ds => decide (uptoBulkAll ds ≤ 1048576)
def OpenSpec.upto (s : _root_.Go.ChangeSpec) : _root_.Go.OpenSpec := { _root_.Go.OpenSpec.ofChange s with cond := some uptoSmall }

/-- 'laws.FnNfaOf', WHERE WHAT IT READS IS OF BULK AT MOST 1048576: true; the input reads as it did. -/
def fnNfaOfUptoRow : OpenClaim := { program := "ythhbjkgchabfmaa", sum := "c8beeb0c0ce7e91d22aa668dbe59dfb2d179efcf3117fcec3bbe160045b4e311", func := "loop.example/regularlanguages/laws.FnNfaOf", spec := "fnNfaOf", unfollowed := true, recurses := true, plainKeys := false, apart := false, narrowed := true }
def FnNfaOfUptoSaid : Prop := fnNfaOfUptoRow.holds Try.pinned (OpenSpec.upto fnNfaOfSpec)

/-- 'laws.FnTurnTwice', WHERE WHAT IT READS IS OF BULK AT MOST 1048576: true; the input reads as it did. -/
def fnTurnTwiceUptoRow : OpenClaim := { program := "ythhbjkgchabfmaa", sum := "c8beeb0c0ce7e91d22aa668dbe59dfb2d179efcf3117fcec3bbe160045b4e311", func := "loop.example/regularlanguages/laws.FnTurnTwice", spec := "fnTurnTwice", unfollowed := true, recurses := true, plainKeys := false, apart := false, narrowed := true }
def FnTurnTwiceUptoSaid : Prop := fnTurnTwiceUptoRow.holds Try.pinned (OpenSpec.upto fnTurnTwiceSpec)

/-- 'laws.FnDfaRests', WHERE WHAT IT READS IS OF BULK AT MOST 1048576: true; the input reads as it did. -/
def fnDfaRestsUptoRow : OpenClaim := { program := "ythhbjkgchabfmaa", sum := "c8beeb0c0ce7e91d22aa668dbe59dfb2d179efcf3117fcec3bbe160045b4e311", func := "loop.example/regularlanguages/laws.FnDfaRests", spec := "fnDfaRests", unfollowed := true, recurses := true, plainKeys := false, apart := false, narrowed := true }
def FnDfaRestsUptoSaid : Prop := fnDfaRestsUptoRow.holds Try.pinned (OpenSpec.upto fnDfaRestsSpec)

/-- 'laws.FnMinimize', WHERE WHAT IT READS IS OF BULK AT MOST 1048576: true; the input reads as it did. -/
def fnMinimizeUptoRow : OpenClaim := { program := "ythhbjkgchabfmaa", sum := "c8beeb0c0ce7e91d22aa668dbe59dfb2d179efcf3117fcec3bbe160045b4e311", func := "loop.example/regularlanguages/laws.FnMinimize", spec := "fnMinimize", unfollowed := true, recurses := true, plainKeys := false, apart := false, narrowed := true }
def FnMinimizeUptoSaid : Prop := fnMinimizeUptoRow.holds Try.pinned (OpenSpec.upto fnMinimizeSpec)

/-- 'laws.FnPairsSmall', WHERE WHAT IT READS IS OF BULK AT MOST 1048576: true; the input reads as it did. -/
def fnPairsSmallUptoRow : OpenClaim := { program := "ythhbjkgchabfmaa", sum := "c8beeb0c0ce7e91d22aa668dbe59dfb2d179efcf3117fcec3bbe160045b4e311", func := "loop.example/regularlanguages/laws.FnPairsSmall", spec := "fnPairsSmall", unfollowed := true, recurses := true, plainKeys := false, apart := false, narrowed := true }
def FnPairsSmallUptoSaid : Prop := fnPairsSmallUptoRow.holds Try.pinned (OpenSpec.upto fnPairsSmallSpec)

/-- 'laws.FnMakePairs', WHERE WHAT IT READS IS OF BULK AT MOST 1048576: true; the input reads as it did. -/
def fnMakePairsUptoRow : OpenClaim := { program := "ythhbjkgchabfmaa", sum := "c8beeb0c0ce7e91d22aa668dbe59dfb2d179efcf3117fcec3bbe160045b4e311", func := "loop.example/regularlanguages/laws.FnMakePairs", spec := "fnMakePairs", unfollowed := true, recurses := true, plainKeys := false, apart := false, narrowed := true }
def FnMakePairsUptoSaid : Prop := fnMakePairsUptoRow.holds Try.pinned (OpenSpec.upto fnMakePairsSpec)

/-- 'laws.FnCheckPairs', WHERE WHAT IT READS IS OF BULK AT MOST 1048576: true; the input reads as it did. -/
def fnCheckPairsUptoRow : OpenClaim := { program := "ythhbjkgchabfmaa", sum := "c8beeb0c0ce7e91d22aa668dbe59dfb2d179efcf3117fcec3bbe160045b4e311", func := "loop.example/regularlanguages/laws.FnCheckPairs", spec := "fnCheckPairs", unfollowed := true, recurses := true, plainKeys := false, apart := false, narrowed := true }
def FnCheckPairsUptoSaid : Prop := fnCheckPairsUptoRow.holds Try.pinned (OpenSpec.upto fnCheckPairsSpec)

/-- 'laws.FnFewPairs', WHERE WHAT IT READS IS OF BULK AT MOST 1048576: true; the input reads as it did. -/
def fnFewPairsUptoRow : OpenClaim := { program := "ythhbjkgchabfmaa", sum := "c8beeb0c0ce7e91d22aa668dbe59dfb2d179efcf3117fcec3bbe160045b4e311", func := "loop.example/regularlanguages/laws.FnFewPairs", spec := "fnFewPairs", unfollowed := true, recurses := true, plainKeys := false, apart := false, narrowed := true }
def FnFewPairsUptoSaid : Prop := fnFewPairsUptoRow.holds Try.pinned (OpenSpec.upto fnFewPairsSpec)

/-- 'laws.FnGuessCount', WHERE WHAT IT READS IS OF BULK AT MOST 1048576: true; the input reads as it did. -/
def fnGuessCountUptoRow : OpenClaim := { program := "ythhbjkgchabfmaa", sum := "c8beeb0c0ce7e91d22aa668dbe59dfb2d179efcf3117fcec3bbe160045b4e311", func := "loop.example/regularlanguages/laws.FnGuessCount", spec := "fnGuessCount", unfollowed := true, recurses := true, plainKeys := false, apart := false, narrowed := true }
def FnGuessCountUptoSaid : Prop := fnGuessCountUptoRow.holds Try.pinned (OpenSpec.upto fnGuessCountSpec)

/-- 'laws.FnGuessStates', WHERE WHAT IT READS IS OF BULK AT MOST 1048576: true; the input reads as it did. -/
def fnGuessStatesUptoRow : OpenClaim := { program := "ythhbjkgchabfmaa", sum := "c8beeb0c0ce7e91d22aa668dbe59dfb2d179efcf3117fcec3bbe160045b4e311", func := "loop.example/regularlanguages/laws.FnGuessStates", spec := "fnGuessStates", unfollowed := true, recurses := true, plainKeys := false, apart := false, narrowed := true }
def FnGuessStatesUptoSaid : Prop := fnGuessStatesUptoRow.holds Try.pinned (OpenSpec.upto fnGuessStatesSpec)

/-- 'laws.FnLearnDfa', WHERE WHAT IT READS IS OF BULK AT MOST 1048576: true; the input reads as it did. -/
def fnLearnDfaUptoRow : OpenClaim := { program := "ythhbjkgchabfmaa", sum := "c8beeb0c0ce7e91d22aa668dbe59dfb2d179efcf3117fcec3bbe160045b4e311", func := "loop.example/regularlanguages/laws.FnLearnDfa", spec := "fnLearnDfa", unfollowed := true, recurses := true, plainKeys := false, apart := false, narrowed := true }
def FnLearnDfaUptoSaid : Prop := fnLearnDfaUptoRow.holds Try.pinned (OpenSpec.upto fnLearnDfaSpec)

/-- 'laws.FnLearnOther', WHERE WHAT IT READS IS OF BULK AT MOST 1048576: true; the input reads as it did. -/
def fnLearnOtherUptoRow : OpenClaim := { program := "ythhbjkgchabfmaa", sum := "c8beeb0c0ce7e91d22aa668dbe59dfb2d179efcf3117fcec3bbe160045b4e311", func := "loop.example/regularlanguages/laws.FnLearnOther", spec := "fnLearnOther", unfollowed := true, recurses := true, plainKeys := false, apart := false, narrowed := true }
def FnLearnOtherUptoSaid : Prop := fnLearnOtherUptoRow.holds Try.pinned (OpenSpec.upto fnLearnOtherSpec)

end Rows
end Go.Proofs.Ythhbjkgchabfmaa
