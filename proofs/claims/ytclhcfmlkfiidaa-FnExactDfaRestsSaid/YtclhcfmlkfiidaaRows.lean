/-
  No cell of these rows narrows 'for every input' (looked for: loops, veiled, ifaces, maps, wideKeys, modest, calm, conditions, laid).
  DERIVED. THE GIVEN ROWS OF THIS SEAT. 6 by the template 'for every input the law returns true; each argument reads behind the call as it read before'; 0 by the template 'total and deterministic' (their statements: YtclhcfmlkfiidaaTotals.lean).
  GIVEN WITH THE SEED: the statements are not yours to turn. If you find one false, say at which input.
  Laid BY PROGRAM, IN A SANDBOX (cutbox-rows.mjs): the forced cells as the released guide's own fill.sh prints them over the translation 0b3ead348ccbcb17… (all of the seat's roots in one cut). By AI agents, Wed Nov 11 2026. No macro, syntax, notation, axiom, sorry.
-/
import Derived.Test.YtclhcfmlkfiidaaChecked
import GoSem.Claim
import GoSem.ClaimJoined
import GoSem.ClaimMapViews
import Derived.JoinedTies
import Derived.KernelRfl
namespace Go.Proofs.Ytclhcfmlkfiidaa
/- THE CELL 'sum', in the pinned program and in every row, IS THE sha256 OF THE DUMP (.gsa) THAT YtclhcfmlkfiidaaProg.lean LOADS. Nothing in Lean hashes anything: it is a label: what it is worth is what the hold of that sum in a sandbox is worth. -/
noncomputable def Try.pinned : Pinned := { name := "ytclhcfmlkfiidaa", sum := "0b3ead348ccbcb17e0793cd90b3c70f93c1413c62b51c7efb609d365c65ef3a1", checked := Try.checked }
namespace Rows
def none {H : Type} : Left H := { results := [], args := [] }

/-- 'laws.FnExactFewPairs': WHATEVER THE INPUT: true; the input reads as it did. -/
def fnExactFewPairsSpec : ChangeSpec := { name := "fnExactFewPairs", fn := fun _ => fun
  | [d1, d2, d3] => { results := [.lit (.bool true)], args := [d1, d2, d3] }
  | _ => none }
def fnExactFewPairsRow : OpenClaim := { program := "ytclhcfmlkfiidaa", sum := "0b3ead348ccbcb17e0793cd90b3c70f93c1413c62b51c7efb609d365c65ef3a1", func := "loop.example/regularlanguages/laws.FnExactFewPairs", spec := "fnExactFewPairs", unfollowed := true, recurses := true, plainKeys := false, apart := false }
def FnExactFewPairsSaid : Prop := fnExactFewPairsRow.holds Try.pinned (OpenSpec.ofChange fnExactFewPairsSpec)

/-- ITS FALSE NEIGHBOUR: 'it returns false'. Refute it at one input. -/
def fnExactFewPairsWrong : ChangeSpec := { name := "fnExactFewPairs", fn := fun _ => fun
  | [d1, d2, d3] => { results := [.lit (.bool false)], args := [d1, d2, d3] }
  | _ => none }
def FnExactFewPairsWrongFalsely : Prop := fnExactFewPairsRow.holds Try.pinned (OpenSpec.ofChange fnExactFewPairsWrong)

/-- 'laws.FnExactTurnTwice': WHATEVER THE INPUT: true; the input reads as it did. -/
def fnExactTurnTwiceSpec : ChangeSpec := { name := "fnExactTurnTwice", fn := fun _ => fun
  | [d] => { results := [.lit (.bool true)], args := [d] }
  | _ => none }
def fnExactTurnTwiceRow : OpenClaim := { program := "ytclhcfmlkfiidaa", sum := "0b3ead348ccbcb17e0793cd90b3c70f93c1413c62b51c7efb609d365c65ef3a1", func := "loop.example/regularlanguages/laws.FnExactTurnTwice", spec := "fnExactTurnTwice", unfollowed := true, recurses := true, plainKeys := false, apart := false }
def FnExactTurnTwiceSaid : Prop := fnExactTurnTwiceRow.holds Try.pinned (OpenSpec.ofChange fnExactTurnTwiceSpec)

/-- ITS FALSE NEIGHBOUR: 'it returns false'. Refute it at one input. -/
def fnExactTurnTwiceWrong : ChangeSpec := { name := "fnExactTurnTwice", fn := fun _ => fun
  | [d] => { results := [.lit (.bool false)], args := [d] }
  | _ => none }
def FnExactTurnTwiceWrongFalsely : Prop := fnExactTurnTwiceRow.holds Try.pinned (OpenSpec.ofChange fnExactTurnTwiceWrong)

/-- 'laws.FnExactGuessCount': WHATEVER THE INPUT: true; the input reads as it did. -/
def fnExactGuessCountSpec : ChangeSpec := { name := "fnExactGuessCount", fn := fun _ => fun
  | [d] => { results := [.lit (.bool true)], args := [d] }
  | _ => none }
def fnExactGuessCountRow : OpenClaim := { program := "ytclhcfmlkfiidaa", sum := "0b3ead348ccbcb17e0793cd90b3c70f93c1413c62b51c7efb609d365c65ef3a1", func := "loop.example/regularlanguages/laws.FnExactGuessCount", spec := "fnExactGuessCount", unfollowed := true, recurses := true, plainKeys := false, apart := false }
def FnExactGuessCountSaid : Prop := fnExactGuessCountRow.holds Try.pinned (OpenSpec.ofChange fnExactGuessCountSpec)

/-- ITS FALSE NEIGHBOUR: 'it returns false'. Refute it at one input. -/
def fnExactGuessCountWrong : ChangeSpec := { name := "fnExactGuessCount", fn := fun _ => fun
  | [d] => { results := [.lit (.bool false)], args := [d] }
  | _ => none }
def FnExactGuessCountWrongFalsely : Prop := fnExactGuessCountRow.holds Try.pinned (OpenSpec.ofChange fnExactGuessCountWrong)

/-- 'laws.FnExactGuessStates': WHATEVER THE INPUT: true; the input reads as it did. -/
def fnExactGuessStatesSpec : ChangeSpec := { name := "fnExactGuessStates", fn := fun _ => fun
  | [d] => { results := [.lit (.bool true)], args := [d] }
  | _ => none }
def fnExactGuessStatesRow : OpenClaim := { program := "ytclhcfmlkfiidaa", sum := "0b3ead348ccbcb17e0793cd90b3c70f93c1413c62b51c7efb609d365c65ef3a1", func := "loop.example/regularlanguages/laws.FnExactGuessStates", spec := "fnExactGuessStates", unfollowed := true, recurses := true, plainKeys := false, apart := false }
def FnExactGuessStatesSaid : Prop := fnExactGuessStatesRow.holds Try.pinned (OpenSpec.ofChange fnExactGuessStatesSpec)

/-- ITS FALSE NEIGHBOUR: 'it returns false'. Refute it at one input. -/
def fnExactGuessStatesWrong : ChangeSpec := { name := "fnExactGuessStates", fn := fun _ => fun
  | [d] => { results := [.lit (.bool false)], args := [d] }
  | _ => none }
def FnExactGuessStatesWrongFalsely : Prop := fnExactGuessStatesRow.holds Try.pinned (OpenSpec.ofChange fnExactGuessStatesWrong)

/-- 'laws.FnExactLearnDfa': WHATEVER THE INPUT: true; the input reads as it did. -/
def fnExactLearnDfaSpec : ChangeSpec := { name := "fnExactLearnDfa", fn := fun _ => fun
  | [d] => { results := [.lit (.bool true)], args := [d] }
  | _ => none }
def fnExactLearnDfaRow : OpenClaim := { program := "ytclhcfmlkfiidaa", sum := "0b3ead348ccbcb17e0793cd90b3c70f93c1413c62b51c7efb609d365c65ef3a1", func := "loop.example/regularlanguages/laws.FnExactLearnDfa", spec := "fnExactLearnDfa", unfollowed := true, recurses := true, plainKeys := false, apart := false }
def FnExactLearnDfaSaid : Prop := fnExactLearnDfaRow.holds Try.pinned (OpenSpec.ofChange fnExactLearnDfaSpec)

/-- ITS FALSE NEIGHBOUR: 'it returns false'. Refute it at one input. -/
def fnExactLearnDfaWrong : ChangeSpec := { name := "fnExactLearnDfa", fn := fun _ => fun
  | [d] => { results := [.lit (.bool false)], args := [d] }
  | _ => none }
def FnExactLearnDfaWrongFalsely : Prop := fnExactLearnDfaRow.holds Try.pinned (OpenSpec.ofChange fnExactLearnDfaWrong)

/-- 'laws.FnExactDfaRests': WHATEVER THE INPUT: true; the input reads as it did. -/
def fnExactDfaRestsSpec : ChangeSpec := { name := "fnExactDfaRests", fn := fun _ => fun
  | [d] => { results := [.lit (.bool true)], args := [d] }
  | _ => none }
def fnExactDfaRestsRow : OpenClaim := { program := "ytclhcfmlkfiidaa", sum := "0b3ead348ccbcb17e0793cd90b3c70f93c1413c62b51c7efb609d365c65ef3a1", func := "loop.example/regularlanguages/laws.FnExactDfaRests", spec := "fnExactDfaRests", unfollowed := true, recurses := true, plainKeys := false, apart := false }
def FnExactDfaRestsSaid : Prop := fnExactDfaRestsRow.holds Try.pinned (OpenSpec.ofChange fnExactDfaRestsSpec)

/-- ITS FALSE NEIGHBOUR: 'it returns false'. Refute it at one input. -/
def fnExactDfaRestsWrong : ChangeSpec := { name := "fnExactDfaRests", fn := fun _ => fun
  | [d] => { results := [.lit (.bool false)], args := [d] }
  | _ => none }
def FnExactDfaRestsWrongFalsely : Prop := fnExactDfaRestsRow.holds Try.pinned (OpenSpec.ofChange fnExactDfaRestsWrong)

/- THE SECOND FORM. 'bulk': how many values and letters a reading holds, each counted each time it is reached (what is shared counts as often as it is met; a slice's spare places count too). A statement '..UptoSaid' is the law's where the arguments, and the package variables that the reading takes, are together of bulk at most 1048576: NARROWER than '..Said'. Prove '..Said' where nothing that the law and all that it calls make is longer than what came in: it says more and counts as full. Else prove '..UptoSaid'. A law counts once. -/
mutual
def uptoBulk {H : Type} : DataW H → Nat
  | .lit (.string bytes) => bytes.length + 1
  | .lit _ => 1
  | .nil => 1
  | .ptr d => uptoBulk d + 1
  | .slice elems spare => uptoBulkAll elems + uptoBulkAll spare + 1
  | .agg parts => uptoBulkAll parts + 1
  | .iface _ d => uptoBulk d + 1
  | .map entries => uptoBulkEntries entries + 1
  | .held _ => 1
def uptoBulkAll {H : Type} : List (DataW H) → Nat
  | [] => 0
  | d :: r => uptoBulk d + uptoBulkAll r
def uptoBulkEntries {H : Type} : List (Lit × DataW H) → Nat
  | [] => 0
  | x :: r => uptoBulkEntry x + uptoBulkEntries r
def uptoBulkEntry {H : Type} : Lit × DataW H → Nat
  | (.string bytes, d) => bytes.length + uptoBulk d + 1
  | (_, d) => uptoBulk d + 1
 end
def uptoSmall : (H : Type) → List (DataW H) → Bool := fun _ ds => decide (uptoBulkAll ds ≤ 1048576)
def OpenSpec.upto (s : _root_.Go.ChangeSpec) : _root_.Go.OpenSpec := { _root_.Go.OpenSpec.ofChange s with cond := some uptoSmall }

/-- 'laws.FnExactFewPairs', WHERE WHAT IT READS IS OF BULK AT MOST 1048576: true; the input reads as it did. -/
def fnExactFewPairsUptoRow : OpenClaim := { program := "ytclhcfmlkfiidaa", sum := "0b3ead348ccbcb17e0793cd90b3c70f93c1413c62b51c7efb609d365c65ef3a1", func := "loop.example/regularlanguages/laws.FnExactFewPairs", spec := "fnExactFewPairs", unfollowed := true, recurses := true, plainKeys := false, apart := false, narrowed := true }
def FnExactFewPairsUptoSaid : Prop := fnExactFewPairsUptoRow.holds Try.pinned (OpenSpec.upto fnExactFewPairsSpec)

/-- 'laws.FnExactTurnTwice', WHERE WHAT IT READS IS OF BULK AT MOST 1048576: true; the input reads as it did. -/
def fnExactTurnTwiceUptoRow : OpenClaim := { program := "ytclhcfmlkfiidaa", sum := "0b3ead348ccbcb17e0793cd90b3c70f93c1413c62b51c7efb609d365c65ef3a1", func := "loop.example/regularlanguages/laws.FnExactTurnTwice", spec := "fnExactTurnTwice", unfollowed := true, recurses := true, plainKeys := false, apart := false, narrowed := true }
def FnExactTurnTwiceUptoSaid : Prop := fnExactTurnTwiceUptoRow.holds Try.pinned (OpenSpec.upto fnExactTurnTwiceSpec)

/-- 'laws.FnExactGuessCount', WHERE WHAT IT READS IS OF BULK AT MOST 1048576: true; the input reads as it did. -/
def fnExactGuessCountUptoRow : OpenClaim := { program := "ytclhcfmlkfiidaa", sum := "0b3ead348ccbcb17e0793cd90b3c70f93c1413c62b51c7efb609d365c65ef3a1", func := "loop.example/regularlanguages/laws.FnExactGuessCount", spec := "fnExactGuessCount", unfollowed := true, recurses := true, plainKeys := false, apart := false, narrowed := true }
def FnExactGuessCountUptoSaid : Prop := fnExactGuessCountUptoRow.holds Try.pinned (OpenSpec.upto fnExactGuessCountSpec)

/-- 'laws.FnExactGuessStates', WHERE WHAT IT READS IS OF BULK AT MOST 1048576: true; the input reads as it did. -/
def fnExactGuessStatesUptoRow : OpenClaim := { program := "ytclhcfmlkfiidaa", sum := "0b3ead348ccbcb17e0793cd90b3c70f93c1413c62b51c7efb609d365c65ef3a1", func := "loop.example/regularlanguages/laws.FnExactGuessStates", spec := "fnExactGuessStates", unfollowed := true, recurses := true, plainKeys := false, apart := false, narrowed := true }
def FnExactGuessStatesUptoSaid : Prop := fnExactGuessStatesUptoRow.holds Try.pinned (OpenSpec.upto fnExactGuessStatesSpec)

/-- 'laws.FnExactLearnDfa', WHERE WHAT IT READS IS OF BULK AT MOST 1048576: true; the input reads as it did. -/
def fnExactLearnDfaUptoRow : OpenClaim := { program := "ytclhcfmlkfiidaa", sum := "0b3ead348ccbcb17e0793cd90b3c70f93c1413c62b51c7efb609d365c65ef3a1", func := "loop.example/regularlanguages/laws.FnExactLearnDfa", spec := "fnExactLearnDfa", unfollowed := true, recurses := true, plainKeys := false, apart := false, narrowed := true }
def FnExactLearnDfaUptoSaid : Prop := fnExactLearnDfaUptoRow.holds Try.pinned (OpenSpec.upto fnExactLearnDfaSpec)

/-- 'laws.FnExactDfaRests', WHERE WHAT IT READS IS OF BULK AT MOST 1048576: true; the input reads as it did. -/
def fnExactDfaRestsUptoRow : OpenClaim := { program := "ytclhcfmlkfiidaa", sum := "0b3ead348ccbcb17e0793cd90b3c70f93c1413c62b51c7efb609d365c65ef3a1", func := "loop.example/regularlanguages/laws.FnExactDfaRests", spec := "fnExactDfaRests", unfollowed := true, recurses := true, plainKeys := false, apart := false, narrowed := true }
def FnExactDfaRestsUptoSaid : Prop := fnExactDfaRestsUptoRow.holds Try.pinned (OpenSpec.upto fnExactDfaRestsSpec)

end Rows
end Go.Proofs.Ytclhcfmlkfiidaa
