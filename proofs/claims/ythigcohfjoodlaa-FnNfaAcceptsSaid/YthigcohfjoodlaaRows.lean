/-
  No cell of these rows narrows 'for every input' (looked for: loops, veiled, ifaces, maps, wideKeys, modest, calm, conditions, laid).
  DERIVED. THE GIVEN ROWS OF THIS SEAT. 12 by the template 'for every input the law returns true; each argument reads behind the call as it read before'; 0 by the template 'total and deterministic' (their statements: YthigcohfjoodlaaTotals.lean).
  GIVEN WITH THE SEED: the statements are not yours to turn. If you find one false, say at which input.
  Laid BY PROGRAM, IN A SANDBOX (cutbox-rows.mjs): the forced cells as the released guide's own fill.sh prints them over the translation 967232fae9cc7075… (all of the seat's roots in one cut). By AI agents, Wed Nov 11 2026. No macro, syntax, notation, axiom, sorry.
-/
import Derived.Test.YthigcohfjoodlaaChecked
import GoSem.Claim
import GoSem.ClaimJoined
import GoSem.ClaimMapViews
import Derived.JoinedTies
import Derived.KernelRfl
namespace Go.Proofs.Ythigcohfjoodlaa
/- THE CELL 'sum', in the pinned program and in every row, IS THE sha256 OF THE DUMP (.gsa) THAT YthigcohfjoodlaaProg.lean LOADS. Nothing in Lean hashes anything: it is a label: what it is worth is what the hold of that sum in a sandbox is worth. -/
noncomputable def Try.pinned : Pinned := { name := "ythigcohfjoodlaa", sum := "967232fae9cc7075f75b7520baacc8888d6ce12f97bb98114121ae058566f466", checked := Try.checked }
namespace Rows
def none {H : Type} : Left H := { results := [], args := [] }

/-- 'laws.FnExactCheckPairs': WHATEVER THE INPUT: true; the input reads as it did. -/
def fnExactCheckPairsSpec : ChangeSpec := { name := "fnExactCheckPairs", fn := fun _ => fun
  | [d1, d2, d3] => { results := [.lit (.bool true)], args := [d1, d2, d3] }
  | _ => none }
def fnExactCheckPairsRow : OpenClaim := { program := "ythigcohfjoodlaa", sum := "967232fae9cc7075f75b7520baacc8888d6ce12f97bb98114121ae058566f466", func := "loop.example/regularlanguages/laws.FnExactCheckPairs", spec := "fnExactCheckPairs", unfollowed := true, recurses := true, plainKeys := false, apart := false }
def FnExactCheckPairsSaid : Prop := fnExactCheckPairsRow.holds Try.pinned (OpenSpec.ofChange fnExactCheckPairsSpec)

/-- ITS FALSE NEIGHBOUR: 'it returns false'. Refute it at one input. -/
def fnExactCheckPairsWrong : ChangeSpec := { name := "fnExactCheckPairs", fn := fun _ => fun
  | [d1, d2, d3] => { results := [.lit (.bool false)], args := [d1, d2, d3] }
  | _ => none }
def FnExactCheckPairsWrongFalsely : Prop := fnExactCheckPairsRow.holds Try.pinned (OpenSpec.ofChange fnExactCheckPairsWrong)

/-- 'laws.FnExactMakePairs': WHATEVER THE INPUT: true; the input reads as it did. -/
def fnExactMakePairsSpec : ChangeSpec := { name := "fnExactMakePairs", fn := fun _ => fun
  | [d1, d2] => { results := [.lit (.bool true)], args := [d1, d2] }
  | _ => none }
def fnExactMakePairsRow : OpenClaim := { program := "ythigcohfjoodlaa", sum := "967232fae9cc7075f75b7520baacc8888d6ce12f97bb98114121ae058566f466", func := "loop.example/regularlanguages/laws.FnExactMakePairs", spec := "fnExactMakePairs", unfollowed := true, recurses := true, plainKeys := false, apart := false }
def FnExactMakePairsSaid : Prop := fnExactMakePairsRow.holds Try.pinned (OpenSpec.ofChange fnExactMakePairsSpec)

/-- ITS FALSE NEIGHBOUR: 'it returns false'. Refute it at one input. -/
def fnExactMakePairsWrong : ChangeSpec := { name := "fnExactMakePairs", fn := fun _ => fun
  | [d1, d2] => { results := [.lit (.bool false)], args := [d1, d2] }
  | _ => none }
def FnExactMakePairsWrongFalsely : Prop := fnExactMakePairsRow.holds Try.pinned (OpenSpec.ofChange fnExactMakePairsWrong)

/-- 'laws.FnExactDeterminize': WHATEVER THE INPUT: true; the input reads as it did. -/
def fnExactDeterminizeSpec : ChangeSpec := { name := "fnExactDeterminize", fn := fun _ => fun
  | [d] => { results := [.lit (.bool true)], args := [d] }
  | _ => none }
def fnExactDeterminizeRow : OpenClaim := { program := "ythigcohfjoodlaa", sum := "967232fae9cc7075f75b7520baacc8888d6ce12f97bb98114121ae058566f466", func := "loop.example/regularlanguages/laws.FnExactDeterminize", spec := "fnExactDeterminize", unfollowed := true, recurses := true, plainKeys := false, apart := false }
def FnExactDeterminizeSaid : Prop := fnExactDeterminizeRow.holds Try.pinned (OpenSpec.ofChange fnExactDeterminizeSpec)

/-- ITS FALSE NEIGHBOUR: 'it returns false'. Refute it at one input. -/
def fnExactDeterminizeWrong : ChangeSpec := { name := "fnExactDeterminize", fn := fun _ => fun
  | [d] => { results := [.lit (.bool false)], args := [d] }
  | _ => none }
def FnExactDeterminizeWrongFalsely : Prop := fnExactDeterminizeRow.holds Try.pinned (OpenSpec.ofChange fnExactDeterminizeWrong)

/-- 'laws.FnNfaAccepts': WHATEVER THE INPUT: true; the input reads as it did. -/
def fnNfaAcceptsSpec : ChangeSpec := { name := "fnNfaAccepts", fn := fun _ => fun
  | [d] => { results := [.lit (.bool true)], args := [d] }
  | _ => none }
def fnNfaAcceptsRow : OpenClaim := { program := "ythigcohfjoodlaa", sum := "967232fae9cc7075f75b7520baacc8888d6ce12f97bb98114121ae058566f466", func := "loop.example/regularlanguages/laws.FnNfaAccepts", spec := "fnNfaAccepts", unfollowed := true, recurses := true, plainKeys := false, apart := false }
def FnNfaAcceptsSaid : Prop := fnNfaAcceptsRow.holds Try.pinned (OpenSpec.ofChange fnNfaAcceptsSpec)

/-- ITS FALSE NEIGHBOUR: 'it returns false'. Refute it at one input. -/
def fnNfaAcceptsWrong : ChangeSpec := { name := "fnNfaAccepts", fn := fun _ => fun
  | [d] => { results := [.lit (.bool false)], args := [d] }
  | _ => none }
def FnNfaAcceptsWrongFalsely : Prop := fnNfaAcceptsRow.holds Try.pinned (OpenSpec.ofChange fnNfaAcceptsWrong)

/-- 'laws.FnSubsetCount': WHATEVER THE INPUT: true; the input reads as it did. -/
def fnSubsetCountSpec : ChangeSpec := { name := "fnSubsetCount", fn := fun _ => fun
  | [d] => { results := [.lit (.bool true)], args := [d] }
  | _ => none }
def fnSubsetCountRow : OpenClaim := { program := "ythigcohfjoodlaa", sum := "967232fae9cc7075f75b7520baacc8888d6ce12f97bb98114121ae058566f466", func := "loop.example/regularlanguages/laws.FnSubsetCount", spec := "fnSubsetCount", unfollowed := true, recurses := true, plainKeys := false, apart := false }
def FnSubsetCountSaid : Prop := fnSubsetCountRow.holds Try.pinned (OpenSpec.ofChange fnSubsetCountSpec)

/-- ITS FALSE NEIGHBOUR: 'it returns false'. Refute it at one input. -/
def fnSubsetCountWrong : ChangeSpec := { name := "fnSubsetCount", fn := fun _ => fun
  | [d] => { results := [.lit (.bool false)], args := [d] }
  | _ => none }
def FnSubsetCountWrongFalsely : Prop := fnSubsetCountRow.holds Try.pinned (OpenSpec.ofChange fnSubsetCountWrong)

/-- 'laws.FnDeterminize': WHATEVER THE INPUT: true; the input reads as it did. -/
def fnDeterminizeSpec : ChangeSpec := { name := "fnDeterminize", fn := fun _ => fun
  | [d1, d2] => { results := [.lit (.bool true)], args := [d1, d2] }
  | _ => none }
def fnDeterminizeRow : OpenClaim := { program := "ythigcohfjoodlaa", sum := "967232fae9cc7075f75b7520baacc8888d6ce12f97bb98114121ae058566f466", func := "loop.example/regularlanguages/laws.FnDeterminize", spec := "fnDeterminize", unfollowed := true, recurses := true, plainKeys := false, apart := false }
def FnDeterminizeSaid : Prop := fnDeterminizeRow.holds Try.pinned (OpenSpec.ofChange fnDeterminizeSpec)

/-- ITS FALSE NEIGHBOUR: 'it returns false'. Refute it at one input. -/
def fnDeterminizeWrong : ChangeSpec := { name := "fnDeterminize", fn := fun _ => fun
  | [d1, d2] => { results := [.lit (.bool false)], args := [d1, d2] }
  | _ => none }
def FnDeterminizeWrongFalsely : Prop := fnDeterminizeRow.holds Try.pinned (OpenSpec.ofChange fnDeterminizeWrong)

/-- 'laws.FnExactDfaRests': WHATEVER THE INPUT: true; the input reads as it did. -/
def fnExactDfaRestsSpec : ChangeSpec := { name := "fnExactDfaRests", fn := fun _ => fun
  | [d] => { results := [.lit (.bool true)], args := [d] }
  | _ => none }
def fnExactDfaRestsRow : OpenClaim := { program := "ythigcohfjoodlaa", sum := "967232fae9cc7075f75b7520baacc8888d6ce12f97bb98114121ae058566f466", func := "loop.example/regularlanguages/laws.FnExactDfaRests", spec := "fnExactDfaRests", unfollowed := true, recurses := true, plainKeys := false, apart := false }
def FnExactDfaRestsSaid : Prop := fnExactDfaRestsRow.holds Try.pinned (OpenSpec.ofChange fnExactDfaRestsSpec)

/-- ITS FALSE NEIGHBOUR: 'it returns false'. Refute it at one input. -/
def fnExactDfaRestsWrong : ChangeSpec := { name := "fnExactDfaRests", fn := fun _ => fun
  | [d] => { results := [.lit (.bool false)], args := [d] }
  | _ => none }
def FnExactDfaRestsWrongFalsely : Prop := fnExactDfaRestsRow.holds Try.pinned (OpenSpec.ofChange fnExactDfaRestsWrong)

/-- 'laws.FnNfaEither': WHATEVER THE INPUT: true; the input reads as it did. -/
def fnNfaEitherSpec : ChangeSpec := { name := "fnNfaEither", fn := fun _ => fun
  | [d1, d2] => { results := [.lit (.bool true)], args := [d1, d2] }
  | _ => none }
def fnNfaEitherRow : OpenClaim := { program := "ythigcohfjoodlaa", sum := "967232fae9cc7075f75b7520baacc8888d6ce12f97bb98114121ae058566f466", func := "loop.example/regularlanguages/laws.FnNfaEither", spec := "fnNfaEither", unfollowed := true, recurses := true, plainKeys := false, apart := false }
def FnNfaEitherSaid : Prop := fnNfaEitherRow.holds Try.pinned (OpenSpec.ofChange fnNfaEitherSpec)

/-- ITS FALSE NEIGHBOUR: 'it returns false'. Refute it at one input. -/
def fnNfaEitherWrong : ChangeSpec := { name := "fnNfaEither", fn := fun _ => fun
  | [d1, d2] => { results := [.lit (.bool false)], args := [d1, d2] }
  | _ => none }
def FnNfaEitherWrongFalsely : Prop := fnNfaEitherRow.holds Try.pinned (OpenSpec.ofChange fnNfaEitherWrong)

/-- 'laws.FnNfaJoin': WHATEVER THE INPUT: true; the input reads as it did. -/
def fnNfaJoinSpec : ChangeSpec := { name := "fnNfaJoin", fn := fun _ => fun
  | [d1, d2] => { results := [.lit (.bool true)], args := [d1, d2] }
  | _ => none }
def fnNfaJoinRow : OpenClaim := { program := "ythigcohfjoodlaa", sum := "967232fae9cc7075f75b7520baacc8888d6ce12f97bb98114121ae058566f466", func := "loop.example/regularlanguages/laws.FnNfaJoin", spec := "fnNfaJoin", unfollowed := true, recurses := true, plainKeys := false, apart := false }
def FnNfaJoinSaid : Prop := fnNfaJoinRow.holds Try.pinned (OpenSpec.ofChange fnNfaJoinSpec)

/-- ITS FALSE NEIGHBOUR: 'it returns false'. Refute it at one input. -/
def fnNfaJoinWrong : ChangeSpec := { name := "fnNfaJoin", fn := fun _ => fun
  | [d1, d2] => { results := [.lit (.bool false)], args := [d1, d2] }
  | _ => none }
def FnNfaJoinWrongFalsely : Prop := fnNfaJoinRow.holds Try.pinned (OpenSpec.ofChange fnNfaJoinWrong)

/-- 'laws.FnTurnNfa': WHATEVER THE INPUT: true; the input reads as it did. -/
def fnTurnNfaSpec : ChangeSpec := { name := "fnTurnNfa", fn := fun _ => fun
  | [d1, d2] => { results := [.lit (.bool true)], args := [d1, d2] }
  | _ => none }
def fnTurnNfaRow : OpenClaim := { program := "ythigcohfjoodlaa", sum := "967232fae9cc7075f75b7520baacc8888d6ce12f97bb98114121ae058566f466", func := "loop.example/regularlanguages/laws.FnTurnNfa", spec := "fnTurnNfa", unfollowed := true, recurses := true, plainKeys := false, apart := false }
def FnTurnNfaSaid : Prop := fnTurnNfaRow.holds Try.pinned (OpenSpec.ofChange fnTurnNfaSpec)

/-- ITS FALSE NEIGHBOUR: 'it returns false'. Refute it at one input. -/
def fnTurnNfaWrong : ChangeSpec := { name := "fnTurnNfa", fn := fun _ => fun
  | [d1, d2] => { results := [.lit (.bool false)], args := [d1, d2] }
  | _ => none }
def FnTurnNfaWrongFalsely : Prop := fnTurnNfaRow.holds Try.pinned (OpenSpec.ofChange fnTurnNfaWrong)

/-- 'laws.FnNfaStar': WHATEVER THE INPUT: true; the input reads as it did. -/
def fnNfaStarSpec : ChangeSpec := { name := "fnNfaStar", fn := fun _ => fun
  | [d1, d2] => { results := [.lit (.bool true)], args := [d1, d2] }
  | _ => none }
def fnNfaStarRow : OpenClaim := { program := "ythigcohfjoodlaa", sum := "967232fae9cc7075f75b7520baacc8888d6ce12f97bb98114121ae058566f466", func := "loop.example/regularlanguages/laws.FnNfaStar", spec := "fnNfaStar", unfollowed := true, recurses := true, plainKeys := false, apart := false }
def FnNfaStarSaid : Prop := fnNfaStarRow.holds Try.pinned (OpenSpec.ofChange fnNfaStarSpec)

/-- ITS FALSE NEIGHBOUR: 'it returns false'. Refute it at one input. -/
def fnNfaStarWrong : ChangeSpec := { name := "fnNfaStar", fn := fun _ => fun
  | [d1, d2] => { results := [.lit (.bool false)], args := [d1, d2] }
  | _ => none }
def FnNfaStarWrongFalsely : Prop := fnNfaStarRow.holds Try.pinned (OpenSpec.ofChange fnNfaStarWrong)

/-- 'laws.FnNfaRun': WHATEVER THE INPUT: true; the input reads as it did. -/
def fnNfaRunSpec : ChangeSpec := { name := "fnNfaRun", fn := fun _ => fun
  | [d] => { results := [.lit (.bool true)], args := [d] }
  | _ => none }
def fnNfaRunRow : OpenClaim := { program := "ythigcohfjoodlaa", sum := "967232fae9cc7075f75b7520baacc8888d6ce12f97bb98114121ae058566f466", func := "loop.example/regularlanguages/laws.FnNfaRun", spec := "fnNfaRun", unfollowed := true, recurses := true, plainKeys := false, apart := false }
def FnNfaRunSaid : Prop := fnNfaRunRow.holds Try.pinned (OpenSpec.ofChange fnNfaRunSpec)

/-- ITS FALSE NEIGHBOUR: 'it returns false'. Refute it at one input. -/
def fnNfaRunWrong : ChangeSpec := { name := "fnNfaRun", fn := fun _ => fun
  | [d] => { results := [.lit (.bool false)], args := [d] }
  | _ => none }
def FnNfaRunWrongFalsely : Prop := fnNfaRunRow.holds Try.pinned (OpenSpec.ofChange fnNfaRunWrong)

/- THE SECOND FORM. 'bulk': how many values and letters a reading holds, each counted each time it is reached (what is shared counts as often as it is met; a slice's spare places count too). A statement '..UptoSaid' is the law's where the arguments, and the package variables that the reading takes, are together of bulk at most 1048576: NARROWER than '..Said'. Prove '..Said' where nothing that the law and all that it calls make is longer than what came in: it says more and counts as full. Else prove '..UptoSaid'. A law counts once. -/
mutual
def uptoBulk {H : Type} : DataW H → Nat
  | .lit (.string bytes) => bytes.length + 1
  | .lit _ => 1
  | .nil => 1
  | .ptr d => uptoBulk d + 1
  | .slice elems spare => uptoBulkAll elems + uptoBulkAll spare + 1
  | .agg parts => uptoBulkAll parts + 1
  | .iface _ d => uptoBulk d + 1
  | .map entries => uptoBulkEntries entries + 1
  | .held _ => 1
def uptoBulkAll {H : Type} : List (DataW H) → Nat
  | [] => 0
  | d :: r => uptoBulk d + uptoBulkAll r
def uptoBulkEntries {H : Type} : List (Lit × DataW H) → Nat
  | [] => 0
  | x :: r => uptoBulkEntry x + uptoBulkEntries r
def uptoBulkEntry {H : Type} : Lit × DataW H → Nat
  | (.string bytes, d) => bytes.length + uptoBulk d + 1
  | (_, d) => uptoBulk d + 1
 end
def uptoSmall : (H : Type) → List (DataW H) → Bool := fun _ ds => decide (uptoBulkAll ds ≤ 1048576)
def OpenSpec.upto (s : _root_.Go.ChangeSpec) : _root_.Go.OpenSpec := { _root_.Go.OpenSpec.ofChange s with cond := some uptoSmall }

/-- 'laws.FnExactCheckPairs', WHERE WHAT IT READS IS OF BULK AT MOST 1048576: true; the input reads as it did. -/
def fnExactCheckPairsUptoRow : OpenClaim := { program := "ythigcohfjoodlaa", sum := "967232fae9cc7075f75b7520baacc8888d6ce12f97bb98114121ae058566f466", func := "loop.example/regularlanguages/laws.FnExactCheckPairs", spec := "fnExactCheckPairs", unfollowed := true, recurses := true, plainKeys := false, apart := false, narrowed := true }
def FnExactCheckPairsUptoSaid : Prop := fnExactCheckPairsUptoRow.holds Try.pinned (OpenSpec.upto fnExactCheckPairsSpec)

/-- 'laws.FnExactMakePairs', WHERE WHAT IT READS IS OF BULK AT MOST 1048576: true; the input reads as it did. -/
def fnExactMakePairsUptoRow : OpenClaim := { program := "ythigcohfjoodlaa", sum := "967232fae9cc7075f75b7520baacc8888d6ce12f97bb98114121ae058566f466", func := "loop.example/regularlanguages/laws.FnExactMakePairs", spec := "fnExactMakePairs", unfollowed := true, recurses := true, plainKeys := false, apart := false, narrowed := true }
def FnExactMakePairsUptoSaid : Prop := fnExactMakePairsUptoRow.holds Try.pinned (OpenSpec.upto fnExactMakePairsSpec)

/-- 'laws.FnExactDeterminize', WHERE WHAT IT READS IS OF BULK AT MOST 1048576: true; the input reads as it did. -/
def fnExactDeterminizeUptoRow : OpenClaim := { program := "ythigcohfjoodlaa", sum := "967232fae9cc7075f75b7520baacc8888d6ce12f97bb98114121ae058566f466", func := "loop.example/regularlanguages/laws.FnExactDeterminize", spec := "fnExactDeterminize", unfollowed := true, recurses := true, plainKeys := false, apart := false, narrowed := true }
def FnExactDeterminizeUptoSaid : Prop := fnExactDeterminizeUptoRow.holds Try.pinned (OpenSpec.upto fnExactDeterminizeSpec)

/-- 'laws.FnNfaAccepts', WHERE WHAT IT READS IS OF BULK AT MOST 1048576: true; the input reads as it did. -/
def fnNfaAcceptsUptoRow : OpenClaim := { program := "ythigcohfjoodlaa", sum := "967232fae9cc7075f75b7520baacc8888d6ce12f97bb98114121ae058566f466", func := "loop.example/regularlanguages/laws.FnNfaAccepts", spec := "fnNfaAccepts", unfollowed := true, recurses := true, plainKeys := false, apart := false, narrowed := true }
def FnNfaAcceptsUptoSaid : Prop := fnNfaAcceptsUptoRow.holds Try.pinned (OpenSpec.upto fnNfaAcceptsSpec)

/-- 'laws.FnSubsetCount', WHERE WHAT IT READS IS OF BULK AT MOST 1048576: true; the input reads as it did. -/
def fnSubsetCountUptoRow : OpenClaim := { program := "ythigcohfjoodlaa", sum := "967232fae9cc7075f75b7520baacc8888d6ce12f97bb98114121ae058566f466", func := "loop.example/regularlanguages/laws.FnSubsetCount", spec := "fnSubsetCount", unfollowed := true, recurses := true, plainKeys := false, apart := false, narrowed := true }
def FnSubsetCountUptoSaid : Prop := fnSubsetCountUptoRow.holds Try.pinned (OpenSpec.upto fnSubsetCountSpec)

/-- 'laws.FnDeterminize', WHERE WHAT IT READS IS OF BULK AT MOST 1048576: true; the input reads as it did. -/
def fnDeterminizeUptoRow : OpenClaim := { program := "ythigcohfjoodlaa", sum := "967232fae9cc7075f75b7520baacc8888d6ce12f97bb98114121ae058566f466", func := "loop.example/regularlanguages/laws.FnDeterminize", spec := "fnDeterminize", unfollowed := true, recurses := true, plainKeys := false, apart := false, narrowed := true }
def FnDeterminizeUptoSaid : Prop := fnDeterminizeUptoRow.holds Try.pinned (OpenSpec.upto fnDeterminizeSpec)

/-- 'laws.FnExactDfaRests', WHERE WHAT IT READS IS OF BULK AT MOST 1048576: true; the input reads as it did. -/
def fnExactDfaRestsUptoRow : OpenClaim := { program := "ythigcohfjoodlaa", sum := "967232fae9cc7075f75b7520baacc8888d6ce12f97bb98114121ae058566f466", func := "loop.example/regularlanguages/laws.FnExactDfaRests", spec := "fnExactDfaRests", unfollowed := true, recurses := true, plainKeys := false, apart := false, narrowed := true }
def FnExactDfaRestsUptoSaid : Prop := fnExactDfaRestsUptoRow.holds Try.pinned (OpenSpec.upto fnExactDfaRestsSpec)

/-- 'laws.FnNfaEither', WHERE WHAT IT READS IS OF BULK AT MOST 1048576: true; the input reads as it did. -/
def fnNfaEitherUptoRow : OpenClaim := { program := "ythigcohfjoodlaa", sum := "967232fae9cc7075f75b7520baacc8888d6ce12f97bb98114121ae058566f466", func := "loop.example/regularlanguages/laws.FnNfaEither", spec := "fnNfaEither", unfollowed := true, recurses := true, plainKeys := false, apart := false, narrowed := true }
def FnNfaEitherUptoSaid : Prop := fnNfaEitherUptoRow.holds Try.pinned (OpenSpec.upto fnNfaEitherSpec)

/-- 'laws.FnNfaJoin', WHERE WHAT IT READS IS OF BULK AT MOST 1048576: true; the input reads as it did. -/
def fnNfaJoinUptoRow : OpenClaim := { program := "ythigcohfjoodlaa", sum := "967232fae9cc7075f75b7520baacc8888d6ce12f97bb98114121ae058566f466", func := "loop.example/regularlanguages/laws.FnNfaJoin", spec := "fnNfaJoin", unfollowed := true, recurses := true, plainKeys := false, apart := false, narrowed := true }
def FnNfaJoinUptoSaid : Prop := fnNfaJoinUptoRow.holds Try.pinned (OpenSpec.upto fnNfaJoinSpec)

/-- 'laws.FnTurnNfa', WHERE WHAT IT READS IS OF BULK AT MOST 1048576: true; the input reads as it did. -/
def fnTurnNfaUptoRow : OpenClaim := { program := "ythigcohfjoodlaa", sum := "967232fae9cc7075f75b7520baacc8888d6ce12f97bb98114121ae058566f466", func := "loop.example/regularlanguages/laws.FnTurnNfa", spec := "fnTurnNfa", unfollowed := true, recurses := true, plainKeys := false, apart := false, narrowed := true }
def FnTurnNfaUptoSaid : Prop := fnTurnNfaUptoRow.holds Try.pinned (OpenSpec.upto fnTurnNfaSpec)

/-- 'laws.FnNfaStar', WHERE WHAT IT READS IS OF BULK AT MOST 1048576: true; the input reads as it did. -/
def fnNfaStarUptoRow : OpenClaim := { program := "ythigcohfjoodlaa", sum := "967232fae9cc7075f75b7520baacc8888d6ce12f97bb98114121ae058566f466", func := "loop.example/regularlanguages/laws.FnNfaStar", spec := "fnNfaStar", unfollowed := true, recurses := true, plainKeys := false, apart := false, narrowed := true }
def FnNfaStarUptoSaid : Prop := fnNfaStarUptoRow.holds Try.pinned (OpenSpec.upto fnNfaStarSpec)

/-- 'laws.FnNfaRun', WHERE WHAT IT READS IS OF BULK AT MOST 1048576: true; the input reads as it did. -/
def fnNfaRunUptoRow : OpenClaim := { program := "ythigcohfjoodlaa", sum := "967232fae9cc7075f75b7520baacc8888d6ce12f97bb98114121ae058566f466", func := "loop.example/regularlanguages/laws.FnNfaRun", spec := "fnNfaRun", unfollowed := true, recurses := true, plainKeys := false, apart := false, narrowed := true }
def FnNfaRunUptoSaid : Prop := fnNfaRunUptoRow.holds Try.pinned (OpenSpec.upto fnNfaRunSpec)

end Rows
end Go.Proofs.Ythigcohfjoodlaa
