/-
  No cell of these rows narrows 'for every input' (looked for: loops, veiled, ifaces, maps, wideKeys, modest, calm, conditions, laid).
  DERIVED. THE GIVEN ROWS OF THIS SEAT. 3 by the template 'for every input the law returns true; each argument reads behind the call as it read before'; 0 by the template 'total and deterministic' (their statements: YtjcegbcmomfgaaaTotals.lean).
  GIVEN WITH THE SEED: the statements are not yours to turn. If you find one false, say at which input.
  Laid BY PROGRAM, IN A SANDBOX (cutbox-rows.mjs): the forced cells as the released guide's own fill.sh prints them over the translation 843e9574bb0215f7… (all of the seat's roots in one cut). By AI agents, Wed Nov 11 2026. No macro, syntax, notation, axiom, sorry.
-/
import Derived.Test.YtjcegbcmomfgaaaChecked
import GoSem.Claim
import GoSem.ClaimJoined
import GoSem.ClaimMapViews
import Derived.JoinedTies
import Derived.KernelRfl
namespace Go.Proofs.Ytjcegbcmomfgaaa
/- THE CELL 'sum', in the pinned program and in every row, IS THE sha256 OF THE DUMP (.gsa) THAT YtjcegbcmomfgaaaProg.lean LOADS. Nothing in Lean hashes anything: it is a label: what it is worth is what the hold of that sum in a sandbox is worth. -/
noncomputable def Try.pinned : Pinned := { name := "ytjcegbcmomfgaaa", sum := "843e9574bb0215f7cb0900f8efcc30111ae4f677d408a316cdee00df6fd15383", checked := Try.checked }
namespace Rows
def none {H : Type} : Left H := { results := [], args := [] }

/-- 'laws.FnNfaAccepts': WHATEVER THE INPUT: true; the input reads as it did. -/
def fnNfaAcceptsSpec : ChangeSpec := { name := "fnNfaAccepts", fn := fun _ => fun
  | [d] => { results := [.lit (.bool true)], args := [d] }
  | _ => none }
def fnNfaAcceptsRow : OpenClaim := { program := "ytjcegbcmomfgaaa", sum := "843e9574bb0215f7cb0900f8efcc30111ae4f677d408a316cdee00df6fd15383", func := "loop.example/regularlanguages/laws.FnNfaAccepts", spec := "fnNfaAccepts", unfollowed := true, recurses := true, plainKeys := false, apart := false }
def FnNfaAcceptsSaid : Prop := fnNfaAcceptsRow.holds Try.pinned (OpenSpec.ofChange fnNfaAcceptsSpec)

/-- ITS FALSE NEIGHBOUR: 'it returns false'. Refute it at one input. -/
def fnNfaAcceptsWrong : ChangeSpec := { name := "fnNfaAccepts", fn := fun _ => fun
  | [d] => { results := [.lit (.bool false)], args := [d] }
  | _ => none }
def FnNfaAcceptsWrongFalsely : Prop := fnNfaAcceptsRow.holds Try.pinned (OpenSpec.ofChange fnNfaAcceptsWrong)

/-- 'laws.FnSubsetCount': WHATEVER THE INPUT: true; the input reads as it did. -/
def fnSubsetCountSpec : ChangeSpec := { name := "fnSubsetCount", fn := fun _ => fun
  | [d] => { results := [.lit (.bool true)], args := [d] }
  | _ => none }
def fnSubsetCountRow : OpenClaim := { program := "ytjcegbcmomfgaaa", sum := "843e9574bb0215f7cb0900f8efcc30111ae4f677d408a316cdee00df6fd15383", func := "loop.example/regularlanguages/laws.FnSubsetCount", spec := "fnSubsetCount", unfollowed := true, recurses := true, plainKeys := false, apart := false }
def FnSubsetCountSaid : Prop := fnSubsetCountRow.holds Try.pinned (OpenSpec.ofChange fnSubsetCountSpec)

/-- ITS FALSE NEIGHBOUR: 'it returns false'. Refute it at one input. -/
def fnSubsetCountWrong : ChangeSpec := { name := "fnSubsetCount", fn := fun _ => fun
  | [d] => { results := [.lit (.bool false)], args := [d] }
  | _ => none }
def FnSubsetCountWrongFalsely : Prop := fnSubsetCountRow.holds Try.pinned (OpenSpec.ofChange fnSubsetCountWrong)

/-- 'laws.FnDeterminize': WHATEVER THE INPUT: true; the input reads as it did. -/
def fnDeterminizeSpec : ChangeSpec := { name := "fnDeterminize", fn := fun _ => fun
  | [d1, d2] => { results := [.lit (.bool true)], args := [d1, d2] }
  | _ => none }
def fnDeterminizeRow : OpenClaim := { program := "ytjcegbcmomfgaaa", sum := "843e9574bb0215f7cb0900f8efcc30111ae4f677d408a316cdee00df6fd15383", func := "loop.example/regularlanguages/laws.FnDeterminize", spec := "fnDeterminize", unfollowed := true, recurses := true, plainKeys := false, apart := false }
def FnDeterminizeSaid : Prop := fnDeterminizeRow.holds Try.pinned (OpenSpec.ofChange fnDeterminizeSpec)

/-- ITS FALSE NEIGHBOUR: 'it returns false'. Refute it at one input. -/
def fnDeterminizeWrong : ChangeSpec := { name := "fnDeterminize", fn := fun _ => fun
  | [d1, d2] => { results := [.lit (.bool false)], args := [d1, d2] }
  | _ => none }
def FnDeterminizeWrongFalsely : Prop := fnDeterminizeRow.holds Try.pinned (OpenSpec.ofChange fnDeterminizeWrong)

/- THE SECOND FORM. 'bulk': how many values and letters a reading holds, each counted each time it is reached (what is shared counts as often as it is met; a slice's spare places count too). A statement '..UptoSaid' is the law's where the arguments, and the package variables that the reading takes, are together of bulk at most 1048576: NARROWER than '..Said'. Prove '..Said' where nothing that the law and all that it calls make is longer than what came in: it says more and counts as full. Else prove '..UptoSaid'. A law counts once. -/
mutual
def uptoBulk {H : Type} : DataW H → Nat
  | .lit (.string bytes) => bytes.length + 1
  | .lit _ => 1
  | .nil => 1
  | .ptr d => uptoBulk d + 1
  | .slice elems spare => uptoBulkAll elems + uptoBulkAll spare + 1
  | .agg parts => uptoBulkAll parts + 1
  | .iface _ d => uptoBulk d + 1
  | .map entries => uptoBulkEntries entries + 1
  | .held _ => 1
def uptoBulkAll {H : Type} : List (DataW H) → Nat
  | [] => 0
  | d :: r => uptoBulk d + uptoBulkAll r
def uptoBulkEntries {H : Type} : List (Lit × DataW H) → Nat
  | [] => 0
  | x :: r => uptoBulkEntry x + uptoBulkEntries r
def uptoBulkEntry {H : Type} : Lit × DataW H → Nat
  | (.string bytes, d) => bytes.length + uptoBulk d + 1
  | (_, d) => uptoBulk d + 1
 end
def uptoSmall : (H : Type) → List (DataW H) → Bool := fun _ ds => decide (uptoBulkAll ds ≤ 1048576)
def OpenSpec.upto (s : _root_.Go.ChangeSpec) : _root_.Go.OpenSpec := { _root_.Go.OpenSpec.ofChange s with cond := some uptoSmall }

/-- 'laws.FnNfaAccepts', WHERE WHAT IT READS IS OF BULK AT MOST 1048576: true; the input reads as it did. -/
def fnNfaAcceptsUptoRow : OpenClaim := { program := "ytjcegbcmomfgaaa", sum := "843e9574bb0215f7cb0900f8efcc30111ae4f677d408a316cdee00df6fd15383", func := "loop.example/regularlanguages/laws.FnNfaAccepts", spec := "fnNfaAccepts", unfollowed := true, recurses := true, plainKeys := false, apart := false, narrowed := true }
def FnNfaAcceptsUptoSaid : Prop := fnNfaAcceptsUptoRow.holds Try.pinned (OpenSpec.upto fnNfaAcceptsSpec)

/-- 'laws.FnSubsetCount', WHERE WHAT IT READS IS OF BULK AT MOST 1048576: true; the input reads as it did. -/
def fnSubsetCountUptoRow : OpenClaim := { program := "ytjcegbcmomfgaaa", sum := "843e9574bb0215f7cb0900f8efcc30111ae4f677d408a316cdee00df6fd15383", func := "loop.example/regularlanguages/laws.FnSubsetCount", spec := "fnSubsetCount", unfollowed := true, recurses := true, plainKeys := false, apart := false, narrowed := true }
def FnSubsetCountUptoSaid : Prop := fnSubsetCountUptoRow.holds Try.pinned (OpenSpec.upto fnSubsetCountSpec)

/-- 'laws.FnDeterminize', WHERE WHAT IT READS IS OF BULK AT MOST 1048576: true; the input reads as it did. -/
def fnDeterminizeUptoRow : OpenClaim := { program := "ytjcegbcmomfgaaa", sum := "843e9574bb0215f7cb0900f8efcc30111ae4f677d408a316cdee00df6fd15383", func := "loop.example/regularlanguages/laws.FnDeterminize", spec := "fnDeterminize", unfollowed := true, recurses := true, plainKeys := false, apart := false, narrowed := true }
def FnDeterminizeUptoSaid : Prop := fnDeterminizeUptoRow.holds Try.pinned (OpenSpec.upto fnDeterminizeSpec)

end Rows
end Go.Proofs.Ytjcegbcmomfgaaa
