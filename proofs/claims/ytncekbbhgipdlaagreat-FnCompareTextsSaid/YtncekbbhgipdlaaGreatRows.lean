/-
  No cell of these rows narrows 'for every input' (looked for: loops, veiled, ifaces, maps, wideKeys, modest, calm, conditions, laid).
  DERIVED. THE GIVEN ROWS OF THIS SEAT. 4 by the template 'for every input the law returns true; each argument reads behind the call as it read before'; 0 by the template 'total and deterministic' (their statements: YtncekbbhgipdlaaGreatTotals.lean).
  GIVEN WITH THE SEED: the statements are not yours to turn. If you find one false, say at which input.
  Laid BY PROGRAM, IN A SANDBOX (cutbox-rows.mjs): the forced cells as the released guide's own fill.sh prints them over the translation e20c7c226c6441ec… (all of the seat's roots in one cut). By AI agents, Wed Nov 11 2026. No macro, syntax, notation, axiom, sorry.
-/
import Derived.Test.YtncekbbhgipdlaaGreatChecked
import GoSem.Claim
import GoSem.ClaimJoined
import GoSem.ClaimMapViews
import Derived.JoinedTies
import Derived.KernelRfl
namespace Go.Proofs.YtncekbbhgipdlaaGreat
/- THE CELL 'sum', in the pinned program and in every row, IS THE sha256 OF THE DUMP (.gsa) THAT YtncekbbhgipdlaaGreatProg.lean LOADS. Nothing in Lean hashes anything: it is a label: what it is worth is what the hold of that sum in a sandbox is worth. -/
noncomputable def Tryz.pinned : Pinned := { name := "ytncekbbhgipdlaagreat", sum := "e20c7c226c6441ecb98a67a20a152507ce627f103ace1d3e7f6fa2eeb2fb0eee", checked := Tryz.checked }
namespace Rows
def none {H : Type} : Left H := { results := [], args := [] }

/-- 'laws.FnExactSmallText': WHATEVER THE INPUT: true; the input reads as it did. -/
def fnExactSmallTextSpec : ChangeSpec := { name := "fnExactSmallText", fn := fun _ => fun
  | [d] => { results := [.lit (.bool true)], args := [d] }
  | _ => none }
def fnExactSmallTextRow : OpenClaim := { program := "ytncekbbhgipdlaagreat", sum := "e20c7c226c6441ecb98a67a20a152507ce627f103ace1d3e7f6fa2eeb2fb0eee", func := "loop.example/regularlanguages/laws.FnExactSmallText", spec := "fnExactSmallText", inPlace := ["internal/bytealg.IndexByteString"], unfollowed := true, recurses := true, plainKeys := false, apart := false }
def FnExactSmallTextSaid : Prop := fnExactSmallTextRow.holds Tryz.pinned (OpenSpec.ofChange fnExactSmallTextSpec)

/-- ITS FALSE NEIGHBOUR: 'it returns false'. Refute it at one input. -/
def fnExactSmallTextWrong : ChangeSpec := { name := "fnExactSmallText", fn := fun _ => fun
  | [d] => { results := [.lit (.bool false)], args := [d] }
  | _ => none }
def FnExactSmallTextWrongFalsely : Prop := fnExactSmallTextRow.holds Tryz.pinned (OpenSpec.ofChange fnExactSmallTextWrong)

/-- 'laws.FnSmallText': WHATEVER THE INPUT: true; the input reads as it did. -/
def fnSmallTextSpec : ChangeSpec := { name := "fnSmallText", fn := fun _ => fun
  | [d1, d2] => { results := [.lit (.bool true)], args := [d1, d2] }
  | _ => none }
def fnSmallTextRow : OpenClaim := { program := "ytncekbbhgipdlaagreat", sum := "e20c7c226c6441ecb98a67a20a152507ce627f103ace1d3e7f6fa2eeb2fb0eee", func := "loop.example/regularlanguages/laws.FnSmallText", spec := "fnSmallText", inPlace := ["internal/bytealg.IndexByteString"], unfollowed := true, recurses := true, plainKeys := false, apart := false }
def FnSmallTextSaid : Prop := fnSmallTextRow.holds Tryz.pinned (OpenSpec.ofChange fnSmallTextSpec)

/-- ITS FALSE NEIGHBOUR: 'it returns false'. Refute it at one input. -/
def fnSmallTextWrong : ChangeSpec := { name := "fnSmallText", fn := fun _ => fun
  | [d1, d2] => { results := [.lit (.bool false)], args := [d1, d2] }
  | _ => none }
def FnSmallTextWrongFalsely : Prop := fnSmallTextRow.holds Tryz.pinned (OpenSpec.ofChange fnSmallTextWrong)

/-- 'laws.FnSmallTwice': WHATEVER THE INPUT: true; the input reads as it did. -/
def fnSmallTwiceSpec : ChangeSpec := { name := "fnSmallTwice", fn := fun _ => fun
  | [d] => { results := [.lit (.bool true)], args := [d] }
  | _ => none }
def fnSmallTwiceRow : OpenClaim := { program := "ytncekbbhgipdlaagreat", sum := "e20c7c226c6441ecb98a67a20a152507ce627f103ace1d3e7f6fa2eeb2fb0eee", func := "loop.example/regularlanguages/laws.FnSmallTwice", spec := "fnSmallTwice", inPlace := ["internal/bytealg.IndexByteString"], unfollowed := true, recurses := true, plainKeys := false, apart := false }
def FnSmallTwiceSaid : Prop := fnSmallTwiceRow.holds Tryz.pinned (OpenSpec.ofChange fnSmallTwiceSpec)

/-- ITS FALSE NEIGHBOUR: 'it returns false'. Refute it at one input. -/
def fnSmallTwiceWrong : ChangeSpec := { name := "fnSmallTwice", fn := fun _ => fun
  | [d] => { results := [.lit (.bool false)], args := [d] }
  | _ => none }
def FnSmallTwiceWrongFalsely : Prop := fnSmallTwiceRow.holds Tryz.pinned (OpenSpec.ofChange fnSmallTwiceWrong)

/-- 'laws.FnCompareTexts': WHATEVER THE INPUT: true; the input reads as it did. -/
def fnCompareTextsSpec : ChangeSpec := { name := "fnCompareTexts", fn := fun _ => fun
  | [d] => { results := [.lit (.bool true)], args := [d] }
  | _ => none }
def fnCompareTextsRow : OpenClaim := { program := "ytncekbbhgipdlaagreat", sum := "e20c7c226c6441ecb98a67a20a152507ce627f103ace1d3e7f6fa2eeb2fb0eee", func := "loop.example/regularlanguages/laws.FnCompareTexts", spec := "fnCompareTexts", inPlace := ["internal/bytealg.IndexByteString"], unfollowed := true, recurses := true, plainKeys := false, apart := false }
def FnCompareTextsSaid : Prop := fnCompareTextsRow.holds Tryz.pinned (OpenSpec.ofChange fnCompareTextsSpec)

/-- ITS FALSE NEIGHBOUR: 'it returns false'. Refute it at one input. -/
def fnCompareTextsWrong : ChangeSpec := { name := "fnCompareTexts", fn := fun _ => fun
  | [d] => { results := [.lit (.bool false)], args := [d] }
  | _ => none }
def FnCompareTextsWrongFalsely : Prop := fnCompareTextsRow.holds Tryz.pinned (OpenSpec.ofChange fnCompareTextsWrong)

/- THE SECOND FORM. 'bulk': how many values and letters a reading holds, each counted each time it is reached (what is shared counts as often as it is met; a slice's spare places count too). A statement '..UptoSaid' is the law's where the arguments, and the package variables that the reading takes, are together of bulk at most 1048576: NARROWER than '..Said'. Prove '..Said' where nothing that the law and all that it calls make is longer than what came in: it says more and counts as full. Else prove '..UptoSaid'. A law counts once. -/
mutual
def uptoBulk {H : Type} : DataW H → Nat
  | .lit (.string bytes) => bytes.length + 1
  | .lit _ => 1
  | .nil => 1
  | .ptr d => uptoBulk d + 1
  | .slice elems spare => uptoBulkAll elems + uptoBulkAll spare + 1
  | .agg parts => uptoBulkAll parts + 1
  | .iface _ d => uptoBulk d + 1
  | .map entries => uptoBulkEntries entries + 1
  | .held _ => 1
def uptoBulkAll {H : Type} : List (DataW H) → Nat
  | [] => 0
  | d :: r => uptoBulk d + uptoBulkAll r
def uptoBulkEntries {H : Type} : List (Lit × DataW H) → Nat
  | [] => 0
  | x :: r => uptoBulkEntry x + uptoBulkEntries r
def uptoBulkEntry {H : Type} : Lit × DataW H → Nat
  | (.string bytes, d) => bytes.length + uptoBulk d + 1
  | (_, d) => uptoBulk d + 1
 end
def uptoSmall : (H : Type) → List (DataW H) → Bool := fun _ ds => decide (uptoBulkAll ds ≤ 1048576)
def OpenSpec.upto (s : _root_.Go.ChangeSpec) : _root_.Go.OpenSpec := { _root_.Go.OpenSpec.ofChange s with cond := some uptoSmall }

/-- 'laws.FnExactSmallText', WHERE WHAT IT READS IS OF BULK AT MOST 1048576: true; the input reads as it did. -/
def fnExactSmallTextUptoRow : OpenClaim := { program := "ytncekbbhgipdlaagreat", sum := "e20c7c226c6441ecb98a67a20a152507ce627f103ace1d3e7f6fa2eeb2fb0eee", func := "loop.example/regularlanguages/laws.FnExactSmallText", spec := "fnExactSmallText", inPlace := ["internal/bytealg.IndexByteString"], unfollowed := true, recurses := true, plainKeys := false, apart := false, narrowed := true }
def FnExactSmallTextUptoSaid : Prop := fnExactSmallTextUptoRow.holds Tryz.pinned (OpenSpec.upto fnExactSmallTextSpec)

/-- 'laws.FnSmallText', WHERE WHAT IT READS IS OF BULK AT MOST 1048576: true; the input reads as it did. -/
def fnSmallTextUptoRow : OpenClaim := { program := "ytncekbbhgipdlaagreat", sum := "e20c7c226c6441ecb98a67a20a152507ce627f103ace1d3e7f6fa2eeb2fb0eee", func := "loop.example/regularlanguages/laws.FnSmallText", spec := "fnSmallText", inPlace := ["internal/bytealg.IndexByteString"], unfollowed := true, recurses := true, plainKeys := false, apart := false, narrowed := true }
def FnSmallTextUptoSaid : Prop := fnSmallTextUptoRow.holds Tryz.pinned (OpenSpec.upto fnSmallTextSpec)

/-- 'laws.FnSmallTwice', WHERE WHAT IT READS IS OF BULK AT MOST 1048576: true; the input reads as it did. -/
def fnSmallTwiceUptoRow : OpenClaim := { program := "ytncekbbhgipdlaagreat", sum := "e20c7c226c6441ecb98a67a20a152507ce627f103ace1d3e7f6fa2eeb2fb0eee", func := "loop.example/regularlanguages/laws.FnSmallTwice", spec := "fnSmallTwice", inPlace := ["internal/bytealg.IndexByteString"], unfollowed := true, recurses := true, plainKeys := false, apart := false, narrowed := true }
def FnSmallTwiceUptoSaid : Prop := fnSmallTwiceUptoRow.holds Tryz.pinned (OpenSpec.upto fnSmallTwiceSpec)

/-- 'laws.FnCompareTexts', WHERE WHAT IT READS IS OF BULK AT MOST 1048576: true; the input reads as it did. -/
def fnCompareTextsUptoRow : OpenClaim := { program := "ytncekbbhgipdlaagreat", sum := "e20c7c226c6441ecb98a67a20a152507ce627f103ace1d3e7f6fa2eeb2fb0eee", func := "loop.example/regularlanguages/laws.FnCompareTexts", spec := "fnCompareTexts", inPlace := ["internal/bytealg.IndexByteString"], unfollowed := true, recurses := true, plainKeys := false, apart := false, narrowed := true }
def FnCompareTextsUptoSaid : Prop := fnCompareTextsUptoRow.holds Tryz.pinned (OpenSpec.upto fnCompareTextsSpec)

end Rows
end Go.Proofs.YtncekbbhgipdlaaGreat
