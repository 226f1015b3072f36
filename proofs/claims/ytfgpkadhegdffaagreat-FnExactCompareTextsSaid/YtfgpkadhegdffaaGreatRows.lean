/-
  No cell of these rows narrows 'for every input' (looked for: loops, veiled, ifaces, maps, wideKeys, modest, calm, conditions, laid).
  DERIVED. THE GIVEN ROWS OF THIS SEAT. 7 by the template 'for every input the law returns true; each argument reads behind the call as it read before'; 0 by the template 'total and deterministic' (their statements: YtfgpkadhegdffaaGreatTotals.lean).
  GIVEN WITH THE SEED: the statements are not yours to turn. If you find one false, say at which input.
  Laid BY PROGRAM, IN A SANDBOX (cutbox-rows.mjs): the forced cells as the released guide's own fill.sh prints them over the translation 8e7aba247374aaf8… (all of the seat's roots in one cut). By AI agents, Wed Nov 11 2026. No macro, syntax, notation, axiom, sorry.
-/
import Derived.Test.YtfgpkadhegdffaaGreatChecked
import GoSem.Claim
import GoSem.ClaimJoined
import GoSem.ClaimMapViews
import Derived.JoinedTies
import Derived.KernelRfl
namespace Go.Proofs.YtfgpkadhegdffaaGreat
/- THE CELL 'sum', in the pinned program and in every row, IS THE sha256 OF THE DUMP (.gsa) THAT YtfgpkadhegdffaaGreatProg.lean LOADS. Nothing in Lean hashes anything: it is a label: what it is worth is what the hold of that sum in a sandbox is worth. -/
noncomputable def Tryz.pinned : Pinned := { name := "ytfgpkadhegdffaagreat", sum := "8e7aba247374aaf8a0d6acbca3eec594b114731dd22f12ea965f3c362ea962eb", checked := Tryz.checked }
namespace Rows
def none {H : Type} : Left H := { results := [], args := [] }

/-- 'laws.FnExactCompileText': WHATEVER THE INPUT: true; the input reads as it did. -/
def fnExactCompileTextSpec : ChangeSpec := { name := "fnExactCompileText", fn := fun _ => fun
  | [d] => { results := [.lit (.bool true)], args := [d] }
  | _ => none }
def fnExactCompileTextRow : OpenClaim := { program := "ytfgpkadhegdffaagreat", sum := "8e7aba247374aaf8a0d6acbca3eec594b114731dd22f12ea965f3c362ea962eb", func := "loop.example/regularlanguages/laws.FnExactCompileText", spec := "fnExactCompileText", inPlace := ["internal/bytealg.IndexByteString"], unfollowed := true, recurses := true, plainKeys := false, apart := false }
def FnExactCompileTextSaid : Prop := fnExactCompileTextRow.holds Tryz.pinned (OpenSpec.ofChange fnExactCompileTextSpec)

/-- ITS FALSE NEIGHBOUR: 'it returns false'. Refute it at one input. -/
def fnExactCompileTextWrong : ChangeSpec := { name := "fnExactCompileText", fn := fun _ => fun
  | [d] => { results := [.lit (.bool false)], args := [d] }
  | _ => none }
def FnExactCompileTextWrongFalsely : Prop := fnExactCompileTextRow.holds Tryz.pinned (OpenSpec.ofChange fnExactCompileTextWrong)

/-- 'laws.FnExactEditTexts': WHATEVER THE INPUT: true; the input reads as it did. -/
def fnExactEditTextsSpec : ChangeSpec := { name := "fnExactEditTexts", fn := fun _ => fun
  | [d1, d2, d3] => { results := [.lit (.bool true)], args := [d1, d2, d3] }
  | _ => none }
def fnExactEditTextsRow : OpenClaim := { program := "ytfgpkadhegdffaagreat", sum := "8e7aba247374aaf8a0d6acbca3eec594b114731dd22f12ea965f3c362ea962eb", func := "loop.example/regularlanguages/laws.FnExactEditTexts", spec := "fnExactEditTexts", inPlace := ["internal/bytealg.IndexByteString"], unfollowed := true, recurses := true, plainKeys := false, apart := false }
def FnExactEditTextsSaid : Prop := fnExactEditTextsRow.holds Tryz.pinned (OpenSpec.ofChange fnExactEditTextsSpec)

/-- ITS FALSE NEIGHBOUR: 'it returns false'. Refute it at one input. -/
def fnExactEditTextsWrong : ChangeSpec := { name := "fnExactEditTexts", fn := fun _ => fun
  | [d1, d2, d3] => { results := [.lit (.bool false)], args := [d1, d2, d3] }
  | _ => none }
def FnExactEditTextsWrongFalsely : Prop := fnExactEditTextsRow.holds Tryz.pinned (OpenSpec.ofChange fnExactEditTextsWrong)

/-- 'laws.FnExactCompareTexts': WHATEVER THE INPUT: true; the input reads as it did. -/
def fnExactCompareTextsSpec : ChangeSpec := { name := "fnExactCompareTexts", fn := fun _ => fun
  | [d1, d2] => { results := [.lit (.bool true)], args := [d1, d2] }
  | _ => none }
def fnExactCompareTextsRow : OpenClaim := { program := "ytfgpkadhegdffaagreat", sum := "8e7aba247374aaf8a0d6acbca3eec594b114731dd22f12ea965f3c362ea962eb", func := "loop.example/regularlanguages/laws.FnExactCompareTexts", spec := "fnExactCompareTexts", inPlace := ["internal/bytealg.IndexByteString"], unfollowed := true, recurses := true, plainKeys := false, apart := false }
def FnExactCompareTextsSaid : Prop := fnExactCompareTextsRow.holds Tryz.pinned (OpenSpec.ofChange fnExactCompareTextsSpec)

/-- ITS FALSE NEIGHBOUR: 'it returns false'. Refute it at one input. -/
def fnExactCompareTextsWrong : ChangeSpec := { name := "fnExactCompareTexts", fn := fun _ => fun
  | [d1, d2] => { results := [.lit (.bool false)], args := [d1, d2] }
  | _ => none }
def FnExactCompareTextsWrongFalsely : Prop := fnExactCompareTextsRow.holds Tryz.pinned (OpenSpec.ofChange fnExactCompareTextsWrong)

/-- 'laws.FnEditSame': WHATEVER THE INPUT: true; the input reads as it did. -/
def fnEditSameSpec : ChangeSpec := { name := "fnEditSame", fn := fun _ => fun
  | [d] => { results := [.lit (.bool true)], args := [d] }
  | _ => none }
def fnEditSameRow : OpenClaim := { program := "ytfgpkadhegdffaagreat", sum := "8e7aba247374aaf8a0d6acbca3eec594b114731dd22f12ea965f3c362ea962eb", func := "loop.example/regularlanguages/laws.FnEditSame", spec := "fnEditSame", inPlace := ["internal/bytealg.IndexByteString"], unfollowed := true, recurses := true, plainKeys := false, apart := false }
def FnEditSameSaid : Prop := fnEditSameRow.holds Tryz.pinned (OpenSpec.ofChange fnEditSameSpec)

/-- ITS FALSE NEIGHBOUR: 'it returns false'. Refute it at one input. -/
def fnEditSameWrong : ChangeSpec := { name := "fnEditSame", fn := fun _ => fun
  | [d] => { results := [.lit (.bool false)], args := [d] }
  | _ => none }
def FnEditSameWrongFalsely : Prop := fnEditSameRow.holds Tryz.pinned (OpenSpec.ofChange fnEditSameWrong)

/-- 'laws.FnCompileExpr': WHATEVER THE INPUT: true; the input reads as it did. -/
def fnCompileExprSpec : ChangeSpec := { name := "fnCompileExpr", fn := fun _ => fun
  | [d1, d2] => { results := [.lit (.bool true)], args := [d1, d2] }
  | _ => none }
def fnCompileExprRow : OpenClaim := { program := "ytfgpkadhegdffaagreat", sum := "8e7aba247374aaf8a0d6acbca3eec594b114731dd22f12ea965f3c362ea962eb", func := "loop.example/regularlanguages/laws.FnCompileExpr", spec := "fnCompileExpr", unfollowed := true, recurses := true, plainKeys := false, apart := false }
def FnCompileExprSaid : Prop := fnCompileExprRow.holds Tryz.pinned (OpenSpec.ofChange fnCompileExprSpec)

/-- ITS FALSE NEIGHBOUR: 'it returns false'. Refute it at one input. -/
def fnCompileExprWrong : ChangeSpec := { name := "fnCompileExpr", fn := fun _ => fun
  | [d1, d2] => { results := [.lit (.bool false)], args := [d1, d2] }
  | _ => none }
def FnCompileExprWrongFalsely : Prop := fnCompileExprRow.holds Tryz.pinned (OpenSpec.ofChange fnCompileExprWrong)

/-- 'laws.FnCompileText': WHATEVER THE INPUT: true; the input reads as it did. -/
def fnCompileTextSpec : ChangeSpec := { name := "fnCompileText", fn := fun _ => fun
  | [d1, d2] => { results := [.lit (.bool true)], args := [d1, d2] }
  | _ => none }
def fnCompileTextRow : OpenClaim := { program := "ytfgpkadhegdffaagreat", sum := "8e7aba247374aaf8a0d6acbca3eec594b114731dd22f12ea965f3c362ea962eb", func := "loop.example/regularlanguages/laws.FnCompileText", spec := "fnCompileText", inPlace := ["internal/bytealg.IndexByteString"], unfollowed := true, recurses := true, plainKeys := false, apart := false }
def FnCompileTextSaid : Prop := fnCompileTextRow.holds Tryz.pinned (OpenSpec.ofChange fnCompileTextSpec)

/-- ITS FALSE NEIGHBOUR: 'it returns false'. Refute it at one input. -/
def fnCompileTextWrong : ChangeSpec := { name := "fnCompileText", fn := fun _ => fun
  | [d1, d2] => { results := [.lit (.bool false)], args := [d1, d2] }
  | _ => none }
def FnCompileTextWrongFalsely : Prop := fnCompileTextRow.holds Tryz.pinned (OpenSpec.ofChange fnCompileTextWrong)

/-- 'laws.FnEditTexts': WHATEVER THE INPUT: true; the input reads as it did. -/
def fnEditTextsSpec : ChangeSpec := { name := "fnEditTexts", fn := fun _ => fun
  | [d1, d2] => { results := [.lit (.bool true)], args := [d1, d2] }
  | _ => none }
def fnEditTextsRow : OpenClaim := { program := "ytfgpkadhegdffaagreat", sum := "8e7aba247374aaf8a0d6acbca3eec594b114731dd22f12ea965f3c362ea962eb", func := "loop.example/regularlanguages/laws.FnEditTexts", spec := "fnEditTexts", inPlace := ["internal/bytealg.IndexByteString"], unfollowed := true, recurses := true, plainKeys := false, apart := false }
def FnEditTextsSaid : Prop := fnEditTextsRow.holds Tryz.pinned (OpenSpec.ofChange fnEditTextsSpec)

/-- ITS FALSE NEIGHBOUR: 'it returns false'. Refute it at one input. -/
def fnEditTextsWrong : ChangeSpec := { name := "fnEditTexts", fn := fun _ => fun
  | [d1, d2] => { results := [.lit (.bool false)], args := [d1, d2] }
  | _ => none }
def FnEditTextsWrongFalsely : Prop := fnEditTextsRow.holds Tryz.pinned (OpenSpec.ofChange fnEditTextsWrong)

/- THE SECOND FORM. 'bulk': how many values and letters a reading holds, each counted each time it is reached (what is shared counts as often as it is met; a slice's spare places count too). A statement '..UptoSaid' is the law's where the arguments, and the package variables that the reading takes, are together of bulk at most 1048576: NARROWER than '..Said'. Prove '..Said' where nothing that the law and all that it calls make is longer than what came in: it says more and counts as full. Else prove '..UptoSaid'. A law counts once. -/
mutual
def uptoBulk {H : Type} : DataW H → Nat
  | .lit (.string bytes) => bytes.length + 1
  | .lit _ => 1
  | .nil => 1
  | .ptr d => uptoBulk d + 1
  | .slice elems spare => uptoBulkAll elems + uptoBulkAll spare + 1
  | .agg parts => uptoBulkAll parts + 1
  | .iface _ d => uptoBulk d + 1
  | .map entries => uptoBulkEntries entries + 1
  | .held _ => 1
def uptoBulkAll {H : Type} : List (DataW H) → Nat
  | [] => 0
  | d :: r => uptoBulk d + uptoBulkAll r
def uptoBulkEntries {H : Type} : List (Lit × DataW H) → Nat
  | [] => 0
  | x :: r => uptoBulkEntry x + uptoBulkEntries r
def uptoBulkEntry {H : Type} : Lit × DataW H → Nat
  | (.string bytes, d) => bytes.length + uptoBulk d + 1
  | (_, d) => uptoBulk d + 1
 end
def uptoSmall : (H : Type) → List (DataW H) → Bool := fun _ ds => decide (uptoBulkAll ds ≤ 1048576)
def OpenSpec.upto (s : _root_.Go.ChangeSpec) : _root_.Go.OpenSpec := { _root_.Go.OpenSpec.ofChange s with cond := some uptoSmall }

/-- 'laws.FnExactCompileText', WHERE WHAT IT READS IS OF BULK AT MOST 1048576: true; the input reads as it did. -/
def fnExactCompileTextUptoRow : OpenClaim := { program := "ytfgpkadhegdffaagreat", sum := "8e7aba247374aaf8a0d6acbca3eec594b114731dd22f12ea965f3c362ea962eb", func := "loop.example/regularlanguages/laws.FnExactCompileText", spec := "fnExactCompileText", inPlace := ["internal/bytealg.IndexByteString"], unfollowed := true, recurses := true, plainKeys := false, apart := false, narrowed := true }
def FnExactCompileTextUptoSaid : Prop := fnExactCompileTextUptoRow.holds Tryz.pinned (OpenSpec.upto fnExactCompileTextSpec)

/-- 'laws.FnExactEditTexts', WHERE WHAT IT READS IS OF BULK AT MOST 1048576: true; the input reads as it did. -/
def fnExactEditTextsUptoRow : OpenClaim := { program := "ytfgpkadhegdffaagreat", sum := "8e7aba247374aaf8a0d6acbca3eec594b114731dd22f12ea965f3c362ea962eb", func := "loop.example/regularlanguages/laws.FnExactEditTexts", spec := "fnExactEditTexts", inPlace := ["internal/bytealg.IndexByteString"], unfollowed := true, recurses := true, plainKeys := false, apart := false, narrowed := true }
def FnExactEditTextsUptoSaid : Prop := fnExactEditTextsUptoRow.holds Tryz.pinned (OpenSpec.upto fnExactEditTextsSpec)

/-- 'laws.FnExactCompareTexts', WHERE WHAT IT READS IS OF BULK AT MOST 1048576: true; the input reads as it did. -/
def fnExactCompareTextsUptoRow : OpenClaim := { program := "ytfgpkadhegdffaagreat", sum := "8e7aba247374aaf8a0d6acbca3eec594b114731dd22f12ea965f3c362ea962eb", func := "loop.example/regularlanguages/laws.FnExactCompareTexts", spec := "fnExactCompareTexts", inPlace := ["internal/bytealg.IndexByteString"], unfollowed := true, recurses := true, plainKeys := false, apart := false, narrowed := true }
def FnExactCompareTextsUptoSaid : Prop := fnExactCompareTextsUptoRow.holds Tryz.pinned (OpenSpec.upto fnExactCompareTextsSpec)

/-- 'laws.FnEditSame', WHERE WHAT IT READS IS OF BULK AT MOST 1048576: true; the input reads as it did. -/
def fnEditSameUptoRow : OpenClaim := { program := "ytfgpkadhegdffaagreat", sum := "8e7aba247374aaf8a0d6acbca3eec594b114731dd22f12ea965f3c362ea962eb", func := "loop.example/regularlanguages/laws.FnEditSame", spec := "fnEditSame", inPlace := ["internal/bytealg.IndexByteString"], unfollowed := true, recurses := true, plainKeys := false, apart := false, narrowed := true }
def FnEditSameUptoSaid : Prop := fnEditSameUptoRow.holds Tryz.pinned (OpenSpec.upto fnEditSameSpec)

/-- 'laws.FnCompileExpr', WHERE WHAT IT READS IS OF BULK AT MOST 1048576: true; the input reads as it did. -/
def fnCompileExprUptoRow : OpenClaim := { program := "ytfgpkadhegdffaagreat", sum := "8e7aba247374aaf8a0d6acbca3eec594b114731dd22f12ea965f3c362ea962eb", func := "loop.example/regularlanguages/laws.FnCompileExpr", spec := "fnCompileExpr", unfollowed := true, recurses := true, plainKeys := false, apart := false, narrowed := true }
def FnCompileExprUptoSaid : Prop := fnCompileExprUptoRow.holds Tryz.pinned (OpenSpec.upto fnCompileExprSpec)

/-- 'laws.FnCompileText', WHERE WHAT IT READS IS OF BULK AT MOST 1048576: true; the input reads as it did. -/
def fnCompileTextUptoRow : OpenClaim := { program := "ytfgpkadhegdffaagreat", sum := "8e7aba247374aaf8a0d6acbca3eec594b114731dd22f12ea965f3c362ea962eb", func := "loop.example/regularlanguages/laws.FnCompileText", spec := "fnCompileText", inPlace := ["internal/bytealg.IndexByteString"], unfollowed := true, recurses := true, plainKeys := false, apart := false, narrowed := true }
def FnCompileTextUptoSaid : Prop := fnCompileTextUptoRow.holds Tryz.pinned (OpenSpec.upto fnCompileTextSpec)

/-- 'laws.FnEditTexts', WHERE WHAT IT READS IS OF BULK AT MOST 1048576: true; the input reads as it did. -/
def fnEditTextsUptoRow : OpenClaim := { program := "ytfgpkadhegdffaagreat", sum := "8e7aba247374aaf8a0d6acbca3eec594b114731dd22f12ea965f3c362ea962eb", func := "loop.example/regularlanguages/laws.FnEditTexts", spec := "fnEditTexts", inPlace := ["internal/bytealg.IndexByteString"], unfollowed := true, recurses := true, plainKeys := false, apart := false, narrowed := true }
def FnEditTextsUptoSaid : Prop := fnEditTextsUptoRow.holds Tryz.pinned (OpenSpec.upto fnEditTextsSpec)

end Rows
end Go.Proofs.YtfgpkadhegdffaaGreat
