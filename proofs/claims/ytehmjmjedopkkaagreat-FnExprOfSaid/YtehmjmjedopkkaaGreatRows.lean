/-
  No cell of these rows narrows 'for every input' (looked for: loops, veiled, ifaces, maps, wideKeys, modest, calm, conditions, laid).
  DERIVED. THE GIVEN ROWS OF THIS SEAT. 3 by the template 'for every input the law returns true; each argument reads behind the call as it read before'; 0 by the template 'total and deterministic' (their statements: YtehmjmjedopkkaaGreatTotals.lean).
  GIVEN WITH THE SEED: the statements are not yours to turn. If you find one false, say at which input.
  Laid BY PROGRAM, IN A SANDBOX (cutbox-rows.mjs): the forced cells as the released guide's own fill.sh prints them over the translation 2e23057d5bb845a9… (all of the seat's roots in one cut). By AI agents, Wed Nov 11 2026. No macro, syntax, notation, axiom, sorry.
-/
import Derived.Test.YtehmjmjedopkkaaGreatChecked
import GoSem.Claim
import GoSem.ClaimJoined
import GoSem.ClaimMapViews
import Derived.JoinedTies
import Derived.KernelRfl
namespace Go.Proofs.YtehmjmjedopkkaaGreat
/- THE CELL 'sum', in the pinned program and in every row, IS THE sha256 OF THE DUMP (.gsa) THAT YtehmjmjedopkkaaGreatProg.lean LOADS. Nothing in Lean hashes anything: it is a label: what it is worth is what the hold of that sum in a sandbox is worth. -/
noncomputable def Tryz.pinned : Pinned := { name := "ytehmjmjedopkkaagreat", sum := "2e23057d5bb845a9c642eda7f2807f755a0b2183341a798a773067044a4211b9", checked := Tryz.checked }
namespace Rows
def none {H : Type} : Left H := { results := [], args := [] }

/-- 'laws.FnDeriveAfter': WHATEVER THE INPUT: true; the input reads as it did. -/
def fnDeriveAfterSpec : ChangeSpec := { name := "fnDeriveAfter", fn := fun _ => fun
  | [d] => { results := [.lit (.bool true)], args := [d] }
  | _ => none }
def fnDeriveAfterRow : OpenClaim := { program := "ytehmjmjedopkkaagreat", sum := "2e23057d5bb845a9c642eda7f2807f755a0b2183341a798a773067044a4211b9", func := "loop.example/regularlanguages/laws.FnDeriveAfter", spec := "fnDeriveAfter", unfollowed := true, recurses := true, plainKeys := false, apart := false }
def FnDeriveAfterSaid : Prop := fnDeriveAfterRow.holds Tryz.pinned (OpenSpec.ofChange fnDeriveAfterSpec)

/-- ITS FALSE NEIGHBOUR: 'it returns false'. Refute it at one input. -/
def fnDeriveAfterWrong : ChangeSpec := { name := "fnDeriveAfter", fn := fun _ => fun
  | [d] => { results := [.lit (.bool false)], args := [d] }
  | _ => none }
def FnDeriveAfterWrongFalsely : Prop := fnDeriveAfterRow.holds Tryz.pinned (OpenSpec.ofChange fnDeriveAfterWrong)

/-- 'laws.FnExprOf': WHATEVER THE INPUT: true; the input reads as it did. -/
def fnExprOfSpec : ChangeSpec := { name := "fnExprOf", fn := fun _ => fun
  | [d1, d2] => { results := [.lit (.bool true)], args := [d1, d2] }
  | _ => none }
def fnExprOfRow : OpenClaim := { program := "ytehmjmjedopkkaagreat", sum := "2e23057d5bb845a9c642eda7f2807f755a0b2183341a798a773067044a4211b9", func := "loop.example/regularlanguages/laws.FnExprOf", spec := "fnExprOf", unfollowed := true, recurses := true, plainKeys := false, apart := false }
def FnExprOfSaid : Prop := fnExprOfRow.holds Tryz.pinned (OpenSpec.ofChange fnExprOfSpec)

/-- ITS FALSE NEIGHBOUR: 'it returns false'. Refute it at one input. -/
def fnExprOfWrong : ChangeSpec := { name := "fnExprOf", fn := fun _ => fun
  | [d1, d2] => { results := [.lit (.bool false)], args := [d1, d2] }
  | _ => none }
def FnExprOfWrongFalsely : Prop := fnExprOfRow.holds Tryz.pinned (OpenSpec.ofChange fnExprOfWrong)

/-- 'laws.FnExprOther': WHATEVER THE INPUT: true; the input reads as it did. -/
def fnExprOtherSpec : ChangeSpec := { name := "fnExprOther", fn := fun _ => fun
  | [d] => { results := [.lit (.bool true)], args := [d] }
  | _ => none }
def fnExprOtherRow : OpenClaim := { program := "ytehmjmjedopkkaagreat", sum := "2e23057d5bb845a9c642eda7f2807f755a0b2183341a798a773067044a4211b9", func := "loop.example/regularlanguages/laws.FnExprOther", spec := "fnExprOther", unfollowed := true, recurses := true, plainKeys := false, apart := false }
def FnExprOtherSaid : Prop := fnExprOtherRow.holds Tryz.pinned (OpenSpec.ofChange fnExprOtherSpec)

/-- ITS FALSE NEIGHBOUR: 'it returns false'. Refute it at one input. -/
def fnExprOtherWrong : ChangeSpec := { name := "fnExprOther", fn := fun _ => fun
  | [d] => { results := [.lit (.bool false)], args := [d] }
  | _ => none }
def FnExprOtherWrongFalsely : Prop := fnExprOtherRow.holds Tryz.pinned (OpenSpec.ofChange fnExprOtherWrong)

/- THE SECOND FORM. 'bulk': how many values and letters a reading holds, each counted each time it is reached (what is shared counts as often as it is met; a slice's spare places count too). A statement '..UptoSaid' is the law's where the arguments, and the package variables that the reading takes, are together of bulk at most 1048576: NARROWER than '..Said'. Prove '..Said' where nothing that the law and all that it calls make is longer than what came in: it says more and counts as full. Else prove '..UptoSaid'. A law counts once. -/
mutual
def uptoBulk {H : Type} : DataW H → Nat
  | .lit (.string bytes) => bytes.length + 1
  | .lit _ => 1
  | .nil => 1
  | .ptr d => uptoBulk d + 1
  | .slice elems spare => uptoBulkAll elems + uptoBulkAll spare + 1
  | .agg parts => uptoBulkAll parts + 1
  | .iface _ d => uptoBulk d + 1
  | .map entries => uptoBulkEntries entries + 1
  | .held _ => 1
def uptoBulkAll {H : Type} : List (DataW H) → Nat
  | [] => 0
  | d :: r => uptoBulk d + uptoBulkAll r
def uptoBulkEntries {H : Type} : List (Lit × DataW H) → Nat
  | [] => 0
  | x :: r => uptoBulkEntry x + uptoBulkEntries r
def uptoBulkEntry {H : Type} : Lit × DataW H → Nat
  | (.string bytes, d) => bytes.length + uptoBulk d + 1
  | (_, d) => uptoBulk d + 1
 end
def uptoSmall : (H : Type) → List (DataW H) → Bool := fun _ ds => decide (uptoBulkAll ds ≤ 1048576)
def OpenSpec.upto (s : _root_.Go.ChangeSpec) : _root_.Go.OpenSpec := { _root_.Go.OpenSpec.ofChange s with cond := some uptoSmall }

/-- 'laws.FnDeriveAfter', WHERE WHAT IT READS IS OF BULK AT MOST 1048576: true; the input reads as it did. -/
def fnDeriveAfterUptoRow : OpenClaim := { program := "ytehmjmjedopkkaagreat", sum := "2e23057d5bb845a9c642eda7f2807f755a0b2183341a798a773067044a4211b9", func := "loop.example/regularlanguages/laws.FnDeriveAfter", spec := "fnDeriveAfter", unfollowed := true, recurses := true, plainKeys := false, apart := false, narrowed := true }
def FnDeriveAfterUptoSaid : Prop := fnDeriveAfterUptoRow.holds Tryz.pinned (OpenSpec.upto fnDeriveAfterSpec)

/-- 'laws.FnExprOf', WHERE WHAT IT READS IS OF BULK AT MOST 1048576: true; the input reads as it did. -/
def fnExprOfUptoRow : OpenClaim := { program := "ytehmjmjedopkkaagreat", sum := "2e23057d5bb845a9c642eda7f2807f755a0b2183341a798a773067044a4211b9", func := "loop.example/regularlanguages/laws.FnExprOf", spec := "fnExprOf", unfollowed := true, recurses := true, plainKeys := false, apart := false, narrowed := true }
def FnExprOfUptoSaid : Prop := fnExprOfUptoRow.holds Tryz.pinned (OpenSpec.upto fnExprOfSpec)

/-- 'laws.FnExprOther', WHERE WHAT IT READS IS OF BULK AT MOST 1048576: true; the input reads as it did. -/
def fnExprOtherUptoRow : OpenClaim := { program := "ytehmjmjedopkkaagreat", sum := "2e23057d5bb845a9c642eda7f2807f755a0b2183341a798a773067044a4211b9", func := "loop.example/regularlanguages/laws.FnExprOther", spec := "fnExprOther", unfollowed := true, recurses := true, plainKeys := false, apart := false, narrowed := true }
def FnExprOtherUptoSaid : Prop := fnExprOtherUptoRow.holds Tryz.pinned (OpenSpec.upto fnExprOtherSpec)

end Rows
end Go.Proofs.YtehmjmjedopkkaaGreat
