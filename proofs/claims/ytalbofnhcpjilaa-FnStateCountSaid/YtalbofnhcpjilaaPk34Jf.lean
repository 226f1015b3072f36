/-
  The walks over the reference's l11Dfa and CompileExpr.
  Conditions: the expression's parts read as such.
-/
import Derived.Test.YtalbofnhcpjilaaPk30Jf
namespace Go.Proofs.Ytalbofnhcpjilaa
open Go.RowKit
theorem compO_ok {K : Nat} (hK : K = 40) {es : List (Int × Int)} {d : DfaD} (h : CompO K es (some d)) : dfaOk d.next d.ends = true := by
  rcases h with ⟨-, t, -, h⟩ | ⟨-, h⟩
  · exact compE_ok hK t h
  · cases h
end Go.Proofs.Ytalbofnhcpjilaa
