/-
  The walks over the reference's l20Part and l20Expr: drawn expressions, in order or not.
  Conditions: the reader's bytes read as such, and are at most two thousand.
-/
import Derived.Test.YtehmjmjedopkkaaGreatPn01Dvi
namespace Go.Proofs.YtehmjmjedopkkaaGreat
open Go.RowKit
def PtH (E:Ent) (v:Value) (es:List (Int × Int)):Prop:=∀ w,E.holds w→(∀ k,E.foot k→k<w.heap.size)→Pairs 0 w v es
theorem PtH.r {w0 w:World} {L:List Ent} {E:Ent} {v:Value} {es:List (Int × Int)} (h:PtH E v es) (hS:St w0 w L) (i:Nat) (hx:L[i]? = some E):Pairs 0 w v es :=
 h w (hS.has i _ hx).1 fun k hk=>((hS.has i _ hx).2 k hk).2
end Go.Proofs.YtehmjmjedopkkaaGreat
