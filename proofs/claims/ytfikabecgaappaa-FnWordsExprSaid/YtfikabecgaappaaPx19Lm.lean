/-
  The walk over the reference's l20Make: an expression is drawn; how many parts and draws at most.
  Conditions: the reader is among the things that the call owns; the depth is at most 3.
-/
import Derived.Test.YtfikabecgaappaaPx01Prod
namespace Go.Proofs.Ytfikabecgaappaa
open Go.RowKit
theorem Za9 {w:World} {B e:Nat} {v:Value} {xs:List (Int × Int)} (hr:w.ownsRow B e 2 v xs.length (xs.flatMap Zad)):Pairs 0 w v xs :=
 ((Zaa hr).sl (by omega)).mono (Nat.zero_le _)
end Go.Proofs.Ytfikabecgaappaa
