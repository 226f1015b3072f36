/-
  The walk over the reference's l20Make: an expression is drawn; how many parts and draws at most.
  Conditions: the reader is among the things that the call owns; the depth is at most 3.
-/
import Derived.Test.YtfgpkadhegdffaaPt01Prod
namespace Go.Proofs.Ytfgpkadhegdffaa
open Go.RowKit
theorem Zag {w:World} {B e:Nat} {v:Value} {xs:List (Int × Int)} (hr:w.ownsRow B e 2 v xs.length (xs.flatMap Zaa)):Pairs 0 w v xs :=
 ((Zaf hr).sl (by omega)).mono (Nat.zero_le _)
end Go.Proofs.Ytfgpkadhegdffaa
