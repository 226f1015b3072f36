/-
  The walk over the reference's TurnTwice.
  Condition: the automaton reads as such.
-/
import Derived.Test.YtehmjmjedopkkaaGreatPn01Dvi
namespace Go.Proofs.YtehmjmjedopkkaaGreat
open Go.RowKit
theorem ZdS (d:DfaD) (v:Value) (w:World) (h:DfaR 0 w v d) (r:Bool) (hr:Zaf d.next d.ends=r) :
  Calls Tryz.prog 47 #[v] w fun e w'=>e = .returned (.bool r)∧Below w.heap.size w w':=by
 obtain⟨v1,v2,rfl,q1,q2⟩:=h;exact Zbk d.next d.ends v1 v2 w q1 q2 r hr
end Go.Proofs.YtehmjmjedopkkaaGreat
