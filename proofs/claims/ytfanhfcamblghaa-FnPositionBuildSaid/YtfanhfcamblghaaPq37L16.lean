/-
  The walks over the reference's l16First (for words in exactly one language), FirstDiffer, SameLanguage and MakePairs.
  Conditions: the automata read as such; for the first one they are valid.
-/
import Derived.Test.YtfanhfcamblghaaPq25L16
import Derived.Test.YtfanhfcamblghaaPq30S8
namespace Go.Proofs.Ytfanhfcamblghaa
open Go.RowKit Go.Maps
theorem L16W.up {lo hi hi':Nat} {w:World} {s:Bs (Int × Int)} {vl vw:Value} (h:L16W lo hi w s vl vw) (hh:hi≤hi'):L16W lo hi' w s vl vw:=⟨h.li.mono (Nat.le_refl _) hh,h.wo⟩
end Go.Proofs.Ytfanhfcamblghaa
