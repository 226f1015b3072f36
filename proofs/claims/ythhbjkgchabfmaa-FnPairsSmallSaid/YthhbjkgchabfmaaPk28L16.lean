/-
  The walks over the reference's l16First (for words in exactly one language), FirstDiffer, SameLanguage and MakePairs.
  Conditions: the automata read as such; for the first one they are valid.
-/
import Derived.Test.YthhbjkgchabfmaaPk26Wd
namespace Go.Proofs.Ythhbjkgchabfmaa
open Go.RowKit Go.Maps

def pairRow (p : Int × Int) : List Int := [p.1, p.2]
/-- What lies in memory while the pairs are met. -/
structure L16W (lo hi : Nat) (w : World) (s : Bs (Int × Int)) (vl vw : Value) : Prop where
  li : OIntSS 29 3 lo hi w vl (s.met.map pairRow)
  wo : w.ownsRow lo 9 1 vw s.words.length (wdCells s.words)
theorem L16W.below {lo hi : Nat} {w w' : World} {s : Bs (Int × Int)} {vl vw : Value} (h : L16W lo hi w s vl vw) (hb : Below w.heap.size w w') : L16W lo hi w' s vl vw :=
  ⟨h.li.below hb, (Own.below (own_of_row h.wo) hb).1⟩

end Go.Proofs.Ythhbjkgchabfmaa
