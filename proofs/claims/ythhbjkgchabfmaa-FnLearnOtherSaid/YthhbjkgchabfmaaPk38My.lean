/-
  Smallest automata, plain: states of one class are those with the same words behind them; two automata with the same language have the same smallest automaton.
  No condition: this text speaks of no program.
-/
import Derived.Test.YthhbjkgchabfmaaPk21Ry
namespace Go.Proofs.Ythhbjkgchabfmaa
open Go.RowKit
theorem runD_nat {d : DfaD} (hd : fine d) : ∀ (w : List Nat) {s : Nat}, isW w → s < d.next.length → ∃ t : Nat, t < d.next.length ∧ runD d (s : Int) w = (t : Int)
  | [], s, _, hs => ⟨s, hs, rfl⟩
  | c :: w, s, hw, hs => by
    obtain ⟨h1, h2⟩ := isW_cons hw
    obtain ⟨h3, h4⟩ := fine_nx hd hs h1
    rw [runD_cons, h4]
    exact runD_nat hd w h2 h3
end Go.Proofs.Ythhbjkgchabfmaa
