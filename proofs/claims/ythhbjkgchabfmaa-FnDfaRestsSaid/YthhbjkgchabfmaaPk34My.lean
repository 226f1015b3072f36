/-
  Smallest automata, plain: states of one class are those with the same words behind them; two automata with the same language have the same smallest automaton.
  No condition: this text speaks of no program.
-/
import Derived.Test.YthhbjkgchabfmaaPk05Lr
namespace Go.Proofs.Ythhbjkgchabfmaa
open Go.RowKit
theorem runD_nil (d : DfaD) (s : Int) : runD d s [] = s := rfl
end Go.Proofs.Ythhbjkgchabfmaa
