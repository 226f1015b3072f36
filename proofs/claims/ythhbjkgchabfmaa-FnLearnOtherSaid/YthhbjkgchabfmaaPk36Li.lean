/-
  The walks over the program's GuessCount, GuessStates and LearnDfa.
  Conditions: the automaton reads as such; J is the number of the guess that does not differ.
-/
import Derived.Test.YthhbjkgchabfmaaPk28Li
namespace Go.Proofs.Ythhbjkgchabfmaa
open Go.RowKit
theorem lastG_lt {d : DfaD} {J : Nat} (hd : dfaOk d.next d.ends = true) (h : lastG d J) : J < 40 := tab_lt hd (hitD_ok d) (h hd).2
end Go.Proofs.Ythhbjkgchabfmaa
