/-
  Words through an automaton with choices: impl.Nfa.run, impl.NfaAccepts, impl.NfaRun and spec.NfaRun.
  Conditions: the automaton is readable, the word is a text of bytes.
-/
import Derived.Test.YtfikabecgaappaaGreatPr05Lp
namespace Go.Proofs.YtfikabecgaappaaGreat
open Go.RowKit
def lets (l:List Nat):List Nat:=l.map (·-97)
end Go.Proofs.YtfikabecgaappaaGreat
