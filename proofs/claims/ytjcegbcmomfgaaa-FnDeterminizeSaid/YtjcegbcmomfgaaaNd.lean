/-
  Two automata with choices joined, and either of them: what the reference answers, plain.
  No condition: this text speaks of no program.
-/
import Derived.Test.YtjcegbcmomfgaaaNb
namespace Go.Proofs.Ytjcegbcmomfgaaa
open Go.RowKit

def joinN (p q : NfaD) : NfaD := ⟨(shN q p.states).states, p.moves ++ (shN q p.states).moves ++ (p.ends.flatMap fun s => (shN q p.states).firsts.map fun t => (s, -1, t)), p.firsts, (shN q p.states).ends⟩
def joinL (p q : NfaD) : NfaD × Bool := if nfaOk p = true ∧ nfaOk q = true then limN (joinN p q) else (zeN, false)
def eithN (p q : NfaD) : NfaD := ⟨(shN q p.states).states, p.moves ++ (shN q p.states).moves, p.firsts ++ (shN q p.states).firsts, p.ends ++ (shN q p.states).ends⟩
def eithL (p q : NfaD) : NfaD × Bool := if nfaOk p = true ∧ nfaOk q = true then limN (eithN p q) else (zeN, false)
end Go.Proofs.Ytjcegbcmomfgaaa
