/-
  The walk over the reference's automaton of sets of states: l9Dfa.
  Conditions: there are m states, at most 40; moves, first and last states lie below; the automaton reads as such.
  The walks over Determinize, of the program and of the reference.
  Conditions: the automaton reads as such.
-/
import Derived.Test.YthhbjkgchabfmaaPk05Tw
import Derived.Test.YthhbjkgchabfmaaPk33Det
namespace Go.Proofs.Ythhbjkgchabfmaa
open Go.RowKit Go.Maps

def RDetS (n : NfaD) (K B : Nat) (e : Ending) (w' : World) : Prop :=
  if (metS n K).length ≤ K then
    ∃ a1 l1 c1 a2 l2 c2, e = .returned (.tuple #[.agg #[.slice a1 l1 c1, .slice a2 l2 c2], .bool true]) ∧ DfaR B w' (.agg #[.slice a1 l1 c1, .slice a2 l2 c2]) (numDfa (nxS n) (enS n) (metS n K))
  else e = .returned (.tuple #[.agg #[.slice none 0 0, .slice none 0 0], .bool false])
theorem l9Dfa_any (m K : Nat) (hK : K = 40) (mvs : List (Int × Int × Int)) (fs es : List Int) (v1 v2 v3 : Value) (w : World) (hm : m ≤ 40) (hmv : mvIn m mvs) (hml : mvs.length ≤ 1000000) (hf : inN m fs) (hfl : fs.length ≤ 1000000) (he : inN m es) (hel : es.length ≤ 1000000) (h1 : Moves 0 w v1 mvs) (h2 : Ints 0 w v2 fs) (h3 : Ints 0 w v3 es) :
    Calls Try.prog 75 #[.agg #[.int .i64 (m : Int), v1, v2, v3]] w fun e w' => RDetS ⟨(m : Int), mvs, fs, es⟩ K w.heap.size e w' ∧ Below w.heap.size w w' :=
  l9DfaM_any 40 (by omega) m K hK mvs fs es v1 v2 v3 w hm hmv hml hf hfl he hel h1 h2 h3
end Go.Proofs.Ythhbjkgchabfmaa
namespace Go.Proofs.Ythhbjkgchabfmaa
open Go.RowKit Go.Maps




end Go.Proofs.Ythhbjkgchabfmaa
