/-
  The walk over the reference's TurnTwice.
  Condition: the automaton reads as such.
-/
import Derived.Test.YtalbofnhcpjilaaPk02Nvs
namespace Go.Proofs.Ytalbofnhcpjilaa
open Go.RowKit
theorem specDfaValidD2_any (d : DfaD) (v : Value) (w : World) (h : DfaR 0 w v d) (r : Bool) (hr : dfaOk d.next d.ends = r) :
    Calls Try.prog 38 #[v] w fun e w' => e = .returned (.bool r) ∧ Below w.heap.size w w' := by
  obtain ⟨v1, v2, rfl, q1, q2⟩ := h
  exact specDfaValid_any d.next d.ends v1 v2 w q1 q2 r hr
end Go.Proofs.Ytalbofnhcpjilaa
