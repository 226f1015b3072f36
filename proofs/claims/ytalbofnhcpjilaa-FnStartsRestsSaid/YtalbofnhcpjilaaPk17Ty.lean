/-
  The walk over the reference's TurnTwice.
  Condition: the automaton reads as such.
-/
import Derived.Test.YtalbofnhcpjilaaPk03Mk
namespace Go.Proofs.Ytalbofnhcpjilaa
open Go.RowKit
theorem dfaR_lens {B : Nat} {w : World} {a1 a2 : Option Addr} {l1 c1 l2 c2 : Nat} {D : DfaD} (h : DfaR B w (.agg #[.slice a1 l1 c1, .slice a2 l2 c2]) D) : l1 = D.next.length ∧ l2 = D.ends.length := by
 obtain ⟨q1, q2, hq, hd1, hd2⟩ := h
 simp only [Value.agg.injEq] at hq
 have e1 := congrArg (fun (l : Array Value) => l[0]?) hq
 have e2 := congrArg (fun (l : Array Value) => l[1]?) hq
 simp at e1 e2
 subst e1
 subst e2
 obtain ⟨_, _, h1, -⟩ := hd1.form
 obtain ⟨_, _, h2, -⟩ := hd2.form
 simp only [Value.slice.injEq] at h1 h2
 exact ⟨h1.2.1, h2.2.1⟩
theorem specDfaValidD2_any (d : DfaD) (v : Value) (w : World) (h : DfaR 0 w v d) (r : Bool) (hr : dfaOk d.next d.ends = r) :
  Calls Try.prog 38 #[v] w fun e w' => e = .returned (.bool r) ∧ Below w.heap.size w w' := by
 obtain ⟨v1, v2, rfl, q1, q2⟩ := h
 exact specDfaValid_any d.next d.ends v1 v2 w q1 q2 r hr
def forty' : Nat := 40
end Go.Proofs.Ytalbofnhcpjilaa
