/-
  The walk over the program's combine.
  Conditions: the kind is that of an operation with two operands; the automata read as such and are valid.
-/
import Derived.Test.YtalbofnhcpjilaaPk29Wfe
import Derived.Test.YtalbofnhcpjilaaPk30L16
import Derived.Test.YtalbofnhcpjilaaPk31Pg
namespace Go.Proofs.Ytalbofnhcpjilaa
open Go.RowKit
def NfaT (n : NfaD) (v1 v2 v3 : Value) : Ent := Ent.all [Ent.row 124 3 v1 n.moves.length (n.moves.flatMap moveCells), Ent.row 3 1 v2 n.firsts.length (intCells n.firsts), Ent.row 3 1 v3 n.ends.length (intCells n.ends)]
def RNfaT (n : NfaD) (w : World) (e : Ending) (w' : World) : Prop := ∃ a1 c1 a2 c2 a3 c3, e = .returned (.agg #[.int .i64 n.states, .slice a1 n.moves.length c1, .slice a2 n.firsts.length c2, .slice a3 n.ends.length c3]) ∧
 St w w' [NfaT n (.slice a1 n.moves.length c1) (.slice a2 n.firsts.length c2) (.slice a3 n.ends.length c3)]
theorem RNfaS.t {n : NfaD} {w : World} {e : Ending} {w' : World} (h : RNfaS n w e w') : RNfaT n w e w' := by
 obtain ⟨a1, c1, a2, c2, a3, c3, rfl, hS⟩ := h
 exact ⟨a1, c1, a2, c2, a3, c3, rfl, St.pack (A := []) hS⟩
def DfaX (B0 B H : Nat) (v1 v2 : Value) (D : DfaD) : Ent := ⟨(DfaV B H v1 v2 D).foot, fun u => B0 ≤ B ∧ (DfaV B H v1 v2 D).holds u, fun a b h hk => ⟨h.1, (DfaV B H v1 v2 D).stable a b h.2 hk⟩⟩
theorem St.dfaX {w0 w w' : World} {L : List Ent} (h : St w0 w L) (hb : Below w.heap.size w w') {v1 v2 : Value} {D : DfaD} (hr : DfaR w.heap.size w' (.agg #[v1, v2]) D) : St w0 w' (L ++ [DfaX w0.heap.size w.heap.size w'.heap.size v1 v2 D]) :=
 h.add hb _ ⟨h.size, w', rfl, hr, fun _ _ _ => rfl⟩ fun _ hk => hk
theorem St.dfaXr {w0 w : World} {L : List Ent} (h : St w0 w L) (i : Nat) {B0 B H : Nat} {v1 v2 : Value} {D : DfaD} (hx : L[i]? = some (DfaX B0 B H v1 v2 D)) : DfaR B0 w (.agg #[v1, v2]) D := by
 have hE := h.has i _ hx
 obtain ⟨⟨hB, w', h1, ⟨x1, x2, hv, ⟨vs, h2, h3⟩, h4⟩, h5⟩, hf⟩ := hE
 simp only [Value.agg.injEq, Array.mk.injEq, List.cons.injEq, and_true] at hv
 obtain ⟨rfl, rfl⟩ := hv
 by_cases hlt : B < H
 ·have hs : w'.heap.size ≤ w.heap.size := by
   have : H - 1 < w.heap.size := (hf (H - 1) (show B ≤ H - 1 ∧ H - 1 < H by omega)).2
   omega
  have hk : ∀ k, B ≤ k → k < w'.heap.size → w.heap[k]? = w'.heap[k]? := fun k p q => h5 k p (by omega)
  exact ⟨_, _, rfl, ⟨vs, h2.keptJ hB hs hk, fun i hi => Sl.keptJ (h3 i hi) hB hs hk⟩, Sl.keptJ h4 hB hs hk⟩
 ·have hno : ∀ {v : Value} {n size : Nat} {cs : List Value}, Sl B w' v n size cs → 0 < size → Sl B0 w v n size cs := fun {v n size cs} hs hz => by
   obtain ⟨g1, a, cap, g2, g3, g4, g5⟩ := hs
   refine ⟨g1, a, cap, g2, g3, g4, fun hn => ?_⟩
   obtain ⟨b, off, -, p, q, -⟩ := g5 hn
   omega
  exact ⟨_, _, rfl, ⟨vs, hno h2 (by omega), fun i hi => hno (h3 i hi) (by omega)⟩, hno h4 (by omega)⟩
def RTs (D : DfaD) (fb : Bool) (w : World) (e : Ending) (w' : World) : Prop := ∃ a1 c1 a2 c2, e = .returned (.tuple #[.agg #[.slice a1 D.next.length c1, .slice a2 D.ends.length c2], .bool fb]) ∧ DfaR w.heap.size w' (.agg #[.slice a1 D.next.length c1, .slice a2 D.ends.length c2]) D ∧ Below w.heap.size w w'
theorem RTt.s {D : DfaD} {fb : Bool} {w : World} {e : Ending} {w' : World} (h : RTt D fb w.heap.size e w' ∧ Below w.heap.size w w') : RTs D fb w e w' := by
 obtain ⟨⟨a1, c1, a2, c2, rfl, h1⟩, h2⟩ := h
 exact ⟨a1, c1, a2, c2, rfl, h1.r, h2⟩
end Go.Proofs.Ytalbofnhcpjilaa
