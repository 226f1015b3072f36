/-
  An automaton that a call hands back, as one thing in memory; the walks over Minimize, of the program and of the reference.
  Condition: the automaton is valid and reads as such.
-/
import Derived.Test.YthhbjkgchabfmaaPk21My
namespace Go.Proofs.Ythhbjkgchabfmaa
open Go.RowKit

theorem St.dfaVr {w0 w : World} {L : List Ent} (h : St w0 w L) (i : Nat) {B H : Nat} {v1 v2 : Value} {D : DfaD} (hx : L[i]? = some (DfaV B H v1 v2 D)) : DfaR 0 w (.agg #[v1, v2]) D := by
  have hE := h.has i _ hx
  obtain ⟨⟨w', h1, ⟨x1, x2, hv, ⟨vs, h2, h3⟩, h4⟩, h5⟩, hf⟩ := hE
  simp only [Value.agg.injEq, Array.mk.injEq, List.cons.injEq, and_true] at hv
  obtain ⟨rfl, rfl⟩ := hv
  by_cases hlt : B < H
  · have hs : w'.heap.size ≤ w.heap.size := by
      have : H - 1 < w.heap.size := (hf (H - 1) (show B ≤ H - 1 ∧ H - 1 < H by omega)).2
      omega
    have hk : ∀ k, B ≤ k → k < w'.heap.size → w.heap[k]? = w'.heap[k]? := fun k p q => h5 k p (by omega)
    exact ⟨_, _, rfl, ⟨vs, h2.keptJ (Nat.zero_le _) hs hk, fun i hi => Sl.keptJ (h3 i hi) (Nat.zero_le _) hs hk⟩, Sl.keptJ h4 (Nat.zero_le _) hs hk⟩
  · have hno : ∀ {v : Value} {n size : Nat} {cs : List Value}, Sl B w' v n size cs → 0 < size → Sl 0 w v n size cs := fun {v n size cs} hs hz => by
      obtain ⟨g1, a, cap, g2, g3, g4, g5⟩ := hs
      refine ⟨g1, a, cap, g2, g3, g4, fun hn => ?_⟩
      obtain ⟨b, off, -, p, q, -⟩ := g5 hn
      omega
    exact ⟨_, _, rfl, ⟨vs, hno h2 (by omega), fun i hi => hno (h3 i hi) (by omega)⟩, hno h4 (by omega)⟩
end Go.Proofs.Ythhbjkgchabfmaa
