/-
  A valid automaton's memory, laid open; automata as results.
  No condition.
-/
import Derived.Test.YthhbjkgchabfmaaPk06Mi
namespace Go.Proofs.Ythhbjkgchabfmaa
open Go.RowKit
structure DfaC (w : World) (d : DfaD) (b1 o1 cv b2 o2 cw : Nat) : Prop where
  l1 : 1 ≤ d.next.length
  l2 : d.next.length ≤ 40
  le : d.ends.length = d.next.length
  c1 : d.next.length ≤ cv ∧ cv ≤ 9223372036854775807
  c2 : d.next.length ≤ cw ∧ cw ≤ 9223372036854775807
  hb1 : b1 < w.heap.size
  hb2 : b2 < w.heap.size
  row : ∀ i, i < d.next.length → ∃ b3 o3 c3, b3 < w.heap.size ∧ 3 ≤ c3 ∧ c3 ≤ 9223372036854775807 ∧ w.cell? ⟨b1, o1 + i, none⟩ = some (.slice (some ⟨b3, o3, none⟩) 3 c3) ∧ ∀ c, c < 3 → w.cell? ⟨b3, o3 + c, none⟩ = some (.int .i64 (nxD d i c : Nat))
  en : ∀ i, i < d.next.length → w.cell? ⟨b2, o2 + i, none⟩ = some (.bool (enD d i))
  lt : ∀ i c, i < d.next.length → c < 3 → nxD d i c < d.next.length
  dx : ∀ i c, i < d.next.length → c < 3 → dnx d (i : Int) c = (nxD d i c : Nat)
theorem dfa_open {d : DfaD} {w : World} {v : Value} (hd : dfaOk d.next d.ends = true) (h : DfaR 0 w v d) : ∃ b1 o1 cv b2 o2 cw, v = .agg #[.slice (some ⟨b1, o1, none⟩) d.next.length cv, .slice (some ⟨b2, o2, none⟩) d.next.length cw] ∧ DfaC w d b1 o1 cv b2 o2 cw := by
  obtain ⟨v1, v2, rfl, q1, q2⟩ := h
  have hf := fine_of hd
  obtain ⟨hl1, hl2, hle⟩ := dfaOk_len hd
  obtain ⟨av, cv, rfl, hc1, hc2, hr1⟩ := q1.formI
  obtain ⟨b1, o1, rfl, -, hb1, hcs1⟩ := hr1 (by omega)
  obtain ⟨av2, cw, rfl, hc3, hc4, hr2⟩ := q2.form
  rw [hle] at hc3 hr2
  obtain ⟨b2, o2, rfl, -, hb2, hcs2⟩ := hr2 (by omega)
  rw [hle]
  refine ⟨b1, o1, cv, b2, o2, cw, rfl, hl1, hl2, hle, ⟨hc1, hc2⟩, ⟨hc3, hc4⟩, hb1, hb2, fun i hi => ?_, fun i hi => hcs2 i hi, fun i c hi hc => (nxD_lt hf hi hc).1, fun i c hi hc => (nxD_lt hf hi hc).2⟩
  obtain ⟨ax, cx, hks, p1, p2, hIs⟩ := hcs1 i hi
  have hr3 := (dfaOk_row hd hi).1
  rw [hr3] at hks hIs p1
  obtain ⟨_, _, hform, -, -, hrs⟩ := hIs.form
  rw [hr3] at hform hrs
  simp only [Value.slice.injEq, true_and] at hform
  obtain ⟨rfl, rfl⟩ := hform
  obtain ⟨b3, o3, rfl, -, hb3, hcs3⟩ := hrs (by omega)
  refine ⟨b3, o3, cx, hb3, p1, p2, hks, fun c hc => ?_⟩
  rw [hcs3 c hc]
  have hyx := (nxD_lt hf hi hc).2
  unfold dnx at hyx
  rw [Int.toNat_natCast] at hyx
  rw [hyx]
def RD (D : DfaD) (w : World) (e : Ending) (w' : World) : Prop := ∃ a1 c1 a2 c2, e = .returned (.agg #[.slice a1 D.next.length c1, .slice a2 D.ends.length c2]) ∧ DfaR w.heap.size w' (.agg #[.slice a1 D.next.length c1, .slice a2 D.ends.length c2]) D ∧ Below w.heap.size w w'
theorem DfaC.below {w w' : World} {d : DfaD} {b1 o1 cv b2 o2 cw : Nat} (h : DfaC w d b1 o1 cv b2 o2 cw) (hb : Below w.heap.size w w') : DfaC w' d b1 o1 cv b2 o2 cw where
  l1 := h.l1
  l2 := h.l2
  le := h.le
  c1 := h.c1
  c2 := h.c2
  hb1 := Nat.lt_of_lt_of_le h.hb1 hb.size
  hb2 := Nat.lt_of_lt_of_le h.hb2 hb.size
  row := fun i hi => by
    obtain ⟨b3, o3, c3, p1, p2, p3, p4, p5⟩ := h.row i hi
    exact ⟨b3, o3, c3, Nat.lt_of_lt_of_le p1 hb.size, p2, p3, (bcell hb b1 _ h.hb1).trans p4, fun c hc => (bcell hb b3 _ p1).trans (p5 c hc)⟩
  en := fun i hi => (bcell hb b2 _ h.hb2).trans (h.en i hi)
  lt := h.lt
  dx := h.dx
def RDo (D : DfaD) (w : World) (e : Ending) (w' : World) : Prop := ∃ a1 c1 a2 c2, e = .returned (.agg #[.slice a1 D.next.length c1, .slice a2 D.ends.length c2]) ∧
  DfaO 29 3 4 w.heap.size w'.heap.size w' (.agg #[.slice a1 D.next.length c1, .slice a2 D.ends.length c2]) D ∧ Below w.heap.size w w'
end Go.Proofs.Ythhbjkgchabfmaa
