/-
  The walks over the functions that lead two automata side by side.
  Conditions: the automata lie in two variables, read as such and are valid; the states are states of theirs.
-/
import Derived.Test.YtjcegbcmomfgaaaCp
import Derived.Test.YtjcegbcmomfgaaaFwp
namespace Go.Proofs.Ytjcegbcmomfgaaa
open Go.RowKit

/-- A cell of a valid automaton's table. -/
theorem dfa_cell {w : World} {v1 : Value} {next : List (List Int)} {ends : List Bool} (h : IntSS 0 w v1 next) (hd : dfaOk next ends = true) {i c : Nat} (hi : i < next.length) (hc : c < 3) :
    ∃ q o cap z t s, v1 = .slice (some ⟨q, o, none⟩) next.length cap ∧ next.length ≤ cap ∧ cap ≤ 9223372036854775807 ∧ w.cell? ⟨q, o + i, none⟩ = some (.slice (some ⟨z, t, none⟩) 3 s) ∧ 3 ≤ s ∧ s ≤ 9223372036854775807 ∧
      w.cell? ⟨z, t + c, none⟩ = some (.int .i64 ((next.getD i []).getD c 0)) ∧ q < w.heap.size ∧ z < w.heap.size := by
  obtain ⟨a, cap, rfl, h1, h2, h3⟩ := h.form
  obtain ⟨q, o, rfl, _, hq, hr⟩ := h3 (by omega)
  obtain ⟨a', s, e1, e2, e3, e4⟩ := hr i hi
  obtain ⟨hl, _⟩ := dfaOk_row hd hi
  rw [hl] at e1 e2 e4
  obtain ⟨z, t, rfl, _, hz, e5⟩ := e4 (by omega)
  exact ⟨q, o, cap, z, t, s, rfl, h1, h2, e1, e2, e3, e5 c hc, hq, hz⟩
theorem bool_cell {w : World} {v1 : Value} {xs : List Bool} (h : Bools 0 w v1 xs) {i : Nat} (hi : i < xs.length) :
    ∃ q o cap, v1 = .slice (some ⟨q, o, none⟩) xs.length cap ∧ xs.length ≤ cap ∧ cap ≤ 9223372036854775807 ∧ w.cell? ⟨q, o + i, none⟩ = some (.bool (xs.getD i false)) ∧ q < w.heap.size := by
  obtain ⟨a, cap, rfl, h1, h2, h3⟩ := h.form
  obtain ⟨q, o, rfl, _, hq, hr⟩ := h3 (by omega)
  exact ⟨q, o, cap, rfl, h1, h2, hr i hi, hq⟩
theorem inPair_nat {a b : DfaD} {p : Int × Int} (h : inPair a b p = true) : ∃ i j : Nat, p = ((i : Int), (j : Int)) ∧ i < a.next.length ∧ j < b.next.length := by
  unfold inPair at h
  rw [Bool.and_eq_true] at h
  obtain ⟨x, y⟩ := p
  obtain ⟨h1, h2⟩ := inB_true h.1
  obtain ⟨h3, h4⟩ := inB_true h.2
  simp only at h1 h2 h3 h4
  obtain ⟨i, rfl⟩ := Int.eq_ofNat_of_zero_le h1
  obtain ⟨j, rfl⟩ := Int.eq_ofNat_of_zero_le h3
  exact ⟨i, j, rfl, by omega, by omega⟩
/-- An automaton in a variable. -/
def DfaAt (w : World) (b : Nat) (d : DfaD) : Prop := ∃ v1 v2, Bx w b #[v1, v2] 33 ∧ IntSS 0 w v1 d.next ∧ Bools 0 w v2 d.ends
theorem DfaAt.below {w w' : World} {b : Nat} {d : DfaD} (h : DfaAt w b d) (hb : Below w.heap.size w w') : DfaAt w' b d := by
  obtain ⟨v1, v2, h1, h2, h3⟩ := h
  exact ⟨v1, v2, h1.below hb h1.lt, h2.below hb, h3.below hb⟩



/-- What the pair's ends are for a function of two truth values. -/
def endsF (f : Bool → Bool → Bool) (a b : DfaD) (p : Int × Int) : Bool := f (a.ends.getD p.1.toNat false) (b.ends.getD p.2.toNat false)
end Go.Proofs.Ytjcegbcmomfgaaa
