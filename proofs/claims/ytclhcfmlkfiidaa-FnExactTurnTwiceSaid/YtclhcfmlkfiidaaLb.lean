/-
  Small facts for the walks over the laws: sizes of automata; what lies outside the blocks that are written.
  No condition: this text speaks of no program but by the numbers of its types.
-/
import Derived.Test.YtclhcfmlkfiidaaSz
import Derived.Test.YtclhcfmlkfiidaaTo
import Derived.Test.YtclhcfmlkfiidaaMk
import Derived.Test.YtclhcfmlkfiidaaFwp
namespace Go.Proofs.Ytclhcfmlkfiidaa
open Go.RowKit

theorem le_sum_of_mem {l : List Nat} {x : Nat} (h : x ∈ l) : x ≤ l.sum := by
  induction l with
  | nil => simp at h
  | cons a l ih =>
    simp only [List.sum_cons]
    rcases List.mem_cons.1 h with rfl | h
    · omega
    · have := ih h; omega
theorem small_of_tot {d : DfaD} {n : Int} (h : (totDfa d.next d.ends : Int) ≤ n) (hn : n ≤ 1048576) : small d := by
  unfold totDfa totSS at h
  refine ⟨by omega, fun i hi => ?_, by omega⟩
  have : (d.next.getD i []).length ≤ (d.next.map List.length).sum := le_sum_of_mem (List.mem_map.2 ⟨_, memD hi, rfl⟩)
  omega

theorem DfaR.shape {B : Nat} {w : World} {v : Value} {d : DfaD} (h : DfaR B w v d) : ∃ a1 c1 a2 c2, v = .agg #[.slice a1 d.next.length c1, .slice a2 d.ends.length c2] := by
  obtain ⟨u1, u2, rfl, g1, g2⟩ := h
  obtain ⟨a1, c1, rfl, -⟩ := g1.form
  obtain ⟨a2, c2, rfl, -⟩ := g2.form
  exact ⟨_, _, _, _, rfl⟩

theorem big_of_small {d : DfaD} {n : Int} (h : (totDfa d.next d.ends : Int) ≤ n) (hn : n ≤ 1048576) : d.next.length ≤ 100000000 ∧ sumLen d.next ≤ 100000000 ∧ d.ends.length ≤ 100000000 ∧ totD d ≤ 1048576 := by
  unfold totDfa totSS at h
  unfold totD sumLen
  omega
theorem Bx.only {lo hi b : Nat} {w w' : World} {cs : Array Value} {T : TypeId} (h : Bx w b cs T) (ho : Only lo hi w w') (hd : b < lo ∨ hi ≤ b) : Bx w' b cs T := (ho.block b h.lt hd).trans h
theorem DfaO.only {tS tI tB lo hi lo' hi' : Nat} {w w' : World} {v : Value} {d : DfaD} (h : DfaO tS tI tB lo hi w v d) (ho : Only lo' hi' w w') (hd : hi ≤ lo' ∨ hi' ≤ lo) : DfaO tS tI tB lo hi w' v d := by
  obtain ⟨v1, v2, hv, h1, h2⟩ := h
  exact ⟨v1, v2, hv, h1.only ho hd, h2.only ho hd⟩
theorem DfaO.below {tS tI tB lo hi : Nat} {w w' : World} {v : Value} {d : DfaD} (h : DfaO tS tI tB lo hi w v d) (hb : Below w.heap.size w w') : DfaO tS tI tB lo hi w' v d := by
  obtain ⟨v1, v2, hv, h1, h2⟩ := h
  exact ⟨v1, v2, hv, h1.below hb, Own.below h2 hb⟩
end Go.Proofs.Ytclhcfmlkfiidaa
