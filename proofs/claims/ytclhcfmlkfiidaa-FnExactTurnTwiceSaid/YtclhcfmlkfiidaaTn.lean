/-
  Automata as automata with choices, turned round; plain: they are valid, and what is determinized is valid.
  No condition: this text speaks of no program.
-/
import Derived.Test.YtclhcfmlkfiidaaS11
import Derived.Test.YtclhcfmlkfiidaaLr
namespace Go.Proofs.Ytclhcfmlkfiidaa
open Go.RowKit

def rowM (d : DfaD) (s : Nat) : List (Int × Int × Int) := (List.range 3).map fun (c : Nat) => ((s : Int), (c : Int), (d.next.getD s []).getD c 0)
def mvs (d : DfaD) : Nat → List (Int × Int × Int)
  | 0 => []
  | s + 1 => mvs d s ++ rowM d s
def eds (d : DfaD) : Nat → List Int
  | 0 => []
  | s + 1 => if d.ends.getD s false = true then eds d s ++ [(s : Int)] else eds d s
def nfaOf (d : DfaD) : NfaD := ⟨d.next.length, mvs d d.next.length, [0], eds d d.next.length⟩
def turnM (m : Int × Int × Int) : Int × Int × Int := (m.2.2, m.2.1, m.1)
def turnN (n : NfaD) : NfaD := ⟨n.states, n.moves.map turnM, n.ends, n.firsts⟩
theorem rowM_len (d : DfaD) (s : Nat) : (rowM d s).length = 3 := by simp [rowM]
theorem rowM_take (d : DfaD) (s : Nat) {c : Nat} (hc : c < 3) : (rowM d s).take (c + 1) = (rowM d s).take c ++ [((s : Int), (c : Int), (d.next.getD s []).getD c 0)] := by
  rw [List.take_succ_eq_append_getElem (by rw [rowM_len]; exact hc)]
  simp [rowM]
theorem mvs_len (d : DfaD) : ∀ s, (mvs d s).length = 3 * s
  | 0 => rfl
  | s + 1 => by
    show (mvs d s ++ rowM d s).length = _
    rw [List.length_append, mvs_len d s, rowM_len]
    omega
theorem eds_len (d : DfaD) : ∀ s, (eds d s).length ≤ s
  | 0 => Nat.le_refl _
  | s + 1 => by
    have ih := eds_len d s
    unfold eds
    split
    · rw [List.length_append, List.length_singleton]; omega
    · omega
theorem eds_in (d : DfaD) : ∀ s, ∀ x ∈ eds d s, 0 ≤ x ∧ x < (s : Int)
  | 0, x, hx => by simp [eds] at hx
  | s + 1, x, hx => by
    have ih := eds_in d s
    unfold eds at hx
    split at hx
    · rcases List.mem_append.1 hx with hx | hx
      · have := ih x hx; omega
      · simp only [List.mem_singleton] at hx
        omega
    · have := ih x hx; omega
theorem mvs_in {d : DfaD} (hd : dfaOk d.next d.ends = true) : ∀ s, s ≤ d.next.length → mvIn d.next.length (mvs d s)
  | 0, _, x, hx => by simp [mvs] at hx
  | s + 1, hs, x, hx => by
    have hx : x ∈ mvs d s ++ rowM d s := hx
    rcases List.mem_append.1 hx with hx | hx
    · exact mvs_in hd s (by omega) x hx
    · obtain ⟨c, hc, rfl⟩ := List.mem_map.1 hx
      have := (dfaOk_row hd (show s < d.next.length by omega)).2 c (List.mem_range.1 hc)
      simp only
      omega
/-- What the walks over determinize ask. -/
structure DetOk (n : NfaD) (m : Nat) : Prop where
  st : n.states = (m : Int)
  m40 : m ≤ 40
  mv : mvIn m n.moves
  ml : n.moves.length ≤ 1000
  f : inN m n.firsts
  fl : n.firsts.length ≤ 1000
  e : inN m n.ends
  el : n.ends.length ≤ 1000
theorem nfaOf_det {d : DfaD} (hd : dfaOk d.next d.ends = true) : DetOk (nfaOf d) d.next.length := by
  have hl := dfaOk_len hd
  refine ⟨rfl, hl.2.1, mvs_in hd _ (Nat.le_refl _), ?_, fun x hx => ?_, by simp [nfaOf], eds_in d _, ?_⟩
  · show (mvs d d.next.length).length ≤ _
    rw [mvs_len]; omega
  · simp only [nfaOf, List.mem_singleton] at hx
    omega
  · show (eds d d.next.length).length ≤ _
    have := eds_len d d.next.length
    omega
theorem turnN_det {n : NfaD} {m : Nat} (h : DetOk n m) : DetOk (turnN n) m := by
  refine ⟨h.st, h.m40, fun x hx => ?_, by simpa [turnN] using h.ml, h.e, h.el, h.f, h.fl⟩
  obtain ⟨y, hy, rfl⟩ := List.mem_map.1 hx
  have := h.mv y hy
  exact ⟨this.2, this.1⟩
def detQK (K : Nat) (n : NfaD) : Option DfaD := if (metS n K).length ≤ K then some (numDfa (nxS n) (enS n) (metS n K)) else none
theorem detQK_ok {K : Nat} (hK : K = 40) {n : NfaD} {d : DfaD} (h : detQK K n = some d) : dfaOk d.next d.ends = true := by
  unfold detQK at h
  split at h
  · rename_i hle
    simp only [Option.some.injEq] at h
    subst h
    obtain ⟨h1, h2, h3, h4⟩ := fine_num (en := enS n) (nx := nxS n) (a := (((fstV n : Nat) : Int), 0)) hle (by omega)
    refine dfaOk_of h1 (by rw [numDfa_len]; omega) h3 fun i hi => ?_
    exact h4 i hi
  · cases h
/-- An automaton turned and determinized, once; twice. -/
def tdK (K : Nat) (d : DfaD) : Option DfaD := detQK K (turnN (nfaOf d))
def ttK (K : Nat) (d : DfaD) : Option DfaD := if dfaOk d.next d.ends = true then (tdK K d).bind (tdK K) else none
end Go.Proofs.Ytclhcfmlkfiidaa
