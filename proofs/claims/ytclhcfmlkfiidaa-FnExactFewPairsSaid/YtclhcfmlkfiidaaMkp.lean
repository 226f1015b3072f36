/-
  What MakePairs of the program and of the reference hand back, in one form.
  Conditions: the automata read as such.
-/
import Derived.Test.YtclhcfmlkfiidaaSmp
namespace Go.Proofs.Ytclhcfmlkfiidaa
open Go.RowKit Go.Maps

theorem specMk_any (a b : DfaD) (F : List (Int × Int)) (fb : Bool) (hF : (makeP a b).getD [] = F) (hfb : (makeP a b).isSome = fb) (v1 v2 : Value) (w : World) (h1 : DfaR 0 w v1 a) (h2 : DfaR 0 w v2 b) :
    Calls Try.prog 37 #[v1, v2] w fun e w' => (∃ aw cw, e = .returned (.tuple #[.slice aw F.length cw, .bool fb]) ∧ Pairs 0 w' (.slice aw F.length cw) F) ∧ Below w.heap.size w w' := by
  subst hF hfb
  refine (specMakePairs_any a b v1 v2 w h1 h2).mono fun e w' ⟨⟨aw, cw, h3, h4⟩, hb⟩ => ⟨⟨aw, cw, h3, h4.mono (Nat.zero_le _)⟩, hb⟩
theorem specMkB_any (a b : DfaD) (F : List (Int × Int)) (fb : Bool) (hF : (makeP a b).getD [] = F) (hfb : (makeP a b).isSome = fb) (v1 v2 : Value) (w : World) (h1 : DfaR 0 w v1 a) (h2 : DfaR 0 w v2 b) :
    Calls Try.prog 37 #[v1, v2] w fun e w' => (∃ aw cw, e = .returned (.tuple #[.slice aw F.length cw, .bool fb]) ∧ Pairs w.heap.size w' (.slice aw F.length cw) F) ∧ Below w.heap.size w w' := by
  subst hF hfb
  exact specMakePairs_any a b v1 v2 w h1 h2
/-- A slice where nothing of its blocks has turned. -/
theorem Sl.kept {B B' : Nat} {w w' : World} {v : Value} {n size : Nat} {cs : List Value} (h : Sl B w v n size cs) (hB : B' ≤ B) (hs : w.heap.size ≤ w'.heap.size) (hk : ∀ k, B ≤ k → k < w.heap.size → w'.heap[k]? = w.heap[k]?) : Sl B' w' v n size cs := by
  obtain ⟨hl, a, cap, hv, h1, h2, h3⟩ := h
  refine ⟨hl, a, cap, hv, h1, h2, fun hn => ?_⟩
  obtain ⟨b, off, ha, hb, hlt, hc⟩ := h3 hn
  refine ⟨b, off, ha, by omega, by omega, fun j hj => ?_⟩
  rw [← hc j hj]
  exact World.cell?_of_block (hk b hb hlt)
theorem implMk_any (a b : DfaD) (F : List (Int × Int)) (fb : Bool) (hF : (makeP a b).getD [] = F) (hfb : (makeP a b).isSome = fb) (v1 v2 : Value) (w : World) (h1 : DfaR 0 w v1 a) (h2 : DfaR 0 w v2 b) :
    Calls Try.prog 43 #[v1, v2] w fun e w' => (∃ aw cw, e = .returned (.tuple #[.slice aw F.length cw, .bool fb]) ∧ OPairs 55 w.heap.size w'.heap.size w' (.slice aw F.length cw) F) ∧ Below w.heap.size w w' := by
  subst hF hfb
  refine (implMakePairs_any a b v1 v2 w h1 h2).mono fun e w' h => ⟨?_, h.2⟩
  have h' := h.1
  unfold RMp at h'
  split at h'
  · rename_i ho
    rw [ho]
    exact ⟨none, 0, h', ⟨⟨rfl, .inl ⟨rfl, rfl⟩⟩, fun k hk => by cases hk⟩⟩
  · rename_i F ho
    rw [ho]
    exact h'
theorem makeK_len (K : Nat) (a b : DfaD) : ((if sameB a b = true then some (metP a b K) else none).getD []).length ≤ 1600 := by
  by_cases h : sameB a b = true
  · rw [if_pos h]
    obtain ⟨hda, hdb⟩ := sameB_parts h
    rw [Option.getD_some]
    exact metP_len hda hdb K
  · rw [if_neg h, Option.getD_none]
    simp
theorem makeP_eq (a b : DfaD) : makeP a b = if sameB a b = true then some (metP a b mostP) else none := rfl
theorem makeP_len (a b : DfaD) : ((makeP a b).getD []).length ≤ 1600 := by
  rw [makeP_eq]
  exact makeK_len mostP a b
end Go.Proofs.Ytclhcfmlkfiidaa
