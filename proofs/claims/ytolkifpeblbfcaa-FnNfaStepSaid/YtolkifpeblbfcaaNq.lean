/-
  Steps from two parts of a set of states, plain; a slice of numbers cut in two.
  No condition.
-/
import Derived.Test.YtolkifpeblbfcaaNp
import Derived.Test.YtolkifpeblbfcaaLp
namespace Go.Proofs.Ytolkifpeblbfcaa
open Go.RowKit

theorem stOk_of {l : List Int} {m : Int} (h : ∀ j, j < l.length → (0 ≤ l.getD j 0 ∧ l.getD j 0 ≤ m - 1) ∧ (0 < j → l.getD (j - 1) 0 < l.getD j 0)) : stOk l m = true := by
  unfold stOk
  rw [List.all_eq_true]
  intro j hj
  obtain ⟨h1, h2⟩ := h j (List.mem_range.1 hj)
  unfold okAt
  rw [Bool.and_eq_true, Bool.or_eq_true]
  refine ⟨by simp only [inB, Bool.and_eq_true, decide_eq_true_eq]; exact h1, ?_⟩
  by_cases h0 : j = 0
  · exact .inl (decide_eq_true h0)
  · exact .inr (decide_eq_true (h2 (by omega)))
theorem getD_take {l : List Int} {k j : Nat} (h : j < k) : (l.take k).getD j 0 = l.getD j 0 := by
  simp only [List.getD_eq_getElem?_getD, List.getElem?_take, h, ↓reduceIte]
theorem getD_drop {l : List Int} {k j : Nat} : (l.drop k).getD j 0 = l.getD (k + j) 0 := by
  simp only [List.getD_eq_getElem?_getD, List.getElem?_drop]
theorem stOk_take {l : List Int} {m : Int} (h : stOk l m = true) (k : Nat) : stOk (l.take k) m = true := by
  refine stOk_of fun j hj => ?_
  rw [List.length_take] at hj
  have := stOk_at h (j := j) (by omega)
  rw [getD_take (by omega), getD_take (show j - 1 < k by omega)]
  exact this
theorem stOk_drop {l : List Int} {m : Int} (h : stOk l m = true) (k : Nat) : stOk (l.drop k) m = true := by
  refine stOk_of fun j hj => ?_
  rw [List.length_drop] at hj
  have := stOk_at h (j := k + j) (by omega)
  rw [getD_drop, getD_drop]
  refine ⟨this.1, fun h0 => ?_⟩
  have h2 := this.2 (by omega)
  rwa [show k + j - 1 = k + (j - 1) by omega] at h2
theorem stV_mono {ms : List (Int × Int × Int)} (hm : mvIn 40 ms) {u v : Nat} (h : subV u v) (c : Nat) : subV (stV 40 ms u (c : Int)) (stV 40 ms v (c : Int)) := by
  intro t ht
  rw [stV_pth hm] at *
  obtain ⟨x, h1, h2, h3, h4⟩ := ht
  exact ⟨x, h1, h2, h _ h3, h4⟩
theorem members_mono {n u v : Nat} (h : subV u v) : (members n u).length ≤ (members n v).length := by
  unfold members
  rw [List.length_map, List.length_map]
  exact filter_le fun x _ hx => h x hx
theorem stepL_facts {n : NfaD} {L : List Int} {c : Int} (h1 : nfaOk n = true) (h2 : stOk L n.states = true) (h3 : inB c 0 2 = true) (k : Nat) :
    closeL n (stepL n L c) = stepL n L c ∧ (∀ x ∈ stepL n L c, x ∈ stepL n (L.take k) c ∨ x ∈ stepL n (L.drop k) c) ∧ (stepL n (L.take k) c).length ≤ (stepL n L c).length ∧ (stepL n (L.drop k) c).length ≤ (stepL n L c).length ∧ (stepL n L c).length ≤ 40 ∧ (L = [] → stepL n L c = []) := by
  obtain ⟨m, hm, hm40, hmv, -⟩ := nfaOk_facts h1
  have hm4 := mvIn_40 hmv hm40
  have hc : 0 ≤ c := by simp only [inB, Bool.and_eq_true, decide_eq_true_eq] at h3; omega
  obtain ⟨c, rfl⟩ := Int.eq_ofNat_of_zero_le hc
  have hlt : stV 40 n.moves (setV L) (c : Int) < 2 ^ m := stV_lt2 hmv _ _
  have hlt4 : stV 40 n.moves (setV L) (c : Int) < 2 ^ 40 := stV_lt hm4 _ _
  rw [stepL_ok h1 h2 h3, stepL_ok h1 (stOk_take h2 k) h3, stepL_ok h1 (stOk_drop h2 k) h3]
  have s1 : subV (setV (L.take k)) (setV L) := by
    intro t ht
    rw [setV_bit, List.any_eq_true] at *
    obtain ⟨x, hx, h⟩ := ht
    exact ⟨x, List.mem_of_mem_take hx, h⟩
  have s2 : subV (setV (L.drop k)) (setV L) := by
    intro t ht
    rw [setV_bit, List.any_eq_true] at *
    obtain ⟨x, hx, h⟩ := ht
    exact ⟨x, List.mem_of_mem_drop hx, h⟩
  refine ⟨?_, ?_, members_mono (stV_mono hm4 s1 c), members_mono (stV_mono hm4 s2 c), members_len 40 _, ?_⟩
  · rw [closeL_ok h1 (by rw [hm]; exact stOk_members hlt hm40), setV_members hlt4, clV_idem (stV_closed hm4 _ _)]
  · intro x hx
    rw [mem_members] at hx
    obtain ⟨t, ht, hb, rfl⟩ := hx
    rw [stV_pth hm4] at hb
    obtain ⟨y, h4, h5, h6, h7⟩ := hb
    rw [setV_bit, List.any_eq_true] at h6
    obtain ⟨s, hs, h8⟩ := h6
    rw [← List.take_append_drop k L, List.mem_append] at hs
    rcases hs with hs | hs
    · left
      rw [mem_members]
      refine ⟨t, ht, (stV_pth hm4 c).2 ⟨y, h4, h5, ?_, h7⟩, rfl⟩
      rw [setV_bit, List.any_eq_true]
      exact ⟨s, hs, h8⟩
    · right
      rw [mem_members]
      refine ⟨t, ht, (stV_pth hm4 c).2 ⟨y, h4, h5, ?_, h7⟩, rfl⟩
      rw [setV_bit, List.any_eq_true]
      exact ⟨s, hs, h8⟩
  · rintro rfl
    have h0 : stV 40 n.moves (setV []) (c : Int) = 0 := by
      apply Nat.eq_of_testBit_eq
      intro t
      rw [Nat.zero_testBit, Bool.eq_false_iff]
      intro hb
      rw [stV_pth hm4] at hb
      obtain ⟨y, -, -, h6, -⟩ := hb
      simp [setV] at h6
    rw [h0]
    decide
end Go.Proofs.Ytolkifpeblbfcaa
