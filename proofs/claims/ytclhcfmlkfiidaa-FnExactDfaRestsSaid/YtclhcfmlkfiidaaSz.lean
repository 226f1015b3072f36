/-
  The walks over the functions that count how large an argument is.
  Conditions: lengths fit an int, the count so far is from 0 to 1048576.
-/
import Derived.Test.YtclhcfmlkfiidaaProg
import Derived.Test.YtclhcfmlkfiidaaOwn
namespace Go.Proofs.Ytclhcfmlkfiidaa
open Go.RowKit

/-- What is left of a count behind 'tot' things; -1 if it does not suffice. -/
def szV (left : Int) (tot : Nat) : Int := if (tot : Int) ≤ left then left - tot else -1
theorem szV_yes {left : Int} {tot : Nat} (h : (tot : Int) ≤ left) : szV left tot = left - tot := if_pos h
theorem szV_no {left : Int} {tot : Nat} (h : left < (tot : Int)) : szV left tot = -1 := if_neg (by omega)

set_option maxHeartbeats 400000 in
theorem szIntS_any (a : Option Addr) (n cap : Nat) (hn : n ≤ 9223372036854775807) (left : Int) (h0 : 0 ≤ left) (h1 : left ≤ 1048576) (w : World) (r : Int) (hr : szV left n = r) :
    Calls Try.prog 66 #[.slice a n cap, .int .i64 left] w fun e w' => e = .returned (.int .i64 r) ∧ w = w' := by
  subst hr
  by_cases h : (n : Int) ≤ left
  all_goals
    go_enter Try.func66, Try.ntmps66
    go_wp2
    go_ret
    exact ⟨ret_int (by first | rw [szV_yes h] | rw [szV_no (by omega)]), rfl⟩
set_option maxHeartbeats 400000 in
theorem szBoolS_any (a : Option Addr) (n cap : Nat) (hn : n ≤ 9223372036854775807) (left : Int) (h0 : 0 ≤ left) (h1 : left ≤ 1048576) (w : World) (r : Int) (hr : szV left n = r) :
    Calls Try.prog 35 #[.slice a n cap, .int .i64 left] w fun e w' => e = .returned (.int .i64 r) ∧ w = w' := by
  subst hr
  by_cases h : (n : Int) ≤ left
  all_goals
    go_enter Try.func35, Try.ntmps35
    go_wp2
    go_ret
    exact ⟨ret_int (by first | rw [szV_yes h] | rw [szV_no (by omega)]), rfl⟩
set_option maxHeartbeats 400000 in
theorem szPairS_any (a : Option Addr) (n cap : Nat) (hn : n ≤ 9223372036854775807) (left : Int) (h0 : 0 ≤ left) (h1 : left ≤ 1048576) (w : World) (r : Int) (hr : szV left n = r) :
    Calls Try.prog 10 #[.slice a n cap, .int .i64 left] w fun e w' => e = .returned (.int .i64 r) ∧ w = w' := by
  subst hr
  by_cases h : (n : Int) ≤ left
  all_goals
    go_enter Try.func10, Try.ntmps10
    go_wp2
    go_ret
    exact ⟨ret_int (by first | rw [szV_yes h] | rw [szV_no (by omega)]), rfl⟩

def totSS (xss : List (List Int)) : Nat := xss.length + (xss.map List.length).sum
theorem sum_take_succ (xss : List (List Int)) (k : Nat) (hk : k < xss.length) : ((xss.take (k + 1)).map List.length).sum = ((xss.take k).map List.length).sum + (xss.getD k []).length := by
  rw [List.take_succ_eq_append_getElem hk, List.map_append, List.sum_append]
  simp [hk]
theorem sum_take_le (xss : List (List Int)) (k : Nat) : ((xss.take k).map List.length).sum ≤ (xss.map List.length).sum := by
  conv => rhs; rw [← List.take_append_drop k xss, List.map_append, List.sum_append]
  omega

set_option maxHeartbeats 800000 in
theorem szIntSS_any (xss : List (List Int)) (v : Value) (left : Int) (h0 : 0 ≤ left) (h1 : left ≤ 1048576) (w : World) (hv : IntSS 0 w v xss) (r : Int) (hr : szV left (totSS xss) = r) :
    Calls Try.prog 34 #[v, .int .i64 left] w fun e w' => e = .returned (.int .i64 r) ∧ w = w' := by
  obtain ⟨a1, c1, rfl, hc1, hm1, hr1⟩ := hv.form
  have Hhr := Lib.hid hr; clear hr
  clear hv
  by_cases hn : (xss.length : Int) ≤ left
  · go_enter Try.func34, Try.ntmps34
    go_wp2
    go_loop [1, 4, 5] (fun l r i => ∃ k : Nat, k ≤ xss.length ∧ i = .int .i64 k ∧ ∃ s : Int, l = .int .i64 s ∧ 0 ≤ s ∧ s = left - xss.length - ((xss.take k).map List.length).sum)
      (fun _ _ i => xss.length - (intOf i).toNat)
    case atStart => exact ⟨0, Nat.zero_le _, rfl, _, rfl, by omega, by simp⟩
    case round =>
      obtain ⟨k, hk, rfl, s, rfl, hs0, hs⟩ := hrel
      have Hhs := Lib.hid hs; clear hs
      by_cases hlt : k < xss.length
      · obtain ⟨b, off, rfl, hB, hbl, hcs⟩ := hr1 (by omega)
        have hcsk := hcs k hlt
        have hsum := sum_take_succ xss k hlt
        obtain ⟨row, hrw⟩ : ∃ row, row = xss.getD k [] := ⟨_, rfl⟩
        rw [← hrw] at hcsk hsum
        have Hhrw := Lib.hid hrw; clear hrw
        have Hhsum := Lib.hid hsum; clear hsum
        clear hcs hr1
        obtain ⟨a', cap', hcell, hcc, hcm, hrow⟩ := hcsk
        clear hrow
        by_cases hf : (row.length : Int) ≤ s
        · go_wp2_with (go_at_call 66; refine (szIntS_any _ _ _ (by omega) _ (by omega) (by have := Hhs.out; omega) _ _ (szV_yes hf)).mono ?_; rintro e w' ⟨rfl, rfl⟩)
          go_round
          case rel => exact ⟨k + 1, by omega, by go_num, _, rfl, by omega, by have := Hhs.out; have := Hhsum.out; omega⟩
          case measure => simp [intOf]; omega
        · go_wp2_with (go_at_call 66; refine (szIntS_any _ _ _ (by omega) _ (by omega) (by have := Hhs.out; omega) _ _ (szV_no (by omega))).mono ?_; rintro e w' ⟨rfl, rfl⟩)
          go_ret
          exact ⟨ret_int (by rw [← Hhr.out, szV_no]; have := Hhs.out; have := Hhsum.out; have := sum_take_le xss (k + 1); unfold totSS; omega), rfl⟩
      · clear hr1
        go_wp2
        go_ret
        have he : s = left - totSS xss := by rw [Hhs.out, List.take_of_length_le (by omega)]; unfold totSS; omega
        exact ⟨ret_int (by rw [← Hhr.out, szV_yes (by omega)]; exact he), rfl⟩
  · go_enter Try.func34, Try.ntmps34
    go_wp2
    go_ret
    exact ⟨ret_int (by rw [← Hhr.out, szV_no]; unfold totSS; omega), rfl⟩

def totDfa (next : List (List Int)) (ends : List Bool) : Nat := totSS next + ends.length
set_option maxHeartbeats 800000 in
theorem szDfa_any (next : List (List Int)) (ends : List Bool) (v1 v2 : Value) (left : Int) (h0 : 0 ≤ left) (h1 : left ≤ 1048576) (w : World) (hv1 : IntSS 0 w v1 next) (hv2 : Bools 0 w v2 ends) (r : Int) (hr : szV left (totDfa next ends) = r) :
    Calls Try.prog 9 #[.agg #[v1, v2], .int .i64 left] w fun e w' => e = .returned (.int .i64 r) ∧ Below w.heap.size w w' := by
  have hv1' : IntSS 0 (w.alloc (.cells #[v1, v2] 25)) v1 next := hv1.below ((Below.refl _ _).alloc (Nat.le_refl _) _)
  have Hv1 := Lib.hid hv1'
  obtain ⟨a1, c1, rfl, hc1, hm1, hr1⟩ := hv1.form
  obtain ⟨a2, c2, rfl, hc2, hm2, hr2⟩ := hv2.form
  have Hhr := Lib.hid hr; clear hr
  clear hv1 hv2 hr1 hr2 hv1'
  by_cases hn : (totSS next : Int) ≤ left
  · by_cases hm : (ends.length : Int) ≤ left - totSS next
    · go_enter Try.func9, Try.ntmps9
      go_wp2_with (first | (go_at_call 34; refine (szIntSS_any next _ _ h0 h1 _ Hv1.out _ (szV_yes hn)).mono ?_; rintro e w' ⟨rfl, rfl⟩) | (go_at_call 35; refine (szBoolS_any _ _ _ (by omega) _ (by omega) (by omega) _ _ (szV_yes hm)).mono ?_; rintro e w' ⟨rfl, rfl⟩))
      go_ret
      exact ⟨ret_int (by rw [← Hhr.out, szV_yes (by unfold totDfa; omega)]; unfold totDfa; omega), (Below.refl _ _).alloc (Nat.le_refl _) _⟩
    · go_enter Try.func9, Try.ntmps9
      go_wp2_with (first | (go_at_call 34; refine (szIntSS_any next _ _ h0 h1 _ Hv1.out _ (szV_yes hn)).mono ?_; rintro e w' ⟨rfl, rfl⟩) | (go_at_call 35; refine (szBoolS_any _ _ _ (by omega) _ (by omega) (by omega) _ _ (szV_no (by omega))).mono ?_; rintro e w' ⟨rfl, rfl⟩))
      go_ret
      exact ⟨ret_int (by rw [← Hhr.out, szV_no (by unfold totDfa; omega)]), (Below.refl _ _).alloc (Nat.le_refl _) _⟩
  · go_enter Try.func9, Try.ntmps9
    go_wp2_with (go_at_call 34; refine (szIntSS_any next _ _ h0 h1 _ Hv1.out _ (szV_no (by omega))).mono ?_; rintro e w' ⟨rfl, rfl⟩)
    go_ret
    exact ⟨ret_int (by rw [← Hhr.out, szV_no]; unfold totDfa; omega), (Below.refl _ _).alloc (Nat.le_refl _) _⟩
theorem szDfa_d (d : DfaD) (v : Value) (left : Int) (h0 : 0 ≤ left) (h1 : left ≤ 1048576) (w : World) (h : DfaR 0 w v d) (r : Int) (hr : szV left (totDfa d.next d.ends) = r) :
    Calls Try.prog 9 #[v, .int .i64 left] w fun e w' => e = .returned (.int .i64 r) ∧ Below w.heap.size w w' := by
  obtain ⟨v1, v2, rfl, g1, g2⟩ := h
  exact szDfa_any d.next d.ends v1 v2 left h0 h1 w g1 g2 r hr
end Go.Proofs.Ytclhcfmlkfiidaa
