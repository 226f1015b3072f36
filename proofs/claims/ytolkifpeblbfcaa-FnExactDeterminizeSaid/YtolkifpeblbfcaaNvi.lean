/-
  The walks over the program's and the reference's validity of an automaton with choices.
  Conditions: the automaton reads as such.
-/
import Derived.Test.YtolkifpeblbfcaaNv
namespace Go.Proofs.Ytolkifpeblbfcaa
open Go.RowKit

theorem moves_bad {n : Int} {ms : List (Int × Int × Int)} : ms.any (badM n) = !ms.all (mvOk n) := by
  induction ms with
  | nil => rfl
  | cons m ms ih => rw [List.any_cons, List.all_cons, ih]; simp [badM]
set_option maxRecDepth 100000 in
set_option maxHeartbeats 3200000 in
theorem implNfaValid_any (d : NfaD) (v : Value) (w : World) (h : NfaR 0 w v d) (r : Bool) (hr : nfaOk d = r) :
    Calls Try.prog 40 #[v] w fun e w' => e = .returned (.bool r) ∧ Below w.heap.size w w' := by
  obtain ⟨states, moves, firsts, ends⟩ := d
  obtain ⟨v1, v2, v3, rfl, h1, h2, h3, hb1, hb2⟩ := h
  simp only at h1 h2 h3 hb1 hb2
  unfold nfaOk at hr
  simp only at hr
  have H1 := Lib.hid h1
  have H2 := Lib.hid h2
  have H3 := Lib.hid h3
  obtain ⟨a1, c1, rfl, hc1, hm1, -⟩ := h1.form
  clear h1 h2 h3
  obtain ⟨W, hW⟩ : ∃ W, W = w.alloc (.cells #[.int .i64 states, .slice a1 moves.length c1, v2, v3] 46) := ⟨_, rfl⟩
  have hB : Below w.heap.size w W := by rw [hW]; exact (Below.refl _ _).alloc (Nat.le_refl _) _
  have x0 : Bx W w.heap.size #[.int .i64 states, .slice a1 moves.length c1, v2, v3] 46 := by rw [hW]; exact Bx.new w _ _
  have hlt := x0.lt
  have d0 := x0.cell 0
  have d1 := x0.cell 1
  have d2 := x0.cell 2
  have d3 := x0.cell 3
  simp only [List.getElem?_toArray, List.getElem?_cons_zero, List.getElem?_cons_succ] at d0 d1 d2 d3
  have HhW := Lib.hid hW; clear hW
  have HhB := Lib.hid hB; clear hB
  have Hx0 := Lib.hid x0; clear x0
  go_enter Try.func40, Try.ntmps40
  cases hA : inB states 0 40
  · rw [hA] at hr
    have HhA := Lib.hid hA; clear hA
    have Hhr := Lib.hid hr; clear hr
    go_wp2_with fail
    rw [← HhW.out]
    go_wp2_with (go_at_call 103; refine (within_any _ _ _ _ _ HhA.out).mono ?_; rintro e w' ⟨rfl, rfl⟩)
    go_ret
    exact ⟨by rw [← Hhr.out]; rfl, HhB.out⟩
  · have hin : 0 ≤ states ∧ states ≤ 40 := by simpa [inB] using hA
    obtain ⟨hs0, hs1⟩ := hin
    rw [hA] at hr
    have HhA := Lib.hid hA; clear hA
    by_cases hL : moves.length ≤ 400
    · have hL1 : decide ((moves.length : Int) > 400) = false := by simp; omega
      rw [decide_eq_true hL] at hr
      cases hC : stOk firsts states
      · rw [hC] at hr
        have HhC := Lib.hid hC; clear hC
        have Hhr := Lib.hid hr; clear hr
        go_wp2_with fail
        rw [← HhW.out]
        go_wp2_with (first | (go_at_call 103; refine (within_any _ _ _ _ _ HhA.out).mono ?_; rintro e w' ⟨rfl, rfl⟩) | (go_at_call 87; (with_reducible refine (areStates_any firsts _ _ _ ⟨hs0, hs1⟩ (H2.out.below HhB.out) _ HhC.out).mono ?_); rintro e w' ⟨rfl, rfl⟩))
        go_ret
        exact ⟨by rw [← Hhr.out]; rfl, HhB.out⟩
      · rw [hC] at hr
        have HhC := Lib.hid hC; clear hC
        cases hD : stOk ends states
        · rw [hD] at hr
          have HhD := Lib.hid hD; clear hD
          have Hhr := Lib.hid hr; clear hr
          go_wp2_with fail
          rw [← HhW.out]
          go_wp2_with (first | (go_at_call 103; refine (within_any _ _ _ _ _ HhA.out).mono ?_; rintro e w' ⟨rfl, rfl⟩) | (go_at_call 87; (with_reducible refine (areStates_any firsts v2 _ _ ⟨hs0, hs1⟩ (H2.out.below HhB.out) _ HhC.out).mono ?_); rintro e w' ⟨rfl, rfl⟩) | (go_at_call 87; (with_reducible refine (areStates_any ends v3 _ _ ⟨hs0, hs1⟩ (H3.out.below HhB.out) _ HhD.out).mono ?_); rintro e w' ⟨rfl, rfl⟩))
          go_ret
          exact ⟨by rw [← Hhr.out]; rfl, HhB.out⟩
        · rw [hD] at hr
          have HhD := Lib.hid hD; clear hD
          cases hE : moves.any (badM states)
          all_goals
            have hE' := hE
            rw [moves_bad] at hE'
            have HhE := Lib.hid hE; clear hE
            have HhE' := Lib.hid hE'; clear hE'
            have Hhr := Lib.hid hr; clear hr
            go_wp2_with fail
            rw [← HhW.out]
            go_wp2_with (first | (go_at_call 103; refine (within_any _ _ _ _ _ HhA.out).mono ?_; rintro e w' ⟨rfl, rfl⟩) | (go_at_call 87; (with_reducible refine (areStates_any firsts v2 _ _ ⟨hs0, hs1⟩ (H2.out.below HhB.out) _ HhC.out).mono ?_); rintro e w' ⟨rfl, rfl⟩) | (go_at_call 87; (with_reducible refine (areStates_any ends v3 _ _ ⟨hs0, hs1⟩ (H3.out.below HhB.out) _ HhD.out).mono ?_); rintro e w' ⟨rfl, rfl⟩) | (go_at_call 104; refine (containsFuncNv_any moves _ states w.heap.size _ ⟨hs0, hs1⟩ hlt d0 (H1.out.below HhB.out) _ HhE.out).mono ?_; rintro e w' ⟨rfl, hb'⟩; have Hb' := Lib.hid hb'; clear hb'))
            go_ret
            exact ⟨by rw [← Hhr.out]; simpa using HhE'.out, HhB.out.trans (Hb'.out.mono HhB.out.size)⟩
    · have hL1 : decide ((moves.length : Int) > 400) = true := by simp; omega
      rw [decide_eq_false hL] at hr
      have Hhr := Lib.hid hr; clear hr
      go_wp2_with fail
      rw [← HhW.out]
      go_wp2_with (go_at_call 103; refine (within_any _ _ _ _ _ HhA.out).mono ?_; rintro e w' ⟨rfl, rfl⟩)
      go_ret
      exact ⟨by rw [← Hhr.out]; rfl, HhB.out⟩
end Go.Proofs.Ytolkifpeblbfcaa
