/-
  The walk over the law FnStarStar.
  Conditions: the arguments read as bytes.
-/
import Derived.Test.YtolkifpeblbfcaaSw
import Derived.Test.YtolkifpeblbfcaaDz
import Derived.Test.YtolkifpeblbfcaaSf
import Derived.Test.YtolkifpeblbfcaaLNfaClose
namespace Go.Proofs.Ytolkifpeblbfcaa
open Go.RowKit

set_option maxRecDepth 100000 in
set_option maxHeartbeats 16000000 in
theorem starStar_walk (bs cs : List Nat) (v u : Value) (w : World) (hb : Bytes 0 w v bs) (hc : Bytes 0 w u cs) :
    Calls Try.prog 6 #[v, u] w fun e w' => e = .returned (.bool true) ∧ Below w.heap.size w w' := by
  have HB := Lib.hid hb
  have HC := Lib.hid hc
  obtain ⟨av, cv, rfl, hcv1, hcv2, -⟩ := hb.form
  obtain ⟨au, cu, rfl, hcu1, hcu2, -⟩ := hc.form
  clear hb hc
  by_cases hlen : 1048576 < bs.length
  · have hl2 : (1048576 : Int) < bs.length := by omega
    go_enter Try.func6, Try.ntmps6
    go_wp2
    go_ret
    exact ⟨rfl, Below.refl _ _⟩
  have hl2 : ¬ (1048576 : Int) < bs.length := by omega
  by_cases hlen2 : 1048576 < cs.length
  · have hl3 : (1048576 : Int) < cs.length := by omega
    go_enter Try.func6, Try.ntmps6
    go_wp2
    go_ret
    exact ⟨rfl, Below.refl _ _⟩
  have hl3 : ¬ (1048576 : Int) < cs.length := by omega
  go_enter Try.func6, Try.ntmps6
  go_wp2_with fail
  refine (drawStar_any bs _ _ HB.out (by omega)).mono ?_
  rintro e w1 ⟨n, a1, a2, a3, c1, c2, c3, hs0, hs1, hm, hf, he, rfl, hS⟩
  have HS := Lib.hid (hS.alloc _ rfl #[.int .i64 n.states, .slice a1 n.moves.length c1, .slice a2 n.firsts.length c2, .slice a3 n.ends.length c3] 46)
  have e0 := HS.out.cell (v := .int .i64 n.states) 3 0 rfl rfl
  have e1 := HS.out.cell (v := .slice a1 n.moves.length c1) 3 1 rfl rfl
  have e2 := HS.out.cell (v := .slice a2 n.firsts.length c2) 3 2 rfl rfl
  have e3 := HS.out.cell (v := .slice a3 n.ends.length c3) 3 3 rfl rfl
  obtain ⟨X, ok, hX⟩ : ∃ X ok, starL n = (X, ok) := ⟨_, _, rfl⟩
  obtain ⟨xs0, xs1⟩ := limN_bound hX (by omega) (by omega)
  have hxb : -1000 ≤ X.states ∧ X.states ≤ 1000 := by
    rcases starL_cases n with h2 | ⟨-, -, h2⟩ <;> rw [hX] at h2 <;> injection h2 with h3 h4 <;> rw [h3]
    · simp [zeN]
    · simp only [starN]; omega
  obtain ⟨Y, good, hY⟩ : ∃ Y good, starL X = (Y, good) := ⟨_, _, rfl⟩
  obtain ⟨ys0, ys1⟩ := limN_bound hY hxb.1 hxb.2
  have HhX := Lib.hid hX; clear hX
  have HhY := Lib.hid hY; clear hY
  clear hS hxb
  go_wp2_with fail
  refine (implStarR_any n X _ _ _ HhX.out (nfaR_rows HS.out 0 1 2 rfl rfl rfl (by omega) (by omega))).mono ?_
  rintro e w2 ⟨ax1, cx1, ax2, cx2, ax3, cx3, rfl, hS'⟩
  have HS2 := Lib.hid ((HS.out.cat hS').alloc _ rfl #[.int .i64 X.states, .slice ax1 X.moves.length cx1, .slice ax2 X.firsts.length cx2, .slice ax3 X.ends.length cx3] 46)
  clear hS' e0 e1 e2 e3
  have e0 := HS2.out.cell (v := .int .i64 n.states) 3 0 rfl rfl
  have e1 := HS2.out.cell (v := .slice a1 n.moves.length c1) 3 1 rfl rfl
  have e2 := HS2.out.cell (v := .slice a2 n.firsts.length c2) 3 2 rfl rfl
  have e3 := HS2.out.cell (v := .slice a3 n.ends.length c3) 3 3 rfl rfl
  go_wp2_with fail
  refine (specStarR_any n X _ _ _ HhX.out (nfaR_rows HS2.out 0 1 2 rfl rfl rfl (by omega) (by omega))).mono ?_
  rintro e w3 ⟨az1, cz1, az2, cz2, az3, cz3, rfl, hS'⟩
  have HS3 := Lib.hid ((HS2.out.cat hS').alloc _ rfl #[.int .i64 X.states, .slice az1 X.moves.length cz1, .slice az2 X.firsts.length cz2, .slice az3 X.ends.length cz3] 46)
  clear hS' e0 e1 e2 e3
  have e0 := HS3.out.cell (v := .int .i64 X.states) 7 0 rfl rfl
  have e1 := HS3.out.cell (v := .slice ax1 X.moves.length cx1) 7 1 rfl rfl
  have e2 := HS3.out.cell (v := .slice ax2 X.firsts.length cx2) 7 2 rfl rfl
  have e3 := HS3.out.cell (v := .slice ax3 X.ends.length cx3) 7 3 rfl rfl
  have f0 := HS3.out.cell (v := .int .i64 X.states) 11 0 rfl rfl
  have f1 := HS3.out.cell (v := .slice az1 X.moves.length cz1) 11 1 rfl rfl
  have f2 := HS3.out.cell (v := .slice az2 X.firsts.length cz2) 11 2 rfl rfl
  have f3 := HS3.out.cell (v := .slice az3 X.ends.length cz3) 11 3 rfl rfl
  cases ok
  · go_wp2_with fail
    refine (sameNfa_any X _ _ _ (nfaR_rows HS3.out 4 5 6 rfl rfl rfl xs0 xs1) (nfaR_rows HS3.out 8 9 10 rfl rfl rfl xs0 xs1)).mono ?_
    rintro e w4 ⟨rfl, hb4⟩
    have HS4 := Lib.hid (HS3.out.call hb4)
    clear hb4 e0 e1 e2 e3 f0 f1 f2 f3
    have e0 := HS4.out.cell (v := .int .i64 X.states) 7 0 rfl rfl
    have e1 := HS4.out.cell (v := .slice ax1 X.moves.length cx1) 7 1 rfl rfl
    have e2 := HS4.out.cell (v := .slice ax2 X.firsts.length cx2) 7 2 rfl rfl
    have e3 := HS4.out.cell (v := .slice ax3 X.ends.length cx3) 7 3 rfl rfl
    go_wp2_with fail
    refine (implStarR_any X Y _ _ _ HhY.out (nfaR_rows HS4.out 4 5 6 rfl rfl rfl xs0 xs1)).mono ?_
    rintro e w5 ⟨ay1, cy1, ay2, cy2, ay3, cy3, rfl, hS'⟩
    have HS5 := Lib.hid ((HS4.out.cat hS').alloc _ rfl #[.int .i64 Y.states, .slice ay1 Y.moves.length cy1, .slice ay2 Y.firsts.length cy2, .slice ay3 Y.ends.length cy3] 46)
    clear hS' e0 e1 e2 e3
    go_wp2_with fail
    refine (drawWord_any cs _ _ (HC.out.below HS5.out.bel) (by omega)).mono ?_
    rintro e w6 ⟨l, ht, hl10, rfl, hb6⟩
    have HS6 := Lib.hid ((HS5.out.call hb6).pick [4, 5, 6, 7, 12, 13, 14, 15] (by decide))
    clear hb6
    have Hht := Lib.hid ht; clear ht
    cases good
    · go_wp2
      refine wp_region_any (by kernel_rfl) ?_
      refine wpAny_invA (fun A listed a w' => ∃ (l0 l1 l2 l3 l4 l5 l6 l7 l8 l9 l10 l11 l12 l13 l14 l15 l16 l17 l18 : Bool) , listed = #[l0, l1, l2, l3, l4, l5, l6, l7, l8, l9, l10, l11, l12, l13, l14, l15, l16, l17, l18] ∧
          a = ⟨((((((((((A.tmps.setIfInBounds 49 (if l0 = true then .bool false else A.tmps.getD 49 undef)).setIfInBounds 50 (if l1 = true then .bool true else A.tmps.getD 50 undef)).setIfInBounds 51 (if l2 = true then .bool true else A.tmps.getD 51 undef)).setIfInBounds 54 (if l5 = true then .bool true else A.tmps.getD 54 undef)).setIfInBounds 55 (if l6 = true then .bool true else A.tmps.getD 55 undef)).setIfInBounds 63 (if l14 = true then .bool true else A.tmps.getD 63 undef)).setIfInBounds 64 (if l15 = true then .bool true else A.tmps.getD 64 undef)).setIfInBounds 65 (if l16 = true then .bool true else A.tmps.getD 65 undef)).setIfInBounds 66 (if l17 = true then .bool true else A.tmps.getD 66 undef)).setIfInBounds 4 (.bool l18)), A.defers⟩ ∧
          St w w' [Ent.row 53 3 (.slice ax1 X.moves.length cx1) X.moves.length (X.moves.flatMap moveCells), Ent.row 3 1 (.slice ax2 X.firsts.length cx2) X.firsts.length (intCells X.firsts), Ent.row 3 1 (.slice ax3 X.ends.length cx3) X.ends.length (intCells X.ends), Ent.box w2.heap.size #[.int .i64 X.states, .slice ax1 X.moves.length cx1, .slice ax2 X.firsts.length cx2, .slice ax3 X.ends.length cx3] 46, Ent.row 53 3 (.slice ay1 Y.moves.length cy1) Y.moves.length (Y.moves.flatMap moveCells), Ent.row 3 1 (.slice ay2 Y.firsts.length cy2) Y.firsts.length (intCells Y.firsts), Ent.row 3 1 (.slice ay3 Y.ends.length cy3) Y.ends.length (intCells Y.ends), Ent.box w5.heap.size #[.int .i64 Y.states, .slice ay1 Y.moves.length cy1, .slice ay2 Y.firsts.length cy2, .slice ay3 Y.ends.length cy3] 46]) ?_ ?_ ?_
      · rintro listed a w' ⟨l0, l1, l2, l3, l4, l5, l6, l7, l8, l9, l10, l11, l12, l13, l14, l15, l16, l17, l18, rfl, rfl, hS⟩ i hi
        obtain ⟨hun, o, ho, hall⟩ := mem_ready.1 hi
        have hlt := (Array.getElem?_eq_some_iff.1 ho).1
        refine wpOp_step ho (fun K hK => ?_)
        clear hi
        have HS := Lib.hid hS
        clear hS
        simp only [List.setIfInBounds_toArray, List.set_cons_zero, List.set_cons_succ, Array.getD_eq_getD_getElem?, List.getElem?_toArray, List.getElem?_cons_zero, List.getElem?_cons_succ, Option.getD_some]
        obtain h | h | h | h | h | h | h | h | h | h | h | h | h | h | h | h | h | h | h : i = 0 ∨ i = 1 ∨ i = 2 ∨ i = 3 ∨ i = 4 ∨ i = 5 ∨ i = 6 ∨ i = 7 ∨ i = 8 ∨ i = 9 ∨ i = 10 ∨ i = 11 ∨ i = 12 ∨ i = 13 ∨ i = 14 ∨ i = 15 ∨ i = 16 ∨ i = 17 ∨ i = 18 := by simp at hlt; omega
        all_goals subst h
        all_goals simp only [List.getElem?_toArray, List.getElem?_cons_zero, List.getElem?_cons_succ, Option.some.injEq] at ho
        all_goals subst ho
        all_goals simp [Region.binds] at hun hall
        · subst hun
          go_simp
          exact hK _ _ ⟨true, l1, l2, l3, l4, l5, l6, l7, l8, l9, l10, l11, l12, l13, l14, l15, l16, l17, l18, rfl, (by simp only [↓reduceIte, List.setIfInBounds_toArray, List.set_cons_zero, List.set_cons_succ, Array.getD_eq_getD_getElem?, List.getElem?_toArray, List.getElem?_cons_zero, List.getElem?_cons_succ, Option.getD_some]), HS.out⟩
        · obtain rfl := hall
          subst hun
          go_simp
          exact hK _ _ ⟨true, true, l2, l3, l4, l5, l6, l7, l8, l9, l10, l11, l12, l13, l14, l15, l16, l17, l18, rfl, (by simp only [↓reduceIte, List.setIfInBounds_toArray, List.set_cons_zero, List.set_cons_succ, Array.getD_eq_getD_getElem?, List.getElem?_toArray, List.getElem?_cons_zero, List.getElem?_cons_succ, Option.getD_some]), HS.out⟩
        · obtain rfl := hall
          subst hun
          go_simp
          exact hK _ _ ⟨l0, true, true, l3, l4, l5, l6, l7, l8, l9, l10, l11, l12, l13, l14, l15, l16, l17, l18, rfl, (by simp only [↓reduceIte, List.setIfInBounds_toArray, List.set_cons_zero, List.set_cons_succ, Array.getD_eq_getD_getElem?, List.getElem?_toArray, List.getElem?_cons_zero, List.getElem?_cons_succ, Option.getD_some]), HS.out⟩
        · obtain rfl := hall
          subst hun
          go_simp
          exact hK _ _ ⟨l0, l1, true, true, l4, l5, l6, l7, l8, l9, l10, l11, l12, l13, l14, l15, l16, l17, l18, rfl, (by simp only [↓reduceIte, List.setIfInBounds_toArray, List.set_cons_zero, List.set_cons_succ, Array.getD_eq_getD_getElem?, List.getElem?_toArray, List.getElem?_cons_zero, List.getElem?_cons_succ, Option.getD_some]), HS.out⟩
        · obtain ⟨rfl, rfl⟩ := hall
          subst hun
          go_simp
          exact hK _ _ ⟨l0, l1, true, true, true, l5, l6, l7, l8, l9, l10, l11, l12, l13, l14, l15, l16, l17, l18, rfl, (by simp only [↓reduceIte, List.setIfInBounds_toArray, List.set_cons_zero, List.set_cons_succ, Array.getD_eq_getD_getElem?, List.getElem?_toArray, List.getElem?_cons_zero, List.getElem?_cons_succ, Option.getD_some]), HS.out⟩
        · obtain ⟨rfl, rfl⟩ := hall
          subst hun
          go_simp
          exact hK _ _ ⟨l0, l1, true, l3, true, true, l6, l7, l8, l9, l10, l11, l12, l13, l14, l15, l16, l17, l18, rfl, (by simp only [↓reduceIte, List.setIfInBounds_toArray, List.set_cons_zero, List.set_cons_succ, Array.getD_eq_getD_getElem?, List.getElem?_toArray, List.getElem?_cons_zero, List.getElem?_cons_succ, Option.getD_some]), HS.out⟩
        · obtain ⟨rfl, rfl⟩ := hall
          subst hun
          go_simp
          exact hK _ _ ⟨l0, l1, true, l3, l4, true, true, l7, l8, l9, l10, l11, l12, l13, l14, l15, l16, l17, l18, rfl, (by simp only [↓reduceIte, List.setIfInBounds_toArray, List.set_cons_zero, List.set_cons_succ, Array.getD_eq_getD_getElem?, List.getElem?_toArray, List.getElem?_cons_zero, List.getElem?_cons_succ, Option.getD_some]), HS.out⟩
        · obtain rfl := hall
          subst hun
          go_simp
          exact hK _ _ ⟨l0, l1, l2, l3, l4, l5, true, true, l8, l9, l10, l11, l12, l13, l14, l15, l16, l17, l18, rfl, (by simp only [↓reduceIte, List.setIfInBounds_toArray, List.set_cons_zero, List.set_cons_succ, Array.getD_eq_getD_getElem?, List.getElem?_toArray, List.getElem?_cons_zero, List.getElem?_cons_succ, Option.getD_some]), HS.out⟩
        · obtain rfl := hall
          subst hun
          go_simp
          exact hK _ _ ⟨l0, l1, l2, l3, l4, l5, true, l7, true, l9, l10, l11, l12, l13, l14, l15, l16, l17, l18, rfl, (by simp only [↓reduceIte, List.setIfInBounds_toArray, List.set_cons_zero, List.set_cons_succ, Array.getD_eq_getD_getElem?, List.getElem?_toArray, List.getElem?_cons_zero, List.getElem?_cons_succ, Option.getD_some]), HS.out⟩
        · obtain ⟨rfl, rfl, rfl⟩ := hall
          subst hun
          go_simp
          exact hK _ _ ⟨l0, l1, l2, l3, l4, l5, true, true, true, true, l10, l11, l12, l13, l14, l15, l16, l17, l18, rfl, (by simp only [↓reduceIte, List.setIfInBounds_toArray, List.set_cons_zero, List.set_cons_succ, Array.getD_eq_getD_getElem?, List.getElem?_toArray, List.getElem?_cons_zero, List.getElem?_cons_succ, Option.getD_some]), HS.out⟩
        · obtain rfl := hall
          subst hun
          go_simp
          exact hK _ _ ⟨l0, l1, l2, l3, l4, l5, true, l7, l8, l9, true, l11, l12, l13, l14, l15, l16, l17, l18, rfl, (by simp only [↓reduceIte, List.setIfInBounds_toArray, List.set_cons_zero, List.set_cons_succ, Array.getD_eq_getD_getElem?, List.getElem?_toArray, List.getElem?_cons_zero, List.getElem?_cons_succ, Option.getD_some]), HS.out⟩
        · obtain rfl := hall
          subst hun
          go_simp
          exact hK _ _ ⟨l0, l1, l2, l3, l4, l5, true, l7, l8, l9, l10, true, l12, l13, l14, l15, l16, l17, l18, rfl, (by simp only [↓reduceIte, List.setIfInBounds_toArray, List.set_cons_zero, List.set_cons_succ, Array.getD_eq_getD_getElem?, List.getElem?_toArray, List.getElem?_cons_zero, List.getElem?_cons_succ, Option.getD_some]), HS.out⟩
        · obtain ⟨rfl, rfl, rfl, rfl⟩ := hall
          subst hun
          go_simp
          exact hK _ _ ⟨l0, l1, l2, l3, l4, l5, true, l7, l8, true, true, true, true, l13, l14, l15, l16, l17, l18, rfl, (by simp only [↓reduceIte, List.setIfInBounds_toArray, List.set_cons_zero, List.set_cons_succ, Array.getD_eq_getD_getElem?, List.getElem?_toArray, List.getElem?_cons_zero, List.getElem?_cons_succ, Option.getD_some]), HS.out⟩
        · obtain ⟨rfl, rfl, rfl⟩ := hall
          subst hun
          go_simp
          exact hK _ _ ⟨l0, l1, l2, l3, l4, l5, true, l7, l8, true, l10, l11, true, true, l14, l15, l16, l17, l18, rfl, (by simp only [↓reduceIte, List.setIfInBounds_toArray, List.set_cons_zero, List.set_cons_succ, Array.getD_eq_getD_getElem?, List.getElem?_toArray, List.getElem?_cons_zero, List.getElem?_cons_succ, Option.getD_some]), HS.out⟩
        · obtain ⟨rfl, rfl⟩ := hall
          subst hun
          go_simp
          exact hK _ _ ⟨l0, l1, l2, l3, l4, l5, true, l7, l8, l9, l10, l11, l12, true, true, l15, l16, l17, l18, rfl, (by simp only [↓reduceIte, List.setIfInBounds_toArray, List.set_cons_zero, List.set_cons_succ, Array.getD_eq_getD_getElem?, List.getElem?_toArray, List.getElem?_cons_zero, List.getElem?_cons_succ, Option.getD_some]), HS.out⟩
        · obtain ⟨rfl, rfl⟩ := hall
          subst hun
          go_simp
          exact hK _ _ ⟨l0, l1, l2, l3, l4, l5, l6, l7, l8, l9, l10, l11, true, l13, true, true, l16, l17, l18, rfl, (by simp only [↓reduceIte, List.setIfInBounds_toArray, List.set_cons_zero, List.set_cons_succ, Array.getD_eq_getD_getElem?, List.getElem?_toArray, List.getElem?_cons_zero, List.getElem?_cons_succ, Option.getD_some]), HS.out⟩
        · obtain rfl := hall
          subst hun
          go_simp
          go_at_call 32
          refine (alive_any _).mono ?_
          rintro e u1 ⟨rfl, rfl⟩
          go_simp
          exact hK _ _ ⟨l0, l1, l2, l3, l4, l5, l6, l7, l8, l9, l10, l11, l12, l13, l14, true, true, l17, l18, rfl, (by simp only [↓reduceIte, List.setIfInBounds_toArray, List.set_cons_zero, List.set_cons_succ, Array.getD_eq_getD_getElem?, List.getElem?_toArray, List.getElem?_cons_zero, List.getElem?_cons_succ, Option.getD_some]), HS.out⟩
        · obtain ⟨rfl, rfl⟩ := hall
          subst hun
          go_simp
          exact hK _ _ ⟨l0, l1, l2, l3, l4, l5, l6, l7, l8, l9, l10, l11, l12, l13, l14, true, true, true, l18, rfl, (by simp only [↓reduceIte, List.setIfInBounds_toArray, List.set_cons_zero, List.set_cons_succ, Array.getD_eq_getD_getElem?, List.getElem?_toArray, List.getElem?_cons_zero, List.getElem?_cons_succ, Option.getD_some]), HS.out⟩
        · obtain ⟨rfl, rfl, rfl, rfl, rfl, rfl, rfl, rfl, rfl, rfl, rfl, rfl, rfl, rfl, rfl, rfl, rfl, rfl, -, -⟩ := hall
          subst hun
          go_simp
          exact hK _ _ ⟨true, true, true, true, true, true, true, true, true, true, true, true, true, true, true, true, true, true, true, rfl, (by simp only [↓reduceIte, List.setIfInBounds_toArray, List.set_cons_zero, List.set_cons_succ]), HS.out⟩
      · rintro listed a w' ⟨l0, l1, l2, l3, l4, l5, l6, l7, l8, l9, l10, l11, l12, l13, l14, l15, l16, l17, l18, rfl, rfl, hS⟩ hr
        have hall := ready_nilM (by kernel_rfl) rfl hr
        obtain rfl : l0 = true := by simpa using hall 0 (by simp)
        obtain rfl : l1 = true := by simpa using hall 1 (by simp)
        obtain rfl : l2 = true := by simpa using hall 2 (by simp)
        obtain rfl : l3 = true := by simpa using hall 3 (by simp)
        obtain rfl : l4 = true := by simpa using hall 4 (by simp)
        obtain rfl : l5 = true := by simpa using hall 5 (by simp)
        obtain rfl : l6 = true := by simpa using hall 6 (by simp)
        obtain rfl : l7 = true := by simpa using hall 7 (by simp)
        obtain rfl : l8 = true := by simpa using hall 8 (by simp)
        obtain rfl : l9 = true := by simpa using hall 9 (by simp)
        obtain rfl : l10 = true := by simpa using hall 10 (by simp)
        obtain rfl : l11 = true := by simpa using hall 11 (by simp)
        obtain rfl : l12 = true := by simpa using hall 12 (by simp)
        obtain rfl : l13 = true := by simpa using hall 13 (by simp)
        obtain rfl : l14 = true := by simpa using hall 14 (by simp)
        obtain rfl : l15 = true := by simpa using hall 15 (by simp)
        obtain rfl : l16 = true := by simpa using hall 16 (by simp)
        obtain rfl : l17 = true := by simpa using hall 17 (by simp)
        obtain rfl : l18 = true := by simpa using hall 18 (by simp)
        clear hall hr 
        simp only [↓reduceIte] at hS ⊢
        simp only [List.setIfInBounds_toArray, List.set_cons_zero, List.set_cons_succ]
        have HSf := Lib.hid hS
        clear hS
        go_wp2
        go_ret
        exact ⟨rfl, HSf.out.bel⟩
      · refine ⟨false, false, false, false, false, false, false, false, false, false, false, false, false, false, false, false, false, false, false, rfl, (by simp only [↓reduceIte, Bool.false_eq_true, List.setIfInBounds_toArray, List.set_cons_zero, List.set_cons_succ, Array.getD_eq_getD_getElem?, List.getElem?_toArray, List.getElem?_cons_zero, List.getElem?_cons_succ, Option.getD_some]), ?_⟩
        exact HS6.out.drew.pick [0, 1, 2, 3, 4, 5, 6, 7] (by decide)
    · go_wp2
      refine wp_region_any (by kernel_rfl) ?_
      refine wpAny_invA (fun A listed a w' => ∃ (l0 l1 l2 l3 l4 l5 l6 l7 l8 l9 l10 l11 l12 l13 l14 l15 l16 l17 l18 : Bool) , listed = #[l0, l1, l2, l3, l4, l5, l6, l7, l8, l9, l10, l11, l12, l13, l14, l15, l16, l17, l18] ∧
          a = ⟨((((((((((A.tmps.setIfInBounds 49 (if l0 = true then .bool false else A.tmps.getD 49 undef)).setIfInBounds 50 (if l1 = true then .bool true else A.tmps.getD 50 undef)).setIfInBounds 51 (if l2 = true then .bool true else A.tmps.getD 51 undef)).setIfInBounds 54 (if l5 = true then .bool true else A.tmps.getD 54 undef)).setIfInBounds 55 (if l6 = true then .bool true else A.tmps.getD 55 undef)).setIfInBounds 63 (if l14 = true then .bool true else A.tmps.getD 63 undef)).setIfInBounds 64 (if l15 = true then .bool true else A.tmps.getD 64 undef)).setIfInBounds 65 (if l16 = true then .bool true else A.tmps.getD 65 undef)).setIfInBounds 66 (if l17 = true then .bool true else A.tmps.getD 66 undef)).setIfInBounds 4 (.bool l18)), A.defers⟩ ∧
          St w w' [Ent.row 53 3 (.slice ax1 X.moves.length cx1) X.moves.length (X.moves.flatMap moveCells), Ent.row 3 1 (.slice ax2 X.firsts.length cx2) X.firsts.length (intCells X.firsts), Ent.row 3 1 (.slice ax3 X.ends.length cx3) X.ends.length (intCells X.ends), Ent.box w2.heap.size #[.int .i64 X.states, .slice ax1 X.moves.length cx1, .slice ax2 X.firsts.length cx2, .slice ax3 X.ends.length cx3] 46, Ent.row 53 3 (.slice ay1 Y.moves.length cy1) Y.moves.length (Y.moves.flatMap moveCells), Ent.row 3 1 (.slice ay2 Y.firsts.length cy2) Y.firsts.length (intCells Y.firsts), Ent.row 3 1 (.slice ay3 Y.ends.length cy3) Y.ends.length (intCells Y.ends), Ent.box w5.heap.size #[.int .i64 Y.states, .slice ay1 Y.moves.length cy1, .slice ay2 Y.firsts.length cy2, .slice ay3 Y.ends.length cy3] 46]) ?_ ?_ ?_
      · rintro listed a w' ⟨l0, l1, l2, l3, l4, l5, l6, l7, l8, l9, l10, l11, l12, l13, l14, l15, l16, l17, l18, rfl, rfl, hS⟩ i hi
        obtain ⟨hun, o, ho, hall⟩ := mem_ready.1 hi
        have hlt := (Array.getElem?_eq_some_iff.1 ho).1
        refine wpOp_step ho (fun K hK => ?_)
        clear hi
        have HS := Lib.hid hS
        clear hS
        simp only [List.setIfInBounds_toArray, List.set_cons_zero, List.set_cons_succ, Array.getD_eq_getD_getElem?, List.getElem?_toArray, List.getElem?_cons_zero, List.getElem?_cons_succ, Option.getD_some]
        obtain h | h | h | h | h | h | h | h | h | h | h | h | h | h | h | h | h | h | h : i = 0 ∨ i = 1 ∨ i = 2 ∨ i = 3 ∨ i = 4 ∨ i = 5 ∨ i = 6 ∨ i = 7 ∨ i = 8 ∨ i = 9 ∨ i = 10 ∨ i = 11 ∨ i = 12 ∨ i = 13 ∨ i = 14 ∨ i = 15 ∨ i = 16 ∨ i = 17 ∨ i = 18 := by simp at hlt; omega
        all_goals subst h
        all_goals simp only [List.getElem?_toArray, List.getElem?_cons_zero, List.getElem?_cons_succ, Option.some.injEq] at ho
        all_goals subst ho
        all_goals simp [Region.binds] at hun hall
        · subst hun
          go_simp
          exact hK _ _ ⟨true, l1, l2, l3, l4, l5, l6, l7, l8, l9, l10, l11, l12, l13, l14, l15, l16, l17, l18, rfl, (by simp only [↓reduceIte, List.setIfInBounds_toArray, List.set_cons_zero, List.set_cons_succ, Array.getD_eq_getD_getElem?, List.getElem?_toArray, List.getElem?_cons_zero, List.getElem?_cons_succ, Option.getD_some]), HS.out⟩
        · obtain rfl := hall
          subst hun
          go_simp
          exact hK _ _ ⟨true, true, l2, l3, l4, l5, l6, l7, l8, l9, l10, l11, l12, l13, l14, l15, l16, l17, l18, rfl, (by simp only [↓reduceIte, List.setIfInBounds_toArray, List.set_cons_zero, List.set_cons_succ, Array.getD_eq_getD_getElem?, List.getElem?_toArray, List.getElem?_cons_zero, List.getElem?_cons_succ, Option.getD_some]), HS.out⟩
        · obtain rfl := hall
          subst hun
          go_simp
          exact hK _ _ ⟨l0, true, true, l3, l4, l5, l6, l7, l8, l9, l10, l11, l12, l13, l14, l15, l16, l17, l18, rfl, (by simp only [↓reduceIte, List.setIfInBounds_toArray, List.set_cons_zero, List.set_cons_succ, Array.getD_eq_getD_getElem?, List.getElem?_toArray, List.getElem?_cons_zero, List.getElem?_cons_succ, Option.getD_some]), HS.out⟩
        · obtain rfl := hall
          subst hun
          go_simp
          exact hK _ _ ⟨l0, l1, true, true, l4, l5, l6, l7, l8, l9, l10, l11, l12, l13, l14, l15, l16, l17, l18, rfl, (by simp only [↓reduceIte, List.setIfInBounds_toArray, List.set_cons_zero, List.set_cons_succ, Array.getD_eq_getD_getElem?, List.getElem?_toArray, List.getElem?_cons_zero, List.getElem?_cons_succ, Option.getD_some]), HS.out⟩
        · obtain ⟨rfl, rfl⟩ := hall
          subst hun
          go_simp
          exact hK _ _ ⟨l0, l1, true, true, true, l5, l6, l7, l8, l9, l10, l11, l12, l13, l14, l15, l16, l17, l18, rfl, (by simp only [↓reduceIte, List.setIfInBounds_toArray, List.set_cons_zero, List.set_cons_succ, Array.getD_eq_getD_getElem?, List.getElem?_toArray, List.getElem?_cons_zero, List.getElem?_cons_succ, Option.getD_some]), HS.out⟩
        · obtain ⟨rfl, rfl⟩ := hall
          subst hun
          go_simp
          exact hK _ _ ⟨l0, l1, true, l3, true, true, l6, l7, l8, l9, l10, l11, l12, l13, l14, l15, l16, l17, l18, rfl, (by simp only [↓reduceIte, List.setIfInBounds_toArray, List.set_cons_zero, List.set_cons_succ, Array.getD_eq_getD_getElem?, List.getElem?_toArray, List.getElem?_cons_zero, List.getElem?_cons_succ, Option.getD_some]), HS.out⟩
        · obtain ⟨rfl, rfl⟩ := hall
          subst hun
          go_simp
          exact hK _ _ ⟨l0, l1, true, l3, l4, true, true, l7, l8, l9, l10, l11, l12, l13, l14, l15, l16, l17, l18, rfl, (by simp only [↓reduceIte, List.setIfInBounds_toArray, List.set_cons_zero, List.set_cons_succ, Array.getD_eq_getD_getElem?, List.getElem?_toArray, List.getElem?_cons_zero, List.getElem?_cons_succ, Option.getD_some]), HS.out⟩
        · obtain rfl := hall
          subst hun
          go_simp
          exact hK _ _ ⟨l0, l1, l2, l3, l4, l5, true, true, l8, l9, l10, l11, l12, l13, l14, l15, l16, l17, l18, rfl, (by simp only [↓reduceIte, List.setIfInBounds_toArray, List.set_cons_zero, List.set_cons_succ, Array.getD_eq_getD_getElem?, List.getElem?_toArray, List.getElem?_cons_zero, List.getElem?_cons_succ, Option.getD_some]), HS.out⟩
        · obtain rfl := hall
          subst hun
          go_simp
          exact hK _ _ ⟨l0, l1, l2, l3, l4, l5, true, l7, true, l9, l10, l11, l12, l13, l14, l15, l16, l17, l18, rfl, (by simp only [↓reduceIte, List.setIfInBounds_toArray, List.set_cons_zero, List.set_cons_succ, Array.getD_eq_getD_getElem?, List.getElem?_toArray, List.getElem?_cons_zero, List.getElem?_cons_succ, Option.getD_some]), HS.out⟩
        · obtain ⟨rfl, rfl, rfl⟩ := hall
          subst hun
          go_simp
          exact hK _ _ ⟨l0, l1, l2, l3, l4, l5, true, true, true, true, l10, l11, l12, l13, l14, l15, l16, l17, l18, rfl, (by simp only [↓reduceIte, List.setIfInBounds_toArray, List.set_cons_zero, List.set_cons_succ, Array.getD_eq_getD_getElem?, List.getElem?_toArray, List.getElem?_cons_zero, List.getElem?_cons_succ, Option.getD_some]), HS.out⟩
        · obtain rfl := hall
          subst hun
          go_simp
          exact hK _ _ ⟨l0, l1, l2, l3, l4, l5, true, l7, l8, l9, true, l11, l12, l13, l14, l15, l16, l17, l18, rfl, (by simp only [↓reduceIte, List.setIfInBounds_toArray, List.set_cons_zero, List.set_cons_succ, Array.getD_eq_getD_getElem?, List.getElem?_toArray, List.getElem?_cons_zero, List.getElem?_cons_succ, Option.getD_some]), HS.out⟩
        · obtain rfl := hall
          subst hun
          go_simp
          exact hK _ _ ⟨l0, l1, l2, l3, l4, l5, true, l7, l8, l9, l10, true, l12, l13, l14, l15, l16, l17, l18, rfl, (by simp only [↓reduceIte, List.setIfInBounds_toArray, List.set_cons_zero, List.set_cons_succ, Array.getD_eq_getD_getElem?, List.getElem?_toArray, List.getElem?_cons_zero, List.getElem?_cons_succ, Option.getD_some]), HS.out⟩
        · obtain ⟨rfl, rfl, rfl, rfl⟩ := hall
          subst hun
          go_simp
          exact hK _ _ ⟨l0, l1, l2, l3, l4, l5, true, l7, l8, true, true, true, true, l13, l14, l15, l16, l17, l18, rfl, (by simp only [↓reduceIte, List.setIfInBounds_toArray, List.set_cons_zero, List.set_cons_succ, Array.getD_eq_getD_getElem?, List.getElem?_toArray, List.getElem?_cons_zero, List.getElem?_cons_succ, Option.getD_some]), HS.out⟩
        · obtain ⟨rfl, rfl, rfl⟩ := hall
          subst hun
          go_simp
          exact hK _ _ ⟨l0, l1, l2, l3, l4, l5, true, l7, l8, true, l10, l11, true, true, l14, l15, l16, l17, l18, rfl, (by simp only [↓reduceIte, List.setIfInBounds_toArray, List.set_cons_zero, List.set_cons_succ, Array.getD_eq_getD_getElem?, List.getElem?_toArray, List.getElem?_cons_zero, List.getElem?_cons_succ, Option.getD_some]), HS.out⟩
        · obtain ⟨rfl, rfl⟩ := hall
          subst hun
          go_simp
          exact hK _ _ ⟨l0, l1, l2, l3, l4, l5, true, l7, l8, l9, l10, l11, l12, true, true, l15, l16, l17, l18, rfl, (by simp only [↓reduceIte, List.setIfInBounds_toArray, List.set_cons_zero, List.set_cons_succ, Array.getD_eq_getD_getElem?, List.getElem?_toArray, List.getElem?_cons_zero, List.getElem?_cons_succ, Option.getD_some]), HS.out⟩
        · obtain ⟨rfl, rfl⟩ := hall
          subst hun
          go_simp
          exact hK _ _ ⟨l0, l1, l2, l3, l4, l5, l6, l7, l8, l9, l10, l11, true, l13, true, true, l16, l17, l18, rfl, (by simp only [↓reduceIte, List.setIfInBounds_toArray, List.set_cons_zero, List.set_cons_succ, Array.getD_eq_getD_getElem?, List.getElem?_toArray, List.getElem?_cons_zero, List.getElem?_cons_succ, Option.getD_some]), HS.out⟩
        · obtain rfl := hall
          subst hun
          go_simp
          go_at_call 32
          refine (alive_any _).mono ?_
          rintro e u1 ⟨rfl, rfl⟩
          go_simp
          exact hK _ _ ⟨l0, l1, l2, l3, l4, l5, l6, l7, l8, l9, l10, l11, l12, l13, l14, true, true, l17, l18, rfl, (by simp only [↓reduceIte, List.setIfInBounds_toArray, List.set_cons_zero, List.set_cons_succ, Array.getD_eq_getD_getElem?, List.getElem?_toArray, List.getElem?_cons_zero, List.getElem?_cons_succ, Option.getD_some]), HS.out⟩
        · obtain ⟨rfl, rfl⟩ := hall
          subst hun
          go_simp
          exact hK _ _ ⟨l0, l1, l2, l3, l4, l5, l6, l7, l8, l9, l10, l11, l12, l13, l14, true, true, true, l18, rfl, (by simp only [↓reduceIte, List.setIfInBounds_toArray, List.set_cons_zero, List.set_cons_succ, Array.getD_eq_getD_getElem?, List.getElem?_toArray, List.getElem?_cons_zero, List.getElem?_cons_succ, Option.getD_some]), HS.out⟩
        · obtain ⟨rfl, rfl, rfl, rfl, rfl, rfl, rfl, rfl, rfl, rfl, rfl, rfl, rfl, rfl, rfl, rfl, rfl, rfl, -, -⟩ := hall
          subst hun
          go_simp
          exact hK _ _ ⟨true, true, true, true, true, true, true, true, true, true, true, true, true, true, true, true, true, true, true, rfl, (by simp only [↓reduceIte, List.setIfInBounds_toArray, List.set_cons_zero, List.set_cons_succ]), HS.out⟩
      · rintro listed a w' ⟨l0, l1, l2, l3, l4, l5, l6, l7, l8, l9, l10, l11, l12, l13, l14, l15, l16, l17, l18, rfl, rfl, hS⟩ hr
        have hall := ready_nilM (by kernel_rfl) rfl hr
        obtain rfl : l0 = true := by simpa using hall 0 (by simp)
        obtain rfl : l1 = true := by simpa using hall 1 (by simp)
        obtain rfl : l2 = true := by simpa using hall 2 (by simp)
        obtain rfl : l3 = true := by simpa using hall 3 (by simp)
        obtain rfl : l4 = true := by simpa using hall 4 (by simp)
        obtain rfl : l5 = true := by simpa using hall 5 (by simp)
        obtain rfl : l6 = true := by simpa using hall 6 (by simp)
        obtain rfl : l7 = true := by simpa using hall 7 (by simp)
        obtain rfl : l8 = true := by simpa using hall 8 (by simp)
        obtain rfl : l9 = true := by simpa using hall 9 (by simp)
        obtain rfl : l10 = true := by simpa using hall 10 (by simp)
        obtain rfl : l11 = true := by simpa using hall 11 (by simp)
        obtain rfl : l12 = true := by simpa using hall 12 (by simp)
        obtain rfl : l13 = true := by simpa using hall 13 (by simp)
        obtain rfl : l14 = true := by simpa using hall 14 (by simp)
        obtain rfl : l15 = true := by simpa using hall 15 (by simp)
        obtain rfl : l16 = true := by simpa using hall 16 (by simp)
        obtain rfl : l17 = true := by simpa using hall 17 (by simp)
        obtain rfl : l18 = true := by simpa using hall 18 (by simp)
        clear hall hr 
        simp only [↓reduceIte] at hS ⊢
        simp only [List.setIfInBounds_toArray, List.set_cons_zero, List.set_cons_succ]
        have HSf := Lib.hid hS
        clear hS
        go_wp2
        go_ret
        exact ⟨rfl, HSf.out.bel⟩
      · refine ⟨false, false, false, false, false, false, false, false, false, false, false, false, false, false, false, false, false, false, false, rfl, (by simp only [↓reduceIte, Bool.false_eq_true, List.setIfInBounds_toArray, List.set_cons_zero, List.set_cons_succ, Array.getD_eq_getD_getElem?, List.getElem?_toArray, List.getElem?_cons_zero, List.getElem?_cons_succ, Option.getD_some]), ?_⟩
        exact HS6.out.drew.pick [0, 1, 2, 3, 4, 5, 6, 7] (by decide)
  · have hbb : (true != true) = false := rfl
    go_wp2_with fail
    refine (sameNfa_any X _ _ _ (nfaR_rows HS3.out 4 5 6 rfl rfl rfl xs0 xs1) (nfaR_rows HS3.out 8 9 10 rfl rfl rfl xs0 xs1)).mono ?_
    rintro e w4 ⟨rfl, hb4⟩
    have HS4 := Lib.hid (HS3.out.call hb4)
    clear hb4 e0 e1 e2 e3 f0 f1 f2 f3
    have e0 := HS4.out.cell (v := .int .i64 X.states) 7 0 rfl rfl
    have e1 := HS4.out.cell (v := .slice ax1 X.moves.length cx1) 7 1 rfl rfl
    have e2 := HS4.out.cell (v := .slice ax2 X.firsts.length cx2) 7 2 rfl rfl
    have e3 := HS4.out.cell (v := .slice ax3 X.ends.length cx3) 7 3 rfl rfl
    go_wp2_with fail
    refine (implStarR_any X Y _ _ _ HhY.out (nfaR_rows HS4.out 4 5 6 rfl rfl rfl xs0 xs1)).mono ?_
    rintro e w5 ⟨ay1, cy1, ay2, cy2, ay3, cy3, rfl, hS'⟩
    have HS5 := Lib.hid ((HS4.out.cat hS').alloc _ rfl #[.int .i64 Y.states, .slice ay1 Y.moves.length cy1, .slice ay2 Y.firsts.length cy2, .slice ay3 Y.ends.length cy3] 46)
    clear hS' e0 e1 e2 e3
    go_wp2_with fail
    refine (drawWord_any cs _ _ (HC.out.below HS5.out.bel) (by omega)).mono ?_
    rintro e w6 ⟨l, ht, hl10, rfl, hb6⟩
    have HS6 := Lib.hid ((HS5.out.call hb6).pick [4, 5, 6, 7, 12, 13, 14, 15] (by decide))
    clear hb6
    have Hht := Lib.hid ht; clear ht
    cases good
    · go_wp2
      refine wp_region_any (by kernel_rfl) ?_
      refine wpAny_invA (fun A listed a w' => ∃ (l0 l1 l2 l3 l4 l5 l6 l7 l8 l9 l10 l11 l12 l13 l14 l15 l16 l17 l18 : Bool) , listed = #[l0, l1, l2, l3, l4, l5, l6, l7, l8, l9, l10, l11, l12, l13, l14, l15, l16, l17, l18] ∧
          a = ⟨((((((((((((A.tmps.setIfInBounds 49 (if l0 = true then .bool true else A.tmps.getD 49 undef)).setIfInBounds 50 (if l1 = true then .bool false else A.tmps.getD 50 undef)).setIfInBounds 51 (if l2 = true then .bool false else A.tmps.getD 51 undef)).setIfInBounds 52 (if l3 = true then .bool false else A.tmps.getD 52 undef)).setIfInBounds 53 (if l4 = true then .bool true else A.tmps.getD 53 undef)).setIfInBounds 54 (if l5 = true then .bool true else A.tmps.getD 54 undef)).setIfInBounds 55 (if l6 = true then .bool true else A.tmps.getD 55 undef)).setIfInBounds 63 (if l14 = true then .bool true else A.tmps.getD 63 undef)).setIfInBounds 64 (if l15 = true then .bool true else A.tmps.getD 64 undef)).setIfInBounds 65 (if l16 = true then .bool true else A.tmps.getD 65 undef)).setIfInBounds 66 (if l17 = true then .bool true else A.tmps.getD 66 undef)).setIfInBounds 4 (.bool l18)), A.defers⟩ ∧
          St w w' [Ent.row 53 3 (.slice ax1 X.moves.length cx1) X.moves.length (X.moves.flatMap moveCells), Ent.row 3 1 (.slice ax2 X.firsts.length cx2) X.firsts.length (intCells X.firsts), Ent.row 3 1 (.slice ax3 X.ends.length cx3) X.ends.length (intCells X.ends), Ent.box w2.heap.size #[.int .i64 X.states, .slice ax1 X.moves.length cx1, .slice ax2 X.firsts.length cx2, .slice ax3 X.ends.length cx3] 46, Ent.row 53 3 (.slice ay1 Y.moves.length cy1) Y.moves.length (Y.moves.flatMap moveCells), Ent.row 3 1 (.slice ay2 Y.firsts.length cy2) Y.firsts.length (intCells Y.firsts), Ent.row 3 1 (.slice ay3 Y.ends.length cy3) Y.ends.length (intCells Y.ends), Ent.box w5.heap.size #[.int .i64 Y.states, .slice ay1 Y.moves.length cy1, .slice ay2 Y.firsts.length cy2, .slice ay3 Y.ends.length cy3] 46]) ?_ ?_ ?_
      · rintro listed a w' ⟨l0, l1, l2, l3, l4, l5, l6, l7, l8, l9, l10, l11, l12, l13, l14, l15, l16, l17, l18, rfl, rfl, hS⟩ i hi
        obtain ⟨hun, o, ho, hall⟩ := mem_ready.1 hi
        have hlt := (Array.getElem?_eq_some_iff.1 ho).1
        refine wpOp_step ho (fun K hK => ?_)
        clear hi
        have HS := Lib.hid hS
        clear hS
        simp only [List.setIfInBounds_toArray, List.set_cons_zero, List.set_cons_succ, Array.getD_eq_getD_getElem?, List.getElem?_toArray, List.getElem?_cons_zero, List.getElem?_cons_succ, Option.getD_some]
        obtain h | h | h | h | h | h | h | h | h | h | h | h | h | h | h | h | h | h | h : i = 0 ∨ i = 1 ∨ i = 2 ∨ i = 3 ∨ i = 4 ∨ i = 5 ∨ i = 6 ∨ i = 7 ∨ i = 8 ∨ i = 9 ∨ i = 10 ∨ i = 11 ∨ i = 12 ∨ i = 13 ∨ i = 14 ∨ i = 15 ∨ i = 16 ∨ i = 17 ∨ i = 18 := by simp at hlt; omega
        all_goals subst h
        all_goals simp only [List.getElem?_toArray, List.getElem?_cons_zero, List.getElem?_cons_succ, Option.some.injEq] at ho
        all_goals subst ho
        all_goals simp [Region.binds] at hun hall
        · subst hun
          go_simp
          exact hK _ _ ⟨true, l1, l2, l3, l4, l5, l6, l7, l8, l9, l10, l11, l12, l13, l14, l15, l16, l17, l18, rfl, (by simp only [↓reduceIte, List.setIfInBounds_toArray, List.set_cons_zero, List.set_cons_succ, Array.getD_eq_getD_getElem?, List.getElem?_toArray, List.getElem?_cons_zero, List.getElem?_cons_succ, Option.getD_some]), HS.out⟩
        · obtain rfl := hall
          subst hun
          go_simp
          exact hK _ _ ⟨true, true, l2, l3, l4, l5, l6, l7, l8, l9, l10, l11, l12, l13, l14, l15, l16, l17, l18, rfl, (by simp only [↓reduceIte, List.setIfInBounds_toArray, List.set_cons_zero, List.set_cons_succ, Array.getD_eq_getD_getElem?, List.getElem?_toArray, List.getElem?_cons_zero, List.getElem?_cons_succ, Option.getD_some]), HS.out⟩
        · obtain rfl := hall
          subst hun
          go_simp
          exact hK _ _ ⟨l0, true, true, l3, l4, l5, l6, l7, l8, l9, l10, l11, l12, l13, l14, l15, l16, l17, l18, rfl, (by simp only [↓reduceIte, List.setIfInBounds_toArray, List.set_cons_zero, List.set_cons_succ, Array.getD_eq_getD_getElem?, List.getElem?_toArray, List.getElem?_cons_zero, List.getElem?_cons_succ, Option.getD_some]), HS.out⟩
        · obtain rfl := hall
          subst hun
          go_simp
          exact hK _ _ ⟨l0, l1, true, true, l4, l5, l6, l7, l8, l9, l10, l11, l12, l13, l14, l15, l16, l17, l18, rfl, (by simp only [↓reduceIte, List.setIfInBounds_toArray, List.set_cons_zero, List.set_cons_succ, Array.getD_eq_getD_getElem?, List.getElem?_toArray, List.getElem?_cons_zero, List.getElem?_cons_succ, Option.getD_some]), HS.out⟩
        · obtain ⟨rfl, rfl⟩ := hall
          subst hun
          go_simp
          exact hK _ _ ⟨l0, l1, true, true, true, l5, l6, l7, l8, l9, l10, l11, l12, l13, l14, l15, l16, l17, l18, rfl, (by simp only [↓reduceIte, List.setIfInBounds_toArray, List.set_cons_zero, List.set_cons_succ, Array.getD_eq_getD_getElem?, List.getElem?_toArray, List.getElem?_cons_zero, List.getElem?_cons_succ, Option.getD_some]), HS.out⟩
        · obtain ⟨rfl, rfl⟩ := hall
          subst hun
          go_simp
          exact hK _ _ ⟨l0, l1, true, l3, true, true, l6, l7, l8, l9, l10, l11, l12, l13, l14, l15, l16, l17, l18, rfl, (by simp only [↓reduceIte, List.setIfInBounds_toArray, List.set_cons_zero, List.set_cons_succ, Array.getD_eq_getD_getElem?, List.getElem?_toArray, List.getElem?_cons_zero, List.getElem?_cons_succ, Option.getD_some]), HS.out⟩
        · obtain ⟨rfl, rfl⟩ := hall
          subst hun
          go_simp
          exact hK _ _ ⟨l0, l1, true, l3, l4, true, true, l7, l8, l9, l10, l11, l12, l13, l14, l15, l16, l17, l18, rfl, (by simp only [↓reduceIte, List.setIfInBounds_toArray, List.set_cons_zero, List.set_cons_succ, Array.getD_eq_getD_getElem?, List.getElem?_toArray, List.getElem?_cons_zero, List.getElem?_cons_succ, Option.getD_some]), HS.out⟩
        · obtain rfl := hall
          subst hun
          go_simp
          exact hK _ _ ⟨l0, l1, l2, l3, l4, l5, true, true, l8, l9, l10, l11, l12, l13, l14, l15, l16, l17, l18, rfl, (by simp only [↓reduceIte, List.setIfInBounds_toArray, List.set_cons_zero, List.set_cons_succ, Array.getD_eq_getD_getElem?, List.getElem?_toArray, List.getElem?_cons_zero, List.getElem?_cons_succ, Option.getD_some]), HS.out⟩
        · obtain rfl := hall
          subst hun
          go_simp
          exact hK _ _ ⟨l0, l1, l2, l3, l4, l5, true, l7, true, l9, l10, l11, l12, l13, l14, l15, l16, l17, l18, rfl, (by simp only [↓reduceIte, List.setIfInBounds_toArray, List.set_cons_zero, List.set_cons_succ, Array.getD_eq_getD_getElem?, List.getElem?_toArray, List.getElem?_cons_zero, List.getElem?_cons_succ, Option.getD_some]), HS.out⟩
        · obtain ⟨rfl, rfl, rfl⟩ := hall
          subst hun
          go_simp
          exact hK _ _ ⟨l0, l1, l2, l3, l4, l5, true, true, true, true, l10, l11, l12, l13, l14, l15, l16, l17, l18, rfl, (by simp only [↓reduceIte, List.setIfInBounds_toArray, List.set_cons_zero, List.set_cons_succ, Array.getD_eq_getD_getElem?, List.getElem?_toArray, List.getElem?_cons_zero, List.getElem?_cons_succ, Option.getD_some]), HS.out⟩
        · obtain rfl := hall
          subst hun
          go_simp
          exact hK _ _ ⟨l0, l1, l2, l3, l4, l5, true, l7, l8, l9, true, l11, l12, l13, l14, l15, l16, l17, l18, rfl, (by simp only [↓reduceIte, List.setIfInBounds_toArray, List.set_cons_zero, List.set_cons_succ, Array.getD_eq_getD_getElem?, List.getElem?_toArray, List.getElem?_cons_zero, List.getElem?_cons_succ, Option.getD_some]), HS.out⟩
        · obtain rfl := hall
          subst hun
          go_simp
          exact hK _ _ ⟨l0, l1, l2, l3, l4, l5, true, l7, l8, l9, l10, true, l12, l13, l14, l15, l16, l17, l18, rfl, (by simp only [↓reduceIte, List.setIfInBounds_toArray, List.set_cons_zero, List.set_cons_succ, Array.getD_eq_getD_getElem?, List.getElem?_toArray, List.getElem?_cons_zero, List.getElem?_cons_succ, Option.getD_some]), HS.out⟩
        · obtain ⟨rfl, rfl, rfl, rfl⟩ := hall
          subst hun
          go_simp
          exact hK _ _ ⟨l0, l1, l2, l3, l4, l5, true, l7, l8, true, true, true, true, l13, l14, l15, l16, l17, l18, rfl, (by simp only [↓reduceIte, List.setIfInBounds_toArray, List.set_cons_zero, List.set_cons_succ, Array.getD_eq_getD_getElem?, List.getElem?_toArray, List.getElem?_cons_zero, List.getElem?_cons_succ, Option.getD_some]), HS.out⟩
        · obtain ⟨rfl, rfl, rfl⟩ := hall
          subst hun
          go_simp
          exact hK _ _ ⟨l0, l1, l2, l3, l4, l5, true, l7, l8, true, l10, l11, true, true, l14, l15, l16, l17, l18, rfl, (by simp only [↓reduceIte, List.setIfInBounds_toArray, List.set_cons_zero, List.set_cons_succ, Array.getD_eq_getD_getElem?, List.getElem?_toArray, List.getElem?_cons_zero, List.getElem?_cons_succ, Option.getD_some]), HS.out⟩
        · obtain ⟨rfl, rfl⟩ := hall
          subst hun
          go_simp
          exact hK _ _ ⟨l0, l1, l2, l3, l4, l5, true, l7, l8, l9, l10, l11, l12, true, true, l15, l16, l17, l18, rfl, (by simp only [↓reduceIte, List.setIfInBounds_toArray, List.set_cons_zero, List.set_cons_succ, Array.getD_eq_getD_getElem?, List.getElem?_toArray, List.getElem?_cons_zero, List.getElem?_cons_succ, Option.getD_some]), HS.out⟩
        · obtain ⟨rfl, rfl⟩ := hall
          subst hun
          go_simp
          exact hK _ _ ⟨l0, l1, l2, l3, l4, l5, l6, l7, l8, l9, l10, l11, true, l13, true, true, l16, l17, l18, rfl, (by simp only [↓reduceIte, List.setIfInBounds_toArray, List.set_cons_zero, List.set_cons_succ, Array.getD_eq_getD_getElem?, List.getElem?_toArray, List.getElem?_cons_zero, List.getElem?_cons_succ, Option.getD_some]), HS.out⟩
        · obtain rfl := hall
          subst hun
          go_simp
          go_at_call 32
          refine (alive_any _).mono ?_
          rintro e u1 ⟨rfl, rfl⟩
          go_simp
          exact hK _ _ ⟨l0, l1, l2, l3, l4, l5, l6, l7, l8, l9, l10, l11, l12, l13, l14, true, true, l17, l18, rfl, (by simp only [↓reduceIte, List.setIfInBounds_toArray, List.set_cons_zero, List.set_cons_succ, Array.getD_eq_getD_getElem?, List.getElem?_toArray, List.getElem?_cons_zero, List.getElem?_cons_succ, Option.getD_some]), HS.out⟩
        · obtain ⟨rfl, rfl⟩ := hall
          subst hun
          go_simp
          exact hK _ _ ⟨l0, l1, l2, l3, l4, l5, l6, l7, l8, l9, l10, l11, l12, l13, l14, true, true, true, l18, rfl, (by simp only [↓reduceIte, List.setIfInBounds_toArray, List.set_cons_zero, List.set_cons_succ, Array.getD_eq_getD_getElem?, List.getElem?_toArray, List.getElem?_cons_zero, List.getElem?_cons_succ, Option.getD_some]), HS.out⟩
        · obtain ⟨rfl, rfl, rfl, rfl, rfl, rfl, rfl, rfl, rfl, rfl, rfl, rfl, rfl, rfl, rfl, rfl, rfl, rfl, -, -⟩ := hall
          subst hun
          go_simp
          exact hK _ _ ⟨true, true, true, true, true, true, true, true, true, true, true, true, true, true, true, true, true, true, true, rfl, (by simp only [↓reduceIte, List.setIfInBounds_toArray, List.set_cons_zero, List.set_cons_succ]), HS.out⟩
      · rintro listed a w' ⟨l0, l1, l2, l3, l4, l5, l6, l7, l8, l9, l10, l11, l12, l13, l14, l15, l16, l17, l18, rfl, rfl, hS⟩ hr
        have hall := ready_nilM (by kernel_rfl) rfl hr
        obtain rfl : l0 = true := by simpa using hall 0 (by simp)
        obtain rfl : l1 = true := by simpa using hall 1 (by simp)
        obtain rfl : l2 = true := by simpa using hall 2 (by simp)
        obtain rfl : l3 = true := by simpa using hall 3 (by simp)
        obtain rfl : l4 = true := by simpa using hall 4 (by simp)
        obtain rfl : l5 = true := by simpa using hall 5 (by simp)
        obtain rfl : l6 = true := by simpa using hall 6 (by simp)
        obtain rfl : l7 = true := by simpa using hall 7 (by simp)
        obtain rfl : l8 = true := by simpa using hall 8 (by simp)
        obtain rfl : l9 = true := by simpa using hall 9 (by simp)
        obtain rfl : l10 = true := by simpa using hall 10 (by simp)
        obtain rfl : l11 = true := by simpa using hall 11 (by simp)
        obtain rfl : l12 = true := by simpa using hall 12 (by simp)
        obtain rfl : l13 = true := by simpa using hall 13 (by simp)
        obtain rfl : l14 = true := by simpa using hall 14 (by simp)
        obtain rfl : l15 = true := by simpa using hall 15 (by simp)
        obtain rfl : l16 = true := by simpa using hall 16 (by simp)
        obtain rfl : l17 = true := by simpa using hall 17 (by simp)
        obtain rfl : l18 = true := by simpa using hall 18 (by simp)
        clear hall hr 
        simp only [↓reduceIte] at hS ⊢
        simp only [List.setIfInBounds_toArray, List.set_cons_zero, List.set_cons_succ]
        have HSf := Lib.hid hS
        clear hS
        go_wp2
        go_ret
        exact ⟨rfl, HSf.out.bel⟩
      · refine ⟨false, false, false, false, false, false, false, false, false, false, false, false, false, false, false, false, false, false, false, rfl, (by simp only [↓reduceIte, Bool.false_eq_true, List.setIfInBounds_toArray, List.set_cons_zero, List.set_cons_succ, Array.getD_eq_getD_getElem?, List.getElem?_toArray, List.getElem?_cons_zero, List.getElem?_cons_succ, Option.getD_some]), ?_⟩
        exact HS6.out.drew.pick [0, 1, 2, 3, 4, 5, 6, 7] (by decide)
    · obtain ⟨q, hq1⟩ : ∃ q, accT X l = q := ⟨_, rfl⟩
      have hq2 : accT Y l = q := by rw [← hq1]; exact starT HhX.out HhY.out l
      have Hhq1 := Lib.hid hq1; clear hq1
      have Hhq2 := Lib.hid hq2; clear hq2
      go_wp2
      refine wp_region_any (by kernel_rfl) ?_
      refine wpAny_invA (fun A listed a w' => ∃ (l0 l1 l2 l3 l4 l5 l6 l7 l8 l9 l10 l11 l12 l13 l14 l15 l16 l17 l18 : Bool) , listed = #[l0, l1, l2, l3, l4, l5, l6, l7, l8, l9, l10, l11, l12, l13, l14, l15, l16, l17, l18] ∧
          a = ⟨(((((((((((((((((((A.tmps.setIfInBounds 49 (if l0 = true then .bool true else A.tmps.getD 49 undef)).setIfInBounds 50 (if l1 = true then .bool false else A.tmps.getD 50 undef)).setIfInBounds 51 (if l2 = true then .bool false else A.tmps.getD 51 undef)).setIfInBounds 52 (if l3 = true then .bool true else A.tmps.getD 52 undef)).setIfInBounds 53 (if l4 = true then .bool false else A.tmps.getD 53 undef)).setIfInBounds 54 (if l5 = true then .bool false else A.tmps.getD 54 undef)).setIfInBounds 55 (if l6 = true then .bool false else A.tmps.getD 55 undef)).setIfInBounds 56 (if l7 = true then .agg #[.int .i64 Y.states, .slice ay1 Y.moves.length cy1, .slice ay2 Y.firsts.length cy2, .slice ay3 Y.ends.length cy3] else A.tmps.getD 56 undef)).setIfInBounds 57 (if l8 = true then .string (txB l) else A.tmps.getD 57 undef)).setIfInBounds 58 (if l9 = true then .bool q else A.tmps.getD 58 undef)).setIfInBounds 59 (if l10 = true then .agg #[.int .i64 X.states, .slice ax1 X.moves.length cx1, .slice ax2 X.firsts.length cx2, .slice ax3 X.ends.length cx3] else A.tmps.getD 59 undef)).setIfInBounds 60 (if l11 = true then .string (txB l) else A.tmps.getD 60 undef)).setIfInBounds 61 (if l12 = true then .bool q else A.tmps.getD 61 undef)).setIfInBounds 62 (if l13 = true then .bool true else A.tmps.getD 62 undef)).setIfInBounds 63 (if l14 = true then .bool true else A.tmps.getD 63 undef)).setIfInBounds 64 (if l15 = true then .bool true else A.tmps.getD 64 undef)).setIfInBounds 65 (if l16 = true then .bool true else A.tmps.getD 65 undef)).setIfInBounds 66 (if l17 = true then .bool true else A.tmps.getD 66 undef)).setIfInBounds 4 (.bool l18)), A.defers⟩ ∧
          St w w' [Ent.row 53 3 (.slice ax1 X.moves.length cx1) X.moves.length (X.moves.flatMap moveCells), Ent.row 3 1 (.slice ax2 X.firsts.length cx2) X.firsts.length (intCells X.firsts), Ent.row 3 1 (.slice ax3 X.ends.length cx3) X.ends.length (intCells X.ends), Ent.box w2.heap.size #[.int .i64 X.states, .slice ax1 X.moves.length cx1, .slice ax2 X.firsts.length cx2, .slice ax3 X.ends.length cx3] 46, Ent.row 53 3 (.slice ay1 Y.moves.length cy1) Y.moves.length (Y.moves.flatMap moveCells), Ent.row 3 1 (.slice ay2 Y.firsts.length cy2) Y.firsts.length (intCells Y.firsts), Ent.row 3 1 (.slice ay3 Y.ends.length cy3) Y.ends.length (intCells Y.ends), Ent.box w5.heap.size #[.int .i64 Y.states, .slice ay1 Y.moves.length cy1, .slice ay2 Y.firsts.length cy2, .slice ay3 Y.ends.length cy3] 46]) ?_ ?_ ?_
      · rintro listed a w' ⟨l0, l1, l2, l3, l4, l5, l6, l7, l8, l9, l10, l11, l12, l13, l14, l15, l16, l17, l18, rfl, rfl, hS⟩ i hi
        obtain ⟨hun, o, ho, hall⟩ := mem_ready.1 hi
        have hlt := (Array.getElem?_eq_some_iff.1 ho).1
        refine wpOp_step ho (fun K hK => ?_)
        clear hi
        have HS := Lib.hid hS
        clear hS
        simp only [List.setIfInBounds_toArray, List.set_cons_zero, List.set_cons_succ, Array.getD_eq_getD_getElem?, List.getElem?_toArray, List.getElem?_cons_zero, List.getElem?_cons_succ, Option.getD_some]
        obtain h | h | h | h | h | h | h | h | h | h | h | h | h | h | h | h | h | h | h : i = 0 ∨ i = 1 ∨ i = 2 ∨ i = 3 ∨ i = 4 ∨ i = 5 ∨ i = 6 ∨ i = 7 ∨ i = 8 ∨ i = 9 ∨ i = 10 ∨ i = 11 ∨ i = 12 ∨ i = 13 ∨ i = 14 ∨ i = 15 ∨ i = 16 ∨ i = 17 ∨ i = 18 := by simp at hlt; omega
        all_goals subst h
        all_goals simp only [List.getElem?_toArray, List.getElem?_cons_zero, List.getElem?_cons_succ, Option.some.injEq] at ho
        all_goals subst ho
        all_goals simp [Region.binds] at hun hall
        · subst hun
          go_simp
          exact hK _ _ ⟨true, l1, l2, l3, l4, l5, l6, l7, l8, l9, l10, l11, l12, l13, l14, l15, l16, l17, l18, rfl, (by simp only [↓reduceIte, List.setIfInBounds_toArray, List.set_cons_zero, List.set_cons_succ, Array.getD_eq_getD_getElem?, List.getElem?_toArray, List.getElem?_cons_zero, List.getElem?_cons_succ, Option.getD_some]), HS.out⟩
        · obtain rfl := hall
          subst hun
          go_simp
          exact hK _ _ ⟨true, true, l2, l3, l4, l5, l6, l7, l8, l9, l10, l11, l12, l13, l14, l15, l16, l17, l18, rfl, (by simp only [↓reduceIte, List.setIfInBounds_toArray, List.set_cons_zero, List.set_cons_succ, Array.getD_eq_getD_getElem?, List.getElem?_toArray, List.getElem?_cons_zero, List.getElem?_cons_succ, Option.getD_some]), HS.out⟩
        · obtain rfl := hall
          subst hun
          go_simp
          exact hK _ _ ⟨l0, true, true, l3, l4, l5, l6, l7, l8, l9, l10, l11, l12, l13, l14, l15, l16, l17, l18, rfl, (by simp only [↓reduceIte, List.setIfInBounds_toArray, List.set_cons_zero, List.set_cons_succ, Array.getD_eq_getD_getElem?, List.getElem?_toArray, List.getElem?_cons_zero, List.getElem?_cons_succ, Option.getD_some]), HS.out⟩
        · obtain rfl := hall
          subst hun
          go_simp
          exact hK _ _ ⟨l0, l1, true, true, l4, l5, l6, l7, l8, l9, l10, l11, l12, l13, l14, l15, l16, l17, l18, rfl, (by simp only [↓reduceIte, List.setIfInBounds_toArray, List.set_cons_zero, List.set_cons_succ, Array.getD_eq_getD_getElem?, List.getElem?_toArray, List.getElem?_cons_zero, List.getElem?_cons_succ, Option.getD_some]), HS.out⟩
        · obtain ⟨rfl, rfl⟩ := hall
          subst hun
          go_simp
          exact hK _ _ ⟨l0, l1, true, true, true, l5, l6, l7, l8, l9, l10, l11, l12, l13, l14, l15, l16, l17, l18, rfl, (by simp only [↓reduceIte, List.setIfInBounds_toArray, List.set_cons_zero, List.set_cons_succ, Array.getD_eq_getD_getElem?, List.getElem?_toArray, List.getElem?_cons_zero, List.getElem?_cons_succ, Option.getD_some]), HS.out⟩
        · obtain ⟨rfl, rfl⟩ := hall
          subst hun
          go_simp
          exact hK _ _ ⟨l0, l1, true, l3, true, true, l6, l7, l8, l9, l10, l11, l12, l13, l14, l15, l16, l17, l18, rfl, (by simp only [↓reduceIte, List.setIfInBounds_toArray, List.set_cons_zero, List.set_cons_succ, Array.getD_eq_getD_getElem?, List.getElem?_toArray, List.getElem?_cons_zero, List.getElem?_cons_succ, Option.getD_some]), HS.out⟩
        · obtain ⟨rfl, rfl⟩ := hall
          subst hun
          go_simp
          exact hK _ _ ⟨l0, l1, true, l3, l4, true, true, l7, l8, l9, l10, l11, l12, l13, l14, l15, l16, l17, l18, rfl, (by simp only [↓reduceIte, List.setIfInBounds_toArray, List.set_cons_zero, List.set_cons_succ, Array.getD_eq_getD_getElem?, List.getElem?_toArray, List.getElem?_cons_zero, List.getElem?_cons_succ, Option.getD_some]), HS.out⟩
        · obtain rfl := hall
          subst hun
          have e0 := HS.out.cell (v := .int .i64 Y.states) 7 0 rfl rfl
          have e1 := HS.out.cell (v := .slice ay1 Y.moves.length cy1) 7 1 rfl rfl
          have e2 := HS.out.cell (v := .slice ay2 Y.firsts.length cy2) 7 2 rfl rfl
          have e3 := HS.out.cell (v := .slice ay3 Y.ends.length cy3) 7 3 rfl rfl
          go_simp
          exact hK _ _ ⟨l0, l1, l2, l3, l4, l5, true, true, l8, l9, l10, l11, l12, l13, l14, l15, l16, l17, l18, rfl, (by simp only [↓reduceIte, List.setIfInBounds_toArray, List.set_cons_zero, List.set_cons_succ, Array.getD_eq_getD_getElem?, List.getElem?_toArray, List.getElem?_cons_zero, List.getElem?_cons_succ, Option.getD_some]), HS.out⟩
        · obtain rfl := hall
          subst hun
          go_simp
          exact hK _ _ ⟨l0, l1, l2, l3, l4, l5, true, l7, true, l9, l10, l11, l12, l13, l14, l15, l16, l17, l18, rfl, (by simp only [↓reduceIte, List.setIfInBounds_toArray, List.set_cons_zero, List.set_cons_succ, Array.getD_eq_getD_getElem?, List.getElem?_toArray, List.getElem?_cons_zero, List.getElem?_cons_succ, Option.getD_some]), HS.out⟩
        · obtain ⟨rfl, rfl, rfl⟩ := hall
          subst hun
          go_simp
          go_at_call 38
          refine (nfaAccepts_any Y l _ _ Hht.out (by omega) (nfaR_rows HS.out 4 5 6 rfl rfl rfl ys0 ys1) _ Hhq2.out).mono ?_
          rintro e u1 ⟨rfl, hb⟩
          have hS2 := HS.out.call hb
          have HhS2 := Lib.hid hS2; clear hS2
          go_simp
          exact hK _ _ ⟨l0, l1, l2, l3, l4, l5, true, true, true, true, l10, l11, l12, l13, l14, l15, l16, l17, l18, rfl, (by simp only [↓reduceIte, List.setIfInBounds_toArray, List.set_cons_zero, List.set_cons_succ, Array.getD_eq_getD_getElem?, List.getElem?_toArray, List.getElem?_cons_zero, List.getElem?_cons_succ, Option.getD_some]), HhS2.out⟩
        · obtain rfl := hall
          subst hun
          have e0 := HS.out.cell (v := .int .i64 X.states) 3 0 rfl rfl
          have e1 := HS.out.cell (v := .slice ax1 X.moves.length cx1) 3 1 rfl rfl
          have e2 := HS.out.cell (v := .slice ax2 X.firsts.length cx2) 3 2 rfl rfl
          have e3 := HS.out.cell (v := .slice ax3 X.ends.length cx3) 3 3 rfl rfl
          go_simp
          exact hK _ _ ⟨l0, l1, l2, l3, l4, l5, true, l7, l8, l9, true, l11, l12, l13, l14, l15, l16, l17, l18, rfl, (by simp only [↓reduceIte, List.setIfInBounds_toArray, List.set_cons_zero, List.set_cons_succ, Array.getD_eq_getD_getElem?, List.getElem?_toArray, List.getElem?_cons_zero, List.getElem?_cons_succ, Option.getD_some]), HS.out⟩
        · obtain rfl := hall
          subst hun
          go_simp
          exact hK _ _ ⟨l0, l1, l2, l3, l4, l5, true, l7, l8, l9, l10, true, l12, l13, l14, l15, l16, l17, l18, rfl, (by simp only [↓reduceIte, List.setIfInBounds_toArray, List.set_cons_zero, List.set_cons_succ, Array.getD_eq_getD_getElem?, List.getElem?_toArray, List.getElem?_cons_zero, List.getElem?_cons_succ, Option.getD_some]), HS.out⟩
        · obtain ⟨rfl, rfl, rfl, rfl⟩ := hall
          subst hun
          go_simp
          go_at_call 38
          refine (nfaAccepts_any X l _ _ Hht.out (by omega) (nfaR_rows HS.out 0 1 2 rfl rfl rfl xs0 xs1) _ Hhq1.out).mono ?_
          rintro e u1 ⟨rfl, hb⟩
          have hS2 := HS.out.call hb
          have HhS2 := Lib.hid hS2; clear hS2
          go_simp
          exact hK _ _ ⟨l0, l1, l2, l3, l4, l5, true, l7, l8, true, true, true, true, l13, l14, l15, l16, l17, l18, rfl, (by simp only [↓reduceIte, List.setIfInBounds_toArray, List.set_cons_zero, List.set_cons_succ, Array.getD_eq_getD_getElem?, List.getElem?_toArray, List.getElem?_cons_zero, List.getElem?_cons_succ, Option.getD_some]), HhS2.out⟩
        · obtain ⟨rfl, rfl, rfl⟩ := hall
          subst hun
          have hqq : (q == q) = true := beq_self_eq_true q
          go_simp
          exact hK _ _ ⟨l0, l1, l2, l3, l4, l5, true, l7, l8, true, l10, l11, true, true, l14, l15, l16, l17, l18, rfl, (by simp only [↓reduceIte, List.setIfInBounds_toArray, List.set_cons_zero, List.set_cons_succ, Array.getD_eq_getD_getElem?, List.getElem?_toArray, List.getElem?_cons_zero, List.getElem?_cons_succ, Option.getD_some]), HS.out⟩
        · obtain ⟨rfl, rfl⟩ := hall
          subst hun
          go_simp
          exact hK _ _ ⟨l0, l1, l2, l3, l4, l5, true, l7, l8, l9, l10, l11, l12, true, true, l15, l16, l17, l18, rfl, (by simp only [↓reduceIte, List.setIfInBounds_toArray, List.set_cons_zero, List.set_cons_succ, Array.getD_eq_getD_getElem?, List.getElem?_toArray, List.getElem?_cons_zero, List.getElem?_cons_succ, Option.getD_some]), HS.out⟩
        · obtain ⟨rfl, rfl⟩ := hall
          subst hun
          go_simp
          exact hK _ _ ⟨l0, l1, l2, l3, l4, l5, l6, l7, l8, l9, l10, l11, true, l13, true, true, l16, l17, l18, rfl, (by simp only [↓reduceIte, List.setIfInBounds_toArray, List.set_cons_zero, List.set_cons_succ, Array.getD_eq_getD_getElem?, List.getElem?_toArray, List.getElem?_cons_zero, List.getElem?_cons_succ, Option.getD_some]), HS.out⟩
        · obtain rfl := hall
          subst hun
          go_simp
          go_at_call 32
          refine (alive_any _).mono ?_
          rintro e u1 ⟨rfl, rfl⟩
          go_simp
          exact hK _ _ ⟨l0, l1, l2, l3, l4, l5, l6, l7, l8, l9, l10, l11, l12, l13, l14, true, true, l17, l18, rfl, (by simp only [↓reduceIte, List.setIfInBounds_toArray, List.set_cons_zero, List.set_cons_succ, Array.getD_eq_getD_getElem?, List.getElem?_toArray, List.getElem?_cons_zero, List.getElem?_cons_succ, Option.getD_some]), HS.out⟩
        · obtain ⟨rfl, rfl⟩ := hall
          subst hun
          go_simp
          exact hK _ _ ⟨l0, l1, l2, l3, l4, l5, l6, l7, l8, l9, l10, l11, l12, l13, l14, true, true, true, l18, rfl, (by simp only [↓reduceIte, List.setIfInBounds_toArray, List.set_cons_zero, List.set_cons_succ, Array.getD_eq_getD_getElem?, List.getElem?_toArray, List.getElem?_cons_zero, List.getElem?_cons_succ, Option.getD_some]), HS.out⟩
        · obtain ⟨rfl, rfl, rfl, rfl, rfl, rfl, rfl, rfl, rfl, rfl, rfl, rfl, rfl, rfl, rfl, rfl, rfl, rfl, -, -⟩ := hall
          subst hun
          go_simp
          exact hK _ _ ⟨true, true, true, true, true, true, true, true, true, true, true, true, true, true, true, true, true, true, true, rfl, (by simp only [↓reduceIte, List.setIfInBounds_toArray, List.set_cons_zero, List.set_cons_succ]), HS.out⟩
      · rintro listed a w' ⟨l0, l1, l2, l3, l4, l5, l6, l7, l8, l9, l10, l11, l12, l13, l14, l15, l16, l17, l18, rfl, rfl, hS⟩ hr
        have hall := ready_nilM (by kernel_rfl) rfl hr
        obtain rfl : l0 = true := by simpa using hall 0 (by simp)
        obtain rfl : l1 = true := by simpa using hall 1 (by simp)
        obtain rfl : l2 = true := by simpa using hall 2 (by simp)
        obtain rfl : l3 = true := by simpa using hall 3 (by simp)
        obtain rfl : l4 = true := by simpa using hall 4 (by simp)
        obtain rfl : l5 = true := by simpa using hall 5 (by simp)
        obtain rfl : l6 = true := by simpa using hall 6 (by simp)
        obtain rfl : l7 = true := by simpa using hall 7 (by simp)
        obtain rfl : l8 = true := by simpa using hall 8 (by simp)
        obtain rfl : l9 = true := by simpa using hall 9 (by simp)
        obtain rfl : l10 = true := by simpa using hall 10 (by simp)
        obtain rfl : l11 = true := by simpa using hall 11 (by simp)
        obtain rfl : l12 = true := by simpa using hall 12 (by simp)
        obtain rfl : l13 = true := by simpa using hall 13 (by simp)
        obtain rfl : l14 = true := by simpa using hall 14 (by simp)
        obtain rfl : l15 = true := by simpa using hall 15 (by simp)
        obtain rfl : l16 = true := by simpa using hall 16 (by simp)
        obtain rfl : l17 = true := by simpa using hall 17 (by simp)
        obtain rfl : l18 = true := by simpa using hall 18 (by simp)
        clear hall hr 
        simp only [↓reduceIte] at hS ⊢
        simp only [List.setIfInBounds_toArray, List.set_cons_zero, List.set_cons_succ]
        have HSf := Lib.hid hS
        clear hS
        go_wp2
        go_ret
        exact ⟨rfl, HSf.out.bel⟩
      · refine ⟨false, false, false, false, false, false, false, false, false, false, false, false, false, false, false, false, false, false, false, rfl, (by simp only [↓reduceIte, Bool.false_eq_true, List.setIfInBounds_toArray, List.set_cons_zero, List.set_cons_succ, Array.getD_eq_getD_getElem?, List.getElem?_toArray, List.getElem?_cons_zero, List.getElem?_cons_succ, Option.getD_some]), ?_⟩
        exact HS6.out.drew.pick [0, 1, 2, 3, 4, 5, 6, 7] (by decide)
end Go.Proofs.Ytolkifpeblbfcaa
