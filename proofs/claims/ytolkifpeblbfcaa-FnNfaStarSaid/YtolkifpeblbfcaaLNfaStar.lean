/-
  The walk over the law FnNfaStar.
  Conditions: the arguments read as bytes.
-/
import Derived.Test.YtolkifpeblbfcaaSw
import Derived.Test.YtolkifpeblbfcaaDz
import Derived.Test.YtolkifpeblbfcaaSf
import Derived.Test.YtolkifpeblbfcaaTz
import Derived.Test.YtolkifpeblbfcaaLNfaClose
namespace Go.Proofs.Ytolkifpeblbfcaa
open Go.RowKit

theorem starL_true {n X : NfaD} (h : starL n = (X, true)) : nfaOk n = true ∧ nfaOk X = true ∧ X = starN n := by
  rcases starL_cases n with h2 | ⟨a1, a2, h2⟩ <;> rw [h2] at h <;> injection h with h3 h4
  · cases h4
  · subst h3
    exact ⟨a1, a2, rfl⟩
theorem starL_false {n X : NfaD} (h : starL n = (X, false)) : X = zeN := by
  rcases starL_cases n with h2 | ⟨a1, a2, h2⟩ <;> rw [h2] at h <;> injection h with h3 h4
  · exact h3.symm
  · cases h4
theorem accT_nil {n X : NfaD} (h : starL n = (X, true)) : accT X [] = true := by
  obtain ⟨-, h2, rfl⟩ := starL_true h
  unfold accT
  rw [h2]
  exact star_nil h2
theorem accT_cat {n X : NfaD} (h : starL n = (X, true)) {l : List Nat} (hw : wdOk l = true) (k : Nat) (h1 : accT X (l.take k) = true) (h2 : accT X (l.drop k) = true) : accT X l = true := by
  obtain ⟨-, h3, rfl⟩ := starL_true h
  unfold accT at *
  simp only [Bool.and_eq_true] at *
  refine ⟨⟨h3, hw⟩, ?_⟩
  have := star_cat h3 h1.2 h2.2
  rwa [show lets (l.take k) ++ lets (l.drop k) = lets l by unfold lets; rw [← List.map_append, List.take_append_drop]] at this
theorem accT_has {n X : NfaD} (h : starL n = (X, true)) {l : List Nat} (h1 : accT n l = true) : accT X l = true := by
  obtain ⟨h0, h3, rfl⟩ := starL_true h
  unfold accT at *
  simp only [Bool.and_eq_true] at *
  exact ⟨⟨h3, h1.1.2⟩, star_has h0 h3 h1.2⟩
set_option maxRecDepth 100000 in
set_option maxHeartbeats 16000000 in
theorem nfaStar_walk (bs cs : List Nat) (v u : Value) (w : World) (hb : Bytes 0 w v bs) (hc : Bytes 0 w u cs) :
    Calls Try.prog 7 #[v, u] w fun e w' => e = .returned (.bool true) ∧ Below w.heap.size w w' := by
  have HB := Lib.hid hb
  have HC := Lib.hid hc
  obtain ⟨av, cv, rfl, hcv1, hcv2, -⟩ := hb.form
  obtain ⟨au, cu, rfl, hcu1, hcu2, -⟩ := hc.form
  clear hb hc
  by_cases hlen : 1048576 < bs.length
  · have hl2 : (1048576 : Int) < bs.length := by omega
    go_enter Try.func7, Try.ntmps7
    go_wp2
    go_ret
    exact ⟨rfl, Below.refl _ _⟩
  have hl2 : ¬ (1048576 : Int) < bs.length := by omega
  by_cases hlen2 : 1048576 < cs.length
  · have hl3 : (1048576 : Int) < cs.length := by omega
    go_enter Try.func7, Try.ntmps7
    go_wp2
    go_ret
    exact ⟨rfl, Below.refl _ _⟩
  have hl3 : ¬ (1048576 : Int) < cs.length := by omega
  go_enter Try.func7, Try.ntmps7
  go_wp2_with fail
  refine (drawStar_any bs _ _ HB.out (by omega)).mono ?_
  rintro e w1 ⟨n, a1, a2, a3, c1, c2, c3, hs0, hs1, hm, hf, he, rfl, hS⟩
  have HS := Lib.hid (hS.alloc _ rfl #[.int .i64 n.states, .slice a1 n.moves.length c1, .slice a2 n.firsts.length c2, .slice a3 n.ends.length c3] 46)
  have e0 := HS.out.cell (v := .int .i64 n.states) 3 0 rfl rfl
  have e1 := HS.out.cell (v := .slice a1 n.moves.length c1) 3 1 rfl rfl
  have e2 := HS.out.cell (v := .slice a2 n.firsts.length c2) 3 2 rfl rfl
  have e3 := HS.out.cell (v := .slice a3 n.ends.length c3) 3 3 rfl rfl
  obtain ⟨X, ok, hX⟩ : ∃ X ok, starL n = (X, ok) := ⟨_, _, rfl⟩
  obtain ⟨xs0, xs1⟩ := limN_bound hX (by omega) (by omega)
  have HhX := Lib.hid hX; clear hX
  clear hS
  go_wp2_with fail
  refine (implStarR_any n X _ _ _ HhX.out (nfaR_rows HS.out 0 1 2 rfl rfl rfl (by omega) (by omega))).mono ?_
  rintro e w2 ⟨ax1, cx1, ax2, cx2, ax3, cx3, rfl, hS'⟩
  have HS2 := Lib.hid ((HS.out.cat hS').alloc _ rfl #[.int .i64 X.states, .slice ax1 X.moves.length cx1, .slice ax2 X.firsts.length cx2, .slice ax3 X.ends.length cx3] 46)
  clear hS' e0 e1 e2 e3
  have e0 := HS2.out.cell (v := .int .i64 n.states) 3 0 rfl rfl
  have e1 := HS2.out.cell (v := .slice a1 n.moves.length c1) 3 1 rfl rfl
  have e2 := HS2.out.cell (v := .slice a2 n.firsts.length c2) 3 2 rfl rfl
  have e3 := HS2.out.cell (v := .slice a3 n.ends.length c3) 3 3 rfl rfl
  go_wp2_with fail
  refine (specStarR_any n X _ _ _ HhX.out (nfaR_rows HS2.out 0 1 2 rfl rfl rfl (by omega) (by omega))).mono ?_
  rintro e w3 ⟨az1, cz1, az2, cz2, az3, cz3, rfl, hS'⟩
  have HS3 := Lib.hid ((HS2.out.cat hS').alloc _ rfl #[.int .i64 X.states, .slice az1 X.moves.length cz1, .slice az2 X.firsts.length cz2, .slice az3 X.ends.length cz3] 46)
  clear hS' e0 e1 e2 e3
  have e0 := HS3.out.cell (v := .int .i64 X.states) 7 0 rfl rfl
  have e1 := HS3.out.cell (v := .slice ax1 X.moves.length cx1) 7 1 rfl rfl
  have e2 := HS3.out.cell (v := .slice ax2 X.firsts.length cx2) 7 2 rfl rfl
  have e3 := HS3.out.cell (v := .slice ax3 X.ends.length cx3) 7 3 rfl rfl
  have f0 := HS3.out.cell (v := .int .i64 X.states) 11 0 rfl rfl
  have f1 := HS3.out.cell (v := .slice az1 X.moves.length cz1) 11 1 rfl rfl
  have f2 := HS3.out.cell (v := .slice az2 X.firsts.length cz2) 11 2 rfl rfl
  have f3 := HS3.out.cell (v := .slice az3 X.ends.length cz3) 11 3 rfl rfl
  have hbb : (true != true) = false := rfl
  cases ok
  · obtain rfl : X = zeN := starL_false HhX.out
    go_wp2_with fail
    refine (sameNfa_any zeN _ _ _ (nfaR_rows HS3.out 4 5 6 rfl rfl rfl xs0 xs1) (nfaR_rows HS3.out 8 9 10 rfl rfl rfl xs0 xs1)).mono ?_
    rintro e w4 ⟨rfl, hb4⟩
    have HS4 := Lib.hid (HS3.out.call hb4)
    clear hb4 e0 e1 e2 e3 f0 f1 f2 f3
    have x0 := HS4.out.cell (v := .int .i64 0) 7 0 rfl rfl
    go_wp2_with (go_at_call 32; refine (alive_any _).mono ?_; rintro e w' ⟨rfl, rfl⟩)
    go_ret
    exact ⟨rfl, HS4.out.bel⟩
  · have hokX : nfaOk X = true := (starL_true HhX.out).2.1
    have hq0 := accT_nil HhX.out
    go_wp2_with fail
    refine (sameNfa_any X _ _ _ (nfaR_rows HS3.out 4 5 6 rfl rfl rfl xs0 xs1) (nfaR_rows HS3.out 8 9 10 rfl rfl rfl xs0 xs1)).mono ?_
    rintro e w4 ⟨rfl, hb4⟩
    have HS4 := Lib.hid ((HS3.out.call hb4).pick [0, 1, 2, 3, 4, 5, 6, 7] (by decide))
    clear hb4 e0 e1 e2 e3 f0 f1 f2 f3
    have HhokX := Lib.hid hokX; clear hokX
    have Hhq0 := Lib.hid hq0; clear hq0
    go_wp2_with fail
    refine (drawWord_any cs _ _ (HC.out.below HS4.out.bel) (by omega)).mono ?_
    rintro e w6 ⟨l, ht, hl10, rfl, hb6⟩
    have HS6 := Lib.hid (HS4.out.call hb6)
    clear hb6
    have Hht := Lib.hid ht; clear ht
    have e0 := HS6.out.cell (v := .int .i64 X.states) 7 0 rfl rfl
    have e1 := HS6.out.cell (v := .slice ax1 X.moves.length cx1) 7 1 rfl rfl
    have e2 := HS6.out.cell (v := .slice ax2 X.firsts.length cx2) 7 2 rfl rfl
    have e3 := HS6.out.cell (v := .slice ax3 X.ends.length cx3) 7 3 rfl rfl
    have hsz := txB_size l
    cases hwd : wdOk l
    · have Hhwd := Lib.hid hwd; clear hwd
      go_wp2_with (go_at_call 39; refine (specWordValid_any l _ Hht.out (by omega) _ Hhwd.out).mono ?_; rintro e w' ⟨rfl, rfl⟩)
      refine (nfaAccepts_any X [] _ _ (fun b hb => by cases hb) (by simp) (nfaR_rows HS6.out 4 5 6 rfl rfl rfl xs0 xs1) _ Hhq0.out).mono ?_
      rintro e w7 ⟨rfl, hb7⟩
      have HS7 := Lib.hid (HS6.out.call hb7)
      clear hb7
      go_wp2
      go_ret
      exact ⟨rfl, HS7.out.bel⟩
    · have Hhwd := Lib.hid hwd; clear hwd
      clear e0 e1 e2 e3
      go_wp2_with (go_at_call 39; refine (specWordValid_any l _ Hht.out (by omega) _ Hhwd.out).mono ?_; rintro e w' ⟨rfl, rfl⟩)
      go_loopw [11] (fun vk wr => ∃ k : Nat, vk = .int .i64 k ∧ k ≤ l.length + 1 ∧ St w wr [Ent.row 53 3 (.slice a1 n.moves.length c1) n.moves.length (n.moves.flatMap moveCells), Ent.row 3 1 (.slice a2 n.firsts.length c2) n.firsts.length (intCells n.firsts), Ent.row 3 1 (.slice a3 n.ends.length c3) n.ends.length (intCells n.ends), Ent.box w1.heap.size #[.int .i64 n.states, .slice a1 n.moves.length c1, .slice a2 n.firsts.length c2, .slice a3 n.ends.length c3] 46, Ent.row 53 3 (.slice ax1 X.moves.length cx1) X.moves.length (X.moves.flatMap moveCells), Ent.row 3 1 (.slice ax2 X.firsts.length cx2) X.firsts.length (intCells X.firsts), Ent.row 3 1 (.slice ax3 X.ends.length cx3) X.ends.length (intCells X.ends), Ent.box w2.heap.size #[.int .i64 X.states, .slice ax1 X.moves.length cx1, .slice ax2 X.firsts.length cx2, .slice ax3 X.ends.length cx3] 46]) (fun vk _ => l.length + 1 - (intOf vk).toNat)
      case atStart => exact ⟨0, rfl, Nat.zero_le _, HS6.out⟩
      case round =>
        obtain ⟨k, rfl, hk, hS⟩ := hrel
        by_cases hlt : k ≤ l.length
        · have hkI : (k : Int) ≤ l.length := by omega
          have hct := cut_to l k (k : Int) rfl hlt
          have hcf := cut_from l k (k : Int) rfl hlt
          have htt := isT_take Hht.out k
          have htd := isT_drop Hht.out k
          have htl : (l.take k).length ≤ 1000 := by rw [List.length_take]; omega
          have hdl : (l.drop k).length ≤ 1000 := by rw [List.length_drop]; omega
          have hcat := accT_cat HhX.out Hhwd.out k
          have HhS := Lib.hid hS; clear hS
          have Hhtt := Lib.hid htt; clear htt
          have Hhtd := Lib.hid htd; clear htd
          cases hp : accT X (l.take k)
          · have Hhp := Lib.hid hp; clear hp
            have Hhcat := Lib.hid hcat; clear hcat
            go_wp2
            refine wp_region_any (by kernel_rfl) ?_
            refine wpAny_invA (fun A listed a w' => ∃ (l0 l1 l2 l3 l4 l5 l6 l7 l8 l9 l10 l11 l12 l13 l14 l15 l16 l17 : Bool) , listed = #[l0, l1, l2, l3, l4, l5, l6, l7, l8, l9, l10, l11, l12, l13, l14, l15, l16, l17] ∧
                a = ⟨((((((((((((((((((A.tmps.setIfInBounds 62 (if l0 = true then .agg #[.int .i64 X.states, .slice ax1 X.moves.length cx1, .slice ax2 X.firsts.length cx2, .slice ax3 X.ends.length cx3] else A.tmps.getD 62 undef)).setIfInBounds 63 (if l1 = true then .string (txB l) else A.tmps.getD 63 undef)).setIfInBounds 64 (if l2 = true then .int .i64 (k : Int) else A.tmps.getD 64 undef)).setIfInBounds 65 (if l3 = true then .string (txB (l.take k)) else A.tmps.getD 65 undef)).setIfInBounds 66 (if l4 = true then .bool false else A.tmps.getD 66 undef)).setIfInBounds 67 (if l5 = true then .bool false else A.tmps.getD 67 undef)).setIfInBounds 68 (if l6 = true then undef else A.tmps.getD 68 undef)).setIfInBounds 69 (if l7 = true then undef else A.tmps.getD 69 undef)).setIfInBounds 70 (if l8 = true then undef else A.tmps.getD 70 undef)).setIfInBounds 71 (if l9 = true then undef else A.tmps.getD 71 undef)).setIfInBounds 72 (if l10 = true then undef else A.tmps.getD 72 undef)).setIfInBounds 73 (if l11 = true then .bool false else A.tmps.getD 73 undef)).setIfInBounds 74 (if l12 = true then .bool false else A.tmps.getD 74 undef)).setIfInBounds 75 (if l13 = true then undef else A.tmps.getD 75 undef)).setIfInBounds 76 (if l14 = true then undef else A.tmps.getD 76 undef)).setIfInBounds 77 (if l15 = true then undef else A.tmps.getD 77 undef)).setIfInBounds 78 (if l16 = true then undef else A.tmps.getD 78 undef)).setIfInBounds 79 (if l17 = true then .bool false else A.tmps.getD 79 undef)), A.defers⟩ ∧
                St w w' [Ent.row 53 3 (.slice a1 n.moves.length c1) n.moves.length (n.moves.flatMap moveCells), Ent.row 3 1 (.slice a2 n.firsts.length c2) n.firsts.length (intCells n.firsts), Ent.row 3 1 (.slice a3 n.ends.length c3) n.ends.length (intCells n.ends), Ent.box w1.heap.size #[.int .i64 n.states, .slice a1 n.moves.length c1, .slice a2 n.firsts.length c2, .slice a3 n.ends.length c3] 46, Ent.row 53 3 (.slice ax1 X.moves.length cx1) X.moves.length (X.moves.flatMap moveCells), Ent.row 3 1 (.slice ax2 X.firsts.length cx2) X.firsts.length (intCells X.firsts), Ent.row 3 1 (.slice ax3 X.ends.length cx3) X.ends.length (intCells X.ends), Ent.box w2.heap.size #[.int .i64 X.states, .slice ax1 X.moves.length cx1, .slice ax2 X.firsts.length cx2, .slice ax3 X.ends.length cx3] 46]) ?_ ?_ ?_
            · rintro listed a w' ⟨l0, l1, l2, l3, l4, l5, l6, l7, l8, l9, l10, l11, l12, l13, l14, l15, l16, l17, rfl, rfl, hS⟩ i hi
              obtain ⟨hun, o, ho, hall⟩ := mem_ready.1 hi
              have hlt := (Array.getElem?_eq_some_iff.1 ho).1
              refine wpOp_step ho (fun K hK => ?_)
              clear hi
              have HS := Lib.hid hS
              clear hS
              simp only [List.setIfInBounds_toArray, List.set_cons_zero, List.set_cons_succ, Array.getD_eq_getD_getElem?, List.getElem?_toArray, List.getElem?_cons_zero, List.getElem?_cons_succ, Option.getD_some]
              obtain h | h | h | h | h | h | h | h | h | h | h | h | h | h | h | h | h | h : i = 0 ∨ i = 1 ∨ i = 2 ∨ i = 3 ∨ i = 4 ∨ i = 5 ∨ i = 6 ∨ i = 7 ∨ i = 8 ∨ i = 9 ∨ i = 10 ∨ i = 11 ∨ i = 12 ∨ i = 13 ∨ i = 14 ∨ i = 15 ∨ i = 16 ∨ i = 17 := by simp at hlt; omega
              all_goals subst h
              all_goals simp only [List.getElem?_toArray, List.getElem?_cons_zero, List.getElem?_cons_succ, Option.some.injEq] at ho
              all_goals subst ho
              all_goals simp [Region.binds] at hun hall
              · subst hun
                have e0 := HS.out.cell (v := .int .i64 X.states) 7 0 rfl rfl
                have e1 := HS.out.cell (v := .slice ax1 X.moves.length cx1) 7 1 rfl rfl
                have e2 := HS.out.cell (v := .slice ax2 X.firsts.length cx2) 7 2 rfl rfl
                have e3 := HS.out.cell (v := .slice ax3 X.ends.length cx3) 7 3 rfl rfl
                go_simp
                exact hK _ _ ⟨true, l1, l2, l3, l4, l5, l6, l7, l8, l9, l10, l11, l12, l13, l14, l15, l16, l17, rfl, (by simp only [↓reduceIte, List.setIfInBounds_toArray, List.set_cons_zero, List.set_cons_succ, Array.getD_eq_getD_getElem?, List.getElem?_toArray, List.getElem?_cons_zero, List.getElem?_cons_succ, Option.getD_some]), HS.out⟩
              · subst hun
                go_simp
                exact hK _ _ ⟨l0, true, l2, l3, l4, l5, l6, l7, l8, l9, l10, l11, l12, l13, l14, l15, l16, l17, rfl, (by simp only [↓reduceIte, List.setIfInBounds_toArray, List.set_cons_zero, List.set_cons_succ, Array.getD_eq_getD_getElem?, List.getElem?_toArray, List.getElem?_cons_zero, List.getElem?_cons_succ, Option.getD_some]), HS.out⟩
              · subst hun
                go_simp
                exact hK _ _ ⟨l0, l1, true, l3, l4, l5, l6, l7, l8, l9, l10, l11, l12, l13, l14, l15, l16, l17, rfl, (by simp only [↓reduceIte, List.setIfInBounds_toArray, List.set_cons_zero, List.set_cons_succ, Array.getD_eq_getD_getElem?, List.getElem?_toArray, List.getElem?_cons_zero, List.getElem?_cons_succ, Option.getD_some]), HS.out⟩
              · obtain ⟨rfl, rfl⟩ := hall
                subst hun
                go_simp
                exact hK _ _ ⟨l0, true, true, true, l4, l5, l6, l7, l8, l9, l10, l11, l12, l13, l14, l15, l16, l17, rfl, (by simp only [↓reduceIte, List.setIfInBounds_toArray, List.set_cons_zero, List.set_cons_succ, Array.getD_eq_getD_getElem?, List.getElem?_toArray, List.getElem?_cons_zero, List.getElem?_cons_succ, Option.getD_some]), HS.out⟩
              · obtain ⟨rfl, rfl⟩ := hall
                subst hun
                go_simp
                go_at_call 38
                refine (nfaAccepts_any X (l.take k) _ _ Hhtt.out htl (nfaR_rows HS.out 4 5 6 rfl rfl rfl xs0 xs1) _ Hhp.out).mono ?_
                rintro e u1 ⟨rfl, hb⟩
                have hS2 := HS.out.call hb
                have HhS2 := Lib.hid hS2; clear hS2
                go_simp
                exact hK _ _ ⟨true, l1, l2, true, true, l5, l6, l7, l8, l9, l10, l11, l12, l13, l14, l15, l16, l17, rfl, (by simp only [↓reduceIte, List.setIfInBounds_toArray, List.set_cons_zero, List.set_cons_succ, Array.getD_eq_getD_getElem?, List.getElem?_toArray, List.getElem?_cons_zero, List.getElem?_cons_succ, Option.getD_some]), HhS2.out⟩
              · obtain rfl := hall
                subst hun
                go_simp
                exact hK _ _ ⟨l0, l1, l2, l3, true, true, l6, l7, l8, l9, l10, l11, l12, l13, l14, l15, l16, l17, rfl, (by simp only [↓reduceIte, List.setIfInBounds_toArray, List.set_cons_zero, List.set_cons_succ, Array.getD_eq_getD_getElem?, List.getElem?_toArray, List.getElem?_cons_zero, List.getElem?_cons_succ, Option.getD_some]), HS.out⟩
              · obtain rfl := hall
                subst hun
                go_simp
                exact hK _ _ ⟨l0, l1, l2, l3, l4, true, true, l7, l8, l9, l10, l11, l12, l13, l14, l15, l16, l17, rfl, (by simp only [↓reduceIte, List.setIfInBounds_toArray, List.set_cons_zero, List.set_cons_succ, Array.getD_eq_getD_getElem?, List.getElem?_toArray, List.getElem?_cons_zero, List.getElem?_cons_succ, Option.getD_some]), HS.out⟩
              · obtain rfl := hall
                subst hun
                go_simp
                exact hK _ _ ⟨l0, l1, l2, l3, l4, true, l6, true, l8, l9, l10, l11, l12, l13, l14, l15, l16, l17, rfl, (by simp only [↓reduceIte, List.setIfInBounds_toArray, List.set_cons_zero, List.set_cons_succ, Array.getD_eq_getD_getElem?, List.getElem?_toArray, List.getElem?_cons_zero, List.getElem?_cons_succ, Option.getD_some]), HS.out⟩
              · obtain rfl := hall
                subst hun
                go_simp
                exact hK _ _ ⟨l0, l1, l2, l3, l4, true, l6, l7, true, l9, l10, l11, l12, l13, l14, l15, l16, l17, rfl, (by simp only [↓reduceIte, List.setIfInBounds_toArray, List.set_cons_zero, List.set_cons_succ, Array.getD_eq_getD_getElem?, List.getElem?_toArray, List.getElem?_cons_zero, List.getElem?_cons_succ, Option.getD_some]), HS.out⟩
              · obtain ⟨rfl, rfl, rfl⟩ := hall
                subst hun
                go_simp
                exact hK _ _ ⟨l0, l1, l2, l3, l4, true, l6, true, true, true, l10, l11, l12, l13, l14, l15, l16, l17, rfl, (by simp only [↓reduceIte, List.setIfInBounds_toArray, List.set_cons_zero, List.set_cons_succ, Array.getD_eq_getD_getElem?, List.getElem?_toArray, List.getElem?_cons_zero, List.getElem?_cons_succ, Option.getD_some]), HS.out⟩
              · obtain ⟨rfl, rfl, rfl⟩ := hall
                subst hun
                go_simp
                exact hK _ _ ⟨l0, l1, l2, l3, l4, true, true, l7, l8, true, true, l11, l12, l13, l14, l15, l16, l17, rfl, (by simp only [↓reduceIte, List.setIfInBounds_toArray, List.set_cons_zero, List.set_cons_succ, Array.getD_eq_getD_getElem?, List.getElem?_toArray, List.getElem?_cons_zero, List.getElem?_cons_succ, Option.getD_some]), HS.out⟩
              · obtain ⟨rfl, rfl⟩ := hall
                subst hun
                go_simp
                exact hK _ _ ⟨l0, l1, l2, l3, l4, true, l6, l7, l8, l9, true, true, l12, l13, l14, l15, l16, l17, rfl, (by simp only [↓reduceIte, List.setIfInBounds_toArray, List.set_cons_zero, List.set_cons_succ, Array.getD_eq_getD_getElem?, List.getElem?_toArray, List.getElem?_cons_zero, List.getElem?_cons_succ, Option.getD_some]), HS.out⟩
              · obtain ⟨rfl, rfl⟩ := hall
                subst hun
                go_simp
                exact hK _ _ ⟨l0, l1, l2, l3, l4, l5, l6, l7, l8, l9, true, true, true, l13, l14, l15, l16, l17, rfl, (by simp only [↓reduceIte, List.setIfInBounds_toArray, List.set_cons_zero, List.set_cons_succ, Array.getD_eq_getD_getElem?, List.getElem?_toArray, List.getElem?_cons_zero, List.getElem?_cons_succ, Option.getD_some]), HS.out⟩
              · obtain rfl := hall
                subst hun
                go_simp
                exact hK _ _ ⟨l0, l1, l2, l3, l4, l5, l6, l7, l8, l9, l10, l11, true, true, l14, l15, l16, l17, rfl, (by simp only [↓reduceIte, List.setIfInBounds_toArray, List.set_cons_zero, List.set_cons_succ, Array.getD_eq_getD_getElem?, List.getElem?_toArray, List.getElem?_cons_zero, List.getElem?_cons_succ, Option.getD_some]), HS.out⟩
              · obtain rfl := hall
                subst hun
                go_simp
                exact hK _ _ ⟨l0, l1, l2, l3, l4, l5, l6, l7, l8, l9, l10, l11, true, l13, true, l15, l16, l17, rfl, (by simp only [↓reduceIte, List.setIfInBounds_toArray, List.set_cons_zero, List.set_cons_succ, Array.getD_eq_getD_getElem?, List.getElem?_toArray, List.getElem?_cons_zero, List.getElem?_cons_succ, Option.getD_some]), HS.out⟩
              · obtain ⟨rfl, rfl, rfl⟩ := hall
                subst hun
                go_simp
                exact hK _ _ ⟨l0, l1, l2, l3, l4, l5, l6, l7, l8, l9, l10, l11, true, true, true, true, l16, l17, rfl, (by simp only [↓reduceIte, List.setIfInBounds_toArray, List.set_cons_zero, List.set_cons_succ, Array.getD_eq_getD_getElem?, List.getElem?_toArray, List.getElem?_cons_zero, List.getElem?_cons_succ, Option.getD_some]), HS.out⟩
              · obtain ⟨rfl, rfl⟩ := hall
                subst hun
                go_simp
                exact hK _ _ ⟨l0, l1, l2, l3, l4, l5, l6, l7, l8, l9, l10, l11, true, l13, l14, true, true, l17, rfl, (by simp only [↓reduceIte, List.setIfInBounds_toArray, List.set_cons_zero, List.set_cons_succ, Array.getD_eq_getD_getElem?, List.getElem?_toArray, List.getElem?_cons_zero, List.getElem?_cons_succ, Option.getD_some]), HS.out⟩
              · obtain ⟨rfl, rfl⟩ := hall
                subst hun
                go_simp
                exact hK _ _ ⟨l0, l1, l2, l3, l4, l5, l6, l7, l8, l9, l10, l11, true, l13, l14, l15, true, true, rfl, (by simp only [↓reduceIte, List.setIfInBounds_toArray, List.set_cons_zero, List.set_cons_succ, Array.getD_eq_getD_getElem?, List.getElem?_toArray, List.getElem?_cons_zero, List.getElem?_cons_succ, Option.getD_some]), HS.out⟩
            · rintro listed a w' ⟨l0, l1, l2, l3, l4, l5, l6, l7, l8, l9, l10, l11, l12, l13, l14, l15, l16, l17, rfl, rfl, hS⟩ hr
              have hall := ready_nilM (by kernel_rfl) rfl hr
              obtain rfl : l0 = true := by simpa using hall 0 (by simp)
              obtain rfl : l1 = true := by simpa using hall 1 (by simp)
              obtain rfl : l2 = true := by simpa using hall 2 (by simp)
              obtain rfl : l3 = true := by simpa using hall 3 (by simp)
              obtain rfl : l4 = true := by simpa using hall 4 (by simp)
              obtain rfl : l5 = true := by simpa using hall 5 (by simp)
              obtain rfl : l6 = true := by simpa using hall 6 (by simp)
              obtain rfl : l7 = true := by simpa using hall 7 (by simp)
              obtain rfl : l8 = true := by simpa using hall 8 (by simp)
              obtain rfl : l9 = true := by simpa using hall 9 (by simp)
              obtain rfl : l10 = true := by simpa using hall 10 (by simp)
              obtain rfl : l11 = true := by simpa using hall 11 (by simp)
              obtain rfl : l12 = true := by simpa using hall 12 (by simp)
              obtain rfl : l13 = true := by simpa using hall 13 (by simp)
              obtain rfl : l14 = true := by simpa using hall 14 (by simp)
              obtain rfl : l15 = true := by simpa using hall 15 (by simp)
              obtain rfl : l16 = true := by simpa using hall 16 (by simp)
              obtain rfl : l17 = true := by simpa using hall 17 (by simp)
              clear hall hr 
              simp only [↓reduceIte] at hS ⊢
              simp only [List.setIfInBounds_toArray, List.set_cons_zero, List.set_cons_succ]
              have HSf := Lib.hid hS
              clear hS
              go_wp2
              go_roundw
              case rel => exact ⟨k + 1, by go_num, by omega, HSf.out⟩
              case measure => simp [intOf]; omega
            · refine ⟨false, false, false, false, false, false, false, false, false, false, false, false, false, false, false, false, false, false, rfl, (by simp only [↓reduceIte, Bool.false_eq_true, List.setIfInBounds_toArray, List.set_cons_zero, List.set_cons_succ, Array.getD_eq_getD_getElem?, List.getElem?_toArray, List.getElem?_cons_zero, List.getElem?_cons_succ, Option.getD_some]), ?_⟩
              exact HhS.out.drew.pick [0, 1, 2, 3, 4, 5, 6, 7] (by decide)
          · cases hr : accT X (l.drop k)
            · have Hhp := Lib.hid hp; clear hp
              have Hhr := Lib.hid hr; clear hr
              have Hhcat := Lib.hid hcat; clear hcat
              go_wp2
              refine wp_region_any (by kernel_rfl) ?_
              refine wpAny_invA (fun A listed a w' => ∃ (l0 l1 l2 l3 l4 l5 l6 l7 l8 l9 l10 l11 l12 l13 l14 l15 l16 l17 : Bool) , listed = #[l0, l1, l2, l3, l4, l5, l6, l7, l8, l9, l10, l11, l12, l13, l14, l15, l16, l17] ∧
                  a = ⟨((((((((((((((((((A.tmps.setIfInBounds 62 (if l0 = true then .agg #[.int .i64 X.states, .slice ax1 X.moves.length cx1, .slice ax2 X.firsts.length cx2, .slice ax3 X.ends.length cx3] else A.tmps.getD 62 undef)).setIfInBounds 63 (if l1 = true then .string (txB l) else A.tmps.getD 63 undef)).setIfInBounds 64 (if l2 = true then .int .i64 (k : Int) else A.tmps.getD 64 undef)).setIfInBounds 65 (if l3 = true then .string (txB (l.take k)) else A.tmps.getD 65 undef)).setIfInBounds 66 (if l4 = true then .bool true else A.tmps.getD 66 undef)).setIfInBounds 67 (if l5 = true then .bool true else A.tmps.getD 67 undef)).setIfInBounds 68 (if l6 = true then .agg #[.int .i64 X.states, .slice ax1 X.moves.length cx1, .slice ax2 X.firsts.length cx2, .slice ax3 X.ends.length cx3] else A.tmps.getD 68 undef)).setIfInBounds 69 (if l7 = true then .string (txB l) else A.tmps.getD 69 undef)).setIfInBounds 70 (if l8 = true then .int .i64 (k : Int) else A.tmps.getD 70 undef)).setIfInBounds 71 (if l9 = true then .string (txB (l.drop k)) else A.tmps.getD 71 undef)).setIfInBounds 72 (if l10 = true then .bool false else A.tmps.getD 72 undef)).setIfInBounds 73 (if l11 = true then .bool false else A.tmps.getD 73 undef)).setIfInBounds 74 (if l12 = true then .bool false else A.tmps.getD 74 undef)).setIfInBounds 75 (if l13 = true then undef else A.tmps.getD 75 undef)).setIfInBounds 76 (if l14 = true then undef else A.tmps.getD 76 undef)).setIfInBounds 77 (if l15 = true then undef else A.tmps.getD 77 undef)).setIfInBounds 78 (if l16 = true then undef else A.tmps.getD 78 undef)).setIfInBounds 79 (if l17 = true then .bool false else A.tmps.getD 79 undef)), A.defers⟩ ∧
                  St w w' [Ent.row 53 3 (.slice a1 n.moves.length c1) n.moves.length (n.moves.flatMap moveCells), Ent.row 3 1 (.slice a2 n.firsts.length c2) n.firsts.length (intCells n.firsts), Ent.row 3 1 (.slice a3 n.ends.length c3) n.ends.length (intCells n.ends), Ent.box w1.heap.size #[.int .i64 n.states, .slice a1 n.moves.length c1, .slice a2 n.firsts.length c2, .slice a3 n.ends.length c3] 46, Ent.row 53 3 (.slice ax1 X.moves.length cx1) X.moves.length (X.moves.flatMap moveCells), Ent.row 3 1 (.slice ax2 X.firsts.length cx2) X.firsts.length (intCells X.firsts), Ent.row 3 1 (.slice ax3 X.ends.length cx3) X.ends.length (intCells X.ends), Ent.box w2.heap.size #[.int .i64 X.states, .slice ax1 X.moves.length cx1, .slice ax2 X.firsts.length cx2, .slice ax3 X.ends.length cx3] 46]) ?_ ?_ ?_
              · rintro listed a w' ⟨l0, l1, l2, l3, l4, l5, l6, l7, l8, l9, l10, l11, l12, l13, l14, l15, l16, l17, rfl, rfl, hS⟩ i hi
                obtain ⟨hun, o, ho, hall⟩ := mem_ready.1 hi
                have hlt := (Array.getElem?_eq_some_iff.1 ho).1
                refine wpOp_step ho (fun K hK => ?_)
                clear hi
                have HS := Lib.hid hS
                clear hS
                simp only [List.setIfInBounds_toArray, List.set_cons_zero, List.set_cons_succ, Array.getD_eq_getD_getElem?, List.getElem?_toArray, List.getElem?_cons_zero, List.getElem?_cons_succ, Option.getD_some]
                obtain h | h | h | h | h | h | h | h | h | h | h | h | h | h | h | h | h | h : i = 0 ∨ i = 1 ∨ i = 2 ∨ i = 3 ∨ i = 4 ∨ i = 5 ∨ i = 6 ∨ i = 7 ∨ i = 8 ∨ i = 9 ∨ i = 10 ∨ i = 11 ∨ i = 12 ∨ i = 13 ∨ i = 14 ∨ i = 15 ∨ i = 16 ∨ i = 17 := by simp at hlt; omega
                all_goals subst h
                all_goals simp only [List.getElem?_toArray, List.getElem?_cons_zero, List.getElem?_cons_succ, Option.some.injEq] at ho
                all_goals subst ho
                all_goals simp [Region.binds] at hun hall
                · subst hun
                  have e0 := HS.out.cell (v := .int .i64 X.states) 7 0 rfl rfl
                  have e1 := HS.out.cell (v := .slice ax1 X.moves.length cx1) 7 1 rfl rfl
                  have e2 := HS.out.cell (v := .slice ax2 X.firsts.length cx2) 7 2 rfl rfl
                  have e3 := HS.out.cell (v := .slice ax3 X.ends.length cx3) 7 3 rfl rfl
                  go_simp
                  exact hK _ _ ⟨true, l1, l2, l3, l4, l5, l6, l7, l8, l9, l10, l11, l12, l13, l14, l15, l16, l17, rfl, (by simp only [↓reduceIte, List.setIfInBounds_toArray, List.set_cons_zero, List.set_cons_succ, Array.getD_eq_getD_getElem?, List.getElem?_toArray, List.getElem?_cons_zero, List.getElem?_cons_succ, Option.getD_some]), HS.out⟩
                · subst hun
                  go_simp
                  exact hK _ _ ⟨l0, true, l2, l3, l4, l5, l6, l7, l8, l9, l10, l11, l12, l13, l14, l15, l16, l17, rfl, (by simp only [↓reduceIte, List.setIfInBounds_toArray, List.set_cons_zero, List.set_cons_succ, Array.getD_eq_getD_getElem?, List.getElem?_toArray, List.getElem?_cons_zero, List.getElem?_cons_succ, Option.getD_some]), HS.out⟩
                · subst hun
                  go_simp
                  exact hK _ _ ⟨l0, l1, true, l3, l4, l5, l6, l7, l8, l9, l10, l11, l12, l13, l14, l15, l16, l17, rfl, (by simp only [↓reduceIte, List.setIfInBounds_toArray, List.set_cons_zero, List.set_cons_succ, Array.getD_eq_getD_getElem?, List.getElem?_toArray, List.getElem?_cons_zero, List.getElem?_cons_succ, Option.getD_some]), HS.out⟩
                · obtain ⟨rfl, rfl⟩ := hall
                  subst hun
                  go_simp
                  exact hK _ _ ⟨l0, true, true, true, l4, l5, l6, l7, l8, l9, l10, l11, l12, l13, l14, l15, l16, l17, rfl, (by simp only [↓reduceIte, List.setIfInBounds_toArray, List.set_cons_zero, List.set_cons_succ, Array.getD_eq_getD_getElem?, List.getElem?_toArray, List.getElem?_cons_zero, List.getElem?_cons_succ, Option.getD_some]), HS.out⟩
                · obtain ⟨rfl, rfl⟩ := hall
                  subst hun
                  go_simp
                  go_at_call 38
                  refine (nfaAccepts_any X (l.take k) _ _ Hhtt.out htl (nfaR_rows HS.out 4 5 6 rfl rfl rfl xs0 xs1) _ Hhp.out).mono ?_
                  rintro e u1 ⟨rfl, hb⟩
                  have hS2 := HS.out.call hb
                  have HhS2 := Lib.hid hS2; clear hS2
                  go_simp
                  exact hK _ _ ⟨true, l1, l2, true, true, l5, l6, l7, l8, l9, l10, l11, l12, l13, l14, l15, l16, l17, rfl, (by simp only [↓reduceIte, List.setIfInBounds_toArray, List.set_cons_zero, List.set_cons_succ, Array.getD_eq_getD_getElem?, List.getElem?_toArray, List.getElem?_cons_zero, List.getElem?_cons_succ, Option.getD_some]), HhS2.out⟩
                · obtain rfl := hall
                  subst hun
                  go_simp
                  exact hK _ _ ⟨l0, l1, l2, l3, true, true, l6, l7, l8, l9, l10, l11, l12, l13, l14, l15, l16, l17, rfl, (by simp only [↓reduceIte, List.setIfInBounds_toArray, List.set_cons_zero, List.set_cons_succ, Array.getD_eq_getD_getElem?, List.getElem?_toArray, List.getElem?_cons_zero, List.getElem?_cons_succ, Option.getD_some]), HS.out⟩
                · obtain rfl := hall
                  subst hun
                  have e0 := HS.out.cell (v := .int .i64 X.states) 7 0 rfl rfl
                  have e1 := HS.out.cell (v := .slice ax1 X.moves.length cx1) 7 1 rfl rfl
                  have e2 := HS.out.cell (v := .slice ax2 X.firsts.length cx2) 7 2 rfl rfl
                  have e3 := HS.out.cell (v := .slice ax3 X.ends.length cx3) 7 3 rfl rfl
                  go_simp
                  exact hK _ _ ⟨l0, l1, l2, l3, l4, true, true, l7, l8, l9, l10, l11, l12, l13, l14, l15, l16, l17, rfl, (by simp only [↓reduceIte, List.setIfInBounds_toArray, List.set_cons_zero, List.set_cons_succ, Array.getD_eq_getD_getElem?, List.getElem?_toArray, List.getElem?_cons_zero, List.getElem?_cons_succ, Option.getD_some]), HS.out⟩
                · obtain rfl := hall
                  subst hun
                  go_simp
                  exact hK _ _ ⟨l0, l1, l2, l3, l4, true, l6, true, l8, l9, l10, l11, l12, l13, l14, l15, l16, l17, rfl, (by simp only [↓reduceIte, List.setIfInBounds_toArray, List.set_cons_zero, List.set_cons_succ, Array.getD_eq_getD_getElem?, List.getElem?_toArray, List.getElem?_cons_zero, List.getElem?_cons_succ, Option.getD_some]), HS.out⟩
                · obtain rfl := hall
                  subst hun
                  go_simp
                  exact hK _ _ ⟨l0, l1, l2, l3, l4, true, l6, l7, true, l9, l10, l11, l12, l13, l14, l15, l16, l17, rfl, (by simp only [↓reduceIte, List.setIfInBounds_toArray, List.set_cons_zero, List.set_cons_succ, Array.getD_eq_getD_getElem?, List.getElem?_toArray, List.getElem?_cons_zero, List.getElem?_cons_succ, Option.getD_some]), HS.out⟩
                · obtain ⟨rfl, rfl, rfl⟩ := hall
                  subst hun
                  go_simp
                  exact hK _ _ ⟨l0, l1, l2, l3, l4, true, l6, true, true, true, l10, l11, l12, l13, l14, l15, l16, l17, rfl, (by simp only [↓reduceIte, List.setIfInBounds_toArray, List.set_cons_zero, List.set_cons_succ, Array.getD_eq_getD_getElem?, List.getElem?_toArray, List.getElem?_cons_zero, List.getElem?_cons_succ, Option.getD_some]), HS.out⟩
                · obtain ⟨rfl, rfl, rfl⟩ := hall
                  subst hun
                  go_simp
                  go_at_call 38
                  refine (nfaAccepts_any X (l.drop k) _ _ Hhtd.out hdl (nfaR_rows HS.out 4 5 6 rfl rfl rfl xs0 xs1) _ Hhr.out).mono ?_
                  rintro e u1 ⟨rfl, hb⟩
                  have hS2 := HS.out.call hb
                  have HhS2 := Lib.hid hS2; clear hS2
                  go_simp
                  exact hK _ _ ⟨l0, l1, l2, l3, l4, true, true, l7, l8, true, true, l11, l12, l13, l14, l15, l16, l17, rfl, (by simp only [↓reduceIte, List.setIfInBounds_toArray, List.set_cons_zero, List.set_cons_succ, Array.getD_eq_getD_getElem?, List.getElem?_toArray, List.getElem?_cons_zero, List.getElem?_cons_succ, Option.getD_some]), HhS2.out⟩
                · obtain ⟨rfl, rfl⟩ := hall
                  subst hun
                  go_simp
                  exact hK _ _ ⟨l0, l1, l2, l3, l4, true, l6, l7, l8, l9, true, true, l12, l13, l14, l15, l16, l17, rfl, (by simp only [↓reduceIte, List.setIfInBounds_toArray, List.set_cons_zero, List.set_cons_succ, Array.getD_eq_getD_getElem?, List.getElem?_toArray, List.getElem?_cons_zero, List.getElem?_cons_succ, Option.getD_some]), HS.out⟩
                · obtain ⟨rfl, rfl⟩ := hall
                  subst hun
                  go_simp
                  exact hK _ _ ⟨l0, l1, l2, l3, l4, l5, l6, l7, l8, l9, true, true, true, l13, l14, l15, l16, l17, rfl, (by simp only [↓reduceIte, List.setIfInBounds_toArray, List.set_cons_zero, List.set_cons_succ, Array.getD_eq_getD_getElem?, List.getElem?_toArray, List.getElem?_cons_zero, List.getElem?_cons_succ, Option.getD_some]), HS.out⟩
                · obtain rfl := hall
                  subst hun
                  go_simp
                  exact hK _ _ ⟨l0, l1, l2, l3, l4, l5, l6, l7, l8, l9, l10, l11, true, true, l14, l15, l16, l17, rfl, (by simp only [↓reduceIte, List.setIfInBounds_toArray, List.set_cons_zero, List.set_cons_succ, Array.getD_eq_getD_getElem?, List.getElem?_toArray, List.getElem?_cons_zero, List.getElem?_cons_succ, Option.getD_some]), HS.out⟩
                · obtain rfl := hall
                  subst hun
                  go_simp
                  exact hK _ _ ⟨l0, l1, l2, l3, l4, l5, l6, l7, l8, l9, l10, l11, true, l13, true, l15, l16, l17, rfl, (by simp only [↓reduceIte, List.setIfInBounds_toArray, List.set_cons_zero, List.set_cons_succ, Array.getD_eq_getD_getElem?, List.getElem?_toArray, List.getElem?_cons_zero, List.getElem?_cons_succ, Option.getD_some]), HS.out⟩
                · obtain ⟨rfl, rfl, rfl⟩ := hall
                  subst hun
                  go_simp
                  exact hK _ _ ⟨l0, l1, l2, l3, l4, l5, l6, l7, l8, l9, l10, l11, true, true, true, true, l16, l17, rfl, (by simp only [↓reduceIte, List.setIfInBounds_toArray, List.set_cons_zero, List.set_cons_succ, Array.getD_eq_getD_getElem?, List.getElem?_toArray, List.getElem?_cons_zero, List.getElem?_cons_succ, Option.getD_some]), HS.out⟩
                · obtain ⟨rfl, rfl⟩ := hall
                  subst hun
                  go_simp
                  exact hK _ _ ⟨l0, l1, l2, l3, l4, l5, l6, l7, l8, l9, l10, l11, true, l13, l14, true, true, l17, rfl, (by simp only [↓reduceIte, List.setIfInBounds_toArray, List.set_cons_zero, List.set_cons_succ, Array.getD_eq_getD_getElem?, List.getElem?_toArray, List.getElem?_cons_zero, List.getElem?_cons_succ, Option.getD_some]), HS.out⟩
                · obtain ⟨rfl, rfl⟩ := hall
                  subst hun
                  go_simp
                  exact hK _ _ ⟨l0, l1, l2, l3, l4, l5, l6, l7, l8, l9, l10, l11, true, l13, l14, l15, true, true, rfl, (by simp only [↓reduceIte, List.setIfInBounds_toArray, List.set_cons_zero, List.set_cons_succ, Array.getD_eq_getD_getElem?, List.getElem?_toArray, List.getElem?_cons_zero, List.getElem?_cons_succ, Option.getD_some]), HS.out⟩
              · rintro listed a w' ⟨l0, l1, l2, l3, l4, l5, l6, l7, l8, l9, l10, l11, l12, l13, l14, l15, l16, l17, rfl, rfl, hS⟩ hr
                have hall := ready_nilM (by kernel_rfl) rfl hr
                obtain rfl : l0 = true := by simpa using hall 0 (by simp)
                obtain rfl : l1 = true := by simpa using hall 1 (by simp)
                obtain rfl : l2 = true := by simpa using hall 2 (by simp)
                obtain rfl : l3 = true := by simpa using hall 3 (by simp)
                obtain rfl : l4 = true := by simpa using hall 4 (by simp)
                obtain rfl : l5 = true := by simpa using hall 5 (by simp)
                obtain rfl : l6 = true := by simpa using hall 6 (by simp)
                obtain rfl : l7 = true := by simpa using hall 7 (by simp)
                obtain rfl : l8 = true := by simpa using hall 8 (by simp)
                obtain rfl : l9 = true := by simpa using hall 9 (by simp)
                obtain rfl : l10 = true := by simpa using hall 10 (by simp)
                obtain rfl : l11 = true := by simpa using hall 11 (by simp)
                obtain rfl : l12 = true := by simpa using hall 12 (by simp)
                obtain rfl : l13 = true := by simpa using hall 13 (by simp)
                obtain rfl : l14 = true := by simpa using hall 14 (by simp)
                obtain rfl : l15 = true := by simpa using hall 15 (by simp)
                obtain rfl : l16 = true := by simpa using hall 16 (by simp)
                obtain rfl : l17 = true := by simpa using hall 17 (by simp)
                clear hall hr 
                simp only [↓reduceIte] at hS ⊢
                simp only [List.setIfInBounds_toArray, List.set_cons_zero, List.set_cons_succ]
                have HSf := Lib.hid hS
                clear hS
                go_wp2
                go_roundw
                case rel => exact ⟨k + 1, by go_num, by omega, HSf.out⟩
                case measure => simp [intOf]; omega
              · refine ⟨false, false, false, false, false, false, false, false, false, false, false, false, false, false, false, false, false, false, rfl, (by simp only [↓reduceIte, Bool.false_eq_true, List.setIfInBounds_toArray, List.set_cons_zero, List.set_cons_succ, Array.getD_eq_getD_getElem?, List.getElem?_toArray, List.getElem?_cons_zero, List.getElem?_cons_succ, Option.getD_some]), ?_⟩
                exact HhS.out.drew.pick [0, 1, 2, 3, 4, 5, 6, 7] (by decide)
            · have hq := hcat hp hr
              have Hhp := Lib.hid hp; clear hp
              have Hhr := Lib.hid hr; clear hr
              have Hhq := Lib.hid hq; clear hq
              have Hhcat := Lib.hid hcat; clear hcat
              go_wp2
              refine wp_region_any (by kernel_rfl) ?_
              refine wpAny_invA (fun A listed a w' => ∃ (l0 l1 l2 l3 l4 l5 l6 l7 l8 l9 l10 l11 l12 l13 l14 l15 l16 l17 : Bool) , listed = #[l0, l1, l2, l3, l4, l5, l6, l7, l8, l9, l10, l11, l12, l13, l14, l15, l16, l17] ∧
                  a = ⟨((((((((((((((((((A.tmps.setIfInBounds 62 (if l0 = true then .agg #[.int .i64 X.states, .slice ax1 X.moves.length cx1, .slice ax2 X.firsts.length cx2, .slice ax3 X.ends.length cx3] else A.tmps.getD 62 undef)).setIfInBounds 63 (if l1 = true then .string (txB l) else A.tmps.getD 63 undef)).setIfInBounds 64 (if l2 = true then .int .i64 (k : Int) else A.tmps.getD 64 undef)).setIfInBounds 65 (if l3 = true then .string (txB (l.take k)) else A.tmps.getD 65 undef)).setIfInBounds 66 (if l4 = true then .bool true else A.tmps.getD 66 undef)).setIfInBounds 67 (if l5 = true then .bool true else A.tmps.getD 67 undef)).setIfInBounds 68 (if l6 = true then .agg #[.int .i64 X.states, .slice ax1 X.moves.length cx1, .slice ax2 X.firsts.length cx2, .slice ax3 X.ends.length cx3] else A.tmps.getD 68 undef)).setIfInBounds 69 (if l7 = true then .string (txB l) else A.tmps.getD 69 undef)).setIfInBounds 70 (if l8 = true then .int .i64 (k : Int) else A.tmps.getD 70 undef)).setIfInBounds 71 (if l9 = true then .string (txB (l.drop k)) else A.tmps.getD 71 undef)).setIfInBounds 72 (if l10 = true then .bool true else A.tmps.getD 72 undef)).setIfInBounds 73 (if l11 = true then .bool true else A.tmps.getD 73 undef)).setIfInBounds 74 (if l12 = true then .bool true else A.tmps.getD 74 undef)).setIfInBounds 75 (if l13 = true then .agg #[.int .i64 X.states, .slice ax1 X.moves.length cx1, .slice ax2 X.firsts.length cx2, .slice ax3 X.ends.length cx3] else A.tmps.getD 75 undef)).setIfInBounds 76 (if l14 = true then .string (txB l) else A.tmps.getD 76 undef)).setIfInBounds 77 (if l15 = true then .bool true else A.tmps.getD 77 undef)).setIfInBounds 78 (if l16 = true then .bool false else A.tmps.getD 78 undef)).setIfInBounds 79 (if l17 = true then .bool false else A.tmps.getD 79 undef)), A.defers⟩ ∧
                  St w w' [Ent.row 53 3 (.slice a1 n.moves.length c1) n.moves.length (n.moves.flatMap moveCells), Ent.row 3 1 (.slice a2 n.firsts.length c2) n.firsts.length (intCells n.firsts), Ent.row 3 1 (.slice a3 n.ends.length c3) n.ends.length (intCells n.ends), Ent.box w1.heap.size #[.int .i64 n.states, .slice a1 n.moves.length c1, .slice a2 n.firsts.length c2, .slice a3 n.ends.length c3] 46, Ent.row 53 3 (.slice ax1 X.moves.length cx1) X.moves.length (X.moves.flatMap moveCells), Ent.row 3 1 (.slice ax2 X.firsts.length cx2) X.firsts.length (intCells X.firsts), Ent.row 3 1 (.slice ax3 X.ends.length cx3) X.ends.length (intCells X.ends), Ent.box w2.heap.size #[.int .i64 X.states, .slice ax1 X.moves.length cx1, .slice ax2 X.firsts.length cx2, .slice ax3 X.ends.length cx3] 46]) ?_ ?_ ?_
              · rintro listed a w' ⟨l0, l1, l2, l3, l4, l5, l6, l7, l8, l9, l10, l11, l12, l13, l14, l15, l16, l17, rfl, rfl, hS⟩ i hi
                obtain ⟨hun, o, ho, hall⟩ := mem_ready.1 hi
                have hlt := (Array.getElem?_eq_some_iff.1 ho).1
                refine wpOp_step ho (fun K hK => ?_)
                clear hi
                have HS := Lib.hid hS
                clear hS
                simp only [List.setIfInBounds_toArray, List.set_cons_zero, List.set_cons_succ, Array.getD_eq_getD_getElem?, List.getElem?_toArray, List.getElem?_cons_zero, List.getElem?_cons_succ, Option.getD_some]
                obtain h | h | h | h | h | h | h | h | h | h | h | h | h | h | h | h | h | h : i = 0 ∨ i = 1 ∨ i = 2 ∨ i = 3 ∨ i = 4 ∨ i = 5 ∨ i = 6 ∨ i = 7 ∨ i = 8 ∨ i = 9 ∨ i = 10 ∨ i = 11 ∨ i = 12 ∨ i = 13 ∨ i = 14 ∨ i = 15 ∨ i = 16 ∨ i = 17 := by simp at hlt; omega
                all_goals subst h
                all_goals simp only [List.getElem?_toArray, List.getElem?_cons_zero, List.getElem?_cons_succ, Option.some.injEq] at ho
                all_goals subst ho
                all_goals simp [Region.binds] at hun hall
                · subst hun
                  have e0 := HS.out.cell (v := .int .i64 X.states) 7 0 rfl rfl
                  have e1 := HS.out.cell (v := .slice ax1 X.moves.length cx1) 7 1 rfl rfl
                  have e2 := HS.out.cell (v := .slice ax2 X.firsts.length cx2) 7 2 rfl rfl
                  have e3 := HS.out.cell (v := .slice ax3 X.ends.length cx3) 7 3 rfl rfl
                  go_simp
                  exact hK _ _ ⟨true, l1, l2, l3, l4, l5, l6, l7, l8, l9, l10, l11, l12, l13, l14, l15, l16, l17, rfl, (by simp only [↓reduceIte, List.setIfInBounds_toArray, List.set_cons_zero, List.set_cons_succ, Array.getD_eq_getD_getElem?, List.getElem?_toArray, List.getElem?_cons_zero, List.getElem?_cons_succ, Option.getD_some]), HS.out⟩
                · subst hun
                  go_simp
                  exact hK _ _ ⟨l0, true, l2, l3, l4, l5, l6, l7, l8, l9, l10, l11, l12, l13, l14, l15, l16, l17, rfl, (by simp only [↓reduceIte, List.setIfInBounds_toArray, List.set_cons_zero, List.set_cons_succ, Array.getD_eq_getD_getElem?, List.getElem?_toArray, List.getElem?_cons_zero, List.getElem?_cons_succ, Option.getD_some]), HS.out⟩
                · subst hun
                  go_simp
                  exact hK _ _ ⟨l0, l1, true, l3, l4, l5, l6, l7, l8, l9, l10, l11, l12, l13, l14, l15, l16, l17, rfl, (by simp only [↓reduceIte, List.setIfInBounds_toArray, List.set_cons_zero, List.set_cons_succ, Array.getD_eq_getD_getElem?, List.getElem?_toArray, List.getElem?_cons_zero, List.getElem?_cons_succ, Option.getD_some]), HS.out⟩
                · obtain ⟨rfl, rfl⟩ := hall
                  subst hun
                  go_simp
                  exact hK _ _ ⟨l0, true, true, true, l4, l5, l6, l7, l8, l9, l10, l11, l12, l13, l14, l15, l16, l17, rfl, (by simp only [↓reduceIte, List.setIfInBounds_toArray, List.set_cons_zero, List.set_cons_succ, Array.getD_eq_getD_getElem?, List.getElem?_toArray, List.getElem?_cons_zero, List.getElem?_cons_succ, Option.getD_some]), HS.out⟩
                · obtain ⟨rfl, rfl⟩ := hall
                  subst hun
                  go_simp
                  go_at_call 38
                  refine (nfaAccepts_any X (l.take k) _ _ Hhtt.out htl (nfaR_rows HS.out 4 5 6 rfl rfl rfl xs0 xs1) _ Hhp.out).mono ?_
                  rintro e u1 ⟨rfl, hb⟩
                  have hS2 := HS.out.call hb
                  have HhS2 := Lib.hid hS2; clear hS2
                  go_simp
                  exact hK _ _ ⟨true, l1, l2, true, true, l5, l6, l7, l8, l9, l10, l11, l12, l13, l14, l15, l16, l17, rfl, (by simp only [↓reduceIte, List.setIfInBounds_toArray, List.set_cons_zero, List.set_cons_succ, Array.getD_eq_getD_getElem?, List.getElem?_toArray, List.getElem?_cons_zero, List.getElem?_cons_succ, Option.getD_some]), HhS2.out⟩
                · obtain rfl := hall
                  subst hun
                  go_simp
                  exact hK _ _ ⟨l0, l1, l2, l3, true, true, l6, l7, l8, l9, l10, l11, l12, l13, l14, l15, l16, l17, rfl, (by simp only [↓reduceIte, List.setIfInBounds_toArray, List.set_cons_zero, List.set_cons_succ, Array.getD_eq_getD_getElem?, List.getElem?_toArray, List.getElem?_cons_zero, List.getElem?_cons_succ, Option.getD_some]), HS.out⟩
                · obtain rfl := hall
                  subst hun
                  have e0 := HS.out.cell (v := .int .i64 X.states) 7 0 rfl rfl
                  have e1 := HS.out.cell (v := .slice ax1 X.moves.length cx1) 7 1 rfl rfl
                  have e2 := HS.out.cell (v := .slice ax2 X.firsts.length cx2) 7 2 rfl rfl
                  have e3 := HS.out.cell (v := .slice ax3 X.ends.length cx3) 7 3 rfl rfl
                  go_simp
                  exact hK _ _ ⟨l0, l1, l2, l3, l4, true, true, l7, l8, l9, l10, l11, l12, l13, l14, l15, l16, l17, rfl, (by simp only [↓reduceIte, List.setIfInBounds_toArray, List.set_cons_zero, List.set_cons_succ, Array.getD_eq_getD_getElem?, List.getElem?_toArray, List.getElem?_cons_zero, List.getElem?_cons_succ, Option.getD_some]), HS.out⟩
                · obtain rfl := hall
                  subst hun
                  go_simp
                  exact hK _ _ ⟨l0, l1, l2, l3, l4, true, l6, true, l8, l9, l10, l11, l12, l13, l14, l15, l16, l17, rfl, (by simp only [↓reduceIte, List.setIfInBounds_toArray, List.set_cons_zero, List.set_cons_succ, Array.getD_eq_getD_getElem?, List.getElem?_toArray, List.getElem?_cons_zero, List.getElem?_cons_succ, Option.getD_some]), HS.out⟩
                · obtain rfl := hall
                  subst hun
                  go_simp
                  exact hK _ _ ⟨l0, l1, l2, l3, l4, true, l6, l7, true, l9, l10, l11, l12, l13, l14, l15, l16, l17, rfl, (by simp only [↓reduceIte, List.setIfInBounds_toArray, List.set_cons_zero, List.set_cons_succ, Array.getD_eq_getD_getElem?, List.getElem?_toArray, List.getElem?_cons_zero, List.getElem?_cons_succ, Option.getD_some]), HS.out⟩
                · obtain ⟨rfl, rfl, rfl⟩ := hall
                  subst hun
                  go_simp
                  exact hK _ _ ⟨l0, l1, l2, l3, l4, true, l6, true, true, true, l10, l11, l12, l13, l14, l15, l16, l17, rfl, (by simp only [↓reduceIte, List.setIfInBounds_toArray, List.set_cons_zero, List.set_cons_succ, Array.getD_eq_getD_getElem?, List.getElem?_toArray, List.getElem?_cons_zero, List.getElem?_cons_succ, Option.getD_some]), HS.out⟩
                · obtain ⟨rfl, rfl, rfl⟩ := hall
                  subst hun
                  go_simp
                  go_at_call 38
                  refine (nfaAccepts_any X (l.drop k) _ _ Hhtd.out hdl (nfaR_rows HS.out 4 5 6 rfl rfl rfl xs0 xs1) _ Hhr.out).mono ?_
                  rintro e u1 ⟨rfl, hb⟩
                  have hS2 := HS.out.call hb
                  have HhS2 := Lib.hid hS2; clear hS2
                  go_simp
                  exact hK _ _ ⟨l0, l1, l2, l3, l4, true, true, l7, l8, true, true, l11, l12, l13, l14, l15, l16, l17, rfl, (by simp only [↓reduceIte, List.setIfInBounds_toArray, List.set_cons_zero, List.set_cons_succ, Array.getD_eq_getD_getElem?, List.getElem?_toArray, List.getElem?_cons_zero, List.getElem?_cons_succ, Option.getD_some]), HhS2.out⟩
                · obtain ⟨rfl, rfl⟩ := hall
                  subst hun
                  go_simp
                  exact hK _ _ ⟨l0, l1, l2, l3, l4, true, l6, l7, l8, l9, true, true, l12, l13, l14, l15, l16, l17, rfl, (by simp only [↓reduceIte, List.setIfInBounds_toArray, List.set_cons_zero, List.set_cons_succ, Array.getD_eq_getD_getElem?, List.getElem?_toArray, List.getElem?_cons_zero, List.getElem?_cons_succ, Option.getD_some]), HS.out⟩
                · obtain ⟨rfl, rfl⟩ := hall
                  subst hun
                  go_simp
                  exact hK _ _ ⟨l0, l1, l2, l3, l4, l5, l6, l7, l8, l9, true, true, true, l13, l14, l15, l16, l17, rfl, (by simp only [↓reduceIte, List.setIfInBounds_toArray, List.set_cons_zero, List.set_cons_succ, Array.getD_eq_getD_getElem?, List.getElem?_toArray, List.getElem?_cons_zero, List.getElem?_cons_succ, Option.getD_some]), HS.out⟩
                · obtain rfl := hall
                  subst hun
                  have e0 := HS.out.cell (v := .int .i64 X.states) 7 0 rfl rfl
                  have e1 := HS.out.cell (v := .slice ax1 X.moves.length cx1) 7 1 rfl rfl
                  have e2 := HS.out.cell (v := .slice ax2 X.firsts.length cx2) 7 2 rfl rfl
                  have e3 := HS.out.cell (v := .slice ax3 X.ends.length cx3) 7 3 rfl rfl
                  go_simp
                  exact hK _ _ ⟨l0, l1, l2, l3, l4, l5, l6, l7, l8, l9, l10, l11, true, true, l14, l15, l16, l17, rfl, (by simp only [↓reduceIte, List.setIfInBounds_toArray, List.set_cons_zero, List.set_cons_succ, Array.getD_eq_getD_getElem?, List.getElem?_toArray, List.getElem?_cons_zero, List.getElem?_cons_succ, Option.getD_some]), HS.out⟩
                · obtain rfl := hall
                  subst hun
                  go_simp
                  exact hK _ _ ⟨l0, l1, l2, l3, l4, l5, l6, l7, l8, l9, l10, l11, true, l13, true, l15, l16, l17, rfl, (by simp only [↓reduceIte, List.setIfInBounds_toArray, List.set_cons_zero, List.set_cons_succ, Array.getD_eq_getD_getElem?, List.getElem?_toArray, List.getElem?_cons_zero, List.getElem?_cons_succ, Option.getD_some]), HS.out⟩
                · obtain ⟨rfl, rfl, rfl⟩ := hall
                  subst hun
                  go_simp
                  go_at_call 38
                  refine (nfaAccepts_any X l _ _ Hht.out (by omega) (nfaR_rows HS.out 4 5 6 rfl rfl rfl xs0 xs1) _ Hhq.out).mono ?_
                  rintro e u1 ⟨rfl, hb⟩
                  have hS2 := HS.out.call hb
                  have HhS2 := Lib.hid hS2; clear hS2
                  go_simp
                  exact hK _ _ ⟨l0, l1, l2, l3, l4, l5, l6, l7, l8, l9, l10, l11, true, true, true, true, l16, l17, rfl, (by simp only [↓reduceIte, List.setIfInBounds_toArray, List.set_cons_zero, List.set_cons_succ, Array.getD_eq_getD_getElem?, List.getElem?_toArray, List.getElem?_cons_zero, List.getElem?_cons_succ, Option.getD_some]), HhS2.out⟩
                · obtain ⟨rfl, rfl⟩ := hall
                  subst hun
                  go_simp
                  exact hK _ _ ⟨l0, l1, l2, l3, l4, l5, l6, l7, l8, l9, l10, l11, true, l13, l14, true, true, l17, rfl, (by simp only [↓reduceIte, List.setIfInBounds_toArray, List.set_cons_zero, List.set_cons_succ, Array.getD_eq_getD_getElem?, List.getElem?_toArray, List.getElem?_cons_zero, List.getElem?_cons_succ, Option.getD_some]), HS.out⟩
                · obtain ⟨rfl, rfl⟩ := hall
                  subst hun
                  go_simp
                  exact hK _ _ ⟨l0, l1, l2, l3, l4, l5, l6, l7, l8, l9, l10, l11, true, l13, l14, l15, true, true, rfl, (by simp only [↓reduceIte, List.setIfInBounds_toArray, List.set_cons_zero, List.set_cons_succ, Array.getD_eq_getD_getElem?, List.getElem?_toArray, List.getElem?_cons_zero, List.getElem?_cons_succ, Option.getD_some]), HS.out⟩
              · rintro listed a w' ⟨l0, l1, l2, l3, l4, l5, l6, l7, l8, l9, l10, l11, l12, l13, l14, l15, l16, l17, rfl, rfl, hS⟩ hr
                have hall := ready_nilM (by kernel_rfl) rfl hr
                obtain rfl : l0 = true := by simpa using hall 0 (by simp)
                obtain rfl : l1 = true := by simpa using hall 1 (by simp)
                obtain rfl : l2 = true := by simpa using hall 2 (by simp)
                obtain rfl : l3 = true := by simpa using hall 3 (by simp)
                obtain rfl : l4 = true := by simpa using hall 4 (by simp)
                obtain rfl : l5 = true := by simpa using hall 5 (by simp)
                obtain rfl : l6 = true := by simpa using hall 6 (by simp)
                obtain rfl : l7 = true := by simpa using hall 7 (by simp)
                obtain rfl : l8 = true := by simpa using hall 8 (by simp)
                obtain rfl : l9 = true := by simpa using hall 9 (by simp)
                obtain rfl : l10 = true := by simpa using hall 10 (by simp)
                obtain rfl : l11 = true := by simpa using hall 11 (by simp)
                obtain rfl : l12 = true := by simpa using hall 12 (by simp)
                obtain rfl : l13 = true := by simpa using hall 13 (by simp)
                obtain rfl : l14 = true := by simpa using hall 14 (by simp)
                obtain rfl : l15 = true := by simpa using hall 15 (by simp)
                obtain rfl : l16 = true := by simpa using hall 16 (by simp)
                obtain rfl : l17 = true := by simpa using hall 17 (by simp)
                clear hall hr 
                simp only [↓reduceIte] at hS ⊢
                simp only [List.setIfInBounds_toArray, List.set_cons_zero, List.set_cons_succ]
                have HSf := Lib.hid hS
                clear hS
                go_wp2
                go_roundw
                case rel => exact ⟨k + 1, by go_num, by omega, HSf.out⟩
                case measure => simp [intOf]; omega
              · refine ⟨false, false, false, false, false, false, false, false, false, false, false, false, false, false, false, false, false, false, rfl, (by simp only [↓reduceIte, Bool.false_eq_true, List.setIfInBounds_toArray, List.set_cons_zero, List.set_cons_succ, Array.getD_eq_getD_getElem?, List.getElem?_toArray, List.getElem?_cons_zero, List.getElem?_cons_succ, Option.getD_some]), ?_⟩
                exact HhS.out.drew.pick [0, 1, 2, 3, 4, 5, 6, 7] (by decide)
        · obtain rfl : k = l.length + 1 := by omega
          have hgt : ¬ ((l.length + 1 : Nat) : Int) ≤ l.length := by omega
          have HS7 := Lib.hid hS
          clear hS hlt
          have e0 := HS7.out.cell (v := .int .i64 X.states) 7 0 rfl rfl
          have e1 := HS7.out.cell (v := .slice ax1 X.moves.length cx1) 7 1 rfl rfl
          have e2 := HS7.out.cell (v := .slice ax2 X.firsts.length cx2) 7 2 rfl rfl
          have e3 := HS7.out.cell (v := .slice ax3 X.ends.length cx3) 7 3 rfl rfl
          obtain ⟨kk, hkk⟩ : ∃ kk : Int, kk = ((l.length + 1 : Nat) : Int) := ⟨_, rfl⟩
          rw [← hkk] at hgt
          rw [← hkk]
          have Hhkk := Lib.hid hkk; clear hkk
          go_wp2_with fail
          refine (implNfaValid_any X _ _ (nfaR_rows HS7.out 4 5 6 rfl rfl rfl xs0 xs1) _ HhokX.out).mono ?_
          rintro e w8 ⟨rfl, hb8⟩
          have HS8 := Lib.hid (HS7.out.call hb8)
          clear hb8 e0 e1 e2 e3
          have e0 := HS8.out.cell (v := .int .i64 X.states) 7 0 rfl rfl
          have e1 := HS8.out.cell (v := .slice ax1 X.moves.length cx1) 7 1 rfl rfl
          have e2 := HS8.out.cell (v := .slice ax2 X.firsts.length cx2) 7 2 rfl rfl
          have e3 := HS8.out.cell (v := .slice ax3 X.ends.length cx3) 7 3 rfl rfl
          go_wp2_with fail
          refine (nfaAccepts_any X [] _ _ (fun b hb => by cases hb) (by simp) (nfaR_rows HS8.out 4 5 6 rfl rfl rfl xs0 xs1) _ Hhq0.out).mono ?_
          rintro e w9 ⟨rfl, hb9⟩
          have HS9 := Lib.hid (HS8.out.call hb9)
          clear hb9 e0 e1 e2 e3
          have e0 := HS9.out.cell (v := .int .i64 n.states) 3 0 rfl rfl
          have e1 := HS9.out.cell (v := .slice a1 n.moves.length c1) 3 1 rfl rfl
          have e2 := HS9.out.cell (v := .slice a2 n.firsts.length c2) 3 2 rfl rfl
          have e3 := HS9.out.cell (v := .slice a3 n.ends.length c3) 3 3 rfl rfl
          cases hp : accT n l
          · have Hhp := Lib.hid hp; clear hp
            go_wp2_with fail
            refine (nfaAccepts_any n l _ _ Hht.out (by omega) (nfaR_rows HS9.out 0 1 2 rfl rfl rfl (by omega) (by omega)) _ Hhp.out).mono ?_
            rintro e w10 ⟨rfl, hb10⟩
            go_wp2
            go_ret
            exact ⟨rfl, (HS9.out.call hb10).bel⟩
          · have hq := accT_has HhX.out hp
            have Hhp := Lib.hid hp; clear hp
            have Hhq := Lib.hid hq; clear hq
            go_wp2_with fail
            refine (nfaAccepts_any n l _ _ Hht.out (by omega) (nfaR_rows HS9.out 0 1 2 rfl rfl rfl (by omega) (by omega)) _ Hhp.out).mono ?_
            rintro e w10 ⟨rfl, hb10⟩
            have HS10 := Lib.hid (HS9.out.call hb10)
            clear hb10 e0 e1 e2 e3
            have e0 := HS10.out.cell (v := .int .i64 X.states) 7 0 rfl rfl
            have e1 := HS10.out.cell (v := .slice ax1 X.moves.length cx1) 7 1 rfl rfl
            have e2 := HS10.out.cell (v := .slice ax2 X.firsts.length cx2) 7 2 rfl rfl
            have e3 := HS10.out.cell (v := .slice ax3 X.ends.length cx3) 7 3 rfl rfl
            go_wp2_with fail
            refine (nfaAccepts_any X l _ _ Hht.out (by omega) (nfaR_rows HS10.out 4 5 6 rfl rfl rfl xs0 xs1) _ Hhq.out).mono ?_
            rintro e w11 ⟨rfl, hb11⟩
            go_wp2
            go_ret
            exact ⟨rfl, (HS10.out.call hb11).bel⟩
end Go.Proofs.Ytolkifpeblbfcaa
