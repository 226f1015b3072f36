/-
  The walk over the law FnNfaEither.
  Conditions: the arguments read as bytes.
-/
import Derived.Test.YtolkifpeblbfcaaIm
import Derived.Test.YtolkifpeblbfcaaDz
import Derived.Test.YtolkifpeblbfcaaSf
import Derived.Test.YtolkifpeblbfcaaLNfaClose
namespace Go.Proofs.Ytolkifpeblbfcaa
open Go.RowKit

theorem eithT {n m X : NfaD} (h : eithL n m = (X, true)) (l : List Nat) : accT X l = (accT n l || accT m l) := by
  obtain ⟨h1, h2, h3, rfl⟩ := eithL_true h
  unfold accT
  rw [h1, h2, h3, either_acc h1 h2 h3]
  cases wdOk l <;> simp
theorem eith_states {n m X : NfaD} (h : eithL n m = (X, true)) : X.states = n.states + m.states := by
  obtain ⟨-, -, -, rfl⟩ := eithL_true h
  simp only [eithN, shN]
  omega
set_option maxRecDepth 100000 in
set_option maxHeartbeats 16000000 in
theorem nfaEither_walk (bs cs : List Nat) (v u : Value) (w : World) (hb : Bytes 0 w v bs) (hc : Bytes 0 w u cs) :
    Calls Try.prog 13 #[v, u] w fun e w' => e = .returned (.bool true) ∧ Below w.heap.size w w' := by
  have HB := Lib.hid hb
  have HC := Lib.hid hc
  obtain ⟨av, cv, rfl, hcv1, hcv2, -⟩ := hb.form
  obtain ⟨au, cu, rfl, hcu1, hcu2, -⟩ := hc.form
  clear hb hc
  by_cases hlen : 1048576 < bs.length
  · have hl2 : (1048576 : Int) < bs.length := by omega
    go_enter Try.func13, Try.ntmps13
    go_wp2
    go_ret
    exact ⟨rfl, Below.refl _ _⟩
  have hl2 : ¬ (1048576 : Int) < bs.length := by omega
  by_cases hlen2 : 1048576 < cs.length
  · have hl3 : (1048576 : Int) < cs.length := by omega
    go_enter Try.func13, Try.ntmps13
    go_wp2
    go_ret
    exact ⟨rfl, Below.refl _ _⟩
  have hl3 : ¬ (1048576 : Int) < cs.length := by omega
  go_enter Try.func13, Try.ntmps13
  go_wp2_with fail
  refine (drawEither_any bs _ _ HB.out (by omega)).mono ?_
  rintro e w1 ⟨n, m, a1, a2, a3, c1, c2, c3, am1, am2, am3, cm1, cm2, cm3, n0, n1, n2, n3, n4, m0, m1, m2, m3, m4, rfl, hS⟩
  have HS : Hid (St w _ [Ent.row 53 3 (.slice a1 n.moves.length c1) n.moves.length (n.moves.flatMap moveCells), Ent.row 3 1 (.slice a2 n.firsts.length c2) n.firsts.length (intCells n.firsts), Ent.row 3 1 (.slice a3 n.ends.length c3) n.ends.length (intCells n.ends), Ent.row 53 3 (.slice am1 m.moves.length cm1) m.moves.length (m.moves.flatMap moveCells), Ent.row 3 1 (.slice am2 m.firsts.length cm2) m.firsts.length (intCells m.firsts), Ent.row 3 1 (.slice am3 m.ends.length cm3) m.ends.length (intCells m.ends), Ent.box w1.heap.size #[.int .i64 n.states, .slice a1 n.moves.length c1, .slice a2 n.firsts.length c2, .slice a3 n.ends.length c3] 46, Ent.box (w1.heap.size + 1) #[.int .i64 m.states, .slice am1 m.moves.length cm1, .slice am2 m.firsts.length cm2, .slice am3 m.ends.length cm3] 46]) := Lib.hid ((hS.alloc _ rfl #[.int .i64 n.states, .slice a1 n.moves.length c1, .slice a2 n.firsts.length c2, .slice a3 n.ends.length c3] 46).alloc (w1.heap.size + 1) (by simp) #[.int .i64 m.states, .slice am1 m.moves.length cm1, .slice am2 m.firsts.length cm2, .slice am3 m.ends.length cm3] 46)
  have e0 := HS.out.cell (v := .int .i64 n.states) 6 0 rfl rfl
  have e1 := HS.out.cell (v := .slice a1 n.moves.length c1) 6 1 rfl rfl
  have e2 := HS.out.cell (v := .slice a2 n.firsts.length c2) 6 2 rfl rfl
  have e3 := HS.out.cell (v := .slice a3 n.ends.length c3) 6 3 rfl rfl
  have f0 := HS.out.cell (v := .int .i64 m.states) 7 0 rfl rfl
  have f1 := HS.out.cell (v := .slice am1 m.moves.length cm1) 7 1 rfl rfl
  have f2 := HS.out.cell (v := .slice am2 m.firsts.length cm2) 7 2 rfl rfl
  have f3 := HS.out.cell (v := .slice am3 m.ends.length cm3) 7 3 rfl rfl
  obtain ⟨X, ok, hX⟩ : ∃ X ok, eithL n m = (X, ok) := ⟨_, _, rfl⟩
  obtain ⟨xs0, xs1⟩ := eithL_bound hX
  have HhX := Lib.hid hX; clear hX
  clear hS
  go_wp2_with fail
  refine (implEitherR_any n m X ok _ _ _ HhX.out (nfaR_rows HS.out 0 1 2 rfl rfl rfl (by omega) (by omega)) (nfaR_rows HS.out 3 4 5 rfl rfl rfl (by omega) (by omega))).mono ?_
  rintro e w2 ⟨ax1, cx1, ax2, cx2, ax3, cx3, rfl, hS'⟩
  have HS2 := Lib.hid ((HS.out.cat hS').alloc _ rfl #[.int .i64 X.states, .slice ax1 X.moves.length cx1, .slice ax2 X.firsts.length cx2, .slice ax3 X.ends.length cx3] 46)
  clear hS' e0 e1 e2 e3 f0 f1 f2 f3
  have e0 := HS2.out.cell (v := .int .i64 n.states) 6 0 rfl rfl
  have e1 := HS2.out.cell (v := .slice a1 n.moves.length c1) 6 1 rfl rfl
  have e2 := HS2.out.cell (v := .slice a2 n.firsts.length c2) 6 2 rfl rfl
  have e3 := HS2.out.cell (v := .slice a3 n.ends.length c3) 6 3 rfl rfl
  have f0 := HS2.out.cell (v := .int .i64 m.states) 7 0 rfl rfl
  have f1 := HS2.out.cell (v := .slice am1 m.moves.length cm1) 7 1 rfl rfl
  have f2 := HS2.out.cell (v := .slice am2 m.firsts.length cm2) 7 2 rfl rfl
  have f3 := HS2.out.cell (v := .slice am3 m.ends.length cm3) 7 3 rfl rfl
  go_wp2_with fail
  refine (specEitherR_any n m X ok _ _ _ HhX.out (nfaR_rows HS2.out 0 1 2 rfl rfl rfl (by omega) (by omega)) (nfaR_rows HS2.out 3 4 5 rfl rfl rfl (by omega) (by omega))).mono ?_
  rintro e w3 ⟨az1, cz1, az2, cz2, az3, cz3, rfl, hS'⟩
  have HS3 := Lib.hid ((HS2.out.cat hS').alloc _ rfl #[.int .i64 X.states, .slice az1 X.moves.length cz1, .slice az2 X.firsts.length cz2, .slice az3 X.ends.length cz3] 46)
  clear hS' e0 e1 e2 e3 f0 f1 f2 f3
  have e0 := HS3.out.cell (v := .int .i64 X.states) 11 0 rfl rfl
  have e1 := HS3.out.cell (v := .slice ax1 X.moves.length cx1) 11 1 rfl rfl
  have e2 := HS3.out.cell (v := .slice ax2 X.firsts.length cx2) 11 2 rfl rfl
  have e3 := HS3.out.cell (v := .slice ax3 X.ends.length cx3) 11 3 rfl rfl
  have f0 := HS3.out.cell (v := .int .i64 X.states) 15 0 rfl rfl
  have f1 := HS3.out.cell (v := .slice az1 X.moves.length cz1) 15 1 rfl rfl
  have f2 := HS3.out.cell (v := .slice az2 X.firsts.length cz2) 15 2 rfl rfl
  have f3 := HS3.out.cell (v := .slice az3 X.ends.length cz3) 15 3 rfl rfl
  have hbb : (true != true) = false := rfl
  cases ok
  · obtain rfl : X = zeN := eithL_false HhX.out
    go_wp2_with fail
    refine (sameNfa_any zeN _ _ _ (nfaR_rows HS3.out 8 9 10 rfl rfl rfl xs0 xs1) (nfaR_rows HS3.out 12 13 14 rfl rfl rfl xs0 xs1)).mono ?_
    rintro e w4 ⟨rfl, hb4⟩
    have HS4 := Lib.hid (HS3.out.call hb4)
    clear hb4 e0 e1 e2 e3 f0 f1 f2 f3
    have x0 := HS4.out.cell (v := .int .i64 0) 11 0 rfl rfl
    go_wp2_with (go_at_call 32; refine (alive_any _).mono ?_; rintro e w' ⟨rfl, rfl⟩)
    go_ret
    exact ⟨rfl, HS4.out.bel⟩
  · have hokX : nfaOk X = true := (eithL_true HhX.out).2.2.1
    have hXs : IntKind.i64.wrap (n.states + m.states) = X.states := by rw [eith_states HhX.out]; exact IntWalk.i64_in _ (by omega)
    go_wp2_with fail
    refine (sameNfa_any X _ _ _ (nfaR_rows HS3.out 8 9 10 rfl rfl rfl xs0 xs1) (nfaR_rows HS3.out 12 13 14 rfl rfl rfl xs0 xs1)).mono ?_
    rintro e w4 ⟨rfl, hb4⟩
    have HS4 := Lib.hid ((HS3.out.call hb4).pick [0, 1, 2, 3, 4, 5, 6, 7, 8, 9, 10, 11] (by decide))
    clear hb4 e0 e1 e2 e3 f0 f1 f2 f3
    have HhokX := Lib.hid hokX; clear hokX
    have HhXs := Lib.hid hXs; clear hXs
    go_wp2_with fail
    refine (drawWord_any cs _ _ (HC.out.below HS4.out.bel) (by omega)).mono ?_
    rintro e w6 ⟨l, ht, hl10, rfl, hb6⟩
    have HS6 := Lib.hid (HS4.out.call hb6)
    clear hb6
    have hE := eithT HhX.out l
    have Hht := Lib.hid ht; clear ht
    cases hqn : accT n l
    · obtain ⟨q, hqm⟩ : ∃ q, accT m l = q := ⟨_, rfl⟩
      have hq : accT X l = q := by rw [hE, hqn, hqm]; rfl
      have HhE := Lib.hid hE; clear hE
      have Hhqn := Lib.hid hqn; clear hqn
      have Hhqm := Lib.hid hqm; clear hqm
      have Hhq := Lib.hid hq; clear hq
      go_wp2
      refine wp_region_any (by kernel_rfl) ?_
      refine wpAny_invA (fun A listed a w' => ∃ (l0 l1 l2 l3 l4 l5 l6 l7 l8 l9 l10 l11 l12 l13 l14 l15 l16 l17 l18 l19 l20 l21 l22 l23 l24 l25 l26 : Bool) , listed = #[l0, l1, l2, l3, l4, l5, l6, l7, l8, l9, l10, l11, l12, l13, l14, l15, l16, l17, l18, l19, l20, l21, l22, l23, l24, l25, l26] ∧
          a = ⟨(((((((((((((((((((((((((((A.tmps.setIfInBounds 56 (if l0 = true then .agg #[.int .i64 X.states, .slice ax1 X.moves.length cx1, .slice ax2 X.firsts.length cx2, .slice ax3 X.ends.length cx3] else A.tmps.getD 56 undef)).setIfInBounds 57 (if l1 = true then .bool true else A.tmps.getD 57 undef)).setIfInBounds 58 (if l2 = true then .bool true else A.tmps.getD 58 undef)).setIfInBounds 59 (if l3 = true then .pointer (some ⟨w2.heap.size, 0, none⟩) else A.tmps.getD 59 undef)).setIfInBounds 60 (if l4 = true then .int .i64 X.states else A.tmps.getD 60 undef)).setIfInBounds 61 (if l5 = true then .pointer (some ⟨w1.heap.size, 0, none⟩) else A.tmps.getD 61 undef)).setIfInBounds 62 (if l6 = true then .int .i64 n.states else A.tmps.getD 62 undef)).setIfInBounds 63 (if l7 = true then .pointer (some ⟨w1.heap.size + 1, 0, none⟩) else A.tmps.getD 63 undef)).setIfInBounds 64 (if l8 = true then .int .i64 m.states else A.tmps.getD 64 undef)).setIfInBounds 65 (if l9 = true then .int .i64 X.states else A.tmps.getD 65 undef)).setIfInBounds 66 (if l10 = true then .bool true else A.tmps.getD 66 undef)).setIfInBounds 67 (if l11 = true then .bool true else A.tmps.getD 67 undef)).setIfInBounds 68 (if l12 = true then .bool true else A.tmps.getD 68 undef)).setIfInBounds 69 (if l13 = true then .agg #[.int .i64 X.states, .slice ax1 X.moves.length cx1, .slice ax2 X.firsts.length cx2, .slice ax3 X.ends.length cx3] else A.tmps.getD 69 undef)).setIfInBounds 70 (if l14 = true then .string (txB l) else A.tmps.getD 70 undef)).setIfInBounds 71 (if l15 = true then .bool q else A.tmps.getD 71 undef)).setIfInBounds 72 (if l16 = true then .agg #[.int .i64 n.states, .slice a1 n.moves.length c1, .slice a2 n.firsts.length c2, .slice a3 n.ends.length c3] else A.tmps.getD 72 undef)).setIfInBounds 73 (if l17 = true then .string (txB l) else A.tmps.getD 73 undef)).setIfInBounds 74 (if l18 = true then .bool false else A.tmps.getD 74 undef)).setIfInBounds 75 (if l19 = true then .bool false else A.tmps.getD 75 undef)).setIfInBounds 76 (if l20 = true then .agg #[.int .i64 m.states, .slice am1 m.moves.length cm1, .slice am2 m.firsts.length cm2, .slice am3 m.ends.length cm3] else A.tmps.getD 76 undef)).setIfInBounds 77 (if l21 = true then .string (txB l) else A.tmps.getD 77 undef)).setIfInBounds 78 (if l22 = true then .bool q else A.tmps.getD 78 undef)).setIfInBounds 79 (if l23 = true then .bool q else A.tmps.getD 79 undef)).setIfInBounds 80 (if l24 = true then .bool true else A.tmps.getD 80 undef)).setIfInBounds 81 (if l25 = true then .bool true else A.tmps.getD 81 undef)).setIfInBounds 4 (.bool l26)), A.defers⟩ ∧
          St w w' [Ent.row 53 3 (.slice a1 n.moves.length c1) n.moves.length (n.moves.flatMap moveCells), Ent.row 3 1 (.slice a2 n.firsts.length c2) n.firsts.length (intCells n.firsts), Ent.row 3 1 (.slice a3 n.ends.length c3) n.ends.length (intCells n.ends), Ent.row 53 3 (.slice am1 m.moves.length cm1) m.moves.length (m.moves.flatMap moveCells), Ent.row 3 1 (.slice am2 m.firsts.length cm2) m.firsts.length (intCells m.firsts), Ent.row 3 1 (.slice am3 m.ends.length cm3) m.ends.length (intCells m.ends), Ent.box w1.heap.size #[.int .i64 n.states, .slice a1 n.moves.length c1, .slice a2 n.firsts.length c2, .slice a3 n.ends.length c3] 46, Ent.box (w1.heap.size + 1) #[.int .i64 m.states, .slice am1 m.moves.length cm1, .slice am2 m.firsts.length cm2, .slice am3 m.ends.length cm3] 46, Ent.row 53 3 (.slice ax1 X.moves.length cx1) X.moves.length (X.moves.flatMap moveCells), Ent.row 3 1 (.slice ax2 X.firsts.length cx2) X.firsts.length (intCells X.firsts), Ent.row 3 1 (.slice ax3 X.ends.length cx3) X.ends.length (intCells X.ends), Ent.box w2.heap.size #[.int .i64 X.states, .slice ax1 X.moves.length cx1, .slice ax2 X.firsts.length cx2, .slice ax3 X.ends.length cx3] 46]) ?_ ?_ ?_
      · rintro listed a w' ⟨l0, l1, l2, l3, l4, l5, l6, l7, l8, l9, l10, l11, l12, l13, l14, l15, l16, l17, l18, l19, l20, l21, l22, l23, l24, l25, l26, rfl, rfl, hS⟩ i hi
        obtain ⟨hun, o, ho, hall⟩ := mem_ready.1 hi
        have hlt := (Array.getElem?_eq_some_iff.1 ho).1
        refine wpOp_step ho (fun K hK => ?_)
        clear hi
        have HS := Lib.hid hS
        clear hS
        simp only [List.setIfInBounds_toArray, List.set_cons_zero, List.set_cons_succ, Array.getD_eq_getD_getElem?, List.getElem?_toArray, List.getElem?_cons_zero, List.getElem?_cons_succ, Option.getD_some]
        obtain h | h | h | h | h | h | h | h | h | h | h | h | h | h | h | h | h | h | h | h | h | h | h | h | h | h | h : i = 0 ∨ i = 1 ∨ i = 2 ∨ i = 3 ∨ i = 4 ∨ i = 5 ∨ i = 6 ∨ i = 7 ∨ i = 8 ∨ i = 9 ∨ i = 10 ∨ i = 11 ∨ i = 12 ∨ i = 13 ∨ i = 14 ∨ i = 15 ∨ i = 16 ∨ i = 17 ∨ i = 18 ∨ i = 19 ∨ i = 20 ∨ i = 21 ∨ i = 22 ∨ i = 23 ∨ i = 24 ∨ i = 25 ∨ i = 26 := by simp at hlt; omega
        all_goals subst h
        all_goals simp only [List.getElem?_toArray, List.getElem?_cons_zero, List.getElem?_cons_succ, Option.some.injEq] at ho
        all_goals subst ho
        all_goals simp [Region.binds] at hun hall
        · subst hun
          have e0 := HS.out.cell (v := .int .i64 X.states) 11 0 rfl rfl
          have e1 := HS.out.cell (v := .slice ax1 X.moves.length cx1) 11 1 rfl rfl
          have e2 := HS.out.cell (v := .slice ax2 X.firsts.length cx2) 11 2 rfl rfl
          have e3 := HS.out.cell (v := .slice ax3 X.ends.length cx3) 11 3 rfl rfl
          go_simp
          exact hK _ _ ⟨true, l1, l2, l3, l4, l5, l6, l7, l8, l9, l10, l11, l12, l13, l14, l15, l16, l17, l18, l19, l20, l21, l22, l23, l24, l25, l26, rfl, (by simp only [↓reduceIte, List.setIfInBounds_toArray, List.set_cons_zero, List.set_cons_succ, Array.getD_eq_getD_getElem?, List.getElem?_toArray, List.getElem?_cons_zero, List.getElem?_cons_succ, Option.getD_some]), HS.out⟩
        · obtain rfl := hall
          subst hun
          go_simp
          go_at_call 40
          refine (implNfaValid_any X _ _ (nfaR_rows HS.out 8 9 10 rfl rfl rfl xs0 xs1) _ HhokX.out).mono ?_
          rintro e u1 ⟨rfl, hb⟩
          have hS2 := HS.out.call hb
          have HhS2 := Lib.hid hS2; clear hS2
          go_simp
          exact hK _ _ ⟨true, true, l2, l3, l4, l5, l6, l7, l8, l9, l10, l11, l12, l13, l14, l15, l16, l17, l18, l19, l20, l21, l22, l23, l24, l25, l26, rfl, (by simp only [↓reduceIte, List.setIfInBounds_toArray, List.set_cons_zero, List.set_cons_succ, Array.getD_eq_getD_getElem?, List.getElem?_toArray, List.getElem?_cons_zero, List.getElem?_cons_succ, Option.getD_some]), HhS2.out⟩
        · obtain rfl := hall
          subst hun
          go_simp
          exact hK _ _ ⟨l0, true, true, l3, l4, l5, l6, l7, l8, l9, l10, l11, l12, l13, l14, l15, l16, l17, l18, l19, l20, l21, l22, l23, l24, l25, l26, rfl, (by simp only [↓reduceIte, List.setIfInBounds_toArray, List.set_cons_zero, List.set_cons_succ, Array.getD_eq_getD_getElem?, List.getElem?_toArray, List.getElem?_cons_zero, List.getElem?_cons_succ, Option.getD_some]), HS.out⟩
        · obtain rfl := hall
          subst hun
          go_simp
          exact hK _ _ ⟨l0, l1, true, true, l4, l5, l6, l7, l8, l9, l10, l11, l12, l13, l14, l15, l16, l17, l18, l19, l20, l21, l22, l23, l24, l25, l26, rfl, (by simp only [↓reduceIte, List.setIfInBounds_toArray, List.set_cons_zero, List.set_cons_succ, Array.getD_eq_getD_getElem?, List.getElem?_toArray, List.getElem?_cons_zero, List.getElem?_cons_succ, Option.getD_some]), HS.out⟩
        · obtain ⟨rfl, rfl⟩ := hall
          subst hun
          have e0 := HS.out.cell (v := .int .i64 X.states) 11 0 rfl rfl
          go_simp
          exact hK _ _ ⟨l0, l1, true, true, true, l5, l6, l7, l8, l9, l10, l11, l12, l13, l14, l15, l16, l17, l18, l19, l20, l21, l22, l23, l24, l25, l26, rfl, (by simp only [↓reduceIte, List.setIfInBounds_toArray, List.set_cons_zero, List.set_cons_succ, Array.getD_eq_getD_getElem?, List.getElem?_toArray, List.getElem?_cons_zero, List.getElem?_cons_succ, Option.getD_some]), HS.out⟩
        · obtain rfl := hall
          subst hun
          go_simp
          exact hK _ _ ⟨l0, l1, true, l3, l4, true, l6, l7, l8, l9, l10, l11, l12, l13, l14, l15, l16, l17, l18, l19, l20, l21, l22, l23, l24, l25, l26, rfl, (by simp only [↓reduceIte, List.setIfInBounds_toArray, List.set_cons_zero, List.set_cons_succ, Array.getD_eq_getD_getElem?, List.getElem?_toArray, List.getElem?_cons_zero, List.getElem?_cons_succ, Option.getD_some]), HS.out⟩
        · obtain ⟨rfl, rfl⟩ := hall
          subst hun
          have e0 := HS.out.cell (v := .int .i64 n.states) 6 0 rfl rfl
          go_simp
          exact hK _ _ ⟨l0, l1, true, l3, l4, true, true, l7, l8, l9, l10, l11, l12, l13, l14, l15, l16, l17, l18, l19, l20, l21, l22, l23, l24, l25, l26, rfl, (by simp only [↓reduceIte, List.setIfInBounds_toArray, List.set_cons_zero, List.set_cons_succ, Array.getD_eq_getD_getElem?, List.getElem?_toArray, List.getElem?_cons_zero, List.getElem?_cons_succ, Option.getD_some]), HS.out⟩
        · obtain rfl := hall
          subst hun
          go_simp
          exact hK _ _ ⟨l0, l1, true, l3, l4, l5, l6, true, l8, l9, l10, l11, l12, l13, l14, l15, l16, l17, l18, l19, l20, l21, l22, l23, l24, l25, l26, rfl, (by simp only [↓reduceIte, List.setIfInBounds_toArray, List.set_cons_zero, List.set_cons_succ, Array.getD_eq_getD_getElem?, List.getElem?_toArray, List.getElem?_cons_zero, List.getElem?_cons_succ, Option.getD_some]), HS.out⟩
        · obtain ⟨rfl, rfl⟩ := hall
          subst hun
          have e0 := HS.out.cell (v := .int .i64 m.states) 7 0 rfl rfl
          go_simp
          exact hK _ _ ⟨l0, l1, true, l3, l4, l5, l6, true, true, l9, l10, l11, l12, l13, l14, l15, l16, l17, l18, l19, l20, l21, l22, l23, l24, l25, l26, rfl, (by simp only [↓reduceIte, List.setIfInBounds_toArray, List.set_cons_zero, List.set_cons_succ, Array.getD_eq_getD_getElem?, List.getElem?_toArray, List.getElem?_cons_zero, List.getElem?_cons_succ, Option.getD_some]), HS.out⟩
        · obtain ⟨rfl, rfl, rfl⟩ := hall
          subst hun
          have hw := HhXs.out
          go_simp
          exact hK _ _ ⟨l0, l1, true, l3, l4, l5, true, l7, true, true, l10, l11, l12, l13, l14, l15, l16, l17, l18, l19, l20, l21, l22, l23, l24, l25, l26, rfl, (by simp only [↓reduceIte, List.setIfInBounds_toArray, List.set_cons_zero, List.set_cons_succ, Array.getD_eq_getD_getElem?, List.getElem?_toArray, List.getElem?_cons_zero, List.getElem?_cons_succ, Option.getD_some]), HS.out⟩
        · obtain ⟨rfl, rfl, rfl⟩ := hall
          subst hun
          have hxx : (X.states == X.states) = true := beq_self_eq_true _
          go_simp
          exact hK _ _ ⟨l0, l1, true, l3, true, l5, l6, l7, l8, true, true, l11, l12, l13, l14, l15, l16, l17, l18, l19, l20, l21, l22, l23, l24, l25, l26, rfl, (by simp only [↓reduceIte, List.setIfInBounds_toArray, List.set_cons_zero, List.set_cons_succ, Array.getD_eq_getD_getElem?, List.getElem?_toArray, List.getElem?_cons_zero, List.getElem?_cons_succ, Option.getD_some]), HS.out⟩
        · obtain ⟨rfl, rfl⟩ := hall
          subst hun
          go_simp
          exact hK _ _ ⟨l0, l1, true, l3, l4, l5, l6, l7, l8, l9, true, true, l12, l13, l14, l15, l16, l17, l18, l19, l20, l21, l22, l23, l24, l25, l26, rfl, (by simp only [↓reduceIte, List.setIfInBounds_toArray, List.set_cons_zero, List.set_cons_succ, Array.getD_eq_getD_getElem?, List.getElem?_toArray, List.getElem?_cons_zero, List.getElem?_cons_succ, Option.getD_some]), HS.out⟩
        · obtain ⟨rfl, rfl⟩ := hall
          subst hun
          go_simp
          exact hK _ _ ⟨l0, l1, true, l3, l4, l5, l6, l7, l8, l9, l10, true, true, l13, l14, l15, l16, l17, l18, l19, l20, l21, l22, l23, l24, l25, l26, rfl, (by simp only [↓reduceIte, List.setIfInBounds_toArray, List.set_cons_zero, List.set_cons_succ, Array.getD_eq_getD_getElem?, List.getElem?_toArray, List.getElem?_cons_zero, List.getElem?_cons_succ, Option.getD_some]), HS.out⟩
        · obtain rfl := hall
          subst hun
          have e0 := HS.out.cell (v := .int .i64 X.states) 11 0 rfl rfl
          have e1 := HS.out.cell (v := .slice ax1 X.moves.length cx1) 11 1 rfl rfl
          have e2 := HS.out.cell (v := .slice ax2 X.firsts.length cx2) 11 2 rfl rfl
          have e3 := HS.out.cell (v := .slice ax3 X.ends.length cx3) 11 3 rfl rfl
          go_simp
          exact hK _ _ ⟨l0, l1, l2, l3, l4, l5, l6, l7, l8, l9, l10, l11, true, true, l14, l15, l16, l17, l18, l19, l20, l21, l22, l23, l24, l25, l26, rfl, (by simp only [↓reduceIte, List.setIfInBounds_toArray, List.set_cons_zero, List.set_cons_succ, Array.getD_eq_getD_getElem?, List.getElem?_toArray, List.getElem?_cons_zero, List.getElem?_cons_succ, Option.getD_some]), HS.out⟩
        · obtain rfl := hall
          subst hun
          go_simp
          exact hK _ _ ⟨l0, l1, l2, l3, l4, l5, l6, l7, l8, l9, l10, l11, true, l13, true, l15, l16, l17, l18, l19, l20, l21, l22, l23, l24, l25, l26, rfl, (by simp only [↓reduceIte, List.setIfInBounds_toArray, List.set_cons_zero, List.set_cons_succ, Array.getD_eq_getD_getElem?, List.getElem?_toArray, List.getElem?_cons_zero, List.getElem?_cons_succ, Option.getD_some]), HS.out⟩
        · obtain ⟨rfl, rfl, rfl⟩ := hall
          subst hun
          go_simp
          go_at_call 38
          refine (nfaAccepts_any X l _ _ Hht.out (by omega) (nfaR_rows HS.out 8 9 10 rfl rfl rfl xs0 xs1) _ Hhq.out).mono ?_
          rintro e u1 ⟨rfl, hb⟩
          have hS2 := HS.out.call hb
          have HhS2 := Lib.hid hS2; clear hS2
          go_simp
          exact hK _ _ ⟨l0, l1, l2, l3, l4, l5, l6, l7, l8, l9, l10, l11, true, true, true, true, l16, l17, l18, l19, l20, l21, l22, l23, l24, l25, l26, rfl, (by simp only [↓reduceIte, List.setIfInBounds_toArray, List.set_cons_zero, List.set_cons_succ, Array.getD_eq_getD_getElem?, List.getElem?_toArray, List.getElem?_cons_zero, List.getElem?_cons_succ, Option.getD_some]), HhS2.out⟩
        · obtain rfl := hall
          subst hun
          have e0 := HS.out.cell (v := .int .i64 n.states) 6 0 rfl rfl
          have e1 := HS.out.cell (v := .slice a1 n.moves.length c1) 6 1 rfl rfl
          have e2 := HS.out.cell (v := .slice a2 n.firsts.length c2) 6 2 rfl rfl
          have e3 := HS.out.cell (v := .slice a3 n.ends.length c3) 6 3 rfl rfl
          go_simp
          exact hK _ _ ⟨l0, l1, l2, l3, l4, l5, l6, l7, l8, l9, l10, l11, true, l13, l14, l15, true, l17, l18, l19, l20, l21, l22, l23, l24, l25, l26, rfl, (by simp only [↓reduceIte, List.setIfInBounds_toArray, List.set_cons_zero, List.set_cons_succ, Array.getD_eq_getD_getElem?, List.getElem?_toArray, List.getElem?_cons_zero, List.getElem?_cons_succ, Option.getD_some]), HS.out⟩
        · obtain rfl := hall
          subst hun
          go_simp
          exact hK _ _ ⟨l0, l1, l2, l3, l4, l5, l6, l7, l8, l9, l10, l11, true, l13, l14, l15, l16, true, l18, l19, l20, l21, l22, l23, l24, l25, l26, rfl, (by simp only [↓reduceIte, List.setIfInBounds_toArray, List.set_cons_zero, List.set_cons_succ, Array.getD_eq_getD_getElem?, List.getElem?_toArray, List.getElem?_cons_zero, List.getElem?_cons_succ, Option.getD_some]), HS.out⟩
        · obtain ⟨rfl, rfl, rfl, rfl⟩ := hall
          subst hun
          go_simp
          go_at_call 38
          refine (nfaAccepts_any n l _ _ Hht.out (by omega) (nfaR_rows HS.out 0 1 2 rfl rfl rfl (by omega) (by omega)) _ Hhqn.out).mono ?_
          rintro e u1 ⟨rfl, hb⟩
          have hS2 := HS.out.call hb
          have HhS2 := Lib.hid hS2; clear hS2
          go_simp
          exact hK _ _ ⟨l0, l1, l2, l3, l4, l5, l6, l7, l8, l9, l10, l11, true, l13, l14, true, true, true, true, l19, l20, l21, l22, l23, l24, l25, l26, rfl, (by simp only [↓reduceIte, List.setIfInBounds_toArray, List.set_cons_zero, List.set_cons_succ, Array.getD_eq_getD_getElem?, List.getElem?_toArray, List.getElem?_cons_zero, List.getElem?_cons_succ, Option.getD_some]), HhS2.out⟩
        · obtain ⟨rfl, rfl⟩ := hall
          subst hun
          go_simp
          exact hK _ _ ⟨l0, l1, l2, l3, l4, l5, l6, l7, l8, l9, l10, l11, true, l13, l14, l15, l16, l17, true, true, l20, l21, l22, l23, l24, l25, l26, rfl, (by simp only [↓reduceIte, List.setIfInBounds_toArray, List.set_cons_zero, List.set_cons_succ, Array.getD_eq_getD_getElem?, List.getElem?_toArray, List.getElem?_cons_zero, List.getElem?_cons_succ, Option.getD_some]), HS.out⟩
        · obtain rfl := hall
          subst hun
          have e0 := HS.out.cell (v := .int .i64 m.states) 7 0 rfl rfl
          have e1 := HS.out.cell (v := .slice am1 m.moves.length cm1) 7 1 rfl rfl
          have e2 := HS.out.cell (v := .slice am2 m.firsts.length cm2) 7 2 rfl rfl
          have e3 := HS.out.cell (v := .slice am3 m.ends.length cm3) 7 3 rfl rfl
          go_simp
          exact hK _ _ ⟨l0, l1, l2, l3, l4, l5, l6, l7, l8, l9, l10, l11, l12, l13, l14, l15, l16, l17, l18, true, true, l21, l22, l23, l24, l25, l26, rfl, (by simp only [↓reduceIte, List.setIfInBounds_toArray, List.set_cons_zero, List.set_cons_succ, Array.getD_eq_getD_getElem?, List.getElem?_toArray, List.getElem?_cons_zero, List.getElem?_cons_succ, Option.getD_some]), HS.out⟩
        · obtain rfl := hall
          subst hun
          go_simp
          exact hK _ _ ⟨l0, l1, l2, l3, l4, l5, l6, l7, l8, l9, l10, l11, l12, l13, l14, l15, l16, l17, l18, true, l20, true, l22, l23, l24, l25, l26, rfl, (by simp only [↓reduceIte, List.setIfInBounds_toArray, List.set_cons_zero, List.set_cons_succ, Array.getD_eq_getD_getElem?, List.getElem?_toArray, List.getElem?_cons_zero, List.getElem?_cons_succ, Option.getD_some]), HS.out⟩
        · obtain ⟨rfl, rfl, rfl⟩ := hall
          subst hun
          go_simp
          go_at_call 38
          refine (nfaAccepts_any m l _ _ Hht.out (by omega) (nfaR_rows HS.out 3 4 5 rfl rfl rfl (by omega) (by omega)) _ Hhqm.out).mono ?_
          rintro e u1 ⟨rfl, hb⟩
          have hS2 := HS.out.call hb
          have HhS2 := Lib.hid hS2; clear hS2
          go_simp
          exact hK _ _ ⟨l0, l1, l2, l3, l4, l5, l6, l7, l8, l9, l10, l11, l12, l13, l14, l15, l16, l17, l18, true, true, true, true, l23, l24, l25, l26, rfl, (by simp only [↓reduceIte, List.setIfInBounds_toArray, List.set_cons_zero, List.set_cons_succ, Array.getD_eq_getD_getElem?, List.getElem?_toArray, List.getElem?_cons_zero, List.getElem?_cons_succ, Option.getD_some]), HhS2.out⟩
        · obtain ⟨rfl, rfl, rfl⟩ := hall
          subst hun
          go_simp
          exact hK _ _ ⟨l0, l1, l2, l3, l4, l5, l6, l7, l8, l9, l10, l11, true, l13, l14, l15, l16, l17, l18, true, l20, l21, true, true, l24, l25, l26, rfl, (by simp only [↓reduceIte, List.setIfInBounds_toArray, List.set_cons_zero, List.set_cons_succ, Array.getD_eq_getD_getElem?, List.getElem?_toArray, List.getElem?_cons_zero, List.getElem?_cons_succ, Option.getD_some]), HS.out⟩
        · obtain ⟨rfl, rfl, rfl⟩ := hall
          subst hun
          have hqq : (q == q) = true := beq_self_eq_true q
          go_simp
          exact hK _ _ ⟨l0, l1, l2, l3, l4, l5, l6, l7, l8, l9, l10, l11, true, l13, l14, true, l16, l17, l18, l19, l20, l21, l22, true, true, l25, l26, rfl, (by simp only [↓reduceIte, List.setIfInBounds_toArray, List.set_cons_zero, List.set_cons_succ, Array.getD_eq_getD_getElem?, List.getElem?_toArray, List.getElem?_cons_zero, List.getElem?_cons_succ, Option.getD_some]), HS.out⟩
        · obtain ⟨rfl, rfl⟩ := hall
          subst hun
          go_simp
          exact hK _ _ ⟨l0, l1, l2, l3, l4, l5, l6, l7, l8, l9, l10, l11, true, l13, l14, l15, l16, l17, l18, l19, l20, l21, l22, l23, true, true, l26, rfl, (by simp only [↓reduceIte, List.setIfInBounds_toArray, List.set_cons_zero, List.set_cons_succ, Array.getD_eq_getD_getElem?, List.getElem?_toArray, List.getElem?_cons_zero, List.getElem?_cons_succ, Option.getD_some]), HS.out⟩
        · obtain ⟨rfl, rfl, rfl, rfl, rfl, rfl, rfl, rfl, rfl, rfl, rfl, rfl, rfl, rfl, rfl, rfl, rfl, rfl, rfl, rfl, rfl, rfl, rfl, rfl, -, rfl, rfl, -⟩ := hall
          subst hun
          go_simp
          exact hK _ _ ⟨true, true, true, true, true, true, true, true, true, true, true, true, true, true, true, true, true, true, true, true, true, true, true, true, true, true, true, rfl, (by simp only [↓reduceIte, List.setIfInBounds_toArray, List.set_cons_zero, List.set_cons_succ]), HS.out⟩
      · rintro listed a w' ⟨l0, l1, l2, l3, l4, l5, l6, l7, l8, l9, l10, l11, l12, l13, l14, l15, l16, l17, l18, l19, l20, l21, l22, l23, l24, l25, l26, rfl, rfl, hS⟩ hr
        have hall := ready_nilM (by kernel_rfl) rfl hr
        obtain rfl : l0 = true := by simpa using hall 0 (by simp)
        obtain rfl : l1 = true := by simpa using hall 1 (by simp)
        obtain rfl : l2 = true := by simpa using hall 2 (by simp)
        obtain rfl : l3 = true := by simpa using hall 3 (by simp)
        obtain rfl : l4 = true := by simpa using hall 4 (by simp)
        obtain rfl : l5 = true := by simpa using hall 5 (by simp)
        obtain rfl : l6 = true := by simpa using hall 6 (by simp)
        obtain rfl : l7 = true := by simpa using hall 7 (by simp)
        obtain rfl : l8 = true := by simpa using hall 8 (by simp)
        obtain rfl : l9 = true := by simpa using hall 9 (by simp)
        obtain rfl : l10 = true := by simpa using hall 10 (by simp)
        obtain rfl : l11 = true := by simpa using hall 11 (by simp)
        obtain rfl : l12 = true := by simpa using hall 12 (by simp)
        obtain rfl : l13 = true := by simpa using hall 13 (by simp)
        obtain rfl : l14 = true := by simpa using hall 14 (by simp)
        obtain rfl : l15 = true := by simpa using hall 15 (by simp)
        obtain rfl : l16 = true := by simpa using hall 16 (by simp)
        obtain rfl : l17 = true := by simpa using hall 17 (by simp)
        obtain rfl : l18 = true := by simpa using hall 18 (by simp)
        obtain rfl : l19 = true := by simpa using hall 19 (by simp)
        obtain rfl : l20 = true := by simpa using hall 20 (by simp)
        obtain rfl : l21 = true := by simpa using hall 21 (by simp)
        obtain rfl : l22 = true := by simpa using hall 22 (by simp)
        obtain rfl : l23 = true := by simpa using hall 23 (by simp)
        obtain rfl : l24 = true := by simpa using hall 24 (by simp)
        obtain rfl : l25 = true := by simpa using hall 25 (by simp)
        obtain rfl : l26 = true := by simpa using hall 26 (by simp)
        clear hall hr 
        simp only [↓reduceIte] at hS ⊢
        simp only [List.setIfInBounds_toArray, List.set_cons_zero, List.set_cons_succ]
        have HSf := Lib.hid hS
        clear hS
        go_wp2
        go_ret
        exact ⟨rfl, HSf.out.bel⟩
      · refine ⟨false, false, false, false, false, false, false, false, false, false, false, false, false, false, false, false, false, false, false, false, false, false, false, false, false, false, false, rfl, (by simp only [↓reduceIte, Bool.false_eq_true, List.setIfInBounds_toArray, List.set_cons_zero, List.set_cons_succ, Array.getD_eq_getD_getElem?, List.getElem?_toArray, List.getElem?_cons_zero, List.getElem?_cons_succ, Option.getD_some]), ?_⟩
        exact HS6.out.drew.pick [0, 1, 2, 3, 4, 5, 6, 7, 8, 9, 10, 11] (by decide)
    · have hq : accT X l = true := by rw [hE, hqn]; rfl
      have HhE := Lib.hid hE; clear hE
      have Hhqn := Lib.hid hqn; clear hqn
      have Hhq := Lib.hid hq; clear hq
      go_wp2
      refine wp_region_any (by kernel_rfl) ?_
      refine wpAny_invA (fun A listed a w' => ∃ (l0 l1 l2 l3 l4 l5 l6 l7 l8 l9 l10 l11 l12 l13 l14 l15 l16 l17 l18 l19 l20 l21 l22 l23 l24 l25 l26 : Bool) , listed = #[l0, l1, l2, l3, l4, l5, l6, l7, l8, l9, l10, l11, l12, l13, l14, l15, l16, l17, l18, l19, l20, l21, l22, l23, l24, l25, l26] ∧
          a = ⟨((((((((((((((((((((((((A.tmps.setIfInBounds 56 (if l0 = true then .agg #[.int .i64 X.states, .slice ax1 X.moves.length cx1, .slice ax2 X.firsts.length cx2, .slice ax3 X.ends.length cx3] else A.tmps.getD 56 undef)).setIfInBounds 57 (if l1 = true then .bool true else A.tmps.getD 57 undef)).setIfInBounds 58 (if l2 = true then .bool true else A.tmps.getD 58 undef)).setIfInBounds 59 (if l3 = true then .pointer (some ⟨w2.heap.size, 0, none⟩) else A.tmps.getD 59 undef)).setIfInBounds 60 (if l4 = true then .int .i64 X.states else A.tmps.getD 60 undef)).setIfInBounds 61 (if l5 = true then .pointer (some ⟨w1.heap.size, 0, none⟩) else A.tmps.getD 61 undef)).setIfInBounds 62 (if l6 = true then .int .i64 n.states else A.tmps.getD 62 undef)).setIfInBounds 63 (if l7 = true then .pointer (some ⟨w1.heap.size + 1, 0, none⟩) else A.tmps.getD 63 undef)).setIfInBounds 64 (if l8 = true then .int .i64 m.states else A.tmps.getD 64 undef)).setIfInBounds 65 (if l9 = true then .int .i64 X.states else A.tmps.getD 65 undef)).setIfInBounds 66 (if l10 = true then .bool true else A.tmps.getD 66 undef)).setIfInBounds 67 (if l11 = true then .bool true else A.tmps.getD 67 undef)).setIfInBounds 68 (if l12 = true then .bool true else A.tmps.getD 68 undef)).setIfInBounds 69 (if l13 = true then .agg #[.int .i64 X.states, .slice ax1 X.moves.length cx1, .slice ax2 X.firsts.length cx2, .slice ax3 X.ends.length cx3] else A.tmps.getD 69 undef)).setIfInBounds 70 (if l14 = true then .string (txB l) else A.tmps.getD 70 undef)).setIfInBounds 71 (if l15 = true then .bool true else A.tmps.getD 71 undef)).setIfInBounds 72 (if l16 = true then .agg #[.int .i64 n.states, .slice a1 n.moves.length c1, .slice a2 n.firsts.length c2, .slice a3 n.ends.length c3] else A.tmps.getD 72 undef)).setIfInBounds 73 (if l17 = true then .string (txB l) else A.tmps.getD 73 undef)).setIfInBounds 74 (if l18 = true then .bool true else A.tmps.getD 74 undef)).setIfInBounds 75 (if l19 = true then .bool true else A.tmps.getD 75 undef)).setIfInBounds 79 (if l23 = true then .bool true else A.tmps.getD 79 undef)).setIfInBounds 80 (if l24 = true then .bool true else A.tmps.getD 80 undef)).setIfInBounds 81 (if l25 = true then .bool true else A.tmps.getD 81 undef)).setIfInBounds 4 (.bool l26)), A.defers⟩ ∧
          St w w' [Ent.row 53 3 (.slice a1 n.moves.length c1) n.moves.length (n.moves.flatMap moveCells), Ent.row 3 1 (.slice a2 n.firsts.length c2) n.firsts.length (intCells n.firsts), Ent.row 3 1 (.slice a3 n.ends.length c3) n.ends.length (intCells n.ends), Ent.row 53 3 (.slice am1 m.moves.length cm1) m.moves.length (m.moves.flatMap moveCells), Ent.row 3 1 (.slice am2 m.firsts.length cm2) m.firsts.length (intCells m.firsts), Ent.row 3 1 (.slice am3 m.ends.length cm3) m.ends.length (intCells m.ends), Ent.box w1.heap.size #[.int .i64 n.states, .slice a1 n.moves.length c1, .slice a2 n.firsts.length c2, .slice a3 n.ends.length c3] 46, Ent.box (w1.heap.size + 1) #[.int .i64 m.states, .slice am1 m.moves.length cm1, .slice am2 m.firsts.length cm2, .slice am3 m.ends.length cm3] 46, Ent.row 53 3 (.slice ax1 X.moves.length cx1) X.moves.length (X.moves.flatMap moveCells), Ent.row 3 1 (.slice ax2 X.firsts.length cx2) X.firsts.length (intCells X.firsts), Ent.row 3 1 (.slice ax3 X.ends.length cx3) X.ends.length (intCells X.ends), Ent.box w2.heap.size #[.int .i64 X.states, .slice ax1 X.moves.length cx1, .slice ax2 X.firsts.length cx2, .slice ax3 X.ends.length cx3] 46]) ?_ ?_ ?_
      · rintro listed a w' ⟨l0, l1, l2, l3, l4, l5, l6, l7, l8, l9, l10, l11, l12, l13, l14, l15, l16, l17, l18, l19, l20, l21, l22, l23, l24, l25, l26, rfl, rfl, hS⟩ i hi
        obtain ⟨hun, o, ho, hall⟩ := mem_ready.1 hi
        have hlt := (Array.getElem?_eq_some_iff.1 ho).1
        refine wpOp_step ho (fun K hK => ?_)
        clear hi
        have HS := Lib.hid hS
        clear hS
        simp only [List.setIfInBounds_toArray, List.set_cons_zero, List.set_cons_succ, Array.getD_eq_getD_getElem?, List.getElem?_toArray, List.getElem?_cons_zero, List.getElem?_cons_succ, Option.getD_some]
        obtain h | h | h | h | h | h | h | h | h | h | h | h | h | h | h | h | h | h | h | h | h | h | h | h | h | h | h : i = 0 ∨ i = 1 ∨ i = 2 ∨ i = 3 ∨ i = 4 ∨ i = 5 ∨ i = 6 ∨ i = 7 ∨ i = 8 ∨ i = 9 ∨ i = 10 ∨ i = 11 ∨ i = 12 ∨ i = 13 ∨ i = 14 ∨ i = 15 ∨ i = 16 ∨ i = 17 ∨ i = 18 ∨ i = 19 ∨ i = 20 ∨ i = 21 ∨ i = 22 ∨ i = 23 ∨ i = 24 ∨ i = 25 ∨ i = 26 := by simp at hlt; omega
        all_goals subst h
        all_goals simp only [List.getElem?_toArray, List.getElem?_cons_zero, List.getElem?_cons_succ, Option.some.injEq] at ho
        all_goals subst ho
        all_goals simp [Region.binds] at hun hall
        · subst hun
          have e0 := HS.out.cell (v := .int .i64 X.states) 11 0 rfl rfl
          have e1 := HS.out.cell (v := .slice ax1 X.moves.length cx1) 11 1 rfl rfl
          have e2 := HS.out.cell (v := .slice ax2 X.firsts.length cx2) 11 2 rfl rfl
          have e3 := HS.out.cell (v := .slice ax3 X.ends.length cx3) 11 3 rfl rfl
          go_simp
          exact hK _ _ ⟨true, l1, l2, l3, l4, l5, l6, l7, l8, l9, l10, l11, l12, l13, l14, l15, l16, l17, l18, l19, l20, l21, l22, l23, l24, l25, l26, rfl, (by simp only [↓reduceIte, List.setIfInBounds_toArray, List.set_cons_zero, List.set_cons_succ, Array.getD_eq_getD_getElem?, List.getElem?_toArray, List.getElem?_cons_zero, List.getElem?_cons_succ, Option.getD_some]), HS.out⟩
        · obtain rfl := hall
          subst hun
          go_simp
          go_at_call 40
          refine (implNfaValid_any X _ _ (nfaR_rows HS.out 8 9 10 rfl rfl rfl xs0 xs1) _ HhokX.out).mono ?_
          rintro e u1 ⟨rfl, hb⟩
          have hS2 := HS.out.call hb
          have HhS2 := Lib.hid hS2; clear hS2
          go_simp
          exact hK _ _ ⟨true, true, l2, l3, l4, l5, l6, l7, l8, l9, l10, l11, l12, l13, l14, l15, l16, l17, l18, l19, l20, l21, l22, l23, l24, l25, l26, rfl, (by simp only [↓reduceIte, List.setIfInBounds_toArray, List.set_cons_zero, List.set_cons_succ, Array.getD_eq_getD_getElem?, List.getElem?_toArray, List.getElem?_cons_zero, List.getElem?_cons_succ, Option.getD_some]), HhS2.out⟩
        · obtain rfl := hall
          subst hun
          go_simp
          exact hK _ _ ⟨l0, true, true, l3, l4, l5, l6, l7, l8, l9, l10, l11, l12, l13, l14, l15, l16, l17, l18, l19, l20, l21, l22, l23, l24, l25, l26, rfl, (by simp only [↓reduceIte, List.setIfInBounds_toArray, List.set_cons_zero, List.set_cons_succ, Array.getD_eq_getD_getElem?, List.getElem?_toArray, List.getElem?_cons_zero, List.getElem?_cons_succ, Option.getD_some]), HS.out⟩
        · obtain rfl := hall
          subst hun
          go_simp
          exact hK _ _ ⟨l0, l1, true, true, l4, l5, l6, l7, l8, l9, l10, l11, l12, l13, l14, l15, l16, l17, l18, l19, l20, l21, l22, l23, l24, l25, l26, rfl, (by simp only [↓reduceIte, List.setIfInBounds_toArray, List.set_cons_zero, List.set_cons_succ, Array.getD_eq_getD_getElem?, List.getElem?_toArray, List.getElem?_cons_zero, List.getElem?_cons_succ, Option.getD_some]), HS.out⟩
        · obtain ⟨rfl, rfl⟩ := hall
          subst hun
          have e0 := HS.out.cell (v := .int .i64 X.states) 11 0 rfl rfl
          go_simp
          exact hK _ _ ⟨l0, l1, true, true, true, l5, l6, l7, l8, l9, l10, l11, l12, l13, l14, l15, l16, l17, l18, l19, l20, l21, l22, l23, l24, l25, l26, rfl, (by simp only [↓reduceIte, List.setIfInBounds_toArray, List.set_cons_zero, List.set_cons_succ, Array.getD_eq_getD_getElem?, List.getElem?_toArray, List.getElem?_cons_zero, List.getElem?_cons_succ, Option.getD_some]), HS.out⟩
        · obtain rfl := hall
          subst hun
          go_simp
          exact hK _ _ ⟨l0, l1, true, l3, l4, true, l6, l7, l8, l9, l10, l11, l12, l13, l14, l15, l16, l17, l18, l19, l20, l21, l22, l23, l24, l25, l26, rfl, (by simp only [↓reduceIte, List.setIfInBounds_toArray, List.set_cons_zero, List.set_cons_succ, Array.getD_eq_getD_getElem?, List.getElem?_toArray, List.getElem?_cons_zero, List.getElem?_cons_succ, Option.getD_some]), HS.out⟩
        · obtain ⟨rfl, rfl⟩ := hall
          subst hun
          have e0 := HS.out.cell (v := .int .i64 n.states) 6 0 rfl rfl
          go_simp
          exact hK _ _ ⟨l0, l1, true, l3, l4, true, true, l7, l8, l9, l10, l11, l12, l13, l14, l15, l16, l17, l18, l19, l20, l21, l22, l23, l24, l25, l26, rfl, (by simp only [↓reduceIte, List.setIfInBounds_toArray, List.set_cons_zero, List.set_cons_succ, Array.getD_eq_getD_getElem?, List.getElem?_toArray, List.getElem?_cons_zero, List.getElem?_cons_succ, Option.getD_some]), HS.out⟩
        · obtain rfl := hall
          subst hun
          go_simp
          exact hK _ _ ⟨l0, l1, true, l3, l4, l5, l6, true, l8, l9, l10, l11, l12, l13, l14, l15, l16, l17, l18, l19, l20, l21, l22, l23, l24, l25, l26, rfl, (by simp only [↓reduceIte, List.setIfInBounds_toArray, List.set_cons_zero, List.set_cons_succ, Array.getD_eq_getD_getElem?, List.getElem?_toArray, List.getElem?_cons_zero, List.getElem?_cons_succ, Option.getD_some]), HS.out⟩
        · obtain ⟨rfl, rfl⟩ := hall
          subst hun
          have e0 := HS.out.cell (v := .int .i64 m.states) 7 0 rfl rfl
          go_simp
          exact hK _ _ ⟨l0, l1, true, l3, l4, l5, l6, true, true, l9, l10, l11, l12, l13, l14, l15, l16, l17, l18, l19, l20, l21, l22, l23, l24, l25, l26, rfl, (by simp only [↓reduceIte, List.setIfInBounds_toArray, List.set_cons_zero, List.set_cons_succ, Array.getD_eq_getD_getElem?, List.getElem?_toArray, List.getElem?_cons_zero, List.getElem?_cons_succ, Option.getD_some]), HS.out⟩
        · obtain ⟨rfl, rfl, rfl⟩ := hall
          subst hun
          have hw := HhXs.out
          go_simp
          exact hK _ _ ⟨l0, l1, true, l3, l4, l5, true, l7, true, true, l10, l11, l12, l13, l14, l15, l16, l17, l18, l19, l20, l21, l22, l23, l24, l25, l26, rfl, (by simp only [↓reduceIte, List.setIfInBounds_toArray, List.set_cons_zero, List.set_cons_succ, Array.getD_eq_getD_getElem?, List.getElem?_toArray, List.getElem?_cons_zero, List.getElem?_cons_succ, Option.getD_some]), HS.out⟩
        · obtain ⟨rfl, rfl, rfl⟩ := hall
          subst hun
          have hxx : (X.states == X.states) = true := beq_self_eq_true _
          go_simp
          exact hK _ _ ⟨l0, l1, true, l3, true, l5, l6, l7, l8, true, true, l11, l12, l13, l14, l15, l16, l17, l18, l19, l20, l21, l22, l23, l24, l25, l26, rfl, (by simp only [↓reduceIte, List.setIfInBounds_toArray, List.set_cons_zero, List.set_cons_succ, Array.getD_eq_getD_getElem?, List.getElem?_toArray, List.getElem?_cons_zero, List.getElem?_cons_succ, Option.getD_some]), HS.out⟩
        · obtain ⟨rfl, rfl⟩ := hall
          subst hun
          go_simp
          exact hK _ _ ⟨l0, l1, true, l3, l4, l5, l6, l7, l8, l9, true, true, l12, l13, l14, l15, l16, l17, l18, l19, l20, l21, l22, l23, l24, l25, l26, rfl, (by simp only [↓reduceIte, List.setIfInBounds_toArray, List.set_cons_zero, List.set_cons_succ, Array.getD_eq_getD_getElem?, List.getElem?_toArray, List.getElem?_cons_zero, List.getElem?_cons_succ, Option.getD_some]), HS.out⟩
        · obtain ⟨rfl, rfl⟩ := hall
          subst hun
          go_simp
          exact hK _ _ ⟨l0, l1, true, l3, l4, l5, l6, l7, l8, l9, l10, true, true, l13, l14, l15, l16, l17, l18, l19, l20, l21, l22, l23, l24, l25, l26, rfl, (by simp only [↓reduceIte, List.setIfInBounds_toArray, List.set_cons_zero, List.set_cons_succ, Array.getD_eq_getD_getElem?, List.getElem?_toArray, List.getElem?_cons_zero, List.getElem?_cons_succ, Option.getD_some]), HS.out⟩
        · obtain rfl := hall
          subst hun
          have e0 := HS.out.cell (v := .int .i64 X.states) 11 0 rfl rfl
          have e1 := HS.out.cell (v := .slice ax1 X.moves.length cx1) 11 1 rfl rfl
          have e2 := HS.out.cell (v := .slice ax2 X.firsts.length cx2) 11 2 rfl rfl
          have e3 := HS.out.cell (v := .slice ax3 X.ends.length cx3) 11 3 rfl rfl
          go_simp
          exact hK _ _ ⟨l0, l1, l2, l3, l4, l5, l6, l7, l8, l9, l10, l11, true, true, l14, l15, l16, l17, l18, l19, l20, l21, l22, l23, l24, l25, l26, rfl, (by simp only [↓reduceIte, List.setIfInBounds_toArray, List.set_cons_zero, List.set_cons_succ, Array.getD_eq_getD_getElem?, List.getElem?_toArray, List.getElem?_cons_zero, List.getElem?_cons_succ, Option.getD_some]), HS.out⟩
        · obtain rfl := hall
          subst hun
          go_simp
          exact hK _ _ ⟨l0, l1, l2, l3, l4, l5, l6, l7, l8, l9, l10, l11, true, l13, true, l15, l16, l17, l18, l19, l20, l21, l22, l23, l24, l25, l26, rfl, (by simp only [↓reduceIte, List.setIfInBounds_toArray, List.set_cons_zero, List.set_cons_succ, Array.getD_eq_getD_getElem?, List.getElem?_toArray, List.getElem?_cons_zero, List.getElem?_cons_succ, Option.getD_some]), HS.out⟩
        · obtain ⟨rfl, rfl, rfl⟩ := hall
          subst hun
          go_simp
          go_at_call 38
          refine (nfaAccepts_any X l _ _ Hht.out (by omega) (nfaR_rows HS.out 8 9 10 rfl rfl rfl xs0 xs1) _ Hhq.out).mono ?_
          rintro e u1 ⟨rfl, hb⟩
          have hS2 := HS.out.call hb
          have HhS2 := Lib.hid hS2; clear hS2
          go_simp
          exact hK _ _ ⟨l0, l1, l2, l3, l4, l5, l6, l7, l8, l9, l10, l11, true, true, true, true, l16, l17, l18, l19, l20, l21, l22, l23, l24, l25, l26, rfl, (by simp only [↓reduceIte, List.setIfInBounds_toArray, List.set_cons_zero, List.set_cons_succ, Array.getD_eq_getD_getElem?, List.getElem?_toArray, List.getElem?_cons_zero, List.getElem?_cons_succ, Option.getD_some]), HhS2.out⟩
        · obtain rfl := hall
          subst hun
          have e0 := HS.out.cell (v := .int .i64 n.states) 6 0 rfl rfl
          have e1 := HS.out.cell (v := .slice a1 n.moves.length c1) 6 1 rfl rfl
          have e2 := HS.out.cell (v := .slice a2 n.firsts.length c2) 6 2 rfl rfl
          have e3 := HS.out.cell (v := .slice a3 n.ends.length c3) 6 3 rfl rfl
          go_simp
          exact hK _ _ ⟨l0, l1, l2, l3, l4, l5, l6, l7, l8, l9, l10, l11, true, l13, l14, l15, true, l17, l18, l19, l20, l21, l22, l23, l24, l25, l26, rfl, (by simp only [↓reduceIte, List.setIfInBounds_toArray, List.set_cons_zero, List.set_cons_succ, Array.getD_eq_getD_getElem?, List.getElem?_toArray, List.getElem?_cons_zero, List.getElem?_cons_succ, Option.getD_some]), HS.out⟩
        · obtain rfl := hall
          subst hun
          go_simp
          exact hK _ _ ⟨l0, l1, l2, l3, l4, l5, l6, l7, l8, l9, l10, l11, true, l13, l14, l15, l16, true, l18, l19, l20, l21, l22, l23, l24, l25, l26, rfl, (by simp only [↓reduceIte, List.setIfInBounds_toArray, List.set_cons_zero, List.set_cons_succ, Array.getD_eq_getD_getElem?, List.getElem?_toArray, List.getElem?_cons_zero, List.getElem?_cons_succ, Option.getD_some]), HS.out⟩
        · obtain ⟨rfl, rfl, rfl, rfl⟩ := hall
          subst hun
          go_simp
          go_at_call 38
          refine (nfaAccepts_any n l _ _ Hht.out (by omega) (nfaR_rows HS.out 0 1 2 rfl rfl rfl (by omega) (by omega)) _ Hhqn.out).mono ?_
          rintro e u1 ⟨rfl, hb⟩
          have hS2 := HS.out.call hb
          have HhS2 := Lib.hid hS2; clear hS2
          go_simp
          exact hK _ _ ⟨l0, l1, l2, l3, l4, l5, l6, l7, l8, l9, l10, l11, true, l13, l14, true, true, true, true, l19, l20, l21, l22, l23, l24, l25, l26, rfl, (by simp only [↓reduceIte, List.setIfInBounds_toArray, List.set_cons_zero, List.set_cons_succ, Array.getD_eq_getD_getElem?, List.getElem?_toArray, List.getElem?_cons_zero, List.getElem?_cons_succ, Option.getD_some]), HhS2.out⟩
        · obtain ⟨rfl, rfl⟩ := hall
          subst hun
          go_simp
          exact hK _ _ ⟨l0, l1, l2, l3, l4, l5, l6, l7, l8, l9, l10, l11, true, l13, l14, l15, l16, l17, true, true, l20, l21, l22, l23, l24, l25, l26, rfl, (by simp only [↓reduceIte, List.setIfInBounds_toArray, List.set_cons_zero, List.set_cons_succ, Array.getD_eq_getD_getElem?, List.getElem?_toArray, List.getElem?_cons_zero, List.getElem?_cons_succ, Option.getD_some]), HS.out⟩
        · obtain rfl := hall
          subst hun
          go_simp
          exact hK _ _ ⟨l0, l1, l2, l3, l4, l5, l6, l7, l8, l9, l10, l11, l12, l13, l14, l15, l16, l17, l18, true, true, l21, l22, l23, l24, l25, l26, rfl, (by simp only [↓reduceIte, List.setIfInBounds_toArray, List.set_cons_zero, List.set_cons_succ, Array.getD_eq_getD_getElem?, List.getElem?_toArray, List.getElem?_cons_zero, List.getElem?_cons_succ, Option.getD_some]), HS.out⟩
        · obtain rfl := hall
          subst hun
          go_simp
          exact hK _ _ ⟨l0, l1, l2, l3, l4, l5, l6, l7, l8, l9, l10, l11, l12, l13, l14, l15, l16, l17, l18, true, l20, true, l22, l23, l24, l25, l26, rfl, (by simp only [↓reduceIte, List.setIfInBounds_toArray, List.set_cons_zero, List.set_cons_succ, Array.getD_eq_getD_getElem?, List.getElem?_toArray, List.getElem?_cons_zero, List.getElem?_cons_succ, Option.getD_some]), HS.out⟩
        · obtain ⟨rfl, rfl, rfl⟩ := hall
          subst hun
          go_simp
          exact hK _ _ ⟨l0, l1, l2, l3, l4, l5, l6, l7, l8, l9, l10, l11, l12, l13, l14, l15, l16, l17, l18, true, true, true, true, l23, l24, l25, l26, rfl, (by simp only [↓reduceIte, List.setIfInBounds_toArray, List.set_cons_zero, List.set_cons_succ, Array.getD_eq_getD_getElem?, List.getElem?_toArray, List.getElem?_cons_zero, List.getElem?_cons_succ, Option.getD_some]), HS.out⟩
        · obtain ⟨rfl, rfl, rfl⟩ := hall
          subst hun
          go_simp
          exact hK _ _ ⟨l0, l1, l2, l3, l4, l5, l6, l7, l8, l9, l10, l11, true, l13, l14, l15, l16, l17, l18, true, l20, l21, true, true, l24, l25, l26, rfl, (by simp only [↓reduceIte, List.setIfInBounds_toArray, List.set_cons_zero, List.set_cons_succ, Array.getD_eq_getD_getElem?, List.getElem?_toArray, List.getElem?_cons_zero, List.getElem?_cons_succ, Option.getD_some]), HS.out⟩
        · obtain ⟨rfl, rfl, rfl⟩ := hall
          subst hun
          go_simp
          exact hK _ _ ⟨l0, l1, l2, l3, l4, l5, l6, l7, l8, l9, l10, l11, true, l13, l14, true, l16, l17, l18, l19, l20, l21, l22, true, true, l25, l26, rfl, (by simp only [↓reduceIte, List.setIfInBounds_toArray, List.set_cons_zero, List.set_cons_succ, Array.getD_eq_getD_getElem?, List.getElem?_toArray, List.getElem?_cons_zero, List.getElem?_cons_succ, Option.getD_some]), HS.out⟩
        · obtain ⟨rfl, rfl⟩ := hall
          subst hun
          go_simp
          exact hK _ _ ⟨l0, l1, l2, l3, l4, l5, l6, l7, l8, l9, l10, l11, true, l13, l14, l15, l16, l17, l18, l19, l20, l21, l22, l23, true, true, l26, rfl, (by simp only [↓reduceIte, List.setIfInBounds_toArray, List.set_cons_zero, List.set_cons_succ, Array.getD_eq_getD_getElem?, List.getElem?_toArray, List.getElem?_cons_zero, List.getElem?_cons_succ, Option.getD_some]), HS.out⟩
        · obtain ⟨rfl, rfl, rfl, rfl, rfl, rfl, rfl, rfl, rfl, rfl, rfl, rfl, rfl, rfl, rfl, rfl, rfl, rfl, rfl, rfl, rfl, rfl, rfl, rfl, -, rfl, rfl, -⟩ := hall
          subst hun
          go_simp
          exact hK _ _ ⟨true, true, true, true, true, true, true, true, true, true, true, true, true, true, true, true, true, true, true, true, true, true, true, true, true, true, true, rfl, (by simp only [↓reduceIte, List.setIfInBounds_toArray, List.set_cons_zero, List.set_cons_succ]), HS.out⟩
      · rintro listed a w' ⟨l0, l1, l2, l3, l4, l5, l6, l7, l8, l9, l10, l11, l12, l13, l14, l15, l16, l17, l18, l19, l20, l21, l22, l23, l24, l25, l26, rfl, rfl, hS⟩ hr
        have hall := ready_nilM (by kernel_rfl) rfl hr
        obtain rfl : l0 = true := by simpa using hall 0 (by simp)
        obtain rfl : l1 = true := by simpa using hall 1 (by simp)
        obtain rfl : l2 = true := by simpa using hall 2 (by simp)
        obtain rfl : l3 = true := by simpa using hall 3 (by simp)
        obtain rfl : l4 = true := by simpa using hall 4 (by simp)
        obtain rfl : l5 = true := by simpa using hall 5 (by simp)
        obtain rfl : l6 = true := by simpa using hall 6 (by simp)
        obtain rfl : l7 = true := by simpa using hall 7 (by simp)
        obtain rfl : l8 = true := by simpa using hall 8 (by simp)
        obtain rfl : l9 = true := by simpa using hall 9 (by simp)
        obtain rfl : l10 = true := by simpa using hall 10 (by simp)
        obtain rfl : l11 = true := by simpa using hall 11 (by simp)
        obtain rfl : l12 = true := by simpa using hall 12 (by simp)
        obtain rfl : l13 = true := by simpa using hall 13 (by simp)
        obtain rfl : l14 = true := by simpa using hall 14 (by simp)
        obtain rfl : l15 = true := by simpa using hall 15 (by simp)
        obtain rfl : l16 = true := by simpa using hall 16 (by simp)
        obtain rfl : l17 = true := by simpa using hall 17 (by simp)
        obtain rfl : l18 = true := by simpa using hall 18 (by simp)
        obtain rfl : l19 = true := by simpa using hall 19 (by simp)
        obtain rfl : l20 = true := by simpa using hall 20 (by simp)
        obtain rfl : l21 = true := by simpa using hall 21 (by simp)
        obtain rfl : l22 = true := by simpa using hall 22 (by simp)
        obtain rfl : l23 = true := by simpa using hall 23 (by simp)
        obtain rfl : l24 = true := by simpa using hall 24 (by simp)
        obtain rfl : l25 = true := by simpa using hall 25 (by simp)
        obtain rfl : l26 = true := by simpa using hall 26 (by simp)
        clear hall hr 
        simp only [↓reduceIte] at hS ⊢
        simp only [List.setIfInBounds_toArray, List.set_cons_zero, List.set_cons_succ]
        have HSf := Lib.hid hS
        clear hS
        go_wp2
        go_ret
        exact ⟨rfl, HSf.out.bel⟩
      · refine ⟨false, false, false, false, false, false, false, false, false, false, false, false, false, false, false, false, false, false, false, false, false, false, false, false, false, false, false, rfl, (by simp only [↓reduceIte, Bool.false_eq_true, List.setIfInBounds_toArray, List.set_cons_zero, List.set_cons_succ, Array.getD_eq_getD_getElem?, List.getElem?_toArray, List.getElem?_cons_zero, List.getElem?_cons_succ, Option.getD_some]), ?_⟩
        exact HS6.out.drew.pick [0, 1, 2, 3, 4, 5, 6, 7, 8, 9, 10, 11] (by decide)
end Go.Proofs.Ytolkifpeblbfcaa
