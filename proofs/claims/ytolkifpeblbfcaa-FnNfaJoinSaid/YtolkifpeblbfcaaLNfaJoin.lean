/-
  The walk over the law FnNfaJoin.
  Conditions: the arguments read as bytes.
-/
import Derived.Test.YtolkifpeblbfcaaIl
import Derived.Test.YtolkifpeblbfcaaDj
import Derived.Test.YtolkifpeblbfcaaSf
import Derived.Test.YtolkifpeblbfcaaTz
import Derived.Test.YtolkifpeblbfcaaLNfaClose
namespace Go.Proofs.Ytolkifpeblbfcaa
open Go.RowKit

/-- Is a text divided at one of its first places? -/
def divs (n m : NfaD) (l : List Nat) : Nat → Bool
  | 0 => false
  | k + 1 => divs n m l k || (accT n (l.take k) && accT m (l.drop k))
theorem divs_succ {n m : NfaD} {l : List Nat} {k : Nat} : divs n m l (k + 1) = (divs n m l k || (accT n (l.take k) && accT m (l.drop k))) := rfl
theorem divs_iff {n m : NfaD} {l : List Nat} : ∀ {k : Nat}, divs n m l k = true ↔ ∃ i, i < k ∧ accT n (l.take i) = true ∧ accT m (l.drop i) = true
  | 0 => by simp [divs]
  | k + 1 => by
    rw [divs_succ, Bool.or_eq_true, divs_iff, Bool.and_eq_true]
    constructor
    · rintro (⟨i, h1, h2⟩ | h)
      · exact ⟨i, by omega, h2⟩
      · exact ⟨k, by omega, h⟩
    · rintro ⟨i, h1, h2⟩
      by_cases h : i = k
      · subst h; exact .inr h2
      · exact .inl ⟨i, by omega, h2⟩
theorem joinT_divs {n m X : NfaD} (h : joinL n m = (X, true)) {l : List Nat} (hw : wdOk l = true) : accT X l = divs n m l (l.length + 1) := by
  obtain ⟨h1, h2, h3, rfl⟩ := joinL_true h
  rw [Bool.eq_iff_iff, divs_iff]
  unfold accT
  rw [h3, hw]
  simp only [Bool.true_and, Bool.and_eq_true]
  rw [join_acc h1 h2 h3]
  constructor
  · rintro ⟨k, hk, h4, h5⟩
    refine ⟨k, by simp only [lets, List.length_map] at hk; omega, ⟨⟨h1, wdOk_take hw k⟩, ?_⟩, ⟨h2, wdOk_drop hw k⟩, ?_⟩
    · unfold lets at *
      rwa [List.map_take]
    · unfold lets at *
      rwa [List.map_drop]
  · rintro ⟨k, hk, ⟨-, h4⟩, -, h5⟩
    refine ⟨k, by simp only [lets, List.length_map]; omega, ?_, ?_⟩
    · unfold lets at *
      rwa [List.map_take] at h4
    · unfold lets at *
      rwa [List.map_drop] at h5
theorem accT_badw {n : NfaD} {l : List Nat} (h : wdOk l = false) : accT n l = false := by
  unfold accT
  rw [h]
  simp
set_option maxRecDepth 100000 in
set_option maxHeartbeats 16000000 in
theorem nfaJoin_walk (bs cs : List Nat) (v u : Value) (w : World) (hb : Bytes 0 w v bs) (hc : Bytes 0 w u cs) :
    Calls Try.prog 12 #[v, u] w fun e w' => e = .returned (.bool true) ∧ Below w.heap.size w w' := by
  have HB := Lib.hid hb
  have HC := Lib.hid hc
  obtain ⟨av, cv, rfl, hcv1, hcv2, -⟩ := hb.form
  obtain ⟨au, cu, rfl, hcu1, hcu2, -⟩ := hc.form
  clear hb hc
  by_cases hlen : 1048576 < bs.length
  · have hl2 : (1048576 : Int) < bs.length := by omega
    go_enter Try.func12, Try.ntmps12
    go_wp2
    go_ret
    exact ⟨rfl, Below.refl _ _⟩
  have hl2 : ¬ (1048576 : Int) < bs.length := by omega
  by_cases hlen2 : 1048576 < cs.length
  · have hl3 : (1048576 : Int) < cs.length := by omega
    go_enter Try.func12, Try.ntmps12
    go_wp2
    go_ret
    exact ⟨rfl, Below.refl _ _⟩
  have hl3 : ¬ (1048576 : Int) < cs.length := by omega
  go_enter Try.func12, Try.ntmps12
  go_wp2_with fail
  refine (drawJoin_any bs _ _ HB.out (by omega)).mono ?_
  rintro e w1 ⟨n, m, a1, a2, a3, c1, c2, c3, am1, am2, am3, cm1, cm2, cm3, n0, n1, n2, n3, n4, m0, m1, m2, m3, m4, rfl, hS⟩
  have HS : Hid (St w _ [Ent.row 53 3 (.slice a1 n.moves.length c1) n.moves.length (n.moves.flatMap moveCells), Ent.row 3 1 (.slice a2 n.firsts.length c2) n.firsts.length (intCells n.firsts), Ent.row 3 1 (.slice a3 n.ends.length c3) n.ends.length (intCells n.ends), Ent.row 53 3 (.slice am1 m.moves.length cm1) m.moves.length (m.moves.flatMap moveCells), Ent.row 3 1 (.slice am2 m.firsts.length cm2) m.firsts.length (intCells m.firsts), Ent.row 3 1 (.slice am3 m.ends.length cm3) m.ends.length (intCells m.ends), Ent.box w1.heap.size #[.int .i64 n.states, .slice a1 n.moves.length c1, .slice a2 n.firsts.length c2, .slice a3 n.ends.length c3] 46, Ent.box (w1.heap.size + 1) #[.int .i64 m.states, .slice am1 m.moves.length cm1, .slice am2 m.firsts.length cm2, .slice am3 m.ends.length cm3] 46]) := Lib.hid ((hS.alloc _ rfl #[.int .i64 n.states, .slice a1 n.moves.length c1, .slice a2 n.firsts.length c2, .slice a3 n.ends.length c3] 46).alloc (w1.heap.size + 1) (by simp) #[.int .i64 m.states, .slice am1 m.moves.length cm1, .slice am2 m.firsts.length cm2, .slice am3 m.ends.length cm3] 46)
  have e0 := HS.out.cell (v := .int .i64 n.states) 6 0 rfl rfl
  have e1 := HS.out.cell (v := .slice a1 n.moves.length c1) 6 1 rfl rfl
  have e2 := HS.out.cell (v := .slice a2 n.firsts.length c2) 6 2 rfl rfl
  have e3 := HS.out.cell (v := .slice a3 n.ends.length c3) 6 3 rfl rfl
  have f0 := HS.out.cell (v := .int .i64 m.states) 7 0 rfl rfl
  have f1 := HS.out.cell (v := .slice am1 m.moves.length cm1) 7 1 rfl rfl
  have f2 := HS.out.cell (v := .slice am2 m.firsts.length cm2) 7 2 rfl rfl
  have f3 := HS.out.cell (v := .slice am3 m.ends.length cm3) 7 3 rfl rfl
  obtain ⟨X, ok, hX⟩ : ∃ X ok, joinL n m = (X, ok) := ⟨_, _, rfl⟩
  obtain ⟨xs0, xs1⟩ := joinL_bound hX
  have HhX := Lib.hid hX; clear hX
  clear hS
  go_wp2_with fail
  refine (implJoinR_any n m X ok _ _ _ HhX.out (nfaR_rows HS.out 0 1 2 rfl rfl rfl (by omega) (by omega)) (nfaR_rows HS.out 3 4 5 rfl rfl rfl (by omega) (by omega))).mono ?_
  rintro e w2 ⟨ax1, cx1, ax2, cx2, ax3, cx3, rfl, hS'⟩
  have HS2 := Lib.hid ((HS.out.cat hS').alloc _ rfl #[.int .i64 X.states, .slice ax1 X.moves.length cx1, .slice ax2 X.firsts.length cx2, .slice ax3 X.ends.length cx3] 46)
  clear hS' e0 e1 e2 e3 f0 f1 f2 f3
  have e0 := HS2.out.cell (v := .int .i64 n.states) 6 0 rfl rfl
  have e1 := HS2.out.cell (v := .slice a1 n.moves.length c1) 6 1 rfl rfl
  have e2 := HS2.out.cell (v := .slice a2 n.firsts.length c2) 6 2 rfl rfl
  have e3 := HS2.out.cell (v := .slice a3 n.ends.length c3) 6 3 rfl rfl
  have f0 := HS2.out.cell (v := .int .i64 m.states) 7 0 rfl rfl
  have f1 := HS2.out.cell (v := .slice am1 m.moves.length cm1) 7 1 rfl rfl
  have f2 := HS2.out.cell (v := .slice am2 m.firsts.length cm2) 7 2 rfl rfl
  have f3 := HS2.out.cell (v := .slice am3 m.ends.length cm3) 7 3 rfl rfl
  go_wp2_with fail
  refine (specJoinR_any n m X ok _ _ _ HhX.out (nfaR_rows HS2.out 0 1 2 rfl rfl rfl (by omega) (by omega)) (nfaR_rows HS2.out 3 4 5 rfl rfl rfl (by omega) (by omega))).mono ?_
  rintro e w3 ⟨az1, cz1, az2, cz2, az3, cz3, rfl, hS'⟩
  have HS3 := Lib.hid ((HS2.out.cat hS').alloc _ rfl #[.int .i64 X.states, .slice az1 X.moves.length cz1, .slice az2 X.firsts.length cz2, .slice az3 X.ends.length cz3] 46)
  clear hS' e0 e1 e2 e3 f0 f1 f2 f3
  have e0 := HS3.out.cell (v := .int .i64 X.states) 11 0 rfl rfl
  have e1 := HS3.out.cell (v := .slice ax1 X.moves.length cx1) 11 1 rfl rfl
  have e2 := HS3.out.cell (v := .slice ax2 X.firsts.length cx2) 11 2 rfl rfl
  have e3 := HS3.out.cell (v := .slice ax3 X.ends.length cx3) 11 3 rfl rfl
  have f0 := HS3.out.cell (v := .int .i64 X.states) 15 0 rfl rfl
  have f1 := HS3.out.cell (v := .slice az1 X.moves.length cz1) 15 1 rfl rfl
  have f2 := HS3.out.cell (v := .slice az2 X.firsts.length cz2) 15 2 rfl rfl
  have f3 := HS3.out.cell (v := .slice az3 X.ends.length cz3) 15 3 rfl rfl
  have hbb : (true != true) = false := rfl
  cases ok
  · obtain rfl : X = zeN := joinL_false HhX.out
    go_wp2_with fail
    refine (sameNfa_any zeN _ _ _ (nfaR_rows HS3.out 8 9 10 rfl rfl rfl xs0 xs1) (nfaR_rows HS3.out 12 13 14 rfl rfl rfl xs0 xs1)).mono ?_
    rintro e w4 ⟨rfl, hb4⟩
    have HS4 := Lib.hid (HS3.out.call hb4)
    clear hb4 e0 e1 e2 e3 f0 f1 f2 f3
    have x0 := HS4.out.cell (v := .int .i64 0) 11 0 rfl rfl
    go_wp2_with (go_at_call 32; refine (alive_any _).mono ?_; rintro e w' ⟨rfl, rfl⟩)
    go_ret
    exact ⟨rfl, HS4.out.bel⟩
  · have hokX : nfaOk X = true := (joinL_true HhX.out).2.2.1
    go_wp2_with fail
    refine (sameNfa_any X _ _ _ (nfaR_rows HS3.out 8 9 10 rfl rfl rfl xs0 xs1) (nfaR_rows HS3.out 12 13 14 rfl rfl rfl xs0 xs1)).mono ?_
    rintro e w4 ⟨rfl, hb4⟩
    have HS4 := Lib.hid ((HS3.out.call hb4).pick [0, 1, 2, 3, 4, 5, 6, 7, 8, 9, 10, 11] (by decide))
    clear hb4 e0 e1 e2 e3 f0 f1 f2 f3
    have HhokX := Lib.hid hokX; clear hokX
    go_wp2_with fail
    refine (drawWord_any cs _ _ (HC.out.below HS4.out.bel) (by omega)).mono ?_
    rintro e w6 ⟨l, ht, hl10, rfl, hb6⟩
    have HS6 := Lib.hid (HS4.out.call hb6)
    clear hb6
    have Hht := Lib.hid ht; clear ht
    have e0 := HS6.out.cell (v := .int .i64 X.states) 11 0 rfl rfl
    have e1 := HS6.out.cell (v := .slice ax1 X.moves.length cx1) 11 1 rfl rfl
    have e2 := HS6.out.cell (v := .slice ax2 X.firsts.length cx2) 11 2 rfl rfl
    have e3 := HS6.out.cell (v := .slice ax3 X.ends.length cx3) 11 3 rfl rfl
    have hsz := txB_size l
    cases hwd : wdOk l
    · have hq0 : accT X l = false := accT_badw hwd
      have Hhwd := Lib.hid hwd; clear hwd
      have Hhq0 := Lib.hid hq0; clear hq0
      go_wp2_with (go_at_call 39; refine (specWordValid_any l _ Hht.out (by omega) _ Hhwd.out).mono ?_; rintro e w' ⟨rfl, rfl⟩)
      refine (nfaAccepts_any X l _ _ Hht.out (by omega) (nfaR_rows HS6.out 8 9 10 rfl rfl rfl xs0 xs1) _ Hhq0.out).mono ?_
      rintro e w7 ⟨rfl, hb7⟩
      have HS7 := Lib.hid (HS6.out.call hb7)
      clear hb7
      go_wp2
      go_ret
      exact ⟨rfl, HS7.out.bel⟩
    · have Hhwd := Lib.hid hwd; clear hwd
      clear e0 e1 e2 e3
      go_wp2_with (go_at_call 39; refine (specWordValid_any l _ Hht.out (by omega) _ Hhwd.out).mono ?_; rintro e w' ⟨rfl, rfl⟩)
      go_loopw [12, 13] (fun vb vk wr => ∃ (k : Nat) (β : Bool), vk = .int .i64 k ∧ vb = .bool β ∧ k ≤ l.length + 1 ∧ β = divs n m l k ∧ St w wr [Ent.row 53 3 (.slice a1 n.moves.length c1) n.moves.length (n.moves.flatMap moveCells), Ent.row 3 1 (.slice a2 n.firsts.length c2) n.firsts.length (intCells n.firsts), Ent.row 3 1 (.slice a3 n.ends.length c3) n.ends.length (intCells n.ends), Ent.row 53 3 (.slice am1 m.moves.length cm1) m.moves.length (m.moves.flatMap moveCells), Ent.row 3 1 (.slice am2 m.firsts.length cm2) m.firsts.length (intCells m.firsts), Ent.row 3 1 (.slice am3 m.ends.length cm3) m.ends.length (intCells m.ends), Ent.box w1.heap.size #[.int .i64 n.states, .slice a1 n.moves.length c1, .slice a2 n.firsts.length c2, .slice a3 n.ends.length c3] 46, Ent.box (w1.heap.size + 1) #[.int .i64 m.states, .slice am1 m.moves.length cm1, .slice am2 m.firsts.length cm2, .slice am3 m.ends.length cm3] 46, Ent.row 53 3 (.slice ax1 X.moves.length cx1) X.moves.length (X.moves.flatMap moveCells), Ent.row 3 1 (.slice ax2 X.firsts.length cx2) X.firsts.length (intCells X.firsts), Ent.row 3 1 (.slice ax3 X.ends.length cx3) X.ends.length (intCells X.ends), Ent.box w2.heap.size #[.int .i64 X.states, .slice ax1 X.moves.length cx1, .slice ax2 X.firsts.length cx2, .slice ax3 X.ends.length cx3] 46]) (fun _ vk _ => l.length + 1 - (intOf vk).toNat)
      case atStart => exact ⟨0, false, rfl, rfl, Nat.zero_le _, rfl, HS6.out⟩
      case round =>
        obtain ⟨k, β, rfl, rfl, hk, hD, hS⟩ := hrel
        by_cases hlt : k ≤ l.length
        · have hkI : (k : Int) ≤ l.length := by omega
          have hct := cut_to l k (k : Int) rfl hlt
          have hcf := cut_from l k (k : Int) rfl hlt
          have htt := isT_take Hht.out k
          have htd := isT_drop Hht.out k
          have htl : (l.take k).length ≤ 1000 := by rw [List.length_take]; omega
          have hdl : (l.drop k).length ≤ 1000 := by rw [List.length_drop]; omega
          have HhS := Lib.hid hS; clear hS
          have Hhtt := Lib.hid htt; clear htt
          have Hhtd := Lib.hid htd; clear htd
          cases β
          · have HhD := Lib.hid hD; clear hD
            cases hp : accT n (l.take k)
            · have Hhp := Lib.hid hp; clear hp
              go_wp2
              refine wp_region_any (by kernel_rfl) ?_
              refine wpAny_invA (fun A listed a w' => ∃ (l0 l1 l2 l3 l4 l5 l6 l7 l8 l9 l10 l11 l12 l13 l14 l15 : Bool) , listed = #[l0, l1, l2, l3, l4, l5, l6, l7, l8, l9, l10, l11, l12, l13, l14, l15] ∧
                  a = ⟨(((((((((((((((A.tmps.setIfInBounds 71 (if l0 = true then .bool false else A.tmps.getD 71 undef)).setIfInBounds 72 (if l1 = true then .bool false else A.tmps.getD 72 undef)).setIfInBounds 73 (if l2 = true then .agg #[.int .i64 n.states, .slice a1 n.moves.length c1, .slice a2 n.firsts.length c2, .slice a3 n.ends.length c3] else A.tmps.getD 73 undef)).setIfInBounds 74 (if l3 = true then .string (txB l) else A.tmps.getD 74 undef)).setIfInBounds 75 (if l4 = true then .int .i64 (k : Int) else A.tmps.getD 75 undef)).setIfInBounds 76 (if l5 = true then .string (txB (l.take k)) else A.tmps.getD 76 undef)).setIfInBounds 77 (if l6 = true then .bool false else A.tmps.getD 77 undef)).setIfInBounds 78 (if l7 = true then .bool false else A.tmps.getD 78 undef)).setIfInBounds 79 (if l8 = true then undef else A.tmps.getD 79 undef)).setIfInBounds 80 (if l9 = true then undef else A.tmps.getD 80 undef)).setIfInBounds 81 (if l10 = true then undef else A.tmps.getD 81 undef)).setIfInBounds 82 (if l11 = true then undef else A.tmps.getD 82 undef)).setIfInBounds 83 (if l12 = true then undef else A.tmps.getD 83 undef)).setIfInBounds 84 (if l13 = true then .bool false else A.tmps.getD 84 undef)).setIfInBounds 85 (if l14 = true then .bool false else A.tmps.getD 85 undef)), A.defers⟩ ∧
                  St w w' [Ent.row 53 3 (.slice a1 n.moves.length c1) n.moves.length (n.moves.flatMap moveCells), Ent.row 3 1 (.slice a2 n.firsts.length c2) n.firsts.length (intCells n.firsts), Ent.row 3 1 (.slice a3 n.ends.length c3) n.ends.length (intCells n.ends), Ent.row 53 3 (.slice am1 m.moves.length cm1) m.moves.length (m.moves.flatMap moveCells), Ent.row 3 1 (.slice am2 m.firsts.length cm2) m.firsts.length (intCells m.firsts), Ent.row 3 1 (.slice am3 m.ends.length cm3) m.ends.length (intCells m.ends), Ent.box w1.heap.size #[.int .i64 n.states, .slice a1 n.moves.length c1, .slice a2 n.firsts.length c2, .slice a3 n.ends.length c3] 46, Ent.box (w1.heap.size + 1) #[.int .i64 m.states, .slice am1 m.moves.length cm1, .slice am2 m.firsts.length cm2, .slice am3 m.ends.length cm3] 46, Ent.row 53 3 (.slice ax1 X.moves.length cx1) X.moves.length (X.moves.flatMap moveCells), Ent.row 3 1 (.slice ax2 X.firsts.length cx2) X.firsts.length (intCells X.firsts), Ent.row 3 1 (.slice ax3 X.ends.length cx3) X.ends.length (intCells X.ends), Ent.box w2.heap.size #[.int .i64 X.states, .slice ax1 X.moves.length cx1, .slice ax2 X.firsts.length cx2, .slice ax3 X.ends.length cx3] 46]) ?_ ?_ ?_
              · rintro listed a w' ⟨l0, l1, l2, l3, l4, l5, l6, l7, l8, l9, l10, l11, l12, l13, l14, l15, rfl, rfl, hS⟩ i hi
                obtain ⟨hun, o, ho, hall⟩ := mem_ready.1 hi
                have hlt := (Array.getElem?_eq_some_iff.1 ho).1
                refine wpOp_step ho (fun K hK => ?_)
                clear hi
                have HS := Lib.hid hS
                clear hS
                simp only [List.setIfInBounds_toArray, List.set_cons_zero, List.set_cons_succ, Array.getD_eq_getD_getElem?, List.getElem?_toArray, List.getElem?_cons_zero, List.getElem?_cons_succ, Option.getD_some]
                obtain h | h | h | h | h | h | h | h | h | h | h | h | h | h | h | h : i = 0 ∨ i = 1 ∨ i = 2 ∨ i = 3 ∨ i = 4 ∨ i = 5 ∨ i = 6 ∨ i = 7 ∨ i = 8 ∨ i = 9 ∨ i = 10 ∨ i = 11 ∨ i = 12 ∨ i = 13 ∨ i = 14 ∨ i = 15 := by simp at hlt; omega
                all_goals subst h
                all_goals simp only [List.getElem?_toArray, List.getElem?_cons_zero, List.getElem?_cons_succ, Option.some.injEq] at ho
                all_goals subst ho
                all_goals simp [Region.binds] at hun hall
                · subst hun
                  go_simp
                  exact hK _ _ ⟨true, l1, l2, l3, l4, l5, l6, l7, l8, l9, l10, l11, l12, l13, l14, l15, rfl, (by simp only [↓reduceIte, List.setIfInBounds_toArray, List.set_cons_zero, List.set_cons_succ, Array.getD_eq_getD_getElem?, List.getElem?_toArray, List.getElem?_cons_zero, List.getElem?_cons_succ, Option.getD_some]), HS.out⟩
                · obtain rfl := hall
                  subst hun
                  go_simp
                  exact hK _ _ ⟨true, true, l2, l3, l4, l5, l6, l7, l8, l9, l10, l11, l12, l13, l14, l15, rfl, (by simp only [↓reduceIte, List.setIfInBounds_toArray, List.set_cons_zero, List.set_cons_succ, Array.getD_eq_getD_getElem?, List.getElem?_toArray, List.getElem?_cons_zero, List.getElem?_cons_succ, Option.getD_some]), HS.out⟩
                · obtain rfl := hall
                  subst hun
                  have e0 := HS.out.cell (v := .int .i64 n.states) 6 0 rfl rfl
                  have e1 := HS.out.cell (v := .slice a1 n.moves.length c1) 6 1 rfl rfl
                  have e2 := HS.out.cell (v := .slice a2 n.firsts.length c2) 6 2 rfl rfl
                  have e3 := HS.out.cell (v := .slice a3 n.ends.length c3) 6 3 rfl rfl
                  go_simp
                  exact hK _ _ ⟨l0, true, true, l3, l4, l5, l6, l7, l8, l9, l10, l11, l12, l13, l14, l15, rfl, (by simp only [↓reduceIte, List.setIfInBounds_toArray, List.set_cons_zero, List.set_cons_succ, Array.getD_eq_getD_getElem?, List.getElem?_toArray, List.getElem?_cons_zero, List.getElem?_cons_succ, Option.getD_some]), HS.out⟩
                · obtain rfl := hall
                  subst hun
                  go_simp
                  exact hK _ _ ⟨l0, true, l2, true, l4, l5, l6, l7, l8, l9, l10, l11, l12, l13, l14, l15, rfl, (by simp only [↓reduceIte, List.setIfInBounds_toArray, List.set_cons_zero, List.set_cons_succ, Array.getD_eq_getD_getElem?, List.getElem?_toArray, List.getElem?_cons_zero, List.getElem?_cons_succ, Option.getD_some]), HS.out⟩
                · obtain rfl := hall
                  subst hun
                  go_simp
                  exact hK _ _ ⟨l0, true, l2, l3, true, l5, l6, l7, l8, l9, l10, l11, l12, l13, l14, l15, rfl, (by simp only [↓reduceIte, List.setIfInBounds_toArray, List.set_cons_zero, List.set_cons_succ, Array.getD_eq_getD_getElem?, List.getElem?_toArray, List.getElem?_cons_zero, List.getElem?_cons_succ, Option.getD_some]), HS.out⟩
                · obtain ⟨rfl, rfl, rfl⟩ := hall
                  subst hun
                  go_simp
                  exact hK _ _ ⟨l0, true, l2, true, true, true, l6, l7, l8, l9, l10, l11, l12, l13, l14, l15, rfl, (by simp only [↓reduceIte, List.setIfInBounds_toArray, List.set_cons_zero, List.set_cons_succ, Array.getD_eq_getD_getElem?, List.getElem?_toArray, List.getElem?_cons_zero, List.getElem?_cons_succ, Option.getD_some]), HS.out⟩
                · obtain ⟨rfl, rfl, rfl⟩ := hall
                  subst hun
                  go_simp
                  go_at_call 38
                  refine (nfaAccepts_any n (l.take k) _ _ Hhtt.out htl (nfaR_rows HS.out 0 1 2 rfl rfl rfl (by omega) (by omega)) _ Hhp.out).mono ?_
                  rintro e u1 ⟨rfl, hb⟩
                  have hS2 := HS.out.call hb
                  have HhS2 := Lib.hid hS2; clear hS2
                  go_simp
                  exact hK _ _ ⟨l0, true, true, l3, l4, true, true, l7, l8, l9, l10, l11, l12, l13, l14, l15, rfl, (by simp only [↓reduceIte, List.setIfInBounds_toArray, List.set_cons_zero, List.set_cons_succ, Array.getD_eq_getD_getElem?, List.getElem?_toArray, List.getElem?_cons_zero, List.getElem?_cons_succ, Option.getD_some]), HhS2.out⟩
                · obtain ⟨rfl, rfl⟩ := hall
                  subst hun
                  go_simp
                  exact hK _ _ ⟨l0, true, l2, l3, l4, l5, true, true, l8, l9, l10, l11, l12, l13, l14, l15, rfl, (by simp only [↓reduceIte, List.setIfInBounds_toArray, List.set_cons_zero, List.set_cons_succ, Array.getD_eq_getD_getElem?, List.getElem?_toArray, List.getElem?_cons_zero, List.getElem?_cons_succ, Option.getD_some]), HS.out⟩
                · obtain rfl := hall
                  subst hun
                  go_simp
                  exact hK _ _ ⟨l0, l1, l2, l3, l4, l5, l6, true, true, l9, l10, l11, l12, l13, l14, l15, rfl, (by simp only [↓reduceIte, List.setIfInBounds_toArray, List.set_cons_zero, List.set_cons_succ, Array.getD_eq_getD_getElem?, List.getElem?_toArray, List.getElem?_cons_zero, List.getElem?_cons_succ, Option.getD_some]), HS.out⟩
                · obtain rfl := hall
                  subst hun
                  go_simp
                  exact hK _ _ ⟨l0, l1, l2, l3, l4, l5, l6, true, l8, true, l10, l11, l12, l13, l14, l15, rfl, (by simp only [↓reduceIte, List.setIfInBounds_toArray, List.set_cons_zero, List.set_cons_succ, Array.getD_eq_getD_getElem?, List.getElem?_toArray, List.getElem?_cons_zero, List.getElem?_cons_succ, Option.getD_some]), HS.out⟩
                · obtain rfl := hall
                  subst hun
                  go_simp
                  exact hK _ _ ⟨l0, l1, l2, l3, l4, l5, l6, true, l8, l9, true, l11, l12, l13, l14, l15, rfl, (by simp only [↓reduceIte, List.setIfInBounds_toArray, List.set_cons_zero, List.set_cons_succ, Array.getD_eq_getD_getElem?, List.getElem?_toArray, List.getElem?_cons_zero, List.getElem?_cons_succ, Option.getD_some]), HS.out⟩
                · obtain ⟨rfl, rfl, rfl⟩ := hall
                  subst hun
                  go_simp
                  exact hK _ _ ⟨l0, l1, l2, l3, l4, l5, l6, true, l8, true, true, true, l12, l13, l14, l15, rfl, (by simp only [↓reduceIte, List.setIfInBounds_toArray, List.set_cons_zero, List.set_cons_succ, Array.getD_eq_getD_getElem?, List.getElem?_toArray, List.getElem?_cons_zero, List.getElem?_cons_succ, Option.getD_some]), HS.out⟩
                · obtain ⟨rfl, rfl, rfl⟩ := hall
                  subst hun
                  go_simp
                  exact hK _ _ ⟨l0, l1, l2, l3, l4, l5, l6, true, true, l9, l10, true, true, l13, l14, l15, rfl, (by simp only [↓reduceIte, List.setIfInBounds_toArray, List.set_cons_zero, List.set_cons_succ, Array.getD_eq_getD_getElem?, List.getElem?_toArray, List.getElem?_cons_zero, List.getElem?_cons_succ, Option.getD_some]), HS.out⟩
                · obtain ⟨rfl, rfl, rfl⟩ := hall
                  subst hun
                  go_simp
                  exact hK _ _ ⟨l0, true, l2, l3, l4, l5, l6, true, l8, l9, l10, l11, true, true, l14, l15, rfl, (by simp only [↓reduceIte, List.setIfInBounds_toArray, List.set_cons_zero, List.set_cons_succ, Array.getD_eq_getD_getElem?, List.getElem?_toArray, List.getElem?_cons_zero, List.getElem?_cons_succ, Option.getD_some]), HS.out⟩
                · obtain ⟨rfl, rfl⟩ := hall
                  subst hun
                  go_simp
                  exact hK _ _ ⟨l0, true, l2, l3, l4, l5, l6, l7, l8, l9, l10, l11, l12, true, true, l15, rfl, (by simp only [↓reduceIte, List.setIfInBounds_toArray, List.set_cons_zero, List.set_cons_succ, Array.getD_eq_getD_getElem?, List.getElem?_toArray, List.getElem?_cons_zero, List.getElem?_cons_succ, Option.getD_some]), HS.out⟩
                · obtain ⟨rfl, rfl, rfl, rfl, rfl, rfl, rfl, rfl, rfl, rfl, rfl, rfl, rfl, rfl, -, rfl, -⟩ := hall
                  subst hun
                  go_simp
                  exact hK _ _ ⟨true, true, true, true, true, true, true, true, true, true, true, true, true, true, true, true, rfl, (by simp only [↓reduceIte, List.setIfInBounds_toArray, List.set_cons_zero, List.set_cons_succ]), HS.out⟩
              · rintro listed a w' ⟨l0, l1, l2, l3, l4, l5, l6, l7, l8, l9, l10, l11, l12, l13, l14, l15, rfl, rfl, hS⟩ hr
                have hall := ready_nilM (by kernel_rfl) rfl hr
                obtain rfl : l0 = true := by simpa using hall 0 (by simp)
                obtain rfl : l1 = true := by simpa using hall 1 (by simp)
                obtain rfl : l2 = true := by simpa using hall 2 (by simp)
                obtain rfl : l3 = true := by simpa using hall 3 (by simp)
                obtain rfl : l4 = true := by simpa using hall 4 (by simp)
                obtain rfl : l5 = true := by simpa using hall 5 (by simp)
                obtain rfl : l6 = true := by simpa using hall 6 (by simp)
                obtain rfl : l7 = true := by simpa using hall 7 (by simp)
                obtain rfl : l8 = true := by simpa using hall 8 (by simp)
                obtain rfl : l9 = true := by simpa using hall 9 (by simp)
                obtain rfl : l10 = true := by simpa using hall 10 (by simp)
                obtain rfl : l11 = true := by simpa using hall 11 (by simp)
                obtain rfl : l12 = true := by simpa using hall 12 (by simp)
                obtain rfl : l13 = true := by simpa using hall 13 (by simp)
                obtain rfl : l14 = true := by simpa using hall 14 (by simp)
                obtain rfl : l15 = true := by simpa using hall 15 (by simp)
                clear hall hr 
                simp only [↓reduceIte] at hS ⊢
                simp only [List.setIfInBounds_toArray, List.set_cons_zero, List.set_cons_succ]
                have HSf := Lib.hid hS
                clear hS
                go_wp2
                go_roundw
                case rel => exact ⟨k + 1, false, by go_num, rfl, by omega, by rw [divs_succ, ← HhD.out, Hhp.out]; rfl, HSf.out⟩
                case measure => simp [intOf]; omega
              · refine ⟨false, false, false, false, false, false, false, false, false, false, false, false, false, false, false, false, rfl, (by simp only [↓reduceIte, Bool.false_eq_true, List.setIfInBounds_toArray, List.set_cons_zero, List.set_cons_succ, Array.getD_eq_getD_getElem?, List.getElem?_toArray, List.getElem?_cons_zero, List.getElem?_cons_succ, Option.getD_some]), ?_⟩
                exact HhS.out.drew.pick [0, 1, 2, 3, 4, 5, 6, 7, 8, 9, 10, 11] (by decide)
            · cases hr : accT m (l.drop k)
              · have Hhp := Lib.hid hp; clear hp
                have Hhr := Lib.hid hr; clear hr
                go_wp2
                refine wp_region_any (by kernel_rfl) ?_
                refine wpAny_invA (fun A listed a w' => ∃ (l0 l1 l2 l3 l4 l5 l6 l7 l8 l9 l10 l11 l12 l13 l14 l15 : Bool) , listed = #[l0, l1, l2, l3, l4, l5, l6, l7, l8, l9, l10, l11, l12, l13, l14, l15] ∧
                    a = ⟨(((((((((((((((A.tmps.setIfInBounds 71 (if l0 = true then .bool false else A.tmps.getD 71 undef)).setIfInBounds 72 (if l1 = true then .bool false else A.tmps.getD 72 undef)).setIfInBounds 73 (if l2 = true then .agg #[.int .i64 n.states, .slice a1 n.moves.length c1, .slice a2 n.firsts.length c2, .slice a3 n.ends.length c3] else A.tmps.getD 73 undef)).setIfInBounds 74 (if l3 = true then .string (txB l) else A.tmps.getD 74 undef)).setIfInBounds 75 (if l4 = true then .int .i64 (k : Int) else A.tmps.getD 75 undef)).setIfInBounds 76 (if l5 = true then .string (txB (l.take k)) else A.tmps.getD 76 undef)).setIfInBounds 77 (if l6 = true then .bool true else A.tmps.getD 77 undef)).setIfInBounds 78 (if l7 = true then .bool true else A.tmps.getD 78 undef)).setIfInBounds 79 (if l8 = true then .agg #[.int .i64 m.states, .slice am1 m.moves.length cm1, .slice am2 m.firsts.length cm2, .slice am3 m.ends.length cm3] else A.tmps.getD 79 undef)).setIfInBounds 80 (if l9 = true then .string (txB l) else A.tmps.getD 80 undef)).setIfInBounds 81 (if l10 = true then .int .i64 (k : Int) else A.tmps.getD 81 undef)).setIfInBounds 82 (if l11 = true then .string (txB (l.drop k)) else A.tmps.getD 82 undef)).setIfInBounds 83 (if l12 = true then .bool false else A.tmps.getD 83 undef)).setIfInBounds 84 (if l13 = true then .bool false else A.tmps.getD 84 undef)).setIfInBounds 85 (if l14 = true then .bool false else A.tmps.getD 85 undef)), A.defers⟩ ∧
                    St w w' [Ent.row 53 3 (.slice a1 n.moves.length c1) n.moves.length (n.moves.flatMap moveCells), Ent.row 3 1 (.slice a2 n.firsts.length c2) n.firsts.length (intCells n.firsts), Ent.row 3 1 (.slice a3 n.ends.length c3) n.ends.length (intCells n.ends), Ent.row 53 3 (.slice am1 m.moves.length cm1) m.moves.length (m.moves.flatMap moveCells), Ent.row 3 1 (.slice am2 m.firsts.length cm2) m.firsts.length (intCells m.firsts), Ent.row 3 1 (.slice am3 m.ends.length cm3) m.ends.length (intCells m.ends), Ent.box w1.heap.size #[.int .i64 n.states, .slice a1 n.moves.length c1, .slice a2 n.firsts.length c2, .slice a3 n.ends.length c3] 46, Ent.box (w1.heap.size + 1) #[.int .i64 m.states, .slice am1 m.moves.length cm1, .slice am2 m.firsts.length cm2, .slice am3 m.ends.length cm3] 46, Ent.row 53 3 (.slice ax1 X.moves.length cx1) X.moves.length (X.moves.flatMap moveCells), Ent.row 3 1 (.slice ax2 X.firsts.length cx2) X.firsts.length (intCells X.firsts), Ent.row 3 1 (.slice ax3 X.ends.length cx3) X.ends.length (intCells X.ends), Ent.box w2.heap.size #[.int .i64 X.states, .slice ax1 X.moves.length cx1, .slice ax2 X.firsts.length cx2, .slice ax3 X.ends.length cx3] 46]) ?_ ?_ ?_
                · rintro listed a w' ⟨l0, l1, l2, l3, l4, l5, l6, l7, l8, l9, l10, l11, l12, l13, l14, l15, rfl, rfl, hS⟩ i hi
                  obtain ⟨hun, o, ho, hall⟩ := mem_ready.1 hi
                  have hlt := (Array.getElem?_eq_some_iff.1 ho).1
                  refine wpOp_step ho (fun K hK => ?_)
                  clear hi
                  have HS := Lib.hid hS
                  clear hS
                  simp only [List.setIfInBounds_toArray, List.set_cons_zero, List.set_cons_succ, Array.getD_eq_getD_getElem?, List.getElem?_toArray, List.getElem?_cons_zero, List.getElem?_cons_succ, Option.getD_some]
                  obtain h | h | h | h | h | h | h | h | h | h | h | h | h | h | h | h : i = 0 ∨ i = 1 ∨ i = 2 ∨ i = 3 ∨ i = 4 ∨ i = 5 ∨ i = 6 ∨ i = 7 ∨ i = 8 ∨ i = 9 ∨ i = 10 ∨ i = 11 ∨ i = 12 ∨ i = 13 ∨ i = 14 ∨ i = 15 := by simp at hlt; omega
                  all_goals subst h
                  all_goals simp only [List.getElem?_toArray, List.getElem?_cons_zero, List.getElem?_cons_succ, Option.some.injEq] at ho
                  all_goals subst ho
                  all_goals simp [Region.binds] at hun hall
                  · subst hun
                    go_simp
                    exact hK _ _ ⟨true, l1, l2, l3, l4, l5, l6, l7, l8, l9, l10, l11, l12, l13, l14, l15, rfl, (by simp only [↓reduceIte, List.setIfInBounds_toArray, List.set_cons_zero, List.set_cons_succ, Array.getD_eq_getD_getElem?, List.getElem?_toArray, List.getElem?_cons_zero, List.getElem?_cons_succ, Option.getD_some]), HS.out⟩
                  · obtain rfl := hall
                    subst hun
                    go_simp
                    exact hK _ _ ⟨true, true, l2, l3, l4, l5, l6, l7, l8, l9, l10, l11, l12, l13, l14, l15, rfl, (by simp only [↓reduceIte, List.setIfInBounds_toArray, List.set_cons_zero, List.set_cons_succ, Array.getD_eq_getD_getElem?, List.getElem?_toArray, List.getElem?_cons_zero, List.getElem?_cons_succ, Option.getD_some]), HS.out⟩
                  · obtain rfl := hall
                    subst hun
                    have e0 := HS.out.cell (v := .int .i64 n.states) 6 0 rfl rfl
                    have e1 := HS.out.cell (v := .slice a1 n.moves.length c1) 6 1 rfl rfl
                    have e2 := HS.out.cell (v := .slice a2 n.firsts.length c2) 6 2 rfl rfl
                    have e3 := HS.out.cell (v := .slice a3 n.ends.length c3) 6 3 rfl rfl
                    go_simp
                    exact hK _ _ ⟨l0, true, true, l3, l4, l5, l6, l7, l8, l9, l10, l11, l12, l13, l14, l15, rfl, (by simp only [↓reduceIte, List.setIfInBounds_toArray, List.set_cons_zero, List.set_cons_succ, Array.getD_eq_getD_getElem?, List.getElem?_toArray, List.getElem?_cons_zero, List.getElem?_cons_succ, Option.getD_some]), HS.out⟩
                  · obtain rfl := hall
                    subst hun
                    go_simp
                    exact hK _ _ ⟨l0, true, l2, true, l4, l5, l6, l7, l8, l9, l10, l11, l12, l13, l14, l15, rfl, (by simp only [↓reduceIte, List.setIfInBounds_toArray, List.set_cons_zero, List.set_cons_succ, Array.getD_eq_getD_getElem?, List.getElem?_toArray, List.getElem?_cons_zero, List.getElem?_cons_succ, Option.getD_some]), HS.out⟩
                  · obtain rfl := hall
                    subst hun
                    go_simp
                    exact hK _ _ ⟨l0, true, l2, l3, true, l5, l6, l7, l8, l9, l10, l11, l12, l13, l14, l15, rfl, (by simp only [↓reduceIte, List.setIfInBounds_toArray, List.set_cons_zero, List.set_cons_succ, Array.getD_eq_getD_getElem?, List.getElem?_toArray, List.getElem?_cons_zero, List.getElem?_cons_succ, Option.getD_some]), HS.out⟩
                  · obtain ⟨rfl, rfl, rfl⟩ := hall
                    subst hun
                    go_simp
                    exact hK _ _ ⟨l0, true, l2, true, true, true, l6, l7, l8, l9, l10, l11, l12, l13, l14, l15, rfl, (by simp only [↓reduceIte, List.setIfInBounds_toArray, List.set_cons_zero, List.set_cons_succ, Array.getD_eq_getD_getElem?, List.getElem?_toArray, List.getElem?_cons_zero, List.getElem?_cons_succ, Option.getD_some]), HS.out⟩
                  · obtain ⟨rfl, rfl, rfl⟩ := hall
                    subst hun
                    go_simp
                    go_at_call 38
                    refine (nfaAccepts_any n (l.take k) _ _ Hhtt.out htl (nfaR_rows HS.out 0 1 2 rfl rfl rfl (by omega) (by omega)) _ Hhp.out).mono ?_
                    rintro e u1 ⟨rfl, hb⟩
                    have hS2 := HS.out.call hb
                    have HhS2 := Lib.hid hS2; clear hS2
                    go_simp
                    exact hK _ _ ⟨l0, true, true, l3, l4, true, true, l7, l8, l9, l10, l11, l12, l13, l14, l15, rfl, (by simp only [↓reduceIte, List.setIfInBounds_toArray, List.set_cons_zero, List.set_cons_succ, Array.getD_eq_getD_getElem?, List.getElem?_toArray, List.getElem?_cons_zero, List.getElem?_cons_succ, Option.getD_some]), HhS2.out⟩
                  · obtain ⟨rfl, rfl⟩ := hall
                    subst hun
                    go_simp
                    exact hK _ _ ⟨l0, true, l2, l3, l4, l5, true, true, l8, l9, l10, l11, l12, l13, l14, l15, rfl, (by simp only [↓reduceIte, List.setIfInBounds_toArray, List.set_cons_zero, List.set_cons_succ, Array.getD_eq_getD_getElem?, List.getElem?_toArray, List.getElem?_cons_zero, List.getElem?_cons_succ, Option.getD_some]), HS.out⟩
                  · obtain rfl := hall
                    subst hun
                    have e0 := HS.out.cell (v := .int .i64 m.states) 7 0 rfl rfl
                    have e1 := HS.out.cell (v := .slice am1 m.moves.length cm1) 7 1 rfl rfl
                    have e2 := HS.out.cell (v := .slice am2 m.firsts.length cm2) 7 2 rfl rfl
                    have e3 := HS.out.cell (v := .slice am3 m.ends.length cm3) 7 3 rfl rfl
                    go_simp
                    exact hK _ _ ⟨l0, l1, l2, l3, l4, l5, l6, true, true, l9, l10, l11, l12, l13, l14, l15, rfl, (by simp only [↓reduceIte, List.setIfInBounds_toArray, List.set_cons_zero, List.set_cons_succ, Array.getD_eq_getD_getElem?, List.getElem?_toArray, List.getElem?_cons_zero, List.getElem?_cons_succ, Option.getD_some]), HS.out⟩
                  · obtain rfl := hall
                    subst hun
                    go_simp
                    exact hK _ _ ⟨l0, l1, l2, l3, l4, l5, l6, true, l8, true, l10, l11, l12, l13, l14, l15, rfl, (by simp only [↓reduceIte, List.setIfInBounds_toArray, List.set_cons_zero, List.set_cons_succ, Array.getD_eq_getD_getElem?, List.getElem?_toArray, List.getElem?_cons_zero, List.getElem?_cons_succ, Option.getD_some]), HS.out⟩
                  · obtain rfl := hall
                    subst hun
                    go_simp
                    exact hK _ _ ⟨l0, l1, l2, l3, l4, l5, l6, true, l8, l9, true, l11, l12, l13, l14, l15, rfl, (by simp only [↓reduceIte, List.setIfInBounds_toArray, List.set_cons_zero, List.set_cons_succ, Array.getD_eq_getD_getElem?, List.getElem?_toArray, List.getElem?_cons_zero, List.getElem?_cons_succ, Option.getD_some]), HS.out⟩
                  · obtain ⟨rfl, rfl, rfl⟩ := hall
                    subst hun
                    go_simp
                    exact hK _ _ ⟨l0, l1, l2, l3, l4, l5, l6, true, l8, true, true, true, l12, l13, l14, l15, rfl, (by simp only [↓reduceIte, List.setIfInBounds_toArray, List.set_cons_zero, List.set_cons_succ, Array.getD_eq_getD_getElem?, List.getElem?_toArray, List.getElem?_cons_zero, List.getElem?_cons_succ, Option.getD_some]), HS.out⟩
                  · obtain ⟨rfl, rfl, rfl⟩ := hall
                    subst hun
                    go_simp
                    go_at_call 38
                    refine (nfaAccepts_any m (l.drop k) _ _ Hhtd.out hdl (nfaR_rows HS.out 3 4 5 rfl rfl rfl (by omega) (by omega)) _ Hhr.out).mono ?_
                    rintro e u1 ⟨rfl, hb⟩
                    have hS2 := HS.out.call hb
                    have HhS2 := Lib.hid hS2; clear hS2
                    go_simp
                    exact hK _ _ ⟨l0, l1, l2, l3, l4, l5, l6, true, true, l9, l10, true, true, l13, l14, l15, rfl, (by simp only [↓reduceIte, List.setIfInBounds_toArray, List.set_cons_zero, List.set_cons_succ, Array.getD_eq_getD_getElem?, List.getElem?_toArray, List.getElem?_cons_zero, List.getElem?_cons_succ, Option.getD_some]), HhS2.out⟩
                  · obtain ⟨rfl, rfl, rfl⟩ := hall
                    subst hun
                    go_simp
                    exact hK _ _ ⟨l0, true, l2, l3, l4, l5, l6, true, l8, l9, l10, l11, true, true, l14, l15, rfl, (by simp only [↓reduceIte, List.setIfInBounds_toArray, List.set_cons_zero, List.set_cons_succ, Array.getD_eq_getD_getElem?, List.getElem?_toArray, List.getElem?_cons_zero, List.getElem?_cons_succ, Option.getD_some]), HS.out⟩
                  · obtain ⟨rfl, rfl⟩ := hall
                    subst hun
                    go_simp
                    exact hK _ _ ⟨l0, true, l2, l3, l4, l5, l6, l7, l8, l9, l10, l11, l12, true, true, l15, rfl, (by simp only [↓reduceIte, List.setIfInBounds_toArray, List.set_cons_zero, List.set_cons_succ, Array.getD_eq_getD_getElem?, List.getElem?_toArray, List.getElem?_cons_zero, List.getElem?_cons_succ, Option.getD_some]), HS.out⟩
                  · obtain ⟨rfl, rfl, rfl, rfl, rfl, rfl, rfl, rfl, rfl, rfl, rfl, rfl, rfl, rfl, -, rfl, -⟩ := hall
                    subst hun
                    go_simp
                    exact hK _ _ ⟨true, true, true, true, true, true, true, true, true, true, true, true, true, true, true, true, rfl, (by simp only [↓reduceIte, List.setIfInBounds_toArray, List.set_cons_zero, List.set_cons_succ]), HS.out⟩
                · rintro listed a w' ⟨l0, l1, l2, l3, l4, l5, l6, l7, l8, l9, l10, l11, l12, l13, l14, l15, rfl, rfl, hS⟩ hr
                  have hall := ready_nilM (by kernel_rfl) rfl hr
                  obtain rfl : l0 = true := by simpa using hall 0 (by simp)
                  obtain rfl : l1 = true := by simpa using hall 1 (by simp)
                  obtain rfl : l2 = true := by simpa using hall 2 (by simp)
                  obtain rfl : l3 = true := by simpa using hall 3 (by simp)
                  obtain rfl : l4 = true := by simpa using hall 4 (by simp)
                  obtain rfl : l5 = true := by simpa using hall 5 (by simp)
                  obtain rfl : l6 = true := by simpa using hall 6 (by simp)
                  obtain rfl : l7 = true := by simpa using hall 7 (by simp)
                  obtain rfl : l8 = true := by simpa using hall 8 (by simp)
                  obtain rfl : l9 = true := by simpa using hall 9 (by simp)
                  obtain rfl : l10 = true := by simpa using hall 10 (by simp)
                  obtain rfl : l11 = true := by simpa using hall 11 (by simp)
                  obtain rfl : l12 = true := by simpa using hall 12 (by simp)
                  obtain rfl : l13 = true := by simpa using hall 13 (by simp)
                  obtain rfl : l14 = true := by simpa using hall 14 (by simp)
                  obtain rfl : l15 = true := by simpa using hall 15 (by simp)
                  clear hall hr 
                  simp only [↓reduceIte] at hS ⊢
                  simp only [List.setIfInBounds_toArray, List.set_cons_zero, List.set_cons_succ]
                  have HSf := Lib.hid hS
                  clear hS
                  go_wp2
                  go_roundw
                  case rel => exact ⟨k + 1, false, by go_num, rfl, by omega, by rw [divs_succ, ← HhD.out, Hhp.out, Hhr.out]; rfl, HSf.out⟩
                  case measure => simp [intOf]; omega
                · refine ⟨false, false, false, false, false, false, false, false, false, false, false, false, false, false, false, false, rfl, (by simp only [↓reduceIte, Bool.false_eq_true, List.setIfInBounds_toArray, List.set_cons_zero, List.set_cons_succ, Array.getD_eq_getD_getElem?, List.getElem?_toArray, List.getElem?_cons_zero, List.getElem?_cons_succ, Option.getD_some]), ?_⟩
                  exact HhS.out.drew.pick [0, 1, 2, 3, 4, 5, 6, 7, 8, 9, 10, 11] (by decide)
              · have Hhp := Lib.hid hp; clear hp
                have Hhr := Lib.hid hr; clear hr
                go_wp2
                refine wp_region_any (by kernel_rfl) ?_
                refine wpAny_invA (fun A listed a w' => ∃ (l0 l1 l2 l3 l4 l5 l6 l7 l8 l9 l10 l11 l12 l13 l14 l15 : Bool) , listed = #[l0, l1, l2, l3, l4, l5, l6, l7, l8, l9, l10, l11, l12, l13, l14, l15] ∧ (l15 = true → l0 = true ∧ l14 = true) ∧
                    a = ⟨((((((((((((((((A.tmps.setIfInBounds 71 (if l0 = true then .bool false else A.tmps.getD 71 undef)).setIfInBounds 72 (if l1 = true then .bool false else A.tmps.getD 72 undef)).setIfInBounds 73 (if l2 = true then .agg #[.int .i64 n.states, .slice a1 n.moves.length c1, .slice a2 n.firsts.length c2, .slice a3 n.ends.length c3] else A.tmps.getD 73 undef)).setIfInBounds 74 (if l3 = true then .string (txB l) else A.tmps.getD 74 undef)).setIfInBounds 75 (if l4 = true then .int .i64 (k : Int) else A.tmps.getD 75 undef)).setIfInBounds 76 (if l5 = true then .string (txB (l.take k)) else A.tmps.getD 76 undef)).setIfInBounds 77 (if l6 = true then .bool true else A.tmps.getD 77 undef)).setIfInBounds 78 (if l7 = true then .bool true else A.tmps.getD 78 undef)).setIfInBounds 79 (if l8 = true then .agg #[.int .i64 m.states, .slice am1 m.moves.length cm1, .slice am2 m.firsts.length cm2, .slice am3 m.ends.length cm3] else A.tmps.getD 79 undef)).setIfInBounds 80 (if l9 = true then .string (txB l) else A.tmps.getD 80 undef)).setIfInBounds 81 (if l10 = true then .int .i64 (k : Int) else A.tmps.getD 81 undef)).setIfInBounds 82 (if l11 = true then .string (txB (l.drop k)) else A.tmps.getD 82 undef)).setIfInBounds 83 (if l12 = true then .bool true else A.tmps.getD 83 undef)).setIfInBounds 84 (if l13 = true then .bool true else A.tmps.getD 84 undef)).setIfInBounds 85 (if l14 = true then .bool true else A.tmps.getD 85 undef)).setIfInBounds 12 (.bool l15)), A.defers⟩ ∧
                    St w w' [Ent.row 53 3 (.slice a1 n.moves.length c1) n.moves.length (n.moves.flatMap moveCells), Ent.row 3 1 (.slice a2 n.firsts.length c2) n.firsts.length (intCells n.firsts), Ent.row 3 1 (.slice a3 n.ends.length c3) n.ends.length (intCells n.ends), Ent.row 53 3 (.slice am1 m.moves.length cm1) m.moves.length (m.moves.flatMap moveCells), Ent.row 3 1 (.slice am2 m.firsts.length cm2) m.firsts.length (intCells m.firsts), Ent.row 3 1 (.slice am3 m.ends.length cm3) m.ends.length (intCells m.ends), Ent.box w1.heap.size #[.int .i64 n.states, .slice a1 n.moves.length c1, .slice a2 n.firsts.length c2, .slice a3 n.ends.length c3] 46, Ent.box (w1.heap.size + 1) #[.int .i64 m.states, .slice am1 m.moves.length cm1, .slice am2 m.firsts.length cm2, .slice am3 m.ends.length cm3] 46, Ent.row 53 3 (.slice ax1 X.moves.length cx1) X.moves.length (X.moves.flatMap moveCells), Ent.row 3 1 (.slice ax2 X.firsts.length cx2) X.firsts.length (intCells X.firsts), Ent.row 3 1 (.slice ax3 X.ends.length cx3) X.ends.length (intCells X.ends), Ent.box w2.heap.size #[.int .i64 X.states, .slice ax1 X.moves.length cx1, .slice ax2 X.firsts.length cx2, .slice ax3 X.ends.length cx3] 46]) ?_ ?_ ?_
                · rintro listed a w' ⟨l0, l1, l2, l3, l4, l5, l6, l7, l8, l9, l10, l11, l12, l13, l14, l15, rfl, hd15, rfl, hS⟩ i hi
                  obtain ⟨hun, o, ho, hall⟩ := mem_ready.1 hi
                  have hlt := (Array.getElem?_eq_some_iff.1 ho).1
                  refine wpOp_step ho (fun K hK => ?_)
                  clear hi
                  have HS := Lib.hid hS
                  clear hS
                  simp only [List.setIfInBounds_toArray, List.set_cons_zero, List.set_cons_succ, Array.getD_eq_getD_getElem?, List.getElem?_toArray, List.getElem?_cons_zero, List.getElem?_cons_succ, Option.getD_some]
                  obtain h | h | h | h | h | h | h | h | h | h | h | h | h | h | h | h : i = 0 ∨ i = 1 ∨ i = 2 ∨ i = 3 ∨ i = 4 ∨ i = 5 ∨ i = 6 ∨ i = 7 ∨ i = 8 ∨ i = 9 ∨ i = 10 ∨ i = 11 ∨ i = 12 ∨ i = 13 ∨ i = 14 ∨ i = 15 := by simp at hlt; omega
                  all_goals subst h
                  all_goals simp only [List.getElem?_toArray, List.getElem?_cons_zero, List.getElem?_cons_succ, Option.some.injEq] at ho
                  all_goals subst ho
                  all_goals simp [Region.binds] at hun hall
                  · subst hun
                    obtain rfl : l15 = false := offL hd15 rfl
                    go_simp
                    exact hK _ _ ⟨true, l1, l2, l3, l4, l5, l6, l7, l8, l9, l10, l11, l12, l13, l14, false, rfl, by simp, (by simp only [↓reduceIte, List.setIfInBounds_toArray, List.set_cons_zero, List.set_cons_succ, Array.getD_eq_getD_getElem?, List.getElem?_toArray, List.getElem?_cons_zero, List.getElem?_cons_succ, Option.getD_some]), HS.out⟩
                  · obtain rfl := hall
                    subst hun
                    go_simp
                    exact hK _ _ ⟨true, true, l2, l3, l4, l5, l6, l7, l8, l9, l10, l11, l12, l13, l14, l15, rfl, hd15, (by simp only [↓reduceIte, List.setIfInBounds_toArray, List.set_cons_zero, List.set_cons_succ, Array.getD_eq_getD_getElem?, List.getElem?_toArray, List.getElem?_cons_zero, List.getElem?_cons_succ, Option.getD_some]), HS.out⟩
                  · obtain rfl := hall
                    subst hun
                    have e0 := HS.out.cell (v := .int .i64 n.states) 6 0 rfl rfl
                    have e1 := HS.out.cell (v := .slice a1 n.moves.length c1) 6 1 rfl rfl
                    have e2 := HS.out.cell (v := .slice a2 n.firsts.length c2) 6 2 rfl rfl
                    have e3 := HS.out.cell (v := .slice a3 n.ends.length c3) 6 3 rfl rfl
                    go_simp
                    exact hK _ _ ⟨l0, true, true, l3, l4, l5, l6, l7, l8, l9, l10, l11, l12, l13, l14, l15, rfl, hd15, (by simp only [↓reduceIte, List.setIfInBounds_toArray, List.set_cons_zero, List.set_cons_succ, Array.getD_eq_getD_getElem?, List.getElem?_toArray, List.getElem?_cons_zero, List.getElem?_cons_succ, Option.getD_some]), HS.out⟩
                  · obtain rfl := hall
                    subst hun
                    go_simp
                    exact hK _ _ ⟨l0, true, l2, true, l4, l5, l6, l7, l8, l9, l10, l11, l12, l13, l14, l15, rfl, hd15, (by simp only [↓reduceIte, List.setIfInBounds_toArray, List.set_cons_zero, List.set_cons_succ, Array.getD_eq_getD_getElem?, List.getElem?_toArray, List.getElem?_cons_zero, List.getElem?_cons_succ, Option.getD_some]), HS.out⟩
                  · obtain rfl := hall
                    subst hun
                    go_simp
                    exact hK _ _ ⟨l0, true, l2, l3, true, l5, l6, l7, l8, l9, l10, l11, l12, l13, l14, l15, rfl, hd15, (by simp only [↓reduceIte, List.setIfInBounds_toArray, List.set_cons_zero, List.set_cons_succ, Array.getD_eq_getD_getElem?, List.getElem?_toArray, List.getElem?_cons_zero, List.getElem?_cons_succ, Option.getD_some]), HS.out⟩
                  · obtain ⟨rfl, rfl, rfl⟩ := hall
                    subst hun
                    go_simp
                    exact hK _ _ ⟨l0, true, l2, true, true, true, l6, l7, l8, l9, l10, l11, l12, l13, l14, l15, rfl, hd15, (by simp only [↓reduceIte, List.setIfInBounds_toArray, List.set_cons_zero, List.set_cons_succ, Array.getD_eq_getD_getElem?, List.getElem?_toArray, List.getElem?_cons_zero, List.getElem?_cons_succ, Option.getD_some]), HS.out⟩
                  · obtain ⟨rfl, rfl, rfl⟩ := hall
                    subst hun
                    go_simp
                    go_at_call 38
                    refine (nfaAccepts_any n (l.take k) _ _ Hhtt.out htl (nfaR_rows HS.out 0 1 2 rfl rfl rfl (by omega) (by omega)) _ Hhp.out).mono ?_
                    rintro e u1 ⟨rfl, hb⟩
                    have hS2 := HS.out.call hb
                    have HhS2 := Lib.hid hS2; clear hS2
                    go_simp
                    exact hK _ _ ⟨l0, true, true, l3, l4, true, true, l7, l8, l9, l10, l11, l12, l13, l14, l15, rfl, hd15, (by simp only [↓reduceIte, List.setIfInBounds_toArray, List.set_cons_zero, List.set_cons_succ, Array.getD_eq_getD_getElem?, List.getElem?_toArray, List.getElem?_cons_zero, List.getElem?_cons_succ, Option.getD_some]), HhS2.out⟩
                  · obtain ⟨rfl, rfl⟩ := hall
                    subst hun
                    go_simp
                    exact hK _ _ ⟨l0, true, l2, l3, l4, l5, true, true, l8, l9, l10, l11, l12, l13, l14, l15, rfl, hd15, (by simp only [↓reduceIte, List.setIfInBounds_toArray, List.set_cons_zero, List.set_cons_succ, Array.getD_eq_getD_getElem?, List.getElem?_toArray, List.getElem?_cons_zero, List.getElem?_cons_succ, Option.getD_some]), HS.out⟩
                  · obtain rfl := hall
                    subst hun
                    have e0 := HS.out.cell (v := .int .i64 m.states) 7 0 rfl rfl
                    have e1 := HS.out.cell (v := .slice am1 m.moves.length cm1) 7 1 rfl rfl
                    have e2 := HS.out.cell (v := .slice am2 m.firsts.length cm2) 7 2 rfl rfl
                    have e3 := HS.out.cell (v := .slice am3 m.ends.length cm3) 7 3 rfl rfl
                    go_simp
                    exact hK _ _ ⟨l0, l1, l2, l3, l4, l5, l6, true, true, l9, l10, l11, l12, l13, l14, l15, rfl, hd15, (by simp only [↓reduceIte, List.setIfInBounds_toArray, List.set_cons_zero, List.set_cons_succ, Array.getD_eq_getD_getElem?, List.getElem?_toArray, List.getElem?_cons_zero, List.getElem?_cons_succ, Option.getD_some]), HS.out⟩
                  · obtain rfl := hall
                    subst hun
                    go_simp
                    exact hK _ _ ⟨l0, l1, l2, l3, l4, l5, l6, true, l8, true, l10, l11, l12, l13, l14, l15, rfl, hd15, (by simp only [↓reduceIte, List.setIfInBounds_toArray, List.set_cons_zero, List.set_cons_succ, Array.getD_eq_getD_getElem?, List.getElem?_toArray, List.getElem?_cons_zero, List.getElem?_cons_succ, Option.getD_some]), HS.out⟩
                  · obtain rfl := hall
                    subst hun
                    go_simp
                    exact hK _ _ ⟨l0, l1, l2, l3, l4, l5, l6, true, l8, l9, true, l11, l12, l13, l14, l15, rfl, hd15, (by simp only [↓reduceIte, List.setIfInBounds_toArray, List.set_cons_zero, List.set_cons_succ, Array.getD_eq_getD_getElem?, List.getElem?_toArray, List.getElem?_cons_zero, List.getElem?_cons_succ, Option.getD_some]), HS.out⟩
                  · obtain ⟨rfl, rfl, rfl⟩ := hall
                    subst hun
                    go_simp
                    exact hK _ _ ⟨l0, l1, l2, l3, l4, l5, l6, true, l8, true, true, true, l12, l13, l14, l15, rfl, hd15, (by simp only [↓reduceIte, List.setIfInBounds_toArray, List.set_cons_zero, List.set_cons_succ, Array.getD_eq_getD_getElem?, List.getElem?_toArray, List.getElem?_cons_zero, List.getElem?_cons_succ, Option.getD_some]), HS.out⟩
                  · obtain ⟨rfl, rfl, rfl⟩ := hall
                    subst hun
                    go_simp
                    go_at_call 38
                    refine (nfaAccepts_any m (l.drop k) _ _ Hhtd.out hdl (nfaR_rows HS.out 3 4 5 rfl rfl rfl (by omega) (by omega)) _ Hhr.out).mono ?_
                    rintro e u1 ⟨rfl, hb⟩
                    have hS2 := HS.out.call hb
                    have HhS2 := Lib.hid hS2; clear hS2
                    go_simp
                    exact hK _ _ ⟨l0, l1, l2, l3, l4, l5, l6, true, true, l9, l10, true, true, l13, l14, l15, rfl, hd15, (by simp only [↓reduceIte, List.setIfInBounds_toArray, List.set_cons_zero, List.set_cons_succ, Array.getD_eq_getD_getElem?, List.getElem?_toArray, List.getElem?_cons_zero, List.getElem?_cons_succ, Option.getD_some]), HhS2.out⟩
                  · obtain ⟨rfl, rfl, rfl⟩ := hall
                    subst hun
                    go_simp
                    exact hK _ _ ⟨l0, true, l2, l3, l4, l5, l6, true, l8, l9, l10, l11, true, true, l14, l15, rfl, hd15, (by simp only [↓reduceIte, List.setIfInBounds_toArray, List.set_cons_zero, List.set_cons_succ, Array.getD_eq_getD_getElem?, List.getElem?_toArray, List.getElem?_cons_zero, List.getElem?_cons_succ, Option.getD_some]), HS.out⟩
                  · obtain ⟨rfl, rfl⟩ := hall
                    subst hun
                    obtain rfl : l15 = false := offR hd15 rfl
                    go_simp
                    exact hK _ _ ⟨l0, true, l2, l3, l4, l5, l6, l7, l8, l9, l10, l11, l12, true, true, false, rfl, by simp, (by simp only [↓reduceIte, List.setIfInBounds_toArray, List.set_cons_zero, List.set_cons_succ, Array.getD_eq_getD_getElem?, List.getElem?_toArray, List.getElem?_cons_zero, List.getElem?_cons_succ, Option.getD_some]), HS.out⟩
                  · obtain ⟨rfl, rfl, rfl, rfl, rfl, rfl, rfl, rfl, rfl, rfl, rfl, rfl, rfl, rfl, -, rfl, -⟩ := hall
                    subst hun
                    go_simp
                    exact hK _ _ ⟨true, true, true, true, true, true, true, true, true, true, true, true, true, true, true, true, rfl, by simp, (by simp only [↓reduceIte, List.setIfInBounds_toArray, List.set_cons_zero, List.set_cons_succ]), HS.out⟩
                · rintro listed a w' ⟨l0, l1, l2, l3, l4, l5, l6, l7, l8, l9, l10, l11, l12, l13, l14, l15, rfl, hd15, rfl, hS⟩ hr
                  have hall := ready_nilM (by kernel_rfl) rfl hr
                  obtain rfl : l0 = true := by simpa using hall 0 (by simp)
                  obtain rfl : l1 = true := by simpa using hall 1 (by simp)
                  obtain rfl : l2 = true := by simpa using hall 2 (by simp)
                  obtain rfl : l3 = true := by simpa using hall 3 (by simp)
                  obtain rfl : l4 = true := by simpa using hall 4 (by simp)
                  obtain rfl : l5 = true := by simpa using hall 5 (by simp)
                  obtain rfl : l6 = true := by simpa using hall 6 (by simp)
                  obtain rfl : l7 = true := by simpa using hall 7 (by simp)
                  obtain rfl : l8 = true := by simpa using hall 8 (by simp)
                  obtain rfl : l9 = true := by simpa using hall 9 (by simp)
                  obtain rfl : l10 = true := by simpa using hall 10 (by simp)
                  obtain rfl : l11 = true := by simpa using hall 11 (by simp)
                  obtain rfl : l12 = true := by simpa using hall 12 (by simp)
                  obtain rfl : l13 = true := by simpa using hall 13 (by simp)
                  obtain rfl : l14 = true := by simpa using hall 14 (by simp)
                  obtain rfl : l15 = true := by simpa using hall 15 (by simp)
                  clear hall hr hd15
                  simp only [↓reduceIte] at hS ⊢
                  simp only [List.setIfInBounds_toArray, List.set_cons_zero, List.set_cons_succ]
                  have HSf := Lib.hid hS
                  clear hS
                  go_wp2
                  go_roundw
                  case rel => exact ⟨k + 1, true, by go_num, rfl, by omega, by rw [divs_succ, ← HhD.out, Hhp.out, Hhr.out]; rfl, HSf.out⟩
                  case measure => simp [intOf]; omega
                · refine ⟨false, false, false, false, false, false, false, false, false, false, false, false, false, false, false, false, rfl, by simp, (by simp only [↓reduceIte, Bool.false_eq_true, List.setIfInBounds_toArray, List.set_cons_zero, List.set_cons_succ, Array.getD_eq_getD_getElem?, List.getElem?_toArray, List.getElem?_cons_zero, List.getElem?_cons_succ, Option.getD_some]), ?_⟩
                  exact HhS.out.drew.pick [0, 1, 2, 3, 4, 5, 6, 7, 8, 9, 10, 11] (by decide)
          · have HhD := Lib.hid hD; clear hD
            go_wp2
            refine wp_region_any (by kernel_rfl) ?_
            refine wpAny_invA (fun A listed a w' => ∃ (l0 l1 l2 l3 l4 l5 l6 l7 l8 l9 l10 l11 l12 l13 l14 l15 : Bool) , listed = #[l0, l1, l2, l3, l4, l5, l6, l7, l8, l9, l10, l11, l12, l13, l14, l15] ∧
                a = ⟨(((((((((((((((A.tmps.setIfInBounds 71 (if l0 = true then .bool true else A.tmps.getD 71 undef)).setIfInBounds 72 (if l1 = true then .bool true else A.tmps.getD 72 undef)).setIfInBounds 73 (if l2 = true then undef else A.tmps.getD 73 undef)).setIfInBounds 74 (if l3 = true then undef else A.tmps.getD 74 undef)).setIfInBounds 75 (if l4 = true then undef else A.tmps.getD 75 undef)).setIfInBounds 76 (if l5 = true then undef else A.tmps.getD 76 undef)).setIfInBounds 77 (if l6 = true then undef else A.tmps.getD 77 undef)).setIfInBounds 78 (if l7 = true then undef else A.tmps.getD 78 undef)).setIfInBounds 79 (if l8 = true then undef else A.tmps.getD 79 undef)).setIfInBounds 80 (if l9 = true then undef else A.tmps.getD 80 undef)).setIfInBounds 81 (if l10 = true then undef else A.tmps.getD 81 undef)).setIfInBounds 82 (if l11 = true then undef else A.tmps.getD 82 undef)).setIfInBounds 83 (if l12 = true then undef else A.tmps.getD 83 undef)).setIfInBounds 84 (if l13 = true then undef else A.tmps.getD 84 undef)).setIfInBounds 85 (if l14 = true then .bool true else A.tmps.getD 85 undef)), A.defers⟩ ∧
                St w w' [Ent.row 53 3 (.slice a1 n.moves.length c1) n.moves.length (n.moves.flatMap moveCells), Ent.row 3 1 (.slice a2 n.firsts.length c2) n.firsts.length (intCells n.firsts), Ent.row 3 1 (.slice a3 n.ends.length c3) n.ends.length (intCells n.ends), Ent.row 53 3 (.slice am1 m.moves.length cm1) m.moves.length (m.moves.flatMap moveCells), Ent.row 3 1 (.slice am2 m.firsts.length cm2) m.firsts.length (intCells m.firsts), Ent.row 3 1 (.slice am3 m.ends.length cm3) m.ends.length (intCells m.ends), Ent.box w1.heap.size #[.int .i64 n.states, .slice a1 n.moves.length c1, .slice a2 n.firsts.length c2, .slice a3 n.ends.length c3] 46, Ent.box (w1.heap.size + 1) #[.int .i64 m.states, .slice am1 m.moves.length cm1, .slice am2 m.firsts.length cm2, .slice am3 m.ends.length cm3] 46, Ent.row 53 3 (.slice ax1 X.moves.length cx1) X.moves.length (X.moves.flatMap moveCells), Ent.row 3 1 (.slice ax2 X.firsts.length cx2) X.firsts.length (intCells X.firsts), Ent.row 3 1 (.slice ax3 X.ends.length cx3) X.ends.length (intCells X.ends), Ent.box w2.heap.size #[.int .i64 X.states, .slice ax1 X.moves.length cx1, .slice ax2 X.firsts.length cx2, .slice ax3 X.ends.length cx3] 46]) ?_ ?_ ?_
            · rintro listed a w' ⟨l0, l1, l2, l3, l4, l5, l6, l7, l8, l9, l10, l11, l12, l13, l14, l15, rfl, rfl, hS⟩ i hi
              obtain ⟨hun, o, ho, hall⟩ := mem_ready.1 hi
              have hlt := (Array.getElem?_eq_some_iff.1 ho).1
              refine wpOp_step ho (fun K hK => ?_)
              clear hi
              have HS := Lib.hid hS
              clear hS
              simp only [List.setIfInBounds_toArray, List.set_cons_zero, List.set_cons_succ, Array.getD_eq_getD_getElem?, List.getElem?_toArray, List.getElem?_cons_zero, List.getElem?_cons_succ, Option.getD_some]
              obtain h | h | h | h | h | h | h | h | h | h | h | h | h | h | h | h : i = 0 ∨ i = 1 ∨ i = 2 ∨ i = 3 ∨ i = 4 ∨ i = 5 ∨ i = 6 ∨ i = 7 ∨ i = 8 ∨ i = 9 ∨ i = 10 ∨ i = 11 ∨ i = 12 ∨ i = 13 ∨ i = 14 ∨ i = 15 := by simp at hlt; omega
              all_goals subst h
              all_goals simp only [List.getElem?_toArray, List.getElem?_cons_zero, List.getElem?_cons_succ, Option.some.injEq] at ho
              all_goals subst ho
              all_goals simp [Region.binds] at hun hall
              · subst hun
                go_simp
                exact hK _ _ ⟨true, l1, l2, l3, l4, l5, l6, l7, l8, l9, l10, l11, l12, l13, l14, l15, rfl, (by simp only [↓reduceIte, List.setIfInBounds_toArray, List.set_cons_zero, List.set_cons_succ, Array.getD_eq_getD_getElem?, List.getElem?_toArray, List.getElem?_cons_zero, List.getElem?_cons_succ, Option.getD_some]), HS.out⟩
              · obtain rfl := hall
                subst hun
                go_simp
                exact hK _ _ ⟨true, true, l2, l3, l4, l5, l6, l7, l8, l9, l10, l11, l12, l13, l14, l15, rfl, (by simp only [↓reduceIte, List.setIfInBounds_toArray, List.set_cons_zero, List.set_cons_succ, Array.getD_eq_getD_getElem?, List.getElem?_toArray, List.getElem?_cons_zero, List.getElem?_cons_succ, Option.getD_some]), HS.out⟩
              · obtain rfl := hall
                subst hun
                go_simp
                exact hK _ _ ⟨l0, true, true, l3, l4, l5, l6, l7, l8, l9, l10, l11, l12, l13, l14, l15, rfl, (by simp only [↓reduceIte, List.setIfInBounds_toArray, List.set_cons_zero, List.set_cons_succ, Array.getD_eq_getD_getElem?, List.getElem?_toArray, List.getElem?_cons_zero, List.getElem?_cons_succ, Option.getD_some]), HS.out⟩
              · obtain rfl := hall
                subst hun
                go_simp
                exact hK _ _ ⟨l0, true, l2, true, l4, l5, l6, l7, l8, l9, l10, l11, l12, l13, l14, l15, rfl, (by simp only [↓reduceIte, List.setIfInBounds_toArray, List.set_cons_zero, List.set_cons_succ, Array.getD_eq_getD_getElem?, List.getElem?_toArray, List.getElem?_cons_zero, List.getElem?_cons_succ, Option.getD_some]), HS.out⟩
              · obtain rfl := hall
                subst hun
                go_simp
                exact hK _ _ ⟨l0, true, l2, l3, true, l5, l6, l7, l8, l9, l10, l11, l12, l13, l14, l15, rfl, (by simp only [↓reduceIte, List.setIfInBounds_toArray, List.set_cons_zero, List.set_cons_succ, Array.getD_eq_getD_getElem?, List.getElem?_toArray, List.getElem?_cons_zero, List.getElem?_cons_succ, Option.getD_some]), HS.out⟩
              · obtain ⟨rfl, rfl, rfl⟩ := hall
                subst hun
                go_simp
                exact hK _ _ ⟨l0, true, l2, true, true, true, l6, l7, l8, l9, l10, l11, l12, l13, l14, l15, rfl, (by simp only [↓reduceIte, List.setIfInBounds_toArray, List.set_cons_zero, List.set_cons_succ, Array.getD_eq_getD_getElem?, List.getElem?_toArray, List.getElem?_cons_zero, List.getElem?_cons_succ, Option.getD_some]), HS.out⟩
              · obtain ⟨rfl, rfl, rfl⟩ := hall
                subst hun
                go_simp
                exact hK _ _ ⟨l0, true, true, l3, l4, true, true, l7, l8, l9, l10, l11, l12, l13, l14, l15, rfl, (by simp only [↓reduceIte, List.setIfInBounds_toArray, List.set_cons_zero, List.set_cons_succ, Array.getD_eq_getD_getElem?, List.getElem?_toArray, List.getElem?_cons_zero, List.getElem?_cons_succ, Option.getD_some]), HS.out⟩
              · obtain ⟨rfl, rfl⟩ := hall
                subst hun
                go_simp
                exact hK _ _ ⟨l0, true, l2, l3, l4, l5, true, true, l8, l9, l10, l11, l12, l13, l14, l15, rfl, (by simp only [↓reduceIte, List.setIfInBounds_toArray, List.set_cons_zero, List.set_cons_succ, Array.getD_eq_getD_getElem?, List.getElem?_toArray, List.getElem?_cons_zero, List.getElem?_cons_succ, Option.getD_some]), HS.out⟩
              · obtain rfl := hall
                subst hun
                go_simp
                exact hK _ _ ⟨l0, l1, l2, l3, l4, l5, l6, true, true, l9, l10, l11, l12, l13, l14, l15, rfl, (by simp only [↓reduceIte, List.setIfInBounds_toArray, List.set_cons_zero, List.set_cons_succ, Array.getD_eq_getD_getElem?, List.getElem?_toArray, List.getElem?_cons_zero, List.getElem?_cons_succ, Option.getD_some]), HS.out⟩
              · obtain rfl := hall
                subst hun
                go_simp
                exact hK _ _ ⟨l0, l1, l2, l3, l4, l5, l6, true, l8, true, l10, l11, l12, l13, l14, l15, rfl, (by simp only [↓reduceIte, List.setIfInBounds_toArray, List.set_cons_zero, List.set_cons_succ, Array.getD_eq_getD_getElem?, List.getElem?_toArray, List.getElem?_cons_zero, List.getElem?_cons_succ, Option.getD_some]), HS.out⟩
              · obtain rfl := hall
                subst hun
                go_simp
                exact hK _ _ ⟨l0, l1, l2, l3, l4, l5, l6, true, l8, l9, true, l11, l12, l13, l14, l15, rfl, (by simp only [↓reduceIte, List.setIfInBounds_toArray, List.set_cons_zero, List.set_cons_succ, Array.getD_eq_getD_getElem?, List.getElem?_toArray, List.getElem?_cons_zero, List.getElem?_cons_succ, Option.getD_some]), HS.out⟩
              · obtain ⟨rfl, rfl, rfl⟩ := hall
                subst hun
                go_simp
                exact hK _ _ ⟨l0, l1, l2, l3, l4, l5, l6, true, l8, true, true, true, l12, l13, l14, l15, rfl, (by simp only [↓reduceIte, List.setIfInBounds_toArray, List.set_cons_zero, List.set_cons_succ, Array.getD_eq_getD_getElem?, List.getElem?_toArray, List.getElem?_cons_zero, List.getElem?_cons_succ, Option.getD_some]), HS.out⟩
              · obtain ⟨rfl, rfl, rfl⟩ := hall
                subst hun
                go_simp
                exact hK _ _ ⟨l0, l1, l2, l3, l4, l5, l6, true, true, l9, l10, true, true, l13, l14, l15, rfl, (by simp only [↓reduceIte, List.setIfInBounds_toArray, List.set_cons_zero, List.set_cons_succ, Array.getD_eq_getD_getElem?, List.getElem?_toArray, List.getElem?_cons_zero, List.getElem?_cons_succ, Option.getD_some]), HS.out⟩
              · obtain ⟨rfl, rfl, rfl⟩ := hall
                subst hun
                go_simp
                exact hK _ _ ⟨l0, true, l2, l3, l4, l5, l6, true, l8, l9, l10, l11, true, true, l14, l15, rfl, (by simp only [↓reduceIte, List.setIfInBounds_toArray, List.set_cons_zero, List.set_cons_succ, Array.getD_eq_getD_getElem?, List.getElem?_toArray, List.getElem?_cons_zero, List.getElem?_cons_succ, Option.getD_some]), HS.out⟩
              · obtain ⟨rfl, rfl⟩ := hall
                subst hun
                go_simp
                exact hK _ _ ⟨l0, true, l2, l3, l4, l5, l6, l7, l8, l9, l10, l11, l12, true, true, l15, rfl, (by simp only [↓reduceIte, List.setIfInBounds_toArray, List.set_cons_zero, List.set_cons_succ, Array.getD_eq_getD_getElem?, List.getElem?_toArray, List.getElem?_cons_zero, List.getElem?_cons_succ, Option.getD_some]), HS.out⟩
              · obtain ⟨rfl, rfl, rfl, rfl, rfl, rfl, rfl, rfl, rfl, rfl, rfl, rfl, rfl, rfl, -, rfl, -⟩ := hall
                subst hun
                go_simp
                exact hK _ _ ⟨true, true, true, true, true, true, true, true, true, true, true, true, true, true, true, true, rfl, (by simp only [↓reduceIte, List.setIfInBounds_toArray, List.set_cons_zero, List.set_cons_succ]), HS.out⟩
            · rintro listed a w' ⟨l0, l1, l2, l3, l4, l5, l6, l7, l8, l9, l10, l11, l12, l13, l14, l15, rfl, rfl, hS⟩ hr
              have hall := ready_nilM (by kernel_rfl) rfl hr
              obtain rfl : l0 = true := by simpa using hall 0 (by simp)
              obtain rfl : l1 = true := by simpa using hall 1 (by simp)
              obtain rfl : l2 = true := by simpa using hall 2 (by simp)
              obtain rfl : l3 = true := by simpa using hall 3 (by simp)
              obtain rfl : l4 = true := by simpa using hall 4 (by simp)
              obtain rfl : l5 = true := by simpa using hall 5 (by simp)
              obtain rfl : l6 = true := by simpa using hall 6 (by simp)
              obtain rfl : l7 = true := by simpa using hall 7 (by simp)
              obtain rfl : l8 = true := by simpa using hall 8 (by simp)
              obtain rfl : l9 = true := by simpa using hall 9 (by simp)
              obtain rfl : l10 = true := by simpa using hall 10 (by simp)
              obtain rfl : l11 = true := by simpa using hall 11 (by simp)
              obtain rfl : l12 = true := by simpa using hall 12 (by simp)
              obtain rfl : l13 = true := by simpa using hall 13 (by simp)
              obtain rfl : l14 = true := by simpa using hall 14 (by simp)
              obtain rfl : l15 = true := by simpa using hall 15 (by simp)
              clear hall hr 
              simp only [↓reduceIte] at hS ⊢
              simp only [List.setIfInBounds_toArray, List.set_cons_zero, List.set_cons_succ]
              have HSf := Lib.hid hS
              clear hS
              go_wp2
              go_roundw
              case rel => exact ⟨k + 1, true, by go_num, rfl, by omega, by rw [divs_succ, ← HhD.out]; rfl, HSf.out⟩
              case measure => simp [intOf]; omega
            · refine ⟨false, false, false, false, false, false, false, false, false, false, false, false, false, false, false, false, rfl, (by simp only [↓reduceIte, Bool.false_eq_true, List.setIfInBounds_toArray, List.set_cons_zero, List.set_cons_succ, Array.getD_eq_getD_getElem?, List.getElem?_toArray, List.getElem?_cons_zero, List.getElem?_cons_succ, Option.getD_some]), ?_⟩
              exact HhS.out.drew.pick [0, 1, 2, 3, 4, 5, 6, 7, 8, 9, 10, 11] (by decide)
        · obtain rfl : k = l.length + 1 := by omega
          have hgt : ¬ ((l.length + 1 : Nat) : Int) ≤ l.length := by omega
          have HS7 := Lib.hid hS
          have hq : accT X l = β := by rw [hD]; exact joinT_divs HhX.out Hhwd.out
          have hqq : (β == β) = true := beq_self_eq_true β
          clear hS hlt
          have e0 := HS7.out.cell (v := .int .i64 X.states) 11 0 rfl rfl
          have e1 := HS7.out.cell (v := .slice ax1 X.moves.length cx1) 11 1 rfl rfl
          have e2 := HS7.out.cell (v := .slice ax2 X.firsts.length cx2) 11 2 rfl rfl
          have e3 := HS7.out.cell (v := .slice ax3 X.ends.length cx3) 11 3 rfl rfl
          obtain ⟨kk, hkk⟩ : ∃ kk : Int, kk = ((l.length + 1 : Nat) : Int) := ⟨_, rfl⟩
          rw [← hkk] at hgt
          rw [← hkk]
          have Hhkk := Lib.hid hkk; clear hkk
          have HhD := Lib.hid hD; clear hD
          have Hhq := Lib.hid hq; clear hq
          go_wp2_with fail
          refine (implNfaValid_any X _ _ (nfaR_rows HS7.out 8 9 10 rfl rfl rfl xs0 xs1) _ HhokX.out).mono ?_
          rintro e w8 ⟨rfl, hb8⟩
          have HS8 := Lib.hid (HS7.out.call hb8)
          clear hb8 e0 e1 e2 e3
          have e0 := HS8.out.cell (v := .int .i64 X.states) 11 0 rfl rfl
          have e1 := HS8.out.cell (v := .slice ax1 X.moves.length cx1) 11 1 rfl rfl
          have e2 := HS8.out.cell (v := .slice ax2 X.firsts.length cx2) 11 2 rfl rfl
          have e3 := HS8.out.cell (v := .slice ax3 X.ends.length cx3) 11 3 rfl rfl
          go_wp2_with fail
          refine (nfaAccepts_any X l _ _ Hht.out (by omega) (nfaR_rows HS8.out 8 9 10 rfl rfl rfl xs0 xs1) _ Hhq.out).mono ?_
          rintro e w9 ⟨rfl, hb9⟩
          go_wp2
          go_ret
          exact ⟨rfl, (HS8.out.call hb9).bel⟩
end Go.Proofs.Ytolkifpeblbfcaa
