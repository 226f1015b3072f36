/-
  The walk over the law FnTurnNfa.
  Conditions: the arguments read as bytes.
-/
import Derived.Test.YtolkifpeblbfcaaTk
import Derived.Test.YtolkifpeblbfcaaDz
import Derived.Test.YtolkifpeblbfcaaSf
import Derived.Test.YtolkifpeblbfcaaLNfaClose
namespace Go.Proofs.Ytolkifpeblbfcaa
open Go.RowKit

theorem lets_rev (l : List Nat) : lets l.reverse = (lets l).reverse := by simp [lets]
theorem wdOk_rev {l : List Nat} (h : wdOk l = true) : wdOk l.reverse = true := by
  rw [wdOk_iff] at *
  exact ⟨fun b hb => h.1 b (List.mem_reverse.1 hb), by rw [List.length_reverse]; exact h.2⟩
theorem accT_turn {n : NfaD} {l : List Nat} (hn : nfaOk n = true) (hw : wdOk l = true) : accT (turnN n) l.reverse = accT n l := by
  unfold accT
  rw [turn_ok hn, hn, hw, wdOk_rev hw, lets_rev, turn_acc hn]
set_option maxRecDepth 100000 in
set_option maxHeartbeats 16000000 in
theorem turnNfa_walk (bs cs : List Nat) (v u : Value) (w : World) (hb : Bytes 0 w v bs) (hc : Bytes 0 w u cs) :
    Calls Try.prog 11 #[v, u] w fun e w' => e = .returned (.bool true) ∧ Below w.heap.size w w' := by
  have HB := Lib.hid hb
  have HC := Lib.hid hc
  obtain ⟨av, cv, rfl, hcv1, hcv2, -⟩ := hb.form
  obtain ⟨au, cu, rfl, hcu1, hcu2, -⟩ := hc.form
  clear hb hc
  by_cases hlen : 1048576 < bs.length
  · have hl2 : (1048576 : Int) < bs.length := by omega
    go_enter Try.func11, Try.ntmps11
    go_wp2
    go_ret
    exact ⟨rfl, Below.refl _ _⟩
  have hl2 : ¬ (1048576 : Int) < bs.length := by omega
  by_cases hlen2 : 1048576 < cs.length
  · have hl3 : (1048576 : Int) < cs.length := by omega
    go_enter Try.func11, Try.ntmps11
    go_wp2
    go_ret
    exact ⟨rfl, Below.refl _ _⟩
  have hl3 : ¬ (1048576 : Int) < cs.length := by omega
  go_enter Try.func11, Try.ntmps11
  go_wp2_with fail
  refine (drawTurn_any bs _ _ HB.out (by omega)).mono ?_
  rintro e w1 ⟨n, a1, a2, a3, c1, c2, c3, hs0, hs1, hm, hf, he, rfl, hS⟩
  have HS := Lib.hid (hS.alloc _ rfl #[.int .i64 n.states, .slice a1 n.moves.length c1, .slice a2 n.firsts.length c2, .slice a3 n.ends.length c3] 46)
  have e0 := HS.out.cell (v := .int .i64 n.states) 3 0 rfl rfl
  have e1 := HS.out.cell (v := .slice a1 n.moves.length c1) 3 1 rfl rfl
  have e2 := HS.out.cell (v := .slice a2 n.firsts.length c2) 3 2 rfl rfl
  have e3 := HS.out.cell (v := .slice a3 n.ends.length c3) 3 3 rfl rfl
  have hs0' : -9223372036854775808 ≤ n.states := by omega
  have hs1' : n.states ≤ 9223372036854775807 := by omega
  obtain ⟨X, hX⟩ : ∃ X, turnL n = X := ⟨_, rfl⟩
  have hxs : X.states = n.states ∨ X.states = 0 := by
    rw [← hX]
    unfold turnL
    split
    · exact .inl rfl
    · exact .inr rfl
  have xs0 : -9223372036854775808 ≤ X.states := by omega
  have xs1 : X.states ≤ 9223372036854775807 := by omega
  have HTi := Lib.hid (fun (u : World) (hu : NfaR 0 u (.agg #[.int .i64 n.states, .slice a1 n.moves.length c1, .slice a2 n.firsts.length c2, .slice a3 n.ends.length c3]) n) => implTurnNfa_any n _ u hu)
  have HTs := Lib.hid (fun (u : World) (hu : NfaR 0 u (.agg #[.int .i64 n.states, .slice a1 n.moves.length c1, .slice a2 n.firsts.length c2, .slice a3 n.ends.length c3]) n) => specTurnNfa_any n _ u hu)
  rw [hX] at HTi HTs
  have HhX := Lib.hid hX; clear hX
  clear hS hxs
  go_wp2_with fail
  refine (HTi.out _ (nfaR_rows HS.out 0 1 2 rfl rfl rfl hs0' hs1')).mono ?_
  rintro e w2 ⟨ax1, cx1, ax2, cx2, ax3, cx3, rfl, hS'⟩
  have HS3 := Lib.hid ((HS.out.cat hS').alloc _ rfl #[.int .i64 X.states, .slice ax1 X.moves.length cx1, .slice ax2 X.firsts.length cx2, .slice ax3 X.ends.length cx3] 46)
  clear hS' e0 e1 e2 e3
  go_wp2
  refine wp_region_any (by kernel_rfl) ?_
  refine wpAny_invA (fun A listed a w' => ∃ (l0 l1 l2 l3 l4 : Bool) (at1 : Option Addr) (at2 : Option Addr) (at3 : Option Addr) (ct1 : Nat) (ct2 : Nat) (ct3 : Nat), listed = #[l0, l1, l2, l3, l4] ∧
      a = ⟨(((((A.tmps.setIfInBounds 20 (if l0 = true then .agg #[.int .i64 X.states, .slice ax1 X.moves.length cx1, .slice ax2 X.firsts.length cx2, .slice ax3 X.ends.length cx3] else A.tmps.getD 20 undef)).setIfInBounds 21 (if l1 = true then .agg #[.int .i64 n.states, .slice a1 n.moves.length c1, .slice a2 n.firsts.length c2, .slice a3 n.ends.length c3] else A.tmps.getD 21 undef)).setIfInBounds 22 (if l2 = true then .agg #[.int .i64 X.states, .slice at1 X.moves.length ct1, .slice at2 X.firsts.length ct2, .slice at3 X.ends.length ct3] else A.tmps.getD 22 undef)).setIfInBounds 23 (if l3 = true then .bool true else A.tmps.getD 23 undef)).setIfInBounds 24 (if l4 = true then .bool false else A.tmps.getD 24 undef)), A.defers⟩ ∧
      St w w' [Ent.row 53 3 (.slice a1 n.moves.length c1) n.moves.length (n.moves.flatMap moveCells), Ent.row 3 1 (.slice a2 n.firsts.length c2) n.firsts.length (intCells n.firsts), Ent.row 3 1 (.slice a3 n.ends.length c3) n.ends.length (intCells n.ends), Ent.box w1.heap.size #[.int .i64 n.states, .slice a1 n.moves.length c1, .slice a2 n.firsts.length c2, .slice a3 n.ends.length c3] 46, Ent.row 53 3 (.slice ax1 X.moves.length cx1) X.moves.length (X.moves.flatMap moveCells), Ent.row 3 1 (.slice ax2 X.firsts.length cx2) X.firsts.length (intCells X.firsts), Ent.row 3 1 (.slice ax3 X.ends.length cx3) X.ends.length (intCells X.ends), Ent.box w2.heap.size #[.int .i64 X.states, .slice ax1 X.moves.length cx1, .slice ax2 X.firsts.length cx2, .slice ax3 X.ends.length cx3] 46, (if l2 = true then Ent.row 53 3 (.slice at1 X.moves.length ct1) X.moves.length (X.moves.flatMap moveCells) else Ent.nil), (if l2 = true then Ent.row 3 1 (.slice at2 X.firsts.length ct2) X.firsts.length (intCells X.firsts) else Ent.nil), (if l2 = true then Ent.row 3 1 (.slice at3 X.ends.length ct3) X.ends.length (intCells X.ends) else Ent.nil)]) ?_ ?_ ?_
  · rintro listed a w' ⟨l0, l1, l2, l3, l4, at1, at2, at3, ct1, ct2, ct3, rfl, rfl, hS⟩ i hi
    obtain ⟨hun, o, ho, hall⟩ := mem_ready.1 hi
    have hlt := (Array.getElem?_eq_some_iff.1 ho).1
    refine wpOp_step ho (fun K hK => ?_)
    clear hi
    have HS := Lib.hid hS
    clear hS
    simp only [List.setIfInBounds_toArray, List.set_cons_zero, List.set_cons_succ, Array.getD_eq_getD_getElem?, List.getElem?_toArray, List.getElem?_cons_zero, List.getElem?_cons_succ, Option.getD_some]
    obtain h | h | h | h | h : i = 0 ∨ i = 1 ∨ i = 2 ∨ i = 3 ∨ i = 4 := by simp at hlt; omega
    all_goals subst h
    all_goals simp only [List.getElem?_toArray, List.getElem?_cons_zero, List.getElem?_cons_succ, Option.some.injEq] at ho
    all_goals subst ho
    all_goals simp [Region.binds] at hun hall
    · subst hun
      have e0 := HS.out.cell (v := .int .i64 X.states) 7 0 rfl rfl
      have e1 := HS.out.cell (v := .slice ax1 X.moves.length cx1) 7 1 rfl rfl
      have e2 := HS.out.cell (v := .slice ax2 X.firsts.length cx2) 7 2 rfl rfl
      have e3 := HS.out.cell (v := .slice ax3 X.ends.length cx3) 7 3 rfl rfl
      go_simp
      exact hK _ _ ⟨true, l1, l2, l3, l4, at1, at2, at3, ct1, ct2, ct3, rfl, (by simp only [↓reduceIte, List.setIfInBounds_toArray, List.set_cons_zero, List.set_cons_succ, Array.getD_eq_getD_getElem?, List.getElem?_toArray, List.getElem?_cons_zero, List.getElem?_cons_succ, Option.getD_some]), HS.out⟩
    · subst hun
      have e0 := HS.out.cell (v := .int .i64 n.states) 3 0 rfl rfl
      have e1 := HS.out.cell (v := .slice a1 n.moves.length c1) 3 1 rfl rfl
      have e2 := HS.out.cell (v := .slice a2 n.firsts.length c2) 3 2 rfl rfl
      have e3 := HS.out.cell (v := .slice a3 n.ends.length c3) 3 3 rfl rfl
      go_simp
      exact hK _ _ ⟨l0, true, l2, l3, l4, at1, at2, at3, ct1, ct2, ct3, rfl, (by simp only [↓reduceIte, List.setIfInBounds_toArray, List.set_cons_zero, List.set_cons_succ, Array.getD_eq_getD_getElem?, List.getElem?_toArray, List.getElem?_cons_zero, List.getElem?_cons_succ, Option.getD_some]), HS.out⟩
    · obtain rfl := hall
      subst hun
      go_simp
      go_at_call 55
      refine (HTs.out _ (nfaR_rows HS.out 0 1 2 rfl rfl rfl hs0' hs1')).mono ?_
      rintro e u1 ⟨y1, d1, y2, d2, y3, d3, rfl, hb⟩
      have hS2 := (HS.out.cat hb).pick [0, 1, 2, 3, 4, 5, 6, 7, 11, 12, 13] (by decide)
      have HhS2 := Lib.hid hS2; clear hS2
      go_simp
      exact hK _ _ ⟨l0, true, true, l3, l4, y1, y2, y3, d1, d2, d3, rfl, (by simp only [↓reduceIte, List.setIfInBounds_toArray, List.set_cons_zero, List.set_cons_succ, Array.getD_eq_getD_getElem?, List.getElem?_toArray, List.getElem?_cons_zero, List.getElem?_cons_succ, Option.getD_some]), HhS2.out⟩
    · obtain ⟨rfl, rfl⟩ := hall
      subst hun
      go_simp
      go_at_call 36
      refine (sameNfa_any X _ _ _ (nfaR_rows HS.out 4 5 6 rfl rfl rfl xs0 xs1) (nfaR_rows HS.out 8 9 10 rfl rfl rfl xs0 xs1)).mono ?_
      rintro e u1 ⟨rfl, hb⟩
      have hS2 := HS.out.call hb
      have HhS2 := Lib.hid hS2; clear hS2
      go_simp
      exact hK _ _ ⟨true, l1, true, true, l4, at1, at2, at3, ct1, ct2, ct3, rfl, (by simp only [↓reduceIte, List.setIfInBounds_toArray, List.set_cons_zero, List.set_cons_succ, Array.getD_eq_getD_getElem?, List.getElem?_toArray, List.getElem?_cons_zero, List.getElem?_cons_succ, Option.getD_some]), HhS2.out⟩
    · obtain rfl := hall
      subst hun
      go_simp
      exact hK _ _ ⟨l0, l1, l2, true, true, at1, at2, at3, ct1, ct2, ct3, rfl, (by simp only [↓reduceIte, List.setIfInBounds_toArray, List.set_cons_zero, List.set_cons_succ, Array.getD_eq_getD_getElem?, List.getElem?_toArray, List.getElem?_cons_zero, List.getElem?_cons_succ, Option.getD_some]), HS.out⟩
  · rintro listed a w' ⟨l0, l1, l2, l3, l4, at1, at2, at3, ct1, ct2, ct3, rfl, rfl, hS⟩ hr
    have hall := ready_nilM (by kernel_rfl) rfl hr
    obtain rfl : l0 = true := by simpa using hall 0 (by simp)
    obtain rfl : l1 = true := by simpa using hall 1 (by simp)
    obtain rfl : l2 = true := by simpa using hall 2 (by simp)
    obtain rfl : l3 = true := by simpa using hall 3 (by simp)
    obtain rfl : l4 = true := by simpa using hall 4 (by simp)
    clear hall hr 
    simp only [↓reduceIte] at hS ⊢
    simp only [List.setIfInBounds_toArray, List.set_cons_zero, List.set_cons_succ]
    have HS5 := Lib.hid (hS.pick [0, 1, 2, 3, 4, 5, 6, 7] (by decide))
    clear hS
    cases hok : nfaOk n
    · obtain rfl : X = zeN := by rw [← HhX.out, turnL_bad hok]
      have e0 := HS5.out.cell (v := .int .i64 n.states) 3 0 rfl rfl
      have e1 := HS5.out.cell (v := .slice a1 n.moves.length c1) 3 1 rfl rfl
      have e2 := HS5.out.cell (v := .slice a2 n.firsts.length c2) 3 2 rfl rfl
      have e3 := HS5.out.cell (v := .slice a3 n.ends.length c3) 3 3 rfl rfl
      have Hhok := Lib.hid hok; clear hok
      go_wp2_with fail
      refine (specNfaValid_any n _ _ (nfaR_rows HS5.out 0 1 2 rfl rfl rfl hs0' hs1') _ Hhok.out).mono ?_
      rintro e w6 ⟨rfl, hb6⟩
      have HS6 := Lib.hid (HS5.out.call hb6)
      have x0 := HS6.out.cell (v := .int .i64 0) 7 0 rfl rfl
      clear hb6 e0 e1 e2 e3
      go_wp2_with (go_at_call 32; refine (alive_any _).mono ?_; rintro e w' ⟨rfl, rfl⟩)
      go_ret
      exact ⟨rfl, HS6.out.bel⟩
    · have hXe : X = turnN n := by rw [← HhX.out, turnL_ok hok]
      have hokX : nfaOk X = true := by rw [hXe]; exact turn_ok hok
      have hTT : turnL X = n := by rw [turnL_ok hokX, hXe, turn_turn]
      have HTT := Lib.hid (fun (u : World) (hu : NfaR 0 u (.agg #[.int .i64 X.states, .slice ax1 X.moves.length cx1, .slice ax2 X.firsts.length cx2, .slice ax3 X.ends.length cx3]) X) => implTurnNfa_any X _ u hu)
      rw [hTT] at HTT
      have e0 := HS5.out.cell (v := .int .i64 n.states) 3 0 rfl rfl
      have e1 := HS5.out.cell (v := .slice a1 n.moves.length c1) 3 1 rfl rfl
      have e2 := HS5.out.cell (v := .slice a2 n.firsts.length c2) 3 2 rfl rfl
      have e3 := HS5.out.cell (v := .slice a3 n.ends.length c3) 3 3 rfl rfl
      have hacc := fun l (hw : wdOk l = true) => accT_turn (l := l) hok hw
      rw [← hXe] at hacc
      have Hhacc := Lib.hid hacc; clear hacc
      have Hhok := Lib.hid hok; clear hok
      have HhokX := Lib.hid hokX; clear hokX
      have HhXe := Lib.hid hXe; clear hXe
      have HhTT := Lib.hid hTT; clear hTT
      go_wp2_with fail
      refine (specNfaValid_any n _ _ (nfaR_rows HS5.out 0 1 2 rfl rfl rfl hs0' hs1') _ Hhok.out).mono ?_
      rintro e w6 ⟨rfl, hb6⟩
      have HS6 := Lib.hid (HS5.out.call hb6)
      clear hb6 e0 e1 e2 e3
      go_wp2_with fail
      refine (drawWord_any cs _ _ (HC.out.below HS6.out.bel) (by omega)).mono ?_
      rintro e w7 ⟨l, ht, hl10, rfl, hb7⟩
      have HS7 := Lib.hid (HS6.out.call hb7)
      clear hb7
      cases hwd : wdOk l
      · have Hhwd := Lib.hid hwd; clear hwd
        have Hht := Lib.hid ht; clear ht
        go_wp2
        refine wp_region_any (by kernel_rfl) ?_
        refine wpAny_invA (fun A listed a w' => ∃ (l0 l1 l2 l3 l4 l5 l6 l7 l8 l9 l10 l11 l12 l13 l14 l15 l16 l17 l18 l19 l20 l21 l22 l23 : Bool) (at1 : Option Addr) (at2 : Option Addr) (at3 : Option Addr) (ct1 : Nat) (ct2 : Nat) (ct3 : Nat), listed = #[l0, l1, l2, l3, l4, l5, l6, l7, l8, l9, l10, l11, l12, l13, l14, l15, l16, l17, l18, l19, l20, l21, l22, l23] ∧
            a = ⟨((((((((((((((((A.tmps.setIfInBounds 36 (if l0 = true then .agg #[.int .i64 X.states, .slice ax1 X.moves.length cx1, .slice ax2 X.firsts.length cx2, .slice ax3 X.ends.length cx3] else A.tmps.getD 36 undef)).setIfInBounds 37 (if l1 = true then .bool true else A.tmps.getD 37 undef)).setIfInBounds 38 (if l2 = true then .bool true else A.tmps.getD 38 undef)).setIfInBounds 39 (if l3 = true then .agg #[.int .i64 X.states, .slice ax1 X.moves.length cx1, .slice ax2 X.firsts.length cx2, .slice ax3 X.ends.length cx3] else A.tmps.getD 39 undef)).setIfInBounds 40 (if l4 = true then .agg #[.int .i64 n.states, .slice at1 n.moves.length ct1, .slice at2 n.firsts.length ct2, .slice at3 n.ends.length ct3] else A.tmps.getD 40 undef)).setIfInBounds 41 (if l5 = true then .agg #[.int .i64 n.states, .slice a1 n.moves.length c1, .slice a2 n.firsts.length c2, .slice a3 n.ends.length c3] else A.tmps.getD 41 undef)).setIfInBounds 42 (if l6 = true then .bool true else A.tmps.getD 42 undef)).setIfInBounds 43 (if l7 = true then .bool true else A.tmps.getD 43 undef)).setIfInBounds 44 (if l8 = true then .bool true else A.tmps.getD 44 undef)).setIfInBounds 45 (if l9 = true then .string (txB l) else A.tmps.getD 45 undef)).setIfInBounds 46 (if l10 = true then .bool false else A.tmps.getD 46 undef)).setIfInBounds 47 (if l11 = true then .bool true else A.tmps.getD 47 undef)).setIfInBounds 48 (if l12 = true then .bool true else A.tmps.getD 48 undef)).setIfInBounds 57 (if l21 = true then .bool true else A.tmps.getD 57 undef)).setIfInBounds 58 (if l22 = true then .bool true else A.tmps.getD 58 undef)).setIfInBounds 4 (.bool l23)), A.defers⟩ ∧
            St w w' [Ent.row 53 3 (.slice a1 n.moves.length c1) n.moves.length (n.moves.flatMap moveCells), Ent.row 3 1 (.slice a2 n.firsts.length c2) n.firsts.length (intCells n.firsts), Ent.row 3 1 (.slice a3 n.ends.length c3) n.ends.length (intCells n.ends), Ent.box w1.heap.size #[.int .i64 n.states, .slice a1 n.moves.length c1, .slice a2 n.firsts.length c2, .slice a3 n.ends.length c3] 46, Ent.row 53 3 (.slice ax1 X.moves.length cx1) X.moves.length (X.moves.flatMap moveCells), Ent.row 3 1 (.slice ax2 X.firsts.length cx2) X.firsts.length (intCells X.firsts), Ent.row 3 1 (.slice ax3 X.ends.length cx3) X.ends.length (intCells X.ends), Ent.box w2.heap.size #[.int .i64 X.states, .slice ax1 X.moves.length cx1, .slice ax2 X.firsts.length cx2, .slice ax3 X.ends.length cx3] 46, (if l4 = true then Ent.row 53 3 (.slice at1 n.moves.length ct1) n.moves.length (n.moves.flatMap moveCells) else Ent.nil), (if l4 = true then Ent.row 3 1 (.slice at2 n.firsts.length ct2) n.firsts.length (intCells n.firsts) else Ent.nil), (if l4 = true then Ent.row 3 1 (.slice at3 n.ends.length ct3) n.ends.length (intCells n.ends) else Ent.nil)]) ?_ ?_ ?_
        · rintro listed a w' ⟨l0, l1, l2, l3, l4, l5, l6, l7, l8, l9, l10, l11, l12, l13, l14, l15, l16, l17, l18, l19, l20, l21, l22, l23, at1, at2, at3, ct1, ct2, ct3, rfl, rfl, hS⟩ i hi
          obtain ⟨hun, o, ho, hall⟩ := mem_ready.1 hi
          have hlt := (Array.getElem?_eq_some_iff.1 ho).1
          refine wpOp_step ho (fun K hK => ?_)
          clear hi
          have HS := Lib.hid hS
          clear hS
          simp only [List.setIfInBounds_toArray, List.set_cons_zero, List.set_cons_succ, Array.getD_eq_getD_getElem?, List.getElem?_toArray, List.getElem?_cons_zero, List.getElem?_cons_succ, Option.getD_some]
          obtain h | h | h | h | h | h | h | h | h | h | h | h | h | h | h | h | h | h | h | h | h | h | h | h : i = 0 ∨ i = 1 ∨ i = 2 ∨ i = 3 ∨ i = 4 ∨ i = 5 ∨ i = 6 ∨ i = 7 ∨ i = 8 ∨ i = 9 ∨ i = 10 ∨ i = 11 ∨ i = 12 ∨ i = 13 ∨ i = 14 ∨ i = 15 ∨ i = 16 ∨ i = 17 ∨ i = 18 ∨ i = 19 ∨ i = 20 ∨ i = 21 ∨ i = 22 ∨ i = 23 := by simp at hlt; omega
          all_goals subst h
          all_goals simp only [List.getElem?_toArray, List.getElem?_cons_zero, List.getElem?_cons_succ, Option.some.injEq] at ho
          all_goals subst ho
          all_goals simp [Region.binds] at hun hall
          · subst hun
            have e0 := HS.out.cell (v := .int .i64 X.states) 7 0 rfl rfl
            have e1 := HS.out.cell (v := .slice ax1 X.moves.length cx1) 7 1 rfl rfl
            have e2 := HS.out.cell (v := .slice ax2 X.firsts.length cx2) 7 2 rfl rfl
            have e3 := HS.out.cell (v := .slice ax3 X.ends.length cx3) 7 3 rfl rfl
            go_simp
            exact hK _ _ ⟨true, l1, l2, l3, l4, l5, l6, l7, l8, l9, l10, l11, l12, l13, l14, l15, l16, l17, l18, l19, l20, l21, l22, l23, at1, at2, at3, ct1, ct2, ct3, rfl, (by simp only [↓reduceIte, List.setIfInBounds_toArray, List.set_cons_zero, List.set_cons_succ, Array.getD_eq_getD_getElem?, List.getElem?_toArray, List.getElem?_cons_zero, List.getElem?_cons_succ, Option.getD_some]), HS.out⟩
          · obtain rfl := hall
            subst hun
            go_simp
            go_at_call 40
            refine (implNfaValid_any X _ _ (nfaR_rows HS.out 4 5 6 rfl rfl rfl xs0 xs1) _ HhokX.out).mono ?_
            rintro e u1 ⟨rfl, hb⟩
            have hS2 := HS.out.call hb
            have HhS2 := Lib.hid hS2; clear hS2
            go_simp
            exact hK _ _ ⟨true, true, l2, l3, l4, l5, l6, l7, l8, l9, l10, l11, l12, l13, l14, l15, l16, l17, l18, l19, l20, l21, l22, l23, at1, at2, at3, ct1, ct2, ct3, rfl, (by simp only [↓reduceIte, List.setIfInBounds_toArray, List.set_cons_zero, List.set_cons_succ, Array.getD_eq_getD_getElem?, List.getElem?_toArray, List.getElem?_cons_zero, List.getElem?_cons_succ, Option.getD_some]), HhS2.out⟩
          · obtain rfl := hall
            subst hun
            go_simp
            exact hK _ _ ⟨l0, true, true, l3, l4, l5, l6, l7, l8, l9, l10, l11, l12, l13, l14, l15, l16, l17, l18, l19, l20, l21, l22, l23, at1, at2, at3, ct1, ct2, ct3, rfl, (by simp only [↓reduceIte, List.setIfInBounds_toArray, List.set_cons_zero, List.set_cons_succ, Array.getD_eq_getD_getElem?, List.getElem?_toArray, List.getElem?_cons_zero, List.getElem?_cons_succ, Option.getD_some]), HS.out⟩
          · obtain rfl := hall
            subst hun
            have e0 := HS.out.cell (v := .int .i64 X.states) 7 0 rfl rfl
            have e1 := HS.out.cell (v := .slice ax1 X.moves.length cx1) 7 1 rfl rfl
            have e2 := HS.out.cell (v := .slice ax2 X.firsts.length cx2) 7 2 rfl rfl
            have e3 := HS.out.cell (v := .slice ax3 X.ends.length cx3) 7 3 rfl rfl
            go_simp
            exact hK _ _ ⟨l0, l1, true, true, l4, l5, l6, l7, l8, l9, l10, l11, l12, l13, l14, l15, l16, l17, l18, l19, l20, l21, l22, l23, at1, at2, at3, ct1, ct2, ct3, rfl, (by simp only [↓reduceIte, List.setIfInBounds_toArray, List.set_cons_zero, List.set_cons_succ, Array.getD_eq_getD_getElem?, List.getElem?_toArray, List.getElem?_cons_zero, List.getElem?_cons_succ, Option.getD_some]), HS.out⟩
          · obtain ⟨rfl, rfl⟩ := hall
            subst hun
            go_simp
            go_at_call 54
            refine (HTT.out _ (nfaR_rows HS.out 4 5 6 rfl rfl rfl xs0 xs1)).mono ?_
            rintro e u1 ⟨y1, d1, y2, d2, y3, d3, rfl, hb⟩
            have hS2 := (HS.out.cat hb).pick [0, 1, 2, 3, 4, 5, 6, 7, 11, 12, 13] (by decide)
            have HhS2 := Lib.hid hS2; clear hS2
            go_simp
            exact hK _ _ ⟨l0, l1, true, true, true, l5, l6, l7, l8, l9, l10, l11, l12, l13, l14, l15, l16, l17, l18, l19, l20, l21, l22, l23, y1, y2, y3, d1, d2, d3, rfl, (by simp only [↓reduceIte, List.setIfInBounds_toArray, List.set_cons_zero, List.set_cons_succ, Array.getD_eq_getD_getElem?, List.getElem?_toArray, List.getElem?_cons_zero, List.getElem?_cons_succ, Option.getD_some]), HhS2.out⟩
          · obtain rfl := hall
            subst hun
            have e0 := HS.out.cell (v := .int .i64 n.states) 3 0 rfl rfl
            have e1 := HS.out.cell (v := .slice a1 n.moves.length c1) 3 1 rfl rfl
            have e2 := HS.out.cell (v := .slice a2 n.firsts.length c2) 3 2 rfl rfl
            have e3 := HS.out.cell (v := .slice a3 n.ends.length c3) 3 3 rfl rfl
            go_simp
            exact hK _ _ ⟨l0, l1, true, l3, l4, true, l6, l7, l8, l9, l10, l11, l12, l13, l14, l15, l16, l17, l18, l19, l20, l21, l22, l23, at1, at2, at3, ct1, ct2, ct3, rfl, (by simp only [↓reduceIte, List.setIfInBounds_toArray, List.set_cons_zero, List.set_cons_succ, Array.getD_eq_getD_getElem?, List.getElem?_toArray, List.getElem?_cons_zero, List.getElem?_cons_succ, Option.getD_some]), HS.out⟩
          · obtain ⟨rfl, rfl, -, rfl⟩ := hall
            subst hun
            go_simp
            go_at_call 36
            refine (sameNfa_any n _ _ _ (nfaR_rows HS.out 8 9 10 rfl rfl rfl hs0' hs1') (nfaR_rows HS.out 0 1 2 rfl rfl rfl hs0' hs1')).mono ?_
            rintro e u1 ⟨rfl, hb⟩
            have hS2 := HS.out.call hb
            have HhS2 := Lib.hid hS2; clear hS2
            go_simp
            exact hK _ _ ⟨l0, l1, true, l3, true, true, true, l7, l8, l9, l10, l11, l12, l13, l14, l15, l16, l17, l18, l19, l20, l21, l22, l23, at1, at2, at3, ct1, ct2, ct3, rfl, (by simp only [↓reduceIte, List.setIfInBounds_toArray, List.set_cons_zero, List.set_cons_succ, Array.getD_eq_getD_getElem?, List.getElem?_toArray, List.getElem?_cons_zero, List.getElem?_cons_succ, Option.getD_some]), HhS2.out⟩
          · obtain ⟨rfl, rfl⟩ := hall
            subst hun
            go_simp
            exact hK _ _ ⟨l0, l1, true, l3, l4, l5, true, true, l8, l9, l10, l11, l12, l13, l14, l15, l16, l17, l18, l19, l20, l21, l22, l23, at1, at2, at3, ct1, ct2, ct3, rfl, (by simp only [↓reduceIte, List.setIfInBounds_toArray, List.set_cons_zero, List.set_cons_succ, Array.getD_eq_getD_getElem?, List.getElem?_toArray, List.getElem?_cons_zero, List.getElem?_cons_succ, Option.getD_some]), HS.out⟩
          · obtain ⟨rfl, rfl⟩ := hall
            subst hun
            go_simp
            exact hK _ _ ⟨l0, l1, l2, l3, l4, l5, true, true, true, l9, l10, l11, l12, l13, l14, l15, l16, l17, l18, l19, l20, l21, l22, l23, at1, at2, at3, ct1, ct2, ct3, rfl, (by simp only [↓reduceIte, List.setIfInBounds_toArray, List.set_cons_zero, List.set_cons_succ, Array.getD_eq_getD_getElem?, List.getElem?_toArray, List.getElem?_cons_zero, List.getElem?_cons_succ, Option.getD_some]), HS.out⟩
          · obtain rfl := hall
            subst hun
            go_simp
            exact hK _ _ ⟨l0, l1, l2, l3, l4, l5, l6, l7, true, true, l10, l11, l12, l13, l14, l15, l16, l17, l18, l19, l20, l21, l22, l23, at1, at2, at3, ct1, ct2, ct3, rfl, (by simp only [↓reduceIte, List.setIfInBounds_toArray, List.set_cons_zero, List.set_cons_succ, Array.getD_eq_getD_getElem?, List.getElem?_toArray, List.getElem?_cons_zero, List.getElem?_cons_succ, Option.getD_some]), HS.out⟩
          · obtain ⟨rfl, rfl⟩ := hall
            subst hun
            go_simp
            go_at_call 39
            refine (specWordValid_any l _ Hht.out (by omega) _ Hhwd.out).mono ?_
            rintro e u1 ⟨rfl, rfl⟩
            go_simp
            exact hK _ _ ⟨l0, l1, l2, l3, l4, l5, l6, l7, true, true, true, l11, l12, l13, l14, l15, l16, l17, l18, l19, l20, l21, l22, l23, at1, at2, at3, ct1, ct2, ct3, rfl, (by simp only [↓reduceIte, List.setIfInBounds_toArray, List.set_cons_zero, List.set_cons_succ, Array.getD_eq_getD_getElem?, List.getElem?_toArray, List.getElem?_cons_zero, List.getElem?_cons_succ, Option.getD_some]), HS.out⟩
          · obtain ⟨rfl, rfl⟩ := hall
            subst hun
            go_simp
            exact hK _ _ ⟨l0, l1, l2, l3, l4, l5, l6, l7, true, l9, true, true, l12, l13, l14, l15, l16, l17, l18, l19, l20, l21, l22, l23, at1, at2, at3, ct1, ct2, ct3, rfl, (by simp only [↓reduceIte, List.setIfInBounds_toArray, List.set_cons_zero, List.set_cons_succ, Array.getD_eq_getD_getElem?, List.getElem?_toArray, List.getElem?_cons_zero, List.getElem?_cons_succ, Option.getD_some]), HS.out⟩
          · obtain ⟨rfl, rfl, rfl⟩ := hall
            subst hun
            go_simp
            exact hK _ _ ⟨l0, l1, l2, l3, l4, l5, l6, l7, true, l9, true, true, true, l13, l14, l15, l16, l17, l18, l19, l20, l21, l22, l23, at1, at2, at3, ct1, ct2, ct3, rfl, (by simp only [↓reduceIte, List.setIfInBounds_toArray, List.set_cons_zero, List.set_cons_succ, Array.getD_eq_getD_getElem?, List.getElem?_toArray, List.getElem?_cons_zero, List.getElem?_cons_succ, Option.getD_some]), HS.out⟩
          · obtain rfl := hall
            subst hun
            go_simp
            exact hK _ _ ⟨l0, l1, l2, l3, l4, l5, l6, l7, l8, l9, l10, l11, true, true, l14, l15, l16, l17, l18, l19, l20, l21, l22, l23, at1, at2, at3, ct1, ct2, ct3, rfl, (by simp only [↓reduceIte, List.setIfInBounds_toArray, List.set_cons_zero, List.set_cons_succ, Array.getD_eq_getD_getElem?, List.getElem?_toArray, List.getElem?_cons_zero, List.getElem?_cons_succ, Option.getD_some]), HS.out⟩
          · obtain rfl := hall
            subst hun
            go_simp
            exact hK _ _ ⟨l0, l1, l2, l3, l4, l5, l6, l7, l8, l9, l10, l11, true, l13, true, l15, l16, l17, l18, l19, l20, l21, l22, l23, at1, at2, at3, ct1, ct2, ct3, rfl, (by simp only [↓reduceIte, List.setIfInBounds_toArray, List.set_cons_zero, List.set_cons_succ, Array.getD_eq_getD_getElem?, List.getElem?_toArray, List.getElem?_cons_zero, List.getElem?_cons_succ, Option.getD_some]), HS.out⟩
          · obtain ⟨rfl, rfl⟩ := hall
            subst hun
            go_simp
            exact hK _ _ ⟨l0, l1, l2, l3, l4, l5, l6, l7, l8, l9, l10, l11, true, l13, true, true, l16, l17, l18, l19, l20, l21, l22, l23, at1, at2, at3, ct1, ct2, ct3, rfl, (by simp only [↓reduceIte, List.setIfInBounds_toArray, List.set_cons_zero, List.set_cons_succ, Array.getD_eq_getD_getElem?, List.getElem?_toArray, List.getElem?_cons_zero, List.getElem?_cons_succ, Option.getD_some]), HS.out⟩
          · obtain ⟨rfl, rfl, rfl⟩ := hall
            subst hun
            go_simp
            exact hK _ _ ⟨l0, l1, l2, l3, l4, l5, l6, l7, l8, l9, l10, l11, true, true, l14, true, true, l17, l18, l19, l20, l21, l22, l23, at1, at2, at3, ct1, ct2, ct3, rfl, (by simp only [↓reduceIte, List.setIfInBounds_toArray, List.set_cons_zero, List.set_cons_succ, Array.getD_eq_getD_getElem?, List.getElem?_toArray, List.getElem?_cons_zero, List.getElem?_cons_succ, Option.getD_some]), HS.out⟩
          · obtain rfl := hall
            subst hun
            go_simp
            exact hK _ _ ⟨l0, l1, l2, l3, l4, l5, l6, l7, l8, l9, l10, l11, true, l13, l14, l15, l16, true, l18, l19, l20, l21, l22, l23, at1, at2, at3, ct1, ct2, ct3, rfl, (by simp only [↓reduceIte, List.setIfInBounds_toArray, List.set_cons_zero, List.set_cons_succ, Array.getD_eq_getD_getElem?, List.getElem?_toArray, List.getElem?_cons_zero, List.getElem?_cons_succ, Option.getD_some]), HS.out⟩
          · obtain rfl := hall
            subst hun
            go_simp
            exact hK _ _ ⟨l0, l1, l2, l3, l4, l5, l6, l7, l8, l9, l10, l11, true, l13, l14, l15, l16, l17, true, l19, l20, l21, l22, l23, at1, at2, at3, ct1, ct2, ct3, rfl, (by simp only [↓reduceIte, List.setIfInBounds_toArray, List.set_cons_zero, List.set_cons_succ, Array.getD_eq_getD_getElem?, List.getElem?_toArray, List.getElem?_cons_zero, List.getElem?_cons_succ, Option.getD_some]), HS.out⟩
          · obtain ⟨rfl, rfl, rfl, rfl⟩ := hall
            subst hun
            go_simp
            exact hK _ _ ⟨l0, l1, l2, l3, l4, l5, l6, l7, l8, l9, l10, l11, true, l13, l14, l15, true, true, true, true, l20, l21, l22, l23, at1, at2, at3, ct1, ct2, ct3, rfl, (by simp only [↓reduceIte, List.setIfInBounds_toArray, List.set_cons_zero, List.set_cons_succ, Array.getD_eq_getD_getElem?, List.getElem?_toArray, List.getElem?_cons_zero, List.getElem?_cons_succ, Option.getD_some]), HS.out⟩
          · obtain ⟨rfl, rfl, rfl⟩ := hall
            subst hun
            go_simp
            exact hK _ _ ⟨l0, l1, l2, l3, l4, l5, l6, l7, l8, l9, l10, l11, true, l13, l14, l15, true, l17, l18, true, true, l21, l22, l23, at1, at2, at3, ct1, ct2, ct3, rfl, (by simp only [↓reduceIte, List.setIfInBounds_toArray, List.set_cons_zero, List.set_cons_succ, Array.getD_eq_getD_getElem?, List.getElem?_toArray, List.getElem?_cons_zero, List.getElem?_cons_succ, Option.getD_some]), HS.out⟩
          · obtain ⟨rfl, rfl, rfl⟩ := hall
            subst hun
            go_simp
            exact hK _ _ ⟨l0, l1, l2, l3, l4, l5, l6, l7, true, l9, l10, l11, true, l13, l14, l15, l16, l17, l18, l19, true, true, l22, l23, at1, at2, at3, ct1, ct2, ct3, rfl, (by simp only [↓reduceIte, List.setIfInBounds_toArray, List.set_cons_zero, List.set_cons_succ, Array.getD_eq_getD_getElem?, List.getElem?_toArray, List.getElem?_cons_zero, List.getElem?_cons_succ, Option.getD_some]), HS.out⟩
          · obtain ⟨rfl, rfl⟩ := hall
            subst hun
            go_simp
            exact hK _ _ ⟨l0, l1, l2, l3, l4, l5, l6, l7, true, l9, l10, l11, l12, l13, l14, l15, l16, l17, l18, l19, l20, true, true, l23, at1, at2, at3, ct1, ct2, ct3, rfl, (by simp only [↓reduceIte, List.setIfInBounds_toArray, List.set_cons_zero, List.set_cons_succ, Array.getD_eq_getD_getElem?, List.getElem?_toArray, List.getElem?_cons_zero, List.getElem?_cons_succ, Option.getD_some]), HS.out⟩
          · obtain ⟨rfl, rfl, rfl, rfl, rfl, rfl, rfl, rfl, rfl, rfl, rfl, rfl, rfl, rfl, rfl, rfl, rfl, rfl, rfl, rfl, rfl, -, rfl, rfl, -⟩ := hall
            subst hun
            go_simp
            exact hK _ _ ⟨true, true, true, true, true, true, true, true, true, true, true, true, true, true, true, true, true, true, true, true, true, true, true, true, at1, at2, at3, ct1, ct2, ct3, rfl, (by simp only [↓reduceIte, List.setIfInBounds_toArray, List.set_cons_zero, List.set_cons_succ]), HS.out⟩
        · rintro listed a w' ⟨l0, l1, l2, l3, l4, l5, l6, l7, l8, l9, l10, l11, l12, l13, l14, l15, l16, l17, l18, l19, l20, l21, l22, l23, at1, at2, at3, ct1, ct2, ct3, rfl, rfl, hS⟩ hr
          have hall := ready_nilM (by kernel_rfl) rfl hr
          obtain rfl : l0 = true := by simpa using hall 0 (by simp)
          obtain rfl : l1 = true := by simpa using hall 1 (by simp)
          obtain rfl : l2 = true := by simpa using hall 2 (by simp)
          obtain rfl : l3 = true := by simpa using hall 3 (by simp)
          obtain rfl : l4 = true := by simpa using hall 4 (by simp)
          obtain rfl : l5 = true := by simpa using hall 5 (by simp)
          obtain rfl : l6 = true := by simpa using hall 6 (by simp)
          obtain rfl : l7 = true := by simpa using hall 7 (by simp)
          obtain rfl : l8 = true := by simpa using hall 8 (by simp)
          obtain rfl : l9 = true := by simpa using hall 9 (by simp)
          obtain rfl : l10 = true := by simpa using hall 10 (by simp)
          obtain rfl : l11 = true := by simpa using hall 11 (by simp)
          obtain rfl : l12 = true := by simpa using hall 12 (by simp)
          obtain rfl : l13 = true := by simpa using hall 13 (by simp)
          obtain rfl : l14 = true := by simpa using hall 14 (by simp)
          obtain rfl : l15 = true := by simpa using hall 15 (by simp)
          obtain rfl : l16 = true := by simpa using hall 16 (by simp)
          obtain rfl : l17 = true := by simpa using hall 17 (by simp)
          obtain rfl : l18 = true := by simpa using hall 18 (by simp)
          obtain rfl : l19 = true := by simpa using hall 19 (by simp)
          obtain rfl : l20 = true := by simpa using hall 20 (by simp)
          obtain rfl : l21 = true := by simpa using hall 21 (by simp)
          obtain rfl : l22 = true := by simpa using hall 22 (by simp)
          obtain rfl : l23 = true := by simpa using hall 23 (by simp)
          clear hall hr 
          simp only [↓reduceIte] at hS ⊢
          simp only [List.setIfInBounds_toArray, List.set_cons_zero, List.set_cons_succ]
          have HSf := Lib.hid hS
          clear hS
          go_wp2
          go_ret
          exact ⟨rfl, HSf.out.bel⟩
        · refine ⟨false, false, false, false, false, false, false, false, false, false, false, false, false, false, false, false, false, false, false, false, false, false, false, false, none, none, none, 0, 0, 0, rfl, (by simp only [↓reduceIte, Bool.false_eq_true, List.setIfInBounds_toArray, List.set_cons_zero, List.set_cons_succ, Array.getD_eq_getD_getElem?, List.getElem?_toArray, List.getElem?_cons_zero, List.getElem?_cons_succ, Option.getD_some]), ?_⟩
          exact HS7.out.drew.pick [0, 1, 2, 3, 4, 5, 6, 7, 8, 9, 10] (by decide)
      · obtain ⟨q, hq2⟩ : ∃ q, accT n l = q := ⟨_, rfl⟩
        have hq1 : accT X l.reverse = q := by rw [← hq2]; exact Hhacc.out l hwd
        have htr : isT l.reverse := fun b hb => ht b (List.mem_reverse.1 hb)
        have hrl : l.reverse.length ≤ 1000 := by rw [List.length_reverse]; omega
        have Hhwd := Lib.hid hwd; clear hwd
        have Hht := Lib.hid ht; clear ht
        have Hhq1 := Lib.hid hq1; clear hq1
        have Hhq2 := Lib.hid hq2; clear hq2
        have Hhtr := Lib.hid htr; clear htr
        go_wp2
        refine wp_region_any (by kernel_rfl) ?_
        refine wpAny_invA (fun A listed a w' => ∃ (l0 l1 l2 l3 l4 l5 l6 l7 l8 l9 l10 l11 l12 l13 l14 l15 l16 l17 l18 l19 l20 l21 l22 l23 : Bool) (at1 : Option Addr) (at2 : Option Addr) (at3 : Option Addr) (ct1 : Nat) (ct2 : Nat) (ct3 : Nat), listed = #[l0, l1, l2, l3, l4, l5, l6, l7, l8, l9, l10, l11, l12, l13, l14, l15, l16, l17, l18, l19, l20, l21, l22, l23] ∧
            a = ⟨((((((((((((((((((((((((A.tmps.setIfInBounds 36 (if l0 = true then .agg #[.int .i64 X.states, .slice ax1 X.moves.length cx1, .slice ax2 X.firsts.length cx2, .slice ax3 X.ends.length cx3] else A.tmps.getD 36 undef)).setIfInBounds 37 (if l1 = true then .bool true else A.tmps.getD 37 undef)).setIfInBounds 38 (if l2 = true then .bool true else A.tmps.getD 38 undef)).setIfInBounds 39 (if l3 = true then .agg #[.int .i64 X.states, .slice ax1 X.moves.length cx1, .slice ax2 X.firsts.length cx2, .slice ax3 X.ends.length cx3] else A.tmps.getD 39 undef)).setIfInBounds 40 (if l4 = true then .agg #[.int .i64 n.states, .slice at1 n.moves.length ct1, .slice at2 n.firsts.length ct2, .slice at3 n.ends.length ct3] else A.tmps.getD 40 undef)).setIfInBounds 41 (if l5 = true then .agg #[.int .i64 n.states, .slice a1 n.moves.length c1, .slice a2 n.firsts.length c2, .slice a3 n.ends.length c3] else A.tmps.getD 41 undef)).setIfInBounds 42 (if l6 = true then .bool true else A.tmps.getD 42 undef)).setIfInBounds 43 (if l7 = true then .bool true else A.tmps.getD 43 undef)).setIfInBounds 44 (if l8 = true then .bool true else A.tmps.getD 44 undef)).setIfInBounds 45 (if l9 = true then .string (txB l) else A.tmps.getD 45 undef)).setIfInBounds 46 (if l10 = true then .bool true else A.tmps.getD 46 undef)).setIfInBounds 47 (if l11 = true then .bool false else A.tmps.getD 47 undef)).setIfInBounds 48 (if l12 = true then .bool false else A.tmps.getD 48 undef)).setIfInBounds 49 (if l13 = true then .agg #[.int .i64 X.states, .slice ax1 X.moves.length cx1, .slice ax2 X.firsts.length cx2, .slice ax3 X.ends.length cx3] else A.tmps.getD 49 undef)).setIfInBounds 50 (if l14 = true then .string (txB l) else A.tmps.getD 50 undef)).setIfInBounds 51 (if l15 = true then .string (txB l.reverse) else A.tmps.getD 51 undef)).setIfInBounds 52 (if l16 = true then .bool q else A.tmps.getD 52 undef)).setIfInBounds 53 (if l17 = true then .agg #[.int .i64 n.states, .slice a1 n.moves.length c1, .slice a2 n.firsts.length c2, .slice a3 n.ends.length c3] else A.tmps.getD 53 undef)).setIfInBounds 54 (if l18 = true then .string (txB l) else A.tmps.getD 54 undef)).setIfInBounds 55 (if l19 = true then .bool q else A.tmps.getD 55 undef)).setIfInBounds 56 (if l20 = true then .bool true else A.tmps.getD 56 undef)).setIfInBounds 57 (if l21 = true then .bool true else A.tmps.getD 57 undef)).setIfInBounds 58 (if l22 = true then .bool true else A.tmps.getD 58 undef)).setIfInBounds 4 (.bool l23)), A.defers⟩ ∧
            St w w' [Ent.row 53 3 (.slice a1 n.moves.length c1) n.moves.length (n.moves.flatMap moveCells), Ent.row 3 1 (.slice a2 n.firsts.length c2) n.firsts.length (intCells n.firsts), Ent.row 3 1 (.slice a3 n.ends.length c3) n.ends.length (intCells n.ends), Ent.box w1.heap.size #[.int .i64 n.states, .slice a1 n.moves.length c1, .slice a2 n.firsts.length c2, .slice a3 n.ends.length c3] 46, Ent.row 53 3 (.slice ax1 X.moves.length cx1) X.moves.length (X.moves.flatMap moveCells), Ent.row 3 1 (.slice ax2 X.firsts.length cx2) X.firsts.length (intCells X.firsts), Ent.row 3 1 (.slice ax3 X.ends.length cx3) X.ends.length (intCells X.ends), Ent.box w2.heap.size #[.int .i64 X.states, .slice ax1 X.moves.length cx1, .slice ax2 X.firsts.length cx2, .slice ax3 X.ends.length cx3] 46, (if l4 = true then Ent.row 53 3 (.slice at1 n.moves.length ct1) n.moves.length (n.moves.flatMap moveCells) else Ent.nil), (if l4 = true then Ent.row 3 1 (.slice at2 n.firsts.length ct2) n.firsts.length (intCells n.firsts) else Ent.nil), (if l4 = true then Ent.row 3 1 (.slice at3 n.ends.length ct3) n.ends.length (intCells n.ends) else Ent.nil)]) ?_ ?_ ?_
        · rintro listed a w' ⟨l0, l1, l2, l3, l4, l5, l6, l7, l8, l9, l10, l11, l12, l13, l14, l15, l16, l17, l18, l19, l20, l21, l22, l23, at1, at2, at3, ct1, ct2, ct3, rfl, rfl, hS⟩ i hi
          obtain ⟨hun, o, ho, hall⟩ := mem_ready.1 hi
          have hlt := (Array.getElem?_eq_some_iff.1 ho).1
          refine wpOp_step ho (fun K hK => ?_)
          clear hi
          have HS := Lib.hid hS
          clear hS
          simp only [List.setIfInBounds_toArray, List.set_cons_zero, List.set_cons_succ, Array.getD_eq_getD_getElem?, List.getElem?_toArray, List.getElem?_cons_zero, List.getElem?_cons_succ, Option.getD_some]
          obtain h | h | h | h | h | h | h | h | h | h | h | h | h | h | h | h | h | h | h | h | h | h | h | h : i = 0 ∨ i = 1 ∨ i = 2 ∨ i = 3 ∨ i = 4 ∨ i = 5 ∨ i = 6 ∨ i = 7 ∨ i = 8 ∨ i = 9 ∨ i = 10 ∨ i = 11 ∨ i = 12 ∨ i = 13 ∨ i = 14 ∨ i = 15 ∨ i = 16 ∨ i = 17 ∨ i = 18 ∨ i = 19 ∨ i = 20 ∨ i = 21 ∨ i = 22 ∨ i = 23 := by simp at hlt; omega
          all_goals subst h
          all_goals simp only [List.getElem?_toArray, List.getElem?_cons_zero, List.getElem?_cons_succ, Option.some.injEq] at ho
          all_goals subst ho
          all_goals simp [Region.binds] at hun hall
          · subst hun
            have e0 := HS.out.cell (v := .int .i64 X.states) 7 0 rfl rfl
            have e1 := HS.out.cell (v := .slice ax1 X.moves.length cx1) 7 1 rfl rfl
            have e2 := HS.out.cell (v := .slice ax2 X.firsts.length cx2) 7 2 rfl rfl
            have e3 := HS.out.cell (v := .slice ax3 X.ends.length cx3) 7 3 rfl rfl
            go_simp
            exact hK _ _ ⟨true, l1, l2, l3, l4, l5, l6, l7, l8, l9, l10, l11, l12, l13, l14, l15, l16, l17, l18, l19, l20, l21, l22, l23, at1, at2, at3, ct1, ct2, ct3, rfl, (by simp only [↓reduceIte, List.setIfInBounds_toArray, List.set_cons_zero, List.set_cons_succ, Array.getD_eq_getD_getElem?, List.getElem?_toArray, List.getElem?_cons_zero, List.getElem?_cons_succ, Option.getD_some]), HS.out⟩
          · obtain rfl := hall
            subst hun
            go_simp
            go_at_call 40
            refine (implNfaValid_any X _ _ (nfaR_rows HS.out 4 5 6 rfl rfl rfl xs0 xs1) _ HhokX.out).mono ?_
            rintro e u1 ⟨rfl, hb⟩
            have hS2 := HS.out.call hb
            have HhS2 := Lib.hid hS2; clear hS2
            go_simp
            exact hK _ _ ⟨true, true, l2, l3, l4, l5, l6, l7, l8, l9, l10, l11, l12, l13, l14, l15, l16, l17, l18, l19, l20, l21, l22, l23, at1, at2, at3, ct1, ct2, ct3, rfl, (by simp only [↓reduceIte, List.setIfInBounds_toArray, List.set_cons_zero, List.set_cons_succ, Array.getD_eq_getD_getElem?, List.getElem?_toArray, List.getElem?_cons_zero, List.getElem?_cons_succ, Option.getD_some]), HhS2.out⟩
          · obtain rfl := hall
            subst hun
            go_simp
            exact hK _ _ ⟨l0, true, true, l3, l4, l5, l6, l7, l8, l9, l10, l11, l12, l13, l14, l15, l16, l17, l18, l19, l20, l21, l22, l23, at1, at2, at3, ct1, ct2, ct3, rfl, (by simp only [↓reduceIte, List.setIfInBounds_toArray, List.set_cons_zero, List.set_cons_succ, Array.getD_eq_getD_getElem?, List.getElem?_toArray, List.getElem?_cons_zero, List.getElem?_cons_succ, Option.getD_some]), HS.out⟩
          · obtain rfl := hall
            subst hun
            have e0 := HS.out.cell (v := .int .i64 X.states) 7 0 rfl rfl
            have e1 := HS.out.cell (v := .slice ax1 X.moves.length cx1) 7 1 rfl rfl
            have e2 := HS.out.cell (v := .slice ax2 X.firsts.length cx2) 7 2 rfl rfl
            have e3 := HS.out.cell (v := .slice ax3 X.ends.length cx3) 7 3 rfl rfl
            go_simp
            exact hK _ _ ⟨l0, l1, true, true, l4, l5, l6, l7, l8, l9, l10, l11, l12, l13, l14, l15, l16, l17, l18, l19, l20, l21, l22, l23, at1, at2, at3, ct1, ct2, ct3, rfl, (by simp only [↓reduceIte, List.setIfInBounds_toArray, List.set_cons_zero, List.set_cons_succ, Array.getD_eq_getD_getElem?, List.getElem?_toArray, List.getElem?_cons_zero, List.getElem?_cons_succ, Option.getD_some]), HS.out⟩
          · obtain ⟨rfl, rfl⟩ := hall
            subst hun
            go_simp
            go_at_call 54
            refine (HTT.out _ (nfaR_rows HS.out 4 5 6 rfl rfl rfl xs0 xs1)).mono ?_
            rintro e u1 ⟨y1, d1, y2, d2, y3, d3, rfl, hb⟩
            have hS2 := (HS.out.cat hb).pick [0, 1, 2, 3, 4, 5, 6, 7, 11, 12, 13] (by decide)
            have HhS2 := Lib.hid hS2; clear hS2
            go_simp
            exact hK _ _ ⟨l0, l1, true, true, true, l5, l6, l7, l8, l9, l10, l11, l12, l13, l14, l15, l16, l17, l18, l19, l20, l21, l22, l23, y1, y2, y3, d1, d2, d3, rfl, (by simp only [↓reduceIte, List.setIfInBounds_toArray, List.set_cons_zero, List.set_cons_succ, Array.getD_eq_getD_getElem?, List.getElem?_toArray, List.getElem?_cons_zero, List.getElem?_cons_succ, Option.getD_some]), HhS2.out⟩
          · obtain rfl := hall
            subst hun
            have e0 := HS.out.cell (v := .int .i64 n.states) 3 0 rfl rfl
            have e1 := HS.out.cell (v := .slice a1 n.moves.length c1) 3 1 rfl rfl
            have e2 := HS.out.cell (v := .slice a2 n.firsts.length c2) 3 2 rfl rfl
            have e3 := HS.out.cell (v := .slice a3 n.ends.length c3) 3 3 rfl rfl
            go_simp
            exact hK _ _ ⟨l0, l1, true, l3, l4, true, l6, l7, l8, l9, l10, l11, l12, l13, l14, l15, l16, l17, l18, l19, l20, l21, l22, l23, at1, at2, at3, ct1, ct2, ct3, rfl, (by simp only [↓reduceIte, List.setIfInBounds_toArray, List.set_cons_zero, List.set_cons_succ, Array.getD_eq_getD_getElem?, List.getElem?_toArray, List.getElem?_cons_zero, List.getElem?_cons_succ, Option.getD_some]), HS.out⟩
          · obtain ⟨rfl, rfl, -, rfl⟩ := hall
            subst hun
            go_simp
            go_at_call 36
            refine (sameNfa_any n _ _ _ (nfaR_rows HS.out 8 9 10 rfl rfl rfl hs0' hs1') (nfaR_rows HS.out 0 1 2 rfl rfl rfl hs0' hs1')).mono ?_
            rintro e u1 ⟨rfl, hb⟩
            have hS2 := HS.out.call hb
            have HhS2 := Lib.hid hS2; clear hS2
            go_simp
            exact hK _ _ ⟨l0, l1, true, l3, true, true, true, l7, l8, l9, l10, l11, l12, l13, l14, l15, l16, l17, l18, l19, l20, l21, l22, l23, at1, at2, at3, ct1, ct2, ct3, rfl, (by simp only [↓reduceIte, List.setIfInBounds_toArray, List.set_cons_zero, List.set_cons_succ, Array.getD_eq_getD_getElem?, List.getElem?_toArray, List.getElem?_cons_zero, List.getElem?_cons_succ, Option.getD_some]), HhS2.out⟩
          · obtain ⟨rfl, rfl⟩ := hall
            subst hun
            go_simp
            exact hK _ _ ⟨l0, l1, true, l3, l4, l5, true, true, l8, l9, l10, l11, l12, l13, l14, l15, l16, l17, l18, l19, l20, l21, l22, l23, at1, at2, at3, ct1, ct2, ct3, rfl, (by simp only [↓reduceIte, List.setIfInBounds_toArray, List.set_cons_zero, List.set_cons_succ, Array.getD_eq_getD_getElem?, List.getElem?_toArray, List.getElem?_cons_zero, List.getElem?_cons_succ, Option.getD_some]), HS.out⟩
          · obtain ⟨rfl, rfl⟩ := hall
            subst hun
            go_simp
            exact hK _ _ ⟨l0, l1, l2, l3, l4, l5, true, true, true, l9, l10, l11, l12, l13, l14, l15, l16, l17, l18, l19, l20, l21, l22, l23, at1, at2, at3, ct1, ct2, ct3, rfl, (by simp only [↓reduceIte, List.setIfInBounds_toArray, List.set_cons_zero, List.set_cons_succ, Array.getD_eq_getD_getElem?, List.getElem?_toArray, List.getElem?_cons_zero, List.getElem?_cons_succ, Option.getD_some]), HS.out⟩
          · obtain rfl := hall
            subst hun
            go_simp
            exact hK _ _ ⟨l0, l1, l2, l3, l4, l5, l6, l7, true, true, l10, l11, l12, l13, l14, l15, l16, l17, l18, l19, l20, l21, l22, l23, at1, at2, at3, ct1, ct2, ct3, rfl, (by simp only [↓reduceIte, List.setIfInBounds_toArray, List.set_cons_zero, List.set_cons_succ, Array.getD_eq_getD_getElem?, List.getElem?_toArray, List.getElem?_cons_zero, List.getElem?_cons_succ, Option.getD_some]), HS.out⟩
          · obtain ⟨rfl, rfl⟩ := hall
            subst hun
            go_simp
            go_at_call 39
            refine (specWordValid_any l _ Hht.out (by omega) _ Hhwd.out).mono ?_
            rintro e u1 ⟨rfl, rfl⟩
            go_simp
            exact hK _ _ ⟨l0, l1, l2, l3, l4, l5, l6, l7, true, true, true, l11, l12, l13, l14, l15, l16, l17, l18, l19, l20, l21, l22, l23, at1, at2, at3, ct1, ct2, ct3, rfl, (by simp only [↓reduceIte, List.setIfInBounds_toArray, List.set_cons_zero, List.set_cons_succ, Array.getD_eq_getD_getElem?, List.getElem?_toArray, List.getElem?_cons_zero, List.getElem?_cons_succ, Option.getD_some]), HS.out⟩
          · obtain ⟨rfl, rfl⟩ := hall
            subst hun
            go_simp
            exact hK _ _ ⟨l0, l1, l2, l3, l4, l5, l6, l7, true, l9, true, true, l12, l13, l14, l15, l16, l17, l18, l19, l20, l21, l22, l23, at1, at2, at3, ct1, ct2, ct3, rfl, (by simp only [↓reduceIte, List.setIfInBounds_toArray, List.set_cons_zero, List.set_cons_succ, Array.getD_eq_getD_getElem?, List.getElem?_toArray, List.getElem?_cons_zero, List.getElem?_cons_succ, Option.getD_some]), HS.out⟩
          · obtain ⟨rfl, rfl, rfl⟩ := hall
            subst hun
            go_simp
            exact hK _ _ ⟨l0, l1, l2, l3, l4, l5, l6, l7, true, l9, true, true, true, l13, l14, l15, l16, l17, l18, l19, l20, l21, l22, l23, at1, at2, at3, ct1, ct2, ct3, rfl, (by simp only [↓reduceIte, List.setIfInBounds_toArray, List.set_cons_zero, List.set_cons_succ, Array.getD_eq_getD_getElem?, List.getElem?_toArray, List.getElem?_cons_zero, List.getElem?_cons_succ, Option.getD_some]), HS.out⟩
          · obtain rfl := hall
            subst hun
            have e0 := HS.out.cell (v := .int .i64 X.states) 7 0 rfl rfl
            have e1 := HS.out.cell (v := .slice ax1 X.moves.length cx1) 7 1 rfl rfl
            have e2 := HS.out.cell (v := .slice ax2 X.firsts.length cx2) 7 2 rfl rfl
            have e3 := HS.out.cell (v := .slice ax3 X.ends.length cx3) 7 3 rfl rfl
            go_simp
            exact hK _ _ ⟨l0, l1, l2, l3, l4, l5, l6, l7, l8, l9, l10, l11, true, true, l14, l15, l16, l17, l18, l19, l20, l21, l22, l23, at1, at2, at3, ct1, ct2, ct3, rfl, (by simp only [↓reduceIte, List.setIfInBounds_toArray, List.set_cons_zero, List.set_cons_succ, Array.getD_eq_getD_getElem?, List.getElem?_toArray, List.getElem?_cons_zero, List.getElem?_cons_succ, Option.getD_some]), HS.out⟩
          · obtain rfl := hall
            subst hun
            go_simp
            exact hK _ _ ⟨l0, l1, l2, l3, l4, l5, l6, l7, l8, l9, l10, l11, true, l13, true, l15, l16, l17, l18, l19, l20, l21, l22, l23, at1, at2, at3, ct1, ct2, ct3, rfl, (by simp only [↓reduceIte, List.setIfInBounds_toArray, List.set_cons_zero, List.set_cons_succ, Array.getD_eq_getD_getElem?, List.getElem?_toArray, List.getElem?_cons_zero, List.getElem?_cons_succ, Option.getD_some]), HS.out⟩
          · obtain ⟨rfl, rfl⟩ := hall
            subst hun
            go_simp
            go_at_call 57
            refine (turnWord_any l _ Hht.out Hhwd.out).mono ?_
            rintro e u1 ⟨rfl, rfl⟩
            go_simp
            exact hK _ _ ⟨l0, l1, l2, l3, l4, l5, l6, l7, l8, l9, l10, l11, true, l13, true, true, l16, l17, l18, l19, l20, l21, l22, l23, at1, at2, at3, ct1, ct2, ct3, rfl, (by simp only [↓reduceIte, List.setIfInBounds_toArray, List.set_cons_zero, List.set_cons_succ, Array.getD_eq_getD_getElem?, List.getElem?_toArray, List.getElem?_cons_zero, List.getElem?_cons_succ, Option.getD_some]), HS.out⟩
          · obtain ⟨rfl, rfl, rfl⟩ := hall
            subst hun
            go_simp
            go_at_call 38
            refine (nfaAccepts_any X l.reverse _ _ Hhtr.out hrl (nfaR_rows HS.out 4 5 6 rfl rfl rfl xs0 xs1) _ Hhq1.out).mono ?_
            rintro e u1 ⟨rfl, hb⟩
            have hS2 := HS.out.call hb
            have HhS2 := Lib.hid hS2; clear hS2
            go_simp
            exact hK _ _ ⟨l0, l1, l2, l3, l4, l5, l6, l7, l8, l9, l10, l11, true, true, l14, true, true, l17, l18, l19, l20, l21, l22, l23, at1, at2, at3, ct1, ct2, ct3, rfl, (by simp only [↓reduceIte, List.setIfInBounds_toArray, List.set_cons_zero, List.set_cons_succ, Array.getD_eq_getD_getElem?, List.getElem?_toArray, List.getElem?_cons_zero, List.getElem?_cons_succ, Option.getD_some]), HhS2.out⟩
          · obtain rfl := hall
            subst hun
            have e0 := HS.out.cell (v := .int .i64 n.states) 3 0 rfl rfl
            have e1 := HS.out.cell (v := .slice a1 n.moves.length c1) 3 1 rfl rfl
            have e2 := HS.out.cell (v := .slice a2 n.firsts.length c2) 3 2 rfl rfl
            have e3 := HS.out.cell (v := .slice a3 n.ends.length c3) 3 3 rfl rfl
            go_simp
            exact hK _ _ ⟨l0, l1, l2, l3, l4, l5, l6, l7, l8, l9, l10, l11, true, l13, l14, l15, l16, true, l18, l19, l20, l21, l22, l23, at1, at2, at3, ct1, ct2, ct3, rfl, (by simp only [↓reduceIte, List.setIfInBounds_toArray, List.set_cons_zero, List.set_cons_succ, Array.getD_eq_getD_getElem?, List.getElem?_toArray, List.getElem?_cons_zero, List.getElem?_cons_succ, Option.getD_some]), HS.out⟩
          · obtain rfl := hall
            subst hun
            go_simp
            exact hK _ _ ⟨l0, l1, l2, l3, l4, l5, l6, l7, l8, l9, l10, l11, true, l13, l14, l15, l16, l17, true, l19, l20, l21, l22, l23, at1, at2, at3, ct1, ct2, ct3, rfl, (by simp only [↓reduceIte, List.setIfInBounds_toArray, List.set_cons_zero, List.set_cons_succ, Array.getD_eq_getD_getElem?, List.getElem?_toArray, List.getElem?_cons_zero, List.getElem?_cons_succ, Option.getD_some]), HS.out⟩
          · obtain ⟨rfl, rfl, rfl, rfl⟩ := hall
            subst hun
            go_simp
            go_at_call 38
            refine (nfaAccepts_any n l _ _ Hht.out (by omega) (nfaR_rows HS.out 0 1 2 rfl rfl rfl hs0' hs1') _ Hhq2.out).mono ?_
            rintro e u1 ⟨rfl, hb⟩
            have hS2 := HS.out.call hb
            have HhS2 := Lib.hid hS2; clear hS2
            go_simp
            exact hK _ _ ⟨l0, l1, l2, l3, l4, l5, l6, l7, l8, l9, l10, l11, true, l13, l14, l15, true, true, true, true, l20, l21, l22, l23, at1, at2, at3, ct1, ct2, ct3, rfl, (by simp only [↓reduceIte, List.setIfInBounds_toArray, List.set_cons_zero, List.set_cons_succ, Array.getD_eq_getD_getElem?, List.getElem?_toArray, List.getElem?_cons_zero, List.getElem?_cons_succ, Option.getD_some]), HhS2.out⟩
          · obtain ⟨rfl, rfl, rfl⟩ := hall
            subst hun
            have hqq : (q == q) = true := beq_self_eq_true q
            go_simp
            exact hK _ _ ⟨l0, l1, l2, l3, l4, l5, l6, l7, l8, l9, l10, l11, true, l13, l14, l15, true, l17, l18, true, true, l21, l22, l23, at1, at2, at3, ct1, ct2, ct3, rfl, (by simp only [↓reduceIte, List.setIfInBounds_toArray, List.set_cons_zero, List.set_cons_succ, Array.getD_eq_getD_getElem?, List.getElem?_toArray, List.getElem?_cons_zero, List.getElem?_cons_succ, Option.getD_some]), HS.out⟩
          · obtain ⟨rfl, rfl, rfl⟩ := hall
            subst hun
            go_simp
            exact hK _ _ ⟨l0, l1, l2, l3, l4, l5, l6, l7, true, l9, l10, l11, true, l13, l14, l15, l16, l17, l18, l19, true, true, l22, l23, at1, at2, at3, ct1, ct2, ct3, rfl, (by simp only [↓reduceIte, List.setIfInBounds_toArray, List.set_cons_zero, List.set_cons_succ, Array.getD_eq_getD_getElem?, List.getElem?_toArray, List.getElem?_cons_zero, List.getElem?_cons_succ, Option.getD_some]), HS.out⟩
          · obtain ⟨rfl, rfl⟩ := hall
            subst hun
            go_simp
            exact hK _ _ ⟨l0, l1, l2, l3, l4, l5, l6, l7, true, l9, l10, l11, l12, l13, l14, l15, l16, l17, l18, l19, l20, true, true, l23, at1, at2, at3, ct1, ct2, ct3, rfl, (by simp only [↓reduceIte, List.setIfInBounds_toArray, List.set_cons_zero, List.set_cons_succ, Array.getD_eq_getD_getElem?, List.getElem?_toArray, List.getElem?_cons_zero, List.getElem?_cons_succ, Option.getD_some]), HS.out⟩
          · obtain ⟨rfl, rfl, rfl, rfl, rfl, rfl, rfl, rfl, rfl, rfl, rfl, rfl, rfl, rfl, rfl, rfl, rfl, rfl, rfl, rfl, rfl, -, rfl, rfl, -⟩ := hall
            subst hun
            go_simp
            exact hK _ _ ⟨true, true, true, true, true, true, true, true, true, true, true, true, true, true, true, true, true, true, true, true, true, true, true, true, at1, at2, at3, ct1, ct2, ct3, rfl, (by simp only [↓reduceIte, List.setIfInBounds_toArray, List.set_cons_zero, List.set_cons_succ]), HS.out⟩
        · rintro listed a w' ⟨l0, l1, l2, l3, l4, l5, l6, l7, l8, l9, l10, l11, l12, l13, l14, l15, l16, l17, l18, l19, l20, l21, l22, l23, at1, at2, at3, ct1, ct2, ct3, rfl, rfl, hS⟩ hr
          have hall := ready_nilM (by kernel_rfl) rfl hr
          obtain rfl : l0 = true := by simpa using hall 0 (by simp)
          obtain rfl : l1 = true := by simpa using hall 1 (by simp)
          obtain rfl : l2 = true := by simpa using hall 2 (by simp)
          obtain rfl : l3 = true := by simpa using hall 3 (by simp)
          obtain rfl : l4 = true := by simpa using hall 4 (by simp)
          obtain rfl : l5 = true := by simpa using hall 5 (by simp)
          obtain rfl : l6 = true := by simpa using hall 6 (by simp)
          obtain rfl : l7 = true := by simpa using hall 7 (by simp)
          obtain rfl : l8 = true := by simpa using hall 8 (by simp)
          obtain rfl : l9 = true := by simpa using hall 9 (by simp)
          obtain rfl : l10 = true := by simpa using hall 10 (by simp)
          obtain rfl : l11 = true := by simpa using hall 11 (by simp)
          obtain rfl : l12 = true := by simpa using hall 12 (by simp)
          obtain rfl : l13 = true := by simpa using hall 13 (by simp)
          obtain rfl : l14 = true := by simpa using hall 14 (by simp)
          obtain rfl : l15 = true := by simpa using hall 15 (by simp)
          obtain rfl : l16 = true := by simpa using hall 16 (by simp)
          obtain rfl : l17 = true := by simpa using hall 17 (by simp)
          obtain rfl : l18 = true := by simpa using hall 18 (by simp)
          obtain rfl : l19 = true := by simpa using hall 19 (by simp)
          obtain rfl : l20 = true := by simpa using hall 20 (by simp)
          obtain rfl : l21 = true := by simpa using hall 21 (by simp)
          obtain rfl : l22 = true := by simpa using hall 22 (by simp)
          obtain rfl : l23 = true := by simpa using hall 23 (by simp)
          clear hall hr 
          simp only [↓reduceIte] at hS ⊢
          simp only [List.setIfInBounds_toArray, List.set_cons_zero, List.set_cons_succ]
          have HSf := Lib.hid hS
          clear hS
          go_wp2
          go_ret
          exact ⟨rfl, HSf.out.bel⟩
        · refine ⟨false, false, false, false, false, false, false, false, false, false, false, false, false, false, false, false, false, false, false, false, false, false, false, false, none, none, none, 0, 0, 0, rfl, (by simp only [↓reduceIte, Bool.false_eq_true, List.setIfInBounds_toArray, List.set_cons_zero, List.set_cons_succ, Array.getD_eq_getD_getElem?, List.getElem?_toArray, List.getElem?_cons_zero, List.getElem?_cons_succ, Option.getD_some]), ?_⟩
          exact HS7.out.drew.pick [0, 1, 2, 3, 4, 5, 6, 7, 8, 9, 10] (by decide)
  · refine ⟨false, false, false, false, false, none, none, none, 0, 0, 0, rfl, (by simp only [↓reduceIte, Bool.false_eq_true, List.setIfInBounds_toArray, List.set_cons_zero, List.set_cons_succ, Array.getD_eq_getD_getElem?, List.getElem?_toArray, List.getElem?_cons_zero, List.getElem?_cons_succ, Option.getD_some]), ?_⟩
    exact HS3.out.drew.pick [0, 1, 2, 3, 4, 5, 6, 7, 8, 9, 10] (by decide)
end Go.Proofs.Ytolkifpeblbfcaa
