/-
  The walks over the checks of automata with choices: the program's and the reference's.
  Conditions: the arguments read as such data; the number of states handed to the check of a list is from 0 to 40.
  The walks over the program's and the reference's validity of an automaton with choices.
  Conditions: the automaton reads as such.
  The walk over the reference's check of automata with choices: NfaValid.
  Conditions: the automaton reads as such.
-/
import Derived.Test.YtjcegbcmomfgaaaDvi
import Derived.Test.YtjcegbcmomfgaaaCtx
import Derived.Test.YtjcegbcmomfgaaaFwp
namespace Go.Proofs.Ytjcegbcmomfgaaa
open Go.RowKit

/-- Place j of a list of states is in order. -/
def okAt (l : List Int) (n : Int) (j : Nat) : Bool := inB (l.getD j 0) 0 (n - 1) && (decide (j = 0) || decide (l.getD (j - 1) 0 < l.getD j 0))
def stOk (l : List Int) (n : Int) : Bool := (List.range l.length).all (okAt l n)
def mvOk (n : Int) (m : Int × Int × Int) : Bool := inB m.1 0 (n - 1) && inB m.2.2 0 (n - 1) && inB m.2.1 (-1) 2
def nfaOk (n : NfaD) : Bool := inB n.states 0 40 && decide (n.moves.length ≤ 400) && stOk n.firsts n.states && stOk n.ends n.states && n.moves.all (mvOk n.states)

theorem stOk_bad {l : List Int} {n : Int} {k : Nat} (hk : k < l.length) (h : okAt l n k = false) : stOk l n = false := by
  unfold stOk
  rw [List.all_eq_false]
  exact ⟨k, List.mem_range.2 hk, by rw [h]; simp⟩
theorem range_snoc {p : Nat → Bool} {k : Nat} (h : (List.range k).all p = true) (hp : p k = true) : (List.range (k + 1)).all p = true := by
  rw [List.range_succ, List.all_append, h]
  simp [hp]

set_option maxRecDepth 100000 in
set_option maxHeartbeats 1600000 in
theorem areStates_any (xs : List Int) (v : Value) (n : Int) (w : World) (hn : 0 ≤ n ∧ n ≤ 40) (h : Ints 0 w v xs) (r : Bool) (hr : stOk xs n = r) :
    Calls Try.prog 47 #[v, .int .i64 n] w fun e w' => e = .returned (.bool r) ∧ w = w' := by
  obtain ⟨a1, c1, rfl, hc1, hm1, hr1⟩ := h.form
  obtain ⟨hn0, hn1⟩ := hn
  clear h
  have Hhr := Lib.hid hr; clear hr
  go_enter Try.func47, Try.ntmps47
  go_wp2
  go_loop [4, 9] (fun r i => ∃ k : Nat, k ≤ xs.length ∧ i = .int .i64 k ∧ (List.range k).all (okAt xs n) = true) (fun _ i => xs.length - (intOf i).toNat)
  case atStart => exact ⟨0, Nat.zero_le _, rfl, rfl⟩
  case round =>
    obtain ⟨k, hk, rfl, hall⟩ := hrel
    have Hhall := Lib.hid hall; clear hall
    by_cases hlt : k < xs.length
    · obtain ⟨b1, o1, rfl, hB1, hbl1, hcs1⟩ := hr1 (by omega)
      have hx1 := hcs1 k hlt
      obtain ⟨x, hxx⟩ : ∃ x, x = xs.getD k 0 := ⟨_, rfl⟩
      rw [← hxx] at hx1
      cases hin : inB x 0 (n - 1)
      · have Hhin := Lib.hid hin; clear hin
        have Hhxx := Lib.hid hxx; clear hxx
        clear hcs1 hr1
        go_wp2_with (go_at_call 45; refine (within_any _ _ _ _ _ Hhin.out).mono ?_; rintro e w' ⟨rfl, rfl⟩)
        go_ret
        exact ⟨by rw [← Hhr.out, stOk_bad hlt (by unfold okAt; rw [← Hhxx.out, Hhin.out]; rfl)]; rfl, rfl⟩
      · have Hhin := Lib.hid hin; clear hin
        cases k with
        | zero =>
          have Hhxx := Lib.hid hxx; clear hxx
          simp only [Nat.add_zero] at hx1
          clear hcs1 hr1
          go_wp2_with (go_at_call 45; refine (within_any _ _ _ _ _ Hhin.out).mono ?_; rintro e w' ⟨rfl, rfl⟩)
          go_round
          case rel => exact ⟨1, by omega, by go_num, range_snoc Hhall.out (by unfold okAt; rw [← Hhxx.out, Hhin.out]; rfl)⟩
          case measure => simp [intOf]; omega
        | succ j =>
          have hx0 := hcs1 j (by omega)
          obtain ⟨y, hyy⟩ : ∃ y, y = xs.getD j 0 := ⟨_, rfl⟩
          rw [← hyy] at hx0
          have Hhxx := Lib.hid hxx; clear hxx
          have Hhyy := Lib.hid hyy; clear hyy
          clear hcs1 hr1
          have hjl : (j : Int) < xs.length := by omega
          by_cases hyx : y < x
          · go_wp2_with (go_at_call 45; refine (within_any _ _ _ _ _ Hhin.out).mono ?_; rintro e w' ⟨rfl, rfl⟩)
            go_round
            case rel => exact ⟨j + 1 + 1, by omega, by go_num, range_snoc Hhall.out (by unfold okAt; rw [Nat.add_sub_cancel, ← Hhxx.out, ← Hhyy.out, Hhin.out, decide_eq_true hyx]; simp)⟩
            case measure => simp [intOf]; omega
          · go_wp2_with (go_at_call 45; refine (within_any _ _ _ _ _ Hhin.out).mono ?_; rintro e w' ⟨rfl, rfl⟩)
            go_ret
            exact ⟨by rw [← Hhr.out, stOk_bad hlt (by unfold okAt; rw [Nat.add_sub_cancel, ← Hhxx.out, ← Hhyy.out, Hhin.out, decide_eq_false (show ¬ y < x by omega)]; simp)]; rfl, rfl⟩
    · clear hr1
      obtain rfl : k = xs.length := by omega
      go_wp2
      go_ret
      exact ⟨by rw [← Hhr.out, stOk, Hhall.out]; rfl, rfl⟩

set_option maxRecDepth 100000 in
set_option maxHeartbeats 1600000 in
theorem l8Set_any (xs : List Int) (v : Value) (n : Int) (w : World) (hn : 0 ≤ n ∧ n ≤ 40) (h : Ints 0 w v xs) (r : Bool) (hr : stOk xs n = r) :
    Calls Try.prog 66 #[v, .int .i64 n] w fun e w' => e = .returned (.bool r) ∧ Below w.heap.size w w' := by
  obtain ⟨a1, c1, rfl, hc1, hm1, hr1⟩ := h.form
  obtain ⟨hn0, hn1⟩ := hn
  have hwn : IntKind.i64.wrap (n - 1) = n - 1 := IntWalk.i64_in _ (by omega)
  clear h
  have Hhr := Lib.hid hr; clear hr
  go_enter Try.func66, Try.ntmps66
  go_wp2
  go_loopw [4, 5] (fun r i wr => ∃ k : Nat, k ≤ xs.length ∧ i = .int .i64 k ∧ (List.range k).all (okAt xs n) = true ∧ Below w.heap.size w wr) (fun _ i _ => xs.length - (intOf i).toNat)
  case atStart => exact ⟨0, Nat.zero_le _, rfl, rfl, Below.refl _ _⟩
  case round =>
    obtain ⟨k, hk, rfl, hall, hb⟩ := hrel
    have Hhall := Lib.hid hall; clear hall
    by_cases hlt : k < xs.length
    · obtain ⟨b1, o1, rfl, hB1, hbl1, hcs1⟩ := hr1 (by omega)
      have hx1 := (bcell hb b1 (o1 + k) hbl1).trans (hcs1 k hlt)
      obtain ⟨x, hxx⟩ : ∃ x, x = xs.getD k 0 := ⟨_, rfl⟩
      rw [← hxx] at hx1
      cases hin : inB x 0 (n - 1)
      · have Hhin := Lib.hid hin; clear hin
        have Hhxx := Lib.hid hxx; clear hxx
        have Hhb := Lib.hid hb; clear hb
        clear hcs1 hr1
        go_wp2
        go_quiet (((go_at_call 31; with_reducible exact quiet_eq (l1In_any _ _ _ _ _ Hhin.out))))
        go_wp2
        go_ret
        exact ⟨by rw [← Hhr.out, stOk_bad hlt (by unfold okAt; rw [← Hhxx.out, Hhin.out]; rfl)]; rfl, below_drewN Hhb.out _⟩
      · have Hhin := Lib.hid hin; clear hin
        cases k with
        | zero =>
          have Hhxx := Lib.hid hxx; clear hxx
          have Hhb := Lib.hid hb; clear hb
          simp only [Nat.add_zero] at hx1
          have hg0 : decide ((0 : Int) < ((0 : Nat) : Int)) = false := rfl
          clear hcs1 hr1
          go_wp2
          go_quiet (((go_at_call 31; with_reducible exact quiet_eq (l1In_any _ _ _ _ _ Hhin.out))))
          go_wp2
          go_roundw
          case rel => exact ⟨1, by omega, by go_num, range_snoc Hhall.out (by unfold okAt; rw [← Hhxx.out, Hhin.out]; rfl), below_drewN Hhb.out _⟩
          case measure => simp [intOf]; omega
        | succ j =>
          have hx0 := (bcell hb b1 (o1 + j) hbl1).trans (hcs1 j (by omega))
          obtain ⟨y, hyy⟩ : ∃ y, y = xs.getD j 0 := ⟨_, rfl⟩
          rw [← hyy] at hx0
          have Hhxx := Lib.hid hxx; clear hxx
          have Hhyy := Lib.hid hyy; clear hyy
          have Hhb := Lib.hid hb; clear hb
          clear hcs1 hr1
          have hjl : (j : Int) < xs.length := by omega
          have hjl1 : (j : Int) + 1 < xs.length := by omega
          have hwj : IntKind.i64.wrap ((j : Int) + 1 - 1) = (j : Int) := by rw [IntWalk.i64_in _ (by omega)]; omega
          have hg0 : (0 : Int) < (j : Int) + 1 := by omega
          by_cases hyx : y < x
          · go_wp2
            go_quiet (((go_at_call 31; with_reducible exact quiet_eq (l1In_any _ _ _ _ _ Hhin.out))))
            go_wp2
            go_roundw
            case rel => exact ⟨j + 1 + 1, by omega, by go_num, range_snoc Hhall.out (by unfold okAt; rw [Nat.add_sub_cancel, ← Hhxx.out, ← Hhyy.out, Hhin.out, decide_eq_true hyx]; simp), below_drewN Hhb.out _⟩
            case measure => simp [intOf]; omega
          · go_wp2
            go_quiet (((go_at_call 31; with_reducible exact quiet_eq (l1In_any _ _ _ _ _ Hhin.out))))
            go_wp2
            go_ret
            exact ⟨by rw [← Hhr.out, stOk_bad hlt (by unfold okAt; rw [Nat.add_sub_cancel, ← Hhxx.out, ← Hhyy.out, Hhin.out, decide_eq_false (show ¬ y < x by omega)]; simp)]; rfl, below_drewN Hhb.out _⟩
    · clear hr1
      obtain rfl : k = xs.length := by omega
      have Hhb := Lib.hid hb; clear hb
      go_wp2
      go_ret
      exact ⟨by rw [← Hhr.out, stOk, Hhall.out]; rfl, Hhb.out⟩

def badM (n : Int) (m : Int × Int × Int) : Bool := !mvOk n m
set_option maxRecDepth 100000 in
set_option maxHeartbeats 1600000 in
theorem nfaValid1_any (x : Int × Int × Int) (n : Int) (b : Nat) (w : World) (hn : 0 ≤ n ∧ n ≤ 40) (hb : b < w.heap.size) (hc : w.cell? ⟨b, 0, none⟩ = some (.int .i64 n)) (r : Bool) (hr : badM n x = r) :
    Calls Try.prog 49 #[.agg #[.int .i64 x.1, .int .i64 x.2.1, .int .i64 x.2.2], .pointer (some ⟨b, 0, none⟩)] w fun e w' => e = .returned (.bool r) ∧ ∃ o, w' = w.alloc o := by
  obtain ⟨x1, x2, x3⟩ := x
  obtain ⟨hn0, hn1⟩ := hn
  have Hhr := Lib.hid hr; clear hr
  cases h1 : inB x1 0 (n - 1)
  · have Hh1 := Lib.hid h1; clear h1
    go_enter Try.func49, Try.ntmps49
    go_wp2_with (go_at_call 45; (with_reducible refine (within_any _ _ _ _ _ Hh1.out).mono ?_); rintro e w' ⟨rfl, rfl⟩)
    go_ret
    exact ⟨by rw [← Hhr.out, badM, mvOk, Hh1.out]; rfl, _, rfl⟩
  · cases h2 : inB x3 0 (n - 1)
    · have Hh1 := Lib.hid h1; clear h1
      have Hh2 := Lib.hid h2; clear h2
      go_enter Try.func49, Try.ntmps49
      go_wp2_with (first | (go_at_call 45; (with_reducible refine (within_any _ _ _ _ _ Hh1.out).mono ?_); rintro e w' ⟨rfl, rfl⟩) | (go_at_call 45; (with_reducible refine (within_any _ _ _ _ _ Hh2.out).mono ?_); rintro e w' ⟨rfl, rfl⟩))
      go_ret
      exact ⟨by rw [← Hhr.out, badM, mvOk, Hh1.out, Hh2.out]; rfl, _, rfl⟩
    · cases h3 : inB x2 (-1) 2
      all_goals
        have Hh1 := Lib.hid h1; clear h1
        have Hh2 := Lib.hid h2; clear h2
        have Hh3 := Lib.hid h3; clear h3
        go_enter Try.func49, Try.ntmps49
        go_wp2_with (first | (go_at_call 45; (with_reducible refine (within_any _ _ _ _ _ Hh1.out).mono ?_); rintro e w' ⟨rfl, rfl⟩) | (go_at_call 45; (with_reducible refine (within_any _ _ _ _ _ Hh2.out).mono ?_); rintro e w' ⟨rfl, rfl⟩) | (go_at_call 45; (with_reducible refine (within_any _ _ _ _ _ Hh3.out).mono ?_); rintro e w' ⟨rfl, rfl⟩))
        go_ret
        exact ⟨by rw [← Hhr.out, badM, mvOk, Hh1.out, Hh2.out, Hh3.out]; rfl, _, rfl⟩

set_option maxRecDepth 100000 in
set_option maxHeartbeats 1600000 in
theorem indexFuncNv_any (xs : List (Int × Int × Int)) (v : Value) (n : Int) (b : Nat) (w : World) (hn : 0 ≤ n ∧ n ≤ 40) (hbb : b < w.heap.size) (hc : w.cell? ⟨b, 0, none⟩ = some (.int .i64 n)) (h1 : Moves 0 w v xs) :
    Calls Try.prog 72 #[v, .func (.func 49) #[] #[.pointer (some ⟨b, 0, none⟩)]] w fun e w' => e = .returned (.int .i64 (firstIdx (badM n) xs)) ∧ Below w.heap.size w w' := by
  obtain ⟨a1, c1, rfl, hc1, hm1, hr1⟩ := h1.form
  clear h1
  go_enter Try.func72, Try.ntmps72
  go_wp2
  go_loopw [4, 8] (fun r i wr => ∃ k : Nat, k ≤ xs.length ∧ i = .int .i64 k ∧ (xs.take k).any (badM n) = false ∧ Below w.heap.size w wr) (fun _ i _ => xs.length - (intOf i).toNat)
  case atStart => exact ⟨0, Nat.zero_le _, rfl, rfl, Below.refl _ _⟩
  case round =>
    obtain ⟨k, hk, rfl, htk, hb⟩ := hrel
    have Hhtk := Lib.hid htk; clear htk
    have hc' := (bcell hb b 0 hbb).trans hc
    have hbb' : b < wr.heap.size := Nat.lt_of_lt_of_le hbb hb.size
    have Hc' := Lib.hid hc'
    clear hc'
    by_cases hlt : k < xs.length
    · obtain ⟨b1, o1, rfl, hB1, hbl1, hcs1⟩ := hr1 (by omega)
      have hx1 := (bcell hb b1 (o1 + k * 3) hbl1).trans (hcs1 k hlt).1
      have hx2 := (bcell hb b1 (o1 + k * 3 + 1) hbl1).trans (hcs1 k hlt).2.1
      have hx3 := (bcell hb b1 (o1 + k * 3 + 2) hbl1).trans (hcs1 k hlt).2.2
      have hsz := hb.size
      obtain ⟨x, hxx⟩ : ∃ x, x = xs.getD k (0, 0, 0) := ⟨_, rfl⟩
      rw [← hxx] at hx1 hx2 hx3
      have Hhxx := Lib.hid hxx; clear hxx
      have Hhb := Lib.hid hb; clear hb
      clear hcs1 hr1
      cases hbd : badM n x
      · have Hhbd := Lib.hid hbd; clear hbd
        go_wp2_with (go_at_call 49; refine (nfaValid1_any x n b _ hn hbb' Hc'.out _ Hhbd.out).mono ?_; rintro e w' ⟨rfl, o, rfl⟩)
        go_roundw
        case rel => exact ⟨k + 1, by omega, by go_num, any_snoc (d := (0, 0, 0)) hlt Hhtk.out (by rw [← Hhxx.out]; exact Hhbd.out), Hhb.out.alloc hsz _⟩
        case measure => simp [intOf]; omega
      · have Hhbd := Lib.hid hbd; clear hbd
        go_wp2_with (go_at_call 49; refine (nfaValid1_any x n b _ hn hbb' Hc'.out _ Hhbd.out).mono ?_; rintro e w' ⟨rfl, o, rfl⟩)
        go_ret
        exact ⟨ret_int (by rw [firstIdx_hit (d := (0, 0, 0)) hlt Hhtk.out (by rw [← Hhxx.out]; exact Hhbd.out)]), Hhb.out.alloc hsz _⟩
    · clear hr1
      have Hhb := Lib.hid hb; clear hb
      go_wp2
      go_ret
      exact ⟨ret_int (by rw [firstIdx_miss (by omega) Hhtk.out]), Hhb.out⟩
set_option maxHeartbeats 800000 in
theorem containsFuncNv_any (xs : List (Int × Int × Int)) (v : Value) (n : Int) (b : Nat) (w : World) (hn : 0 ≤ n ∧ n ≤ 40) (hbb : b < w.heap.size) (hc : w.cell? ⟨b, 0, none⟩ = some (.int .i64 n)) (h1 : Moves 0 w v xs) (r : Bool) (hr : xs.any (badM n) = r) :
    Calls Try.prog 48 #[v, .func (.func 49) #[] #[.pointer (some ⟨b, 0, none⟩)]] w fun e w' => e = .returned (.bool r) ∧ Below w.heap.size w w' := by
  obtain ⟨a1, c1, hv, -⟩ := h1.form
  have H1 := Lib.hid h1
  subst hv
  clear h1
  have Hhr := Lib.hid hr; clear hr
  go_enter Try.func48, Try.ntmps48
  go_wp2_with (go_at_call 72; refine (indexFuncNv_any xs _ n b _ hn hbb hc H1.out).mono ?_; rintro e w' ⟨rfl, hb'⟩; have Hb' := Lib.hid hb'; clear hb')
  go_ret
  exact ⟨ret_bool (by rw [← Hhr.out, firstIdx_any]), Hb'.out⟩
end Go.Proofs.Ytjcegbcmomfgaaa
namespace Go.Proofs.Ytjcegbcmomfgaaa
open Go.RowKit

theorem moves_bad {n : Int} {ms : List (Int × Int × Int)} : ms.any (badM n) = !ms.all (mvOk n) := by
  induction ms with
  | nil => rfl
  | cons m ms ih => rw [List.any_cons, List.all_cons, ih]; simp [badM]
set_option maxRecDepth 100000 in
set_option maxHeartbeats 3200000 in
theorem implNfaValid_any (d : NfaD) (v : Value) (w : World) (h : NfaR 0 w v d) (r : Bool) (hr : nfaOk d = r) :
    Calls Try.prog 24 #[v] w fun e w' => e = .returned (.bool r) ∧ Below w.heap.size w w' := by
  obtain ⟨states, moves, firsts, ends⟩ := d
  obtain ⟨v1, v2, v3, rfl, h1, h2, h3, hb1, hb2⟩ := h
  simp only at h1 h2 h3 hb1 hb2
  unfold nfaOk at hr
  simp only at hr
  have H1 := Lib.hid h1
  have H2 := Lib.hid h2
  have H3 := Lib.hid h3
  obtain ⟨a1, c1, rfl, hc1, hm1, -⟩ := h1.form
  clear h1 h2 h3
  obtain ⟨W, hW⟩ : ∃ W, W = w.alloc (.cells #[.int .i64 states, .slice a1 moves.length c1, v2, v3] 26) := ⟨_, rfl⟩
  have hB : Below w.heap.size w W := by rw [hW]; exact (Below.refl _ _).alloc (Nat.le_refl _) _
  have x0 : Bx W w.heap.size #[.int .i64 states, .slice a1 moves.length c1, v2, v3] 26 := by rw [hW]; exact Bx.new w _ _
  have hlt := x0.lt
  have d0 := x0.cell 0
  have d1 := x0.cell 1
  have d2 := x0.cell 2
  have d3 := x0.cell 3
  simp only [List.getElem?_toArray, List.getElem?_cons_zero, List.getElem?_cons_succ] at d0 d1 d2 d3
  have HhW := Lib.hid hW; clear hW
  have HhB := Lib.hid hB; clear hB
  have Hx0 := Lib.hid x0; clear x0
  go_enter Try.func24, Try.ntmps24
  cases hA : inB states 0 40
  · rw [hA] at hr
    have HhA := Lib.hid hA; clear hA
    have Hhr := Lib.hid hr; clear hr
    go_wp2_with fail
    rw [← HhW.out]
    go_wp2_with (go_at_call 45; refine (within_any _ _ _ _ _ HhA.out).mono ?_; rintro e w' ⟨rfl, rfl⟩)
    go_ret
    exact ⟨by rw [← Hhr.out]; rfl, HhB.out⟩
  · have hin : 0 ≤ states ∧ states ≤ 40 := by simpa [inB] using hA
    obtain ⟨hs0, hs1⟩ := hin
    rw [hA] at hr
    have HhA := Lib.hid hA; clear hA
    by_cases hL : moves.length ≤ 400
    · have hL1 : decide ((moves.length : Int) > 400) = false := by simp; omega
      rw [decide_eq_true hL] at hr
      cases hC : stOk firsts states
      · rw [hC] at hr
        have HhC := Lib.hid hC; clear hC
        have Hhr := Lib.hid hr; clear hr
        go_wp2_with fail
        rw [← HhW.out]
        go_wp2_with (first | (go_at_call 45; refine (within_any _ _ _ _ _ HhA.out).mono ?_; rintro e w' ⟨rfl, rfl⟩) | (go_at_call 47; (with_reducible refine (areStates_any firsts _ _ _ ⟨hs0, hs1⟩ (H2.out.below HhB.out) _ HhC.out).mono ?_); rintro e w' ⟨rfl, rfl⟩))
        go_ret
        exact ⟨by rw [← Hhr.out]; rfl, HhB.out⟩
      · rw [hC] at hr
        have HhC := Lib.hid hC; clear hC
        cases hD : stOk ends states
        · rw [hD] at hr
          have HhD := Lib.hid hD; clear hD
          have Hhr := Lib.hid hr; clear hr
          go_wp2_with fail
          rw [← HhW.out]
          go_wp2_with (first | (go_at_call 45; refine (within_any _ _ _ _ _ HhA.out).mono ?_; rintro e w' ⟨rfl, rfl⟩) | (go_at_call 47; (with_reducible refine (areStates_any firsts v2 _ _ ⟨hs0, hs1⟩ (H2.out.below HhB.out) _ HhC.out).mono ?_); rintro e w' ⟨rfl, rfl⟩) | (go_at_call 47; (with_reducible refine (areStates_any ends v3 _ _ ⟨hs0, hs1⟩ (H3.out.below HhB.out) _ HhD.out).mono ?_); rintro e w' ⟨rfl, rfl⟩))
          go_ret
          exact ⟨by rw [← Hhr.out]; rfl, HhB.out⟩
        · rw [hD] at hr
          have HhD := Lib.hid hD; clear hD
          cases hE : moves.any (badM states)
          all_goals
            have hE' := hE
            rw [moves_bad] at hE'
            have HhE := Lib.hid hE; clear hE
            have HhE' := Lib.hid hE'; clear hE'
            have Hhr := Lib.hid hr; clear hr
            go_wp2_with fail
            rw [← HhW.out]
            go_wp2_with (first | (go_at_call 45; refine (within_any _ _ _ _ _ HhA.out).mono ?_; rintro e w' ⟨rfl, rfl⟩) | (go_at_call 47; (with_reducible refine (areStates_any firsts v2 _ _ ⟨hs0, hs1⟩ (H2.out.below HhB.out) _ HhC.out).mono ?_); rintro e w' ⟨rfl, rfl⟩) | (go_at_call 47; (with_reducible refine (areStates_any ends v3 _ _ ⟨hs0, hs1⟩ (H3.out.below HhB.out) _ HhD.out).mono ?_); rintro e w' ⟨rfl, rfl⟩) | (go_at_call 48; refine (containsFuncNv_any moves _ states w.heap.size _ ⟨hs0, hs1⟩ hlt d0 (H1.out.below HhB.out) _ HhE.out).mono ?_; rintro e w' ⟨rfl, hb'⟩; have Hb' := Lib.hid hb'; clear hb'))
            go_ret
            exact ⟨by rw [← Hhr.out]; simpa using HhE'.out, HhB.out.trans (Hb'.out.mono HhB.out.size)⟩
    · have hL1 : decide ((moves.length : Int) > 400) = true := by simp; omega
      rw [decide_eq_false hL] at hr
      have Hhr := Lib.hid hr; clear hr
      go_wp2_with fail
      rw [← HhW.out]
      go_wp2_with (go_at_call 45; refine (within_any _ _ _ _ _ HhA.out).mono ?_; rintro e w' ⟨rfl, rfl⟩)
      go_ret
      exact ⟨by rw [← Hhr.out]; rfl, HhB.out⟩
end Go.Proofs.Ytjcegbcmomfgaaa
namespace Go.Proofs.Ytjcegbcmomfgaaa
open Go.RowKit

/-- A move is in order, its states at most S1. -/
def mvOkW (S1 : Int) (x : Int × Int × Int) : Bool := inB x.1 0 S1 && inB x.2.2 0 S1 && inB x.2.1 (-1) 2
theorem nfaOk_bad {n : NfaD} {S1 : Int} (hS : 0 ≤ n.states ∧ n.states ≤ 40 → S1 = n.states - 1) {k : Nat} (hk : k < n.moves.length) (h : mvOkW S1 (n.moves.getD k (0, 0, 0)) = false) : nfaOk n = false := by
  unfold nfaOk
  by_cases hin : 0 ≤ n.states ∧ n.states ≤ 40
  · have hb : n.moves.all (mvOk n.states) = false := by
      rw [List.all_eq_false]
      refine ⟨_, memD (d := (0, 0, 0)) hk, ?_⟩
      rw [hS hin] at h
      simpa [mvOk, mvOkW] using h
    rw [hb]
    simp
  · have : inB n.states 0 40 = false := by
      unfold inB
      simp
      omega
    rw [this]
    simp
theorem nfaOk_moves {n : NfaD} {S1 : Int} (hS : S1 = n.states - 1) (h : (List.range n.moves.length).all (fun k => mvOkW S1 (n.moves.getD k (0, 0, 0))) = true) : n.moves.all (mvOk n.states) = true := by
  rw [List.all_eq_true] at h ⊢
  intro x hx
  obtain ⟨k, hk, e⟩ := List.getElem_of_mem hx
  have := h k (List.mem_range.2 hk)
  rw [hS] at this
  simpa [mvOk, mvOkW, hk, e] using this

set_option maxRecDepth 100000 in
set_option maxHeartbeats 4000000 in
theorem specNfaValid_any (n : NfaD) (v : Value) (w : World) (h : NfaR 0 w v n) (r : Bool) (hr : nfaOk n = r) :
    Calls Try.prog 36 #[v] w fun e w' => e = .returned (.bool r) ∧ Below w.heap.size w w' := by
  obtain ⟨v1, v2, v3, rfl, g1, g2, g3, g4, g5⟩ := h
  obtain ⟨a1, c1, rfl, hc1, hm1, hr1⟩ := g1.form
  obtain ⟨S1, hS1⟩ : ∃ S1, IntKind.i64.wrap (n.states - 1) = S1 := ⟨_, rfl⟩
  have hS1' : 0 ≤ n.states ∧ n.states ≤ 40 → S1 = n.states - 1 := fun h => by rw [← hS1]; exact IntWalk.i64_in _ (by omega)
  have hbad := fun k => nfaOk_bad (n := n) (k := k) hS1'
  obtain ⟨ms, hms⟩ : ∃ ms, ms = n.moves := ⟨_, rfl⟩
  rw [← hms] at hc1 hr1 hbad
  rw [← hms]
  have hS0 := (St.start w).alloc _ rfl #[.int .i64 n.states, .slice a1 ms.length c1, v2, v3] 26
  have G2 := Lib.hid g2
  have G3 := Lib.hid g3
  have hml : ms.length ≤ 9223372036854775807 := by omega
  have Hhr1 := Lib.hid hr1; clear hr1
  have Hhr := Lib.hid hr; clear hr
  have Hhbad := Lib.hid hbad; clear hbad
  have Hhms := Lib.hid hms; clear hms
  have HhS1' := Lib.hid hS1'; clear hS1'
  have HhS0 := Lib.hid hS0; clear hS0
  clear g1 g2 g3
  go_enter Try.func36, Try.ntmps36
  go_wp2
  go_loopw [2, 3] (fun r i wr => ∃ k : Nat, k ≤ ms.length ∧ i = .int .i64 k ∧ (List.range k).all (fun k => mvOkW S1 (ms.getD k (0, 0, 0))) = true ∧ St w wr [Ent.box w.heap.size #[.int .i64 n.states, .slice a1 ms.length c1, v2, v3] 26])
    (fun _ i _ => ms.length - (intOf i).toNat)
  case atStart => exact ⟨0, Nat.zero_le _, rfl, rfl, HhS0.out⟩
  case round =>
    obtain ⟨k, hk, rfl, hall, hS⟩ := hrel
    have e0 := hS.cell (v := .int .i64 n.states) 0 0 rfl rfl
    have e1 := hS.cell (v := .slice a1 ms.length c1) 0 1 rfl rfl
    have Hhall := Lib.hid hall; clear hall
    by_cases hlt : k < ms.length
    · obtain ⟨b1, o1, rfl, -, hbl, hcs⟩ := Hhr1.out (by omega)
      obtain ⟨p1, p2, p3⟩ := hcs k hlt
      replace p1 := (bcell hS.bel b1 _ hbl).trans p1
      replace p2 := (bcell hS.bel b1 _ hbl).trans p2
      replace p3 := (bcell hS.bel b1 _ hbl).trans p3
      have hbk := Hhbad.out k hlt
      obtain ⟨mm, hmd⟩ : ∃ mm, mm = ms.getD k (0, 0, 0) := ⟨_, rfl⟩
      rw [← hmd] at p1 p2 p3 hbk
      obtain ⟨f, l, t⟩ := mm
      simp only at p1 p2 p3
      have hSa := hS.alloc _ rfl #[.int .i64 f, .int .i64 l, .int .i64 t] 76
      have d0 := hSa.cell (v := .int .i64 n.states) 0 0 rfl rfl
      have hkk : (k : Int) < ms.length := by omega
      have Hno := Lib.hid (fun (h : mvOkW S1 (f, l, t) = false) => (show Ending.returned (.bool false) = .returned (.bool r) from ret_bool (by rw [← Hhr.out, hbk h])))
      have Hyes := Lib.hid (fun (h : mvOkW S1 (f, l, t) = true) => (show (List.range (k + 1)).all (fun k => mvOkW S1 (ms.getD k (0, 0, 0))) = true from range_snoc Hhall.out (by rw [← hmd]; exact h)))
      have Hhmd := Lib.hid hmd; clear hmd
      have HhS := Lib.hid hS; clear hS
      have HhSa := Lib.hid hSa; clear hSa
      clear hcs hbk
      cases h1 : inB f 0 S1
      · have Hh1 := Lib.hid h1; clear h1
        go_wp2_with (go_at_call 31; (with_reducible refine (l1In_any _ _ _ _ _ Hh1.out).mono ?_); rintro e w' ⟨rfl, rfl⟩)
        go_ret
        exact ⟨Hno.out (by unfold mvOkW; rw [Hh1.out]; rfl), HhSa.out.bel⟩
      · have Hh1 := Lib.hid h1; clear h1
        cases h2 : inB t 0 S1
        · have Hh2 := Lib.hid h2; clear h2
          go_wp2_with (first | (go_at_call 31; (with_reducible refine (l1In_any _ _ _ _ _ Hh1.out).mono ?_); rintro e w' ⟨rfl, rfl⟩) | (go_at_call 31; (with_reducible refine (l1In_any _ _ _ _ _ Hh2.out).mono ?_); rintro e w' ⟨rfl, rfl⟩))
          go_ret
          exact ⟨Hno.out (by unfold mvOkW; rw [Hh1.out, Hh2.out]; rfl), HhSa.out.bel⟩
        · cases h3 : inB l (-1) 2
          all_goals
            have Hh2 := Lib.hid h2; clear h2
            have Hh3 := Lib.hid h3; clear h3
            go_wp2_with (first | (go_at_call 31; (with_reducible refine (l1In_any _ _ _ _ _ Hh1.out).mono ?_); rintro e w' ⟨rfl, rfl⟩) | (go_at_call 31; (with_reducible refine (l1In_any _ _ _ _ _ Hh2.out).mono ?_); rintro e w' ⟨rfl, rfl⟩) | (go_at_call 31; (with_reducible refine (l1In_any _ _ _ _ _ Hh3.out).mono ?_); rintro e w' ⟨rfl, rfl⟩))
          · go_ret
            exact ⟨Hno.out (by unfold mvOkW; rw [Hh1.out, Hh2.out, Hh3.out]; rfl), HhSa.out.bel⟩
          · go_roundw
            case rel => exact ⟨k + 1, by omega, by go_num, Hyes.out (by unfold mvOkW; rw [Hh1.out, Hh2.out, Hh3.out]; rfl), HhSa.out.pick [0] (by decide)⟩
            case measure => simp [intOf]; omega
    · obtain rfl : k = ms.length := by omega
      have e2 := hS.cell (v := v2) 0 2 rfl rfl
      have e3 := hS.cell (v := v3) 0 3 rfl rfl
      have hall2 := Hhall.out
      rw [Hhms.out] at hall2
      have hmo : 0 ≤ n.states ∧ n.states ≤ 40 → n.moves.all (mvOk n.states) = true := fun h => nfaOk_moves (HhS1'.out h) hall2
      have hr2 := Hhr.out
      unfold nfaOk at hr2
      rw [← Hhms.out] at hr2 hmo
      have hnk : ¬ ((ms.length : Int) < ms.length) := by omega
      cases hA : inB n.states 0 40
      · rw [hA] at hr2
        have HhA := Lib.hid hA; clear hA
        have Hhr2 := Lib.hid hr2; clear hr2
        have HhS := Lib.hid hS; clear hS
        have Hhmo := Lib.hid hmo; clear hmo
        go_wp2_with (go_at_call 31; (with_reducible refine (l1In_any _ _ _ _ _ HhA.out).mono ?_); rintro e w' ⟨rfl, rfl⟩)
        go_ret
        exact ⟨by rw [← Hhr2.out]; rfl, HhS.out.bel⟩
      · have hin : 0 ≤ n.states ∧ n.states ≤ 40 := by simpa [inB] using hA
        obtain ⟨hs0, hs1⟩ := hin
        rw [hA, hmo ⟨hs0, hs1⟩] at hr2
        have G2' := Lib.hid (G2.out.below hS.bel)
        have G3' := Lib.hid (G3.out.below hS.bel)
        have HhA := Lib.hid hA; clear hA
        have Hhmo := Lib.hid hmo; clear hmo
        have HhS := Lib.hid hS; clear hS
        by_cases hL : ms.length ≤ 400
        · have hL2 : (ms.length : Int) ≤ 400 := by omega
          rw [decide_eq_true hL] at hr2
          cases hC : stOk n.firsts n.states
          · rw [hC] at hr2
            have HhC := Lib.hid hC; clear hC
            have Hhr2 := Lib.hid hr2; clear hr2
            go_wp2_with (first | (go_at_call 31; (with_reducible refine (l1In_any _ _ _ _ _ HhA.out).mono ?_); rintro e w' ⟨rfl, rfl⟩) | (go_at_call 66; (with_reducible refine (l8Set_any n.firsts _ _ _ ⟨hs0, hs1⟩ G2'.out _ HhC.out).mono ?_); rintro e w2 ⟨rfl, hb2⟩; have Hb2 := Lib.hid hb2; clear hb2))
            go_ret
            exact ⟨by rw [← Hhr2.out]; rfl, (HhS.out.call Hb2.out).bel⟩
          · rw [hC] at hr2
            have HhC := Lib.hid hC; clear hC
            cases hD : stOk n.ends n.states
            all_goals
              rw [hD] at hr2
              have HhD := Lib.hid hD; clear hD
              have Hhr2 := Lib.hid hr2; clear hr2
              go_wp2_with (first
                | (go_at_call 31; (with_reducible refine (l1In_any _ _ _ _ _ HhA.out).mono ?_); rintro e w' ⟨rfl, rfl⟩)
                | (go_at_call 66; (with_reducible refine (l8Set_any n.firsts v2 _ _ ⟨hs0, hs1⟩ G2'.out _ HhC.out).mono ?_); rintro e w2 ⟨rfl, hb2⟩; have HS2 := Lib.hid (HhS.out.call hb2); have e0 := HS2.out.cell (v := .int .i64 n.states) 0 0 rfl rfl; have e3 := HS2.out.cell (v := v3) 0 3 rfl rfl; have G3'' := Lib.hid (G3'.out.below hb2); clear hb2)
                | (go_at_call 66; (with_reducible refine (l8Set_any n.ends v3 _ _ ⟨hs0, hs1⟩ G3''.out _ HhD.out).mono ?_); rintro e w3 ⟨rfl, hb3⟩; have Hb3 := Lib.hid hb3; clear hb3))
              go_ret
              exact ⟨by rw [← Hhr2.out]; rfl, (HS2.out.call Hb3.out).bel⟩
        · have hL2 : ¬ ((ms.length : Int) ≤ 400) := by omega
          rw [decide_eq_false hL] at hr2
          have Hhr2 := Lib.hid hr2; clear hr2
          go_wp2_with (go_at_call 31; (with_reducible refine (l1In_any _ _ _ _ _ HhA.out).mono ?_); rintro e w' ⟨rfl, rfl⟩)
          go_ret
          exact ⟨by rw [← Hhr2.out]; rfl, HhS.out.bel⟩
end Go.Proofs.Ytjcegbcmomfgaaa
