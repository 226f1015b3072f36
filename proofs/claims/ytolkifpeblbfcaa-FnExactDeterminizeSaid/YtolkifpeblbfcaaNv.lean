/-
  The walks over the checks of automata with choices: the program's and the reference's.
  Conditions: the arguments read as such data; the number of states handed to the check of a list is from 0 to 40.
-/
import Derived.Test.YtolkifpeblbfcaaDvi
import Derived.Test.YtolkifpeblbfcaaQuiet
namespace Go.Proofs.Ytolkifpeblbfcaa
open Go.RowKit

/-- Place j of a list of states is in order. -/
def okAt (l : List Int) (n : Int) (j : Nat) : Bool := inB (l.getD j 0) 0 (n - 1) && (decide (j = 0) || decide (l.getD (j - 1) 0 < l.getD j 0))
def stOk (l : List Int) (n : Int) : Bool := (List.range l.length).all (okAt l n)
def mvOk (n : Int) (m : Int × Int × Int) : Bool := inB m.1 0 (n - 1) && inB m.2.2 0 (n - 1) && inB m.2.1 (-1) 2
def nfaOk (n : NfaD) : Bool := inB n.states 0 40 && decide (n.moves.length ≤ 400) && stOk n.firsts n.states && stOk n.ends n.states && n.moves.all (mvOk n.states)

theorem stOk_bad {l : List Int} {n : Int} {k : Nat} (hk : k < l.length) (h : okAt l n k = false) : stOk l n = false := by
  unfold stOk
  rw [List.all_eq_false]
  exact ⟨k, List.mem_range.2 hk, by rw [h]; simp⟩
theorem range_snoc {p : Nat → Bool} {k : Nat} (h : (List.range k).all p = true) (hp : p k = true) : (List.range (k + 1)).all p = true := by
  rw [List.range_succ, List.all_append, h]
  simp [hp]

set_option maxRecDepth 100000 in
set_option maxHeartbeats 1600000 in
theorem areStates_any (xs : List Int) (v : Value) (n : Int) (w : World) (hn : 0 ≤ n ∧ n ≤ 40) (h : Ints 0 w v xs) (r : Bool) (hr : stOk xs n = r) :
    Calls Try.prog 87 #[v, .int .i64 n] w fun e w' => e = .returned (.bool r) ∧ w = w' := by
  obtain ⟨a1, c1, rfl, hc1, hm1, hr1⟩ := h.form
  obtain ⟨hn0, hn1⟩ := hn
  clear h
  have Hhr := Lib.hid hr; clear hr
  go_enter Try.func87, Try.ntmps87
  go_wp2
  go_loop [4, 9] (fun r i => ∃ k : Nat, k ≤ xs.length ∧ i = .int .i64 k ∧ (List.range k).all (okAt xs n) = true) (fun _ i => xs.length - (intOf i).toNat)
  case atStart => exact ⟨0, Nat.zero_le _, rfl, rfl⟩
  case round =>
    obtain ⟨k, hk, rfl, hall⟩ := hrel
    have Hhall := Lib.hid hall; clear hall
    by_cases hlt : k < xs.length
    · obtain ⟨b1, o1, rfl, hB1, hbl1, hcs1⟩ := hr1 (by omega)
      have hx1 := hcs1 k hlt
      obtain ⟨x, hxx⟩ : ∃ x, x = xs.getD k 0 := ⟨_, rfl⟩
      rw [← hxx] at hx1
      cases hin : inB x 0 (n - 1)
      · have Hhin := Lib.hid hin; clear hin
        have Hhxx := Lib.hid hxx; clear hxx
        clear hcs1 hr1
        go_wp2_with (go_at_call 103; refine (within_any _ _ _ _ _ Hhin.out).mono ?_; rintro e w' ⟨rfl, rfl⟩)
        go_ret
        exact ⟨by rw [← Hhr.out, stOk_bad hlt (by unfold okAt; rw [← Hhxx.out, Hhin.out]; rfl)]; rfl, rfl⟩
      · have Hhin := Lib.hid hin; clear hin
        cases k with
        | zero =>
          have Hhxx := Lib.hid hxx; clear hxx
          simp only [Nat.add_zero] at hx1
          clear hcs1 hr1
          go_wp2_with (go_at_call 103; refine (within_any _ _ _ _ _ Hhin.out).mono ?_; rintro e w' ⟨rfl, rfl⟩)
          go_round
          case rel => exact ⟨1, by omega, by go_num, range_snoc Hhall.out (by unfold okAt; rw [← Hhxx.out, Hhin.out]; rfl)⟩
          case measure => simp [intOf]; omega
        | succ j =>
          have hx0 := hcs1 j (by omega)
          obtain ⟨y, hyy⟩ : ∃ y, y = xs.getD j 0 := ⟨_, rfl⟩
          rw [← hyy] at hx0
          have Hhxx := Lib.hid hxx; clear hxx
          have Hhyy := Lib.hid hyy; clear hyy
          clear hcs1 hr1
          have hjl : (j : Int) < xs.length := by omega
          by_cases hyx : y < x
          · go_wp2_with (go_at_call 103; refine (within_any _ _ _ _ _ Hhin.out).mono ?_; rintro e w' ⟨rfl, rfl⟩)
            go_round
            case rel => exact ⟨j + 1 + 1, by omega, by go_num, range_snoc Hhall.out (by unfold okAt; rw [Nat.add_sub_cancel, ← Hhxx.out, ← Hhyy.out, Hhin.out, decide_eq_true hyx]; simp)⟩
            case measure => simp [intOf]; omega
          · go_wp2_with (go_at_call 103; refine (within_any _ _ _ _ _ Hhin.out).mono ?_; rintro e w' ⟨rfl, rfl⟩)
            go_ret
            exact ⟨by rw [← Hhr.out, stOk_bad hlt (by unfold okAt; rw [Nat.add_sub_cancel, ← Hhxx.out, ← Hhyy.out, Hhin.out, decide_eq_false (show ¬ y < x by omega)]; simp)]; rfl, rfl⟩
    · clear hr1
      obtain rfl : k = xs.length := by omega
      go_wp2
      go_ret
      exact ⟨by rw [← Hhr.out, stOk, Hhall.out]; rfl, rfl⟩

set_option maxRecDepth 100000 in
set_option maxHeartbeats 1600000 in
theorem l8Set_any (xs : List Int) (v : Value) (n : Int) (w : World) (hn : 0 ≤ n ∧ n ≤ 40) (h : Ints 0 w v xs) (r : Bool) (hr : stOk xs n = r) :
    Calls Try.prog 91 #[v, .int .i64 n] w fun e w' => e = .returned (.bool r) ∧ Below w.heap.size w w' := by
  obtain ⟨a1, c1, rfl, hc1, hm1, hr1⟩ := h.form
  obtain ⟨hn0, hn1⟩ := hn
  have hwn : IntKind.i64.wrap (n - 1) = n - 1 := IntWalk.i64_in _ (by omega)
  clear h
  have Hhr := Lib.hid hr; clear hr
  go_enter Try.func91, Try.ntmps91
  go_wp2
  go_loopw [4, 5] (fun r i wr => ∃ k : Nat, k ≤ xs.length ∧ i = .int .i64 k ∧ (List.range k).all (okAt xs n) = true ∧ Below w.heap.size w wr) (fun _ i _ => xs.length - (intOf i).toNat)
  case atStart => exact ⟨0, Nat.zero_le _, rfl, rfl, Below.refl _ _⟩
  case round =>
    obtain ⟨k, hk, rfl, hall, hb⟩ := hrel
    have Hhall := Lib.hid hall; clear hall
    by_cases hlt : k < xs.length
    · obtain ⟨b1, o1, rfl, hB1, hbl1, hcs1⟩ := hr1 (by omega)
      have hx1 := (bcell hb b1 (o1 + k) hbl1).trans (hcs1 k hlt)
      obtain ⟨x, hxx⟩ : ∃ x, x = xs.getD k 0 := ⟨_, rfl⟩
      rw [← hxx] at hx1
      cases hin : inB x 0 (n - 1)
      · have Hhin := Lib.hid hin; clear hin
        have Hhxx := Lib.hid hxx; clear hxx
        have Hhb := Lib.hid hb; clear hb
        clear hcs1 hr1
        go_wp2
        go_quiet (((go_at_call 68; with_reducible exact quiet_eq (l1In_any _ _ _ _ _ Hhin.out))))
        go_wp2
        go_ret
        exact ⟨by rw [← Hhr.out, stOk_bad hlt (by unfold okAt; rw [← Hhxx.out, Hhin.out]; rfl)]; rfl, below_drewN Hhb.out _⟩
      · have Hhin := Lib.hid hin; clear hin
        cases k with
        | zero =>
          have Hhxx := Lib.hid hxx; clear hxx
          have Hhb := Lib.hid hb; clear hb
          simp only [Nat.add_zero] at hx1
          have hg0 : decide ((0 : Int) < ((0 : Nat) : Int)) = false := rfl
          clear hcs1 hr1
          go_wp2
          go_quiet (((go_at_call 68; with_reducible exact quiet_eq (l1In_any _ _ _ _ _ Hhin.out))))
          go_wp2
          go_roundw
          case rel => exact ⟨1, by omega, by go_num, range_snoc Hhall.out (by unfold okAt; rw [← Hhxx.out, Hhin.out]; rfl), below_drewN Hhb.out _⟩
          case measure => simp [intOf]; omega
        | succ j =>
          have hx0 := (bcell hb b1 (o1 + j) hbl1).trans (hcs1 j (by omega))
          obtain ⟨y, hyy⟩ : ∃ y, y = xs.getD j 0 := ⟨_, rfl⟩
          rw [← hyy] at hx0
          have Hhxx := Lib.hid hxx; clear hxx
          have Hhyy := Lib.hid hyy; clear hyy
          have Hhb := Lib.hid hb; clear hb
          clear hcs1 hr1
          have hjl : (j : Int) < xs.length := by omega
          have hjl1 : (j : Int) + 1 < xs.length := by omega
          have hwj : IntKind.i64.wrap ((j : Int) + 1 - 1) = (j : Int) := by rw [IntWalk.i64_in _ (by omega)]; omega
          have hg0 : (0 : Int) < (j : Int) + 1 := by omega
          by_cases hyx : y < x
          · go_wp2
            go_quiet (((go_at_call 68; with_reducible exact quiet_eq (l1In_any _ _ _ _ _ Hhin.out))))
            go_wp2
            go_roundw
            case rel => exact ⟨j + 1 + 1, by omega, by go_num, range_snoc Hhall.out (by unfold okAt; rw [Nat.add_sub_cancel, ← Hhxx.out, ← Hhyy.out, Hhin.out, decide_eq_true hyx]; simp), below_drewN Hhb.out _⟩
            case measure => simp [intOf]; omega
          · go_wp2
            go_quiet (((go_at_call 68; with_reducible exact quiet_eq (l1In_any _ _ _ _ _ Hhin.out))))
            go_wp2
            go_ret
            exact ⟨by rw [← Hhr.out, stOk_bad hlt (by unfold okAt; rw [Nat.add_sub_cancel, ← Hhxx.out, ← Hhyy.out, Hhin.out, decide_eq_false (show ¬ y < x by omega)]; simp)]; rfl, below_drewN Hhb.out _⟩
    · clear hr1
      obtain rfl : k = xs.length := by omega
      have Hhb := Lib.hid hb; clear hb
      go_wp2
      go_ret
      exact ⟨by rw [← Hhr.out, stOk, Hhall.out]; rfl, Hhb.out⟩

def badM (n : Int) (m : Int × Int × Int) : Bool := !mvOk n m
set_option maxRecDepth 100000 in
set_option maxHeartbeats 1600000 in
theorem nfaValid1_any (x : Int × Int × Int) (n : Int) (b : Nat) (w : World) (hn : 0 ≤ n ∧ n ≤ 40) (hb : b < w.heap.size) (hc : w.cell? ⟨b, 0, none⟩ = some (.int .i64 n)) (r : Bool) (hr : badM n x = r) :
    Calls Try.prog 105 #[.agg #[.int .i64 x.1, .int .i64 x.2.1, .int .i64 x.2.2], .pointer (some ⟨b, 0, none⟩)] w fun e w' => e = .returned (.bool r) ∧ ∃ o, w' = w.alloc o := by
  obtain ⟨x1, x2, x3⟩ := x
  obtain ⟨hn0, hn1⟩ := hn
  have Hhr := Lib.hid hr; clear hr
  cases h1 : inB x1 0 (n - 1)
  · have Hh1 := Lib.hid h1; clear h1
    go_enter Try.func105, Try.ntmps105
    go_wp2_with (go_at_call 103; (with_reducible refine (within_any _ _ _ _ _ Hh1.out).mono ?_); rintro e w' ⟨rfl, rfl⟩)
    go_ret
    exact ⟨by rw [← Hhr.out, badM, mvOk, Hh1.out]; rfl, _, rfl⟩
  · cases h2 : inB x3 0 (n - 1)
    · have Hh1 := Lib.hid h1; clear h1
      have Hh2 := Lib.hid h2; clear h2
      go_enter Try.func105, Try.ntmps105
      go_wp2_with (first | (go_at_call 103; (with_reducible refine (within_any _ _ _ _ _ Hh1.out).mono ?_); rintro e w' ⟨rfl, rfl⟩) | (go_at_call 103; (with_reducible refine (within_any _ _ _ _ _ Hh2.out).mono ?_); rintro e w' ⟨rfl, rfl⟩))
      go_ret
      exact ⟨by rw [← Hhr.out, badM, mvOk, Hh1.out, Hh2.out]; rfl, _, rfl⟩
    · cases h3 : inB x2 (-1) 2
      all_goals
        have Hh1 := Lib.hid h1; clear h1
        have Hh2 := Lib.hid h2; clear h2
        have Hh3 := Lib.hid h3; clear h3
        go_enter Try.func105, Try.ntmps105
        go_wp2_with (first | (go_at_call 103; (with_reducible refine (within_any _ _ _ _ _ Hh1.out).mono ?_); rintro e w' ⟨rfl, rfl⟩) | (go_at_call 103; (with_reducible refine (within_any _ _ _ _ _ Hh2.out).mono ?_); rintro e w' ⟨rfl, rfl⟩) | (go_at_call 103; (with_reducible refine (within_any _ _ _ _ _ Hh3.out).mono ?_); rintro e w' ⟨rfl, rfl⟩))
        go_ret
        exact ⟨by rw [← Hhr.out, badM, mvOk, Hh1.out, Hh2.out, Hh3.out]; rfl, _, rfl⟩

set_option maxRecDepth 100000 in
set_option maxHeartbeats 1600000 in
theorem indexFuncNv_any (xs : List (Int × Int × Int)) (v : Value) (n : Int) (b : Nat) (w : World) (hn : 0 ≤ n ∧ n ≤ 40) (hbb : b < w.heap.size) (hc : w.cell? ⟨b, 0, none⟩ = some (.int .i64 n)) (h1 : Moves 0 w v xs) :
    Calls Try.prog 144 #[v, .func (.func 105) #[] #[.pointer (some ⟨b, 0, none⟩)]] w fun e w' => e = .returned (.int .i64 (firstIdx (badM n) xs)) ∧ Below w.heap.size w w' := by
  obtain ⟨a1, c1, rfl, hc1, hm1, hr1⟩ := h1.form
  clear h1
  go_enter Try.func144, Try.ntmps144
  go_wp2
  go_loopw [4, 8] (fun r i wr => ∃ k : Nat, k ≤ xs.length ∧ i = .int .i64 k ∧ (xs.take k).any (badM n) = false ∧ Below w.heap.size w wr) (fun _ i _ => xs.length - (intOf i).toNat)
  case atStart => exact ⟨0, Nat.zero_le _, rfl, rfl, Below.refl _ _⟩
  case round =>
    obtain ⟨k, hk, rfl, htk, hb⟩ := hrel
    have Hhtk := Lib.hid htk; clear htk
    have hc' := (bcell hb b 0 hbb).trans hc
    have hbb' : b < wr.heap.size := Nat.lt_of_lt_of_le hbb hb.size
    have Hc' := Lib.hid hc'
    clear hc'
    by_cases hlt : k < xs.length
    · obtain ⟨b1, o1, rfl, hB1, hbl1, hcs1⟩ := hr1 (by omega)
      have hx1 := (bcell hb b1 (o1 + k * 3) hbl1).trans (hcs1 k hlt).1
      have hx2 := (bcell hb b1 (o1 + k * 3 + 1) hbl1).trans (hcs1 k hlt).2.1
      have hx3 := (bcell hb b1 (o1 + k * 3 + 2) hbl1).trans (hcs1 k hlt).2.2
      have hsz := hb.size
      obtain ⟨x, hxx⟩ : ∃ x, x = xs.getD k (0, 0, 0) := ⟨_, rfl⟩
      rw [← hxx] at hx1 hx2 hx3
      have Hhxx := Lib.hid hxx; clear hxx
      have Hhb := Lib.hid hb; clear hb
      clear hcs1 hr1
      cases hbd : badM n x
      · have Hhbd := Lib.hid hbd; clear hbd
        go_wp2_with (go_at_call 105; refine (nfaValid1_any x n b _ hn hbb' Hc'.out _ Hhbd.out).mono ?_; rintro e w' ⟨rfl, o, rfl⟩)
        go_roundw
        case rel => exact ⟨k + 1, by omega, by go_num, any_snoc (d := (0, 0, 0)) hlt Hhtk.out (by rw [← Hhxx.out]; exact Hhbd.out), Hhb.out.alloc hsz _⟩
        case measure => simp [intOf]; omega
      · have Hhbd := Lib.hid hbd; clear hbd
        go_wp2_with (go_at_call 105; refine (nfaValid1_any x n b _ hn hbb' Hc'.out _ Hhbd.out).mono ?_; rintro e w' ⟨rfl, o, rfl⟩)
        go_ret
        exact ⟨ret_int (by rw [firstIdx_hit (d := (0, 0, 0)) hlt Hhtk.out (by rw [← Hhxx.out]; exact Hhbd.out)]), Hhb.out.alloc hsz _⟩
    · clear hr1
      have Hhb := Lib.hid hb; clear hb
      go_wp2
      go_ret
      exact ⟨ret_int (by rw [firstIdx_miss (by omega) Hhtk.out]), Hhb.out⟩
set_option maxHeartbeats 800000 in
theorem containsFuncNv_any (xs : List (Int × Int × Int)) (v : Value) (n : Int) (b : Nat) (w : World) (hn : 0 ≤ n ∧ n ≤ 40) (hbb : b < w.heap.size) (hc : w.cell? ⟨b, 0, none⟩ = some (.int .i64 n)) (h1 : Moves 0 w v xs) (r : Bool) (hr : xs.any (badM n) = r) :
    Calls Try.prog 104 #[v, .func (.func 105) #[] #[.pointer (some ⟨b, 0, none⟩)]] w fun e w' => e = .returned (.bool r) ∧ Below w.heap.size w w' := by
  obtain ⟨a1, c1, hv, -⟩ := h1.form
  have H1 := Lib.hid h1
  subst hv
  clear h1
  have Hhr := Lib.hid hr; clear hr
  go_enter Try.func104, Try.ntmps104
  go_wp2_with (go_at_call 144; refine (indexFuncNv_any xs _ n b _ hn hbb hc H1.out).mono ?_; rintro e w' ⟨rfl, hb'⟩; have Hb' := Lib.hid hb'; clear hb')
  go_ret
  exact ⟨ret_bool (by rw [← Hhr.out, firstIdx_any]), Hb'.out⟩
end Go.Proofs.Ytolkifpeblbfcaa
