/-
  The walks over the functions that hold two data against each other.
  Conditions: both arguments read as lists.
  The walk over the laws' sameInts.
  Conditions: both arguments read as lists.
-/
import Derived.Test.YthigcohfjoodlaaProg
import Derived.Test.YthigcohfjoodlaaGrow
import Derived.Deep.RegionHeld3
import Derived.BigQuiet
namespace Go.Proofs.Ythigcohfjoodlaa
open Go.RowKit

set_option maxHeartbeats 800000 in
theorem eqIntS_any (xs ys : List Int) (v1 v2 : Value) (w : World) (h1 : Ints 0 w v1 xs) (h2 : Ints 0 w v2 ys) (r : Bool) (hr : decide (xs = ys) = r) :
    Calls Try.prog 99 #[v1, v2] w fun e w' => e = .returned (.bool r) ∧ Below w.heap.size w w' := by
  obtain ⟨a1, c1, rfl, hc1, hm1, hr1⟩ := h1.form
  obtain ⟨a2, c2, rfl, hc2, hm2, hr2⟩ := h2.form
  clear h1 h2
  have Hhr := Lib.hid hr; clear hr
  by_cases hlen : xs.length = ys.length
  · have hl : ((xs.length : Int) != ys.length) = false := by rw [bne_len]; simpa using hlen
    have Hhlen := Lib.hid hlen; clear hlen
    go_enter Try.func99, Try.ntmps99
    go_wp2
    go_loopw [4, 5] (fun r i wr => ∃ k : Nat, k ≤ xs.length ∧ i = .int .i64 k ∧ xs.take k = ys.take k ∧ Below w.heap.size w wr) (fun _ i _ => xs.length - (intOf i).toNat)
    case atStart => exact ⟨0, Nat.zero_le _, rfl, rfl, Below.refl _ _⟩
    case round =>
      obtain ⟨k, hk, rfl, htk, hb⟩ := hrel
      have Hhtk := Lib.hid htk; clear htk
      by_cases hlt : k < xs.length
      · have hlt2 : k < ys.length := by have := Hhlen.out; omega
        obtain ⟨b1, o1, rfl, hB1, hbl1, hcs1⟩ := hr1 (by omega)
        obtain ⟨b2, o2, rfl, hB2, hbl2, hcs2⟩ := hr2 (by omega)
        have hx1 := (bcell hb b1 (o1 + k) hbl1).trans (hcs1 k hlt)
        have hx2 := (bcell hb b2 (o2 + k) hbl2).trans (hcs2 k hlt2)
        obtain ⟨x, hx⟩ : ∃ x, x = xs.getD k 0 := ⟨_, rfl⟩
        obtain ⟨y, hy⟩ : ∃ y, y = ys.getD k 0 := ⟨_, rfl⟩
        rw [← hx] at hx1
        rw [← hy] at hx2
        have Hhx := Lib.hid hx; clear hx
        have Hhy := Lib.hid hy; clear hy
        have Hhb := Lib.hid hb; clear hb
        clear hcs1 hcs2 hr1 hr2
        by_cases he : x = y
        · have hne : (x != y) = false := by simpa using he
          have hne' : (!(x == y)) = false := by simpa using he
          have Hhe := Lib.hid he; clear he
          go_wp2
          go_quiet (fail)
          go_wp2
          go_roundw
          case rel => exact ⟨k + 1, by omega, by go_num, take_snoc_eq (d := 0) hlt hlt2 Hhtk.out (by rw [← Hhx.out, ← Hhy.out]; exact Hhe.out), below_drewN Hhb.out _⟩
          case measure => simp [intOf]; omega
        · have hne : (x != y) = true := by simpa using he
          have hne' : (!(x == y)) = true := by simpa using he
          have Hhe := Lib.hid he; clear he
          go_wp2
          go_quiet (fail)
          go_wp2
          go_ret
          exact ⟨by rw [← Hhr.out, decide_eq_false (ne_of_getD (k := k) (d := 0) (by rw [← Hhx.out, ← Hhy.out]; exact Hhe.out))]; rfl, below_drewN Hhb.out _⟩
      · clear hr1 hr2
        have Hhb := Lib.hid hb; clear hb
        go_wp2
        go_ret
        exact ⟨by rw [← Hhr.out, decide_eq_true (eq_of_take Hhlen.out (by omega) Hhtk.out)]; rfl, Hhb.out⟩
  · have hl : ((xs.length : Int) != ys.length) = true := by rw [bne_len]; simpa using hlen
    have Hhlen := Lib.hid hlen; clear hlen
    clear hr1 hr2
    go_enter Try.func99, Try.ntmps99
    go_wp2
    go_ret
    exact ⟨by rw [← Hhr.out, decide_eq_false (fun h => Hhlen.out (by rw [h]))]; rfl, Below.refl _ _⟩

set_option maxHeartbeats 800000 in
theorem eqBoolS_any (xs ys : List Bool) (v1 v2 : Value) (w : World) (h1 : Bools 0 w v1 xs) (h2 : Bools 0 w v2 ys) (r : Bool) (hr : decide (xs = ys) = r) :
    Calls Try.prog 84 #[v1, v2] w fun e w' => e = .returned (.bool r) ∧ Below w.heap.size w w' := by
  obtain ⟨a1, c1, rfl, hc1, hm1, hr1⟩ := h1.form
  obtain ⟨a2, c2, rfl, hc2, hm2, hr2⟩ := h2.form
  clear h1 h2
  have Hhr := Lib.hid hr; clear hr
  by_cases hlen : xs.length = ys.length
  · have hl : ((xs.length : Int) != ys.length) = false := by rw [bne_len]; simpa using hlen
    have Hhlen := Lib.hid hlen; clear hlen
    go_enter Try.func84, Try.ntmps84
    go_wp2
    go_loopw [4, 5] (fun r i wr => ∃ k : Nat, k ≤ xs.length ∧ i = .int .i64 k ∧ xs.take k = ys.take k ∧ Below w.heap.size w wr) (fun _ i _ => xs.length - (intOf i).toNat)
    case atStart => exact ⟨0, Nat.zero_le _, rfl, rfl, Below.refl _ _⟩
    case round =>
      obtain ⟨k, hk, rfl, htk, hb⟩ := hrel
      have Hhtk := Lib.hid htk; clear htk
      by_cases hlt : k < xs.length
      · have hlt2 : k < ys.length := by have := Hhlen.out; omega
        obtain ⟨b1, o1, rfl, hB1, hbl1, hcs1⟩ := hr1 (by omega)
        obtain ⟨b2, o2, rfl, hB2, hbl2, hcs2⟩ := hr2 (by omega)
        have hx1 := (bcell hb b1 (o1 + k) hbl1).trans (hcs1 k hlt)
        have hx2 := (bcell hb b2 (o2 + k) hbl2).trans (hcs2 k hlt2)
        obtain ⟨x, hx⟩ : ∃ x, x = xs.getD k false := ⟨_, rfl⟩
        obtain ⟨y, hy⟩ : ∃ y, y = ys.getD k false := ⟨_, rfl⟩
        rw [← hx] at hx1
        rw [← hy] at hx2
        have Hhx := Lib.hid hx; clear hx
        have Hhy := Lib.hid hy; clear hy
        have Hhb := Lib.hid hb; clear hb
        clear hcs1 hcs2 hr1 hr2
        by_cases he : x = y
        · have hne : (x != y) = false := by simpa using he
          have hne' : (!(x == y)) = false := by simpa using he
          have Hhe := Lib.hid he; clear he
          go_wp2
          go_quiet (fail)
          go_wp2
          go_roundw
          case rel => exact ⟨k + 1, by omega, by go_num, take_snoc_eq (d := false) hlt hlt2 Hhtk.out (by rw [← Hhx.out, ← Hhy.out]; exact Hhe.out), below_drewN Hhb.out _⟩
          case measure => simp [intOf]; omega
        · have hne : (x != y) = true := by simpa using he
          have hne' : (!(x == y)) = true := by simpa using he
          have Hhe := Lib.hid he; clear he
          go_wp2
          go_quiet (fail)
          go_wp2
          go_ret
          exact ⟨by rw [← Hhr.out, decide_eq_false (ne_of_getD (k := k) (d := false) (by rw [← Hhx.out, ← Hhy.out]; exact Hhe.out))]; rfl, below_drewN Hhb.out _⟩
      · clear hr1 hr2
        have Hhb := Lib.hid hb; clear hb
        go_wp2
        go_ret
        exact ⟨by rw [← Hhr.out, decide_eq_true (eq_of_take Hhlen.out (by omega) Hhtk.out)]; rfl, Hhb.out⟩
  · have hl : ((xs.length : Int) != ys.length) = true := by rw [bne_len]; simpa using hlen
    have Hhlen := Lib.hid hlen; clear hlen
    clear hr1 hr2
    go_enter Try.func84, Try.ntmps84
    go_wp2
    go_ret
    exact ⟨by rw [← Hhr.out, decide_eq_false (fun h => Hhlen.out (by rw [h]))]; rfl, Below.refl _ _⟩
set_option maxHeartbeats 800000 in
theorem eqPair_any (x y : Int × Int) (w : World) (r : Bool) (hr : decide (x = y) = r) :
    Calls Try.prog 85 #[.agg #[.int .i64 x.1, .int .i64 x.2], .agg #[.int .i64 y.1, .int .i64 y.2]] w fun e w' => e = .returned (.bool r) ∧ ∃ o1 o2, w' = (w.alloc o1).alloc o2 := by
  obtain ⟨x1, x2⟩ := x
  obtain ⟨y1, y2⟩ := y
  subst hr
  by_cases h1 : x1 = y1
  · have e1 : (x1 != y1) = false := by simpa using h1
    by_cases h2 : x2 = y2
    · have e2 : (x2 != y2) = false := by simpa using h2
      have Hh1 := Lib.hid h1; clear h1
      have Hh2 := Lib.hid h2; clear h2
      go_enter Try.func85, Try.ntmps85
      go_wp2
      go_ret
      exact ⟨ret_bool (by rw [Hh1.out, Hh2.out]; simp), _, _, rfl⟩
    · have e2 : (x2 != y2) = true := by simpa using h2
      have Hh1 := Lib.hid h1; clear h1
      have Hh2 := Lib.hid h2; clear h2
      go_enter Try.func85, Try.ntmps85
      go_wp2
      go_ret
      exact ⟨ret_bool (by simp [Hh2.out]), _, _, rfl⟩
  · have e1 : (x1 != y1) = true := by simpa using h1
    have Hh1 := Lib.hid h1; clear h1
    go_enter Try.func85, Try.ntmps85
    go_wp2
    go_ret
    exact ⟨ret_bool (by simp [Hh1.out]), _, _, rfl⟩

set_option maxHeartbeats 800000 in
theorem eqPairS_any (xs ys : List (Int × Int)) (v1 v2 : Value) (w : World) (h1 : Pairs 0 w v1 xs) (h2 : Pairs 0 w v2 ys) (r : Bool) (hr : decide (xs = ys) = r) :
    Calls Try.prog 22 #[v1, v2] w fun e w' => e = .returned (.bool r) ∧ Below w.heap.size w w' := by
  obtain ⟨a1, c1, rfl, hc1, hm1, hr1⟩ := h1.form
  obtain ⟨a2, c2, rfl, hc2, hm2, hr2⟩ := h2.form
  clear h1 h2
  have Hhr := Lib.hid hr; clear hr
  by_cases hlen : xs.length = ys.length
  · have hl : ((xs.length : Int) != ys.length) = false := by rw [bne_len]; simpa using hlen
    have Hhlen := Lib.hid hlen; clear hlen
    go_enter Try.func22, Try.ntmps22
    go_wp2
    go_loopw [4, 5] (fun r i wr => ∃ k : Nat, k ≤ xs.length ∧ i = .int .i64 k ∧ xs.take k = ys.take k ∧ Below w.heap.size w wr) (fun _ i _ => xs.length - (intOf i).toNat)
    case atStart => exact ⟨0, Nat.zero_le _, rfl, rfl, Below.refl _ _⟩
    case round =>
      obtain ⟨k, hk, rfl, htk, hb⟩ := hrel
      have Hhtk := Lib.hid htk; clear htk
      by_cases hlt : k < xs.length
      · have hlt2 : k < ys.length := by have := Hhlen.out; omega
        obtain ⟨b1, o1, rfl, hB1, hbl1, hcs1⟩ := hr1 (by omega)
        obtain ⟨b2, o2, rfl, hB2, hbl2, hcs2⟩ := hr2 (by omega)
        have hx1 := (bcell hb b1 (o1 + k * 2) hbl1).trans (hcs1 k hlt).1
        have hx2 := (bcell hb b1 (o1 + k * 2 + 1) hbl1).trans (hcs1 k hlt).2
        have hy1 := (bcell hb b2 (o2 + k * 2) hbl2).trans (hcs2 k hlt2).1
        have hy2 := (bcell hb b2 (o2 + k * 2 + 1) hbl2).trans (hcs2 k hlt2).2
        obtain ⟨x, hx⟩ : ∃ x, x = xs.getD k (0, 0) := ⟨_, rfl⟩
        obtain ⟨y, hy⟩ : ∃ y, y = ys.getD k (0, 0) := ⟨_, rfl⟩
        rw [← hx] at hx1 hx2
        rw [← hy] at hy1 hy2
        have Hhx := Lib.hid hx; clear hx
        have Hhy := Lib.hid hy; clear hy
        have Hhb := Lib.hid hb; clear hb
        clear hcs1 hcs2 hr1 hr2
        cases he : decide (x = y)
        all_goals
          have Hhe := Lib.hid he; clear he
          go_wp2
          go_region_held3 (fun w' => w'.cell? ⟨b1, o1 + k * 2, none⟩ = some (.int .i64 x.1) ∧ w'.cell? ⟨b1, o1 + k * 2 + 1, none⟩ = some (.int .i64 x.2) ∧ w'.cell? ⟨b2, o2 + k * 2, none⟩ = some (.int .i64 y.1) ∧ w'.cell? ⟨b2, o2 + k * 2 + 1, none⟩ = some (.int .i64 y.2))
            (go_keep)
            (first | (go_at_call 85; refine (eqPair_any x y _ _ Hhe.out).mono ?_; rintro e w2 ⟨rfl, o1, o2, rfl⟩))
          skip
          go_wp2
        · go_ret
          exact ⟨by rw [← Hhr.out, decide_eq_false (ne_of_getD (k := k) (d := (0, 0)) (by rw [← Hhx.out, ← Hhy.out]; exact of_decide_eq_false Hhe.out))]; rfl, Hhb.out.drew.trans (((Below.refl _ _).alloc (by have := Hhb.out.size; simpa using this) _).alloc (by have := Hhb.out.size; simp; omega) _)⟩
        · go_roundw
          case rel => exact ⟨k + 1, by omega, by go_num, take_snoc_eq (d := (0, 0)) hlt hlt2 Hhtk.out (by rw [← Hhx.out, ← Hhy.out]; exact of_decide_eq_true Hhe.out), Hhb.out.drew.trans (((Below.refl _ _).alloc (by have := Hhb.out.size; simpa using this) _).alloc (by have := Hhb.out.size; simp; omega) _)⟩
          case measure => simp [intOf]; omega
      · clear hr1 hr2
        have Hhb := Lib.hid hb; clear hb
        go_wp2
        go_ret
        exact ⟨by rw [← Hhr.out, decide_eq_true (eq_of_take Hhlen.out (by omega) Hhtk.out)]; rfl, Hhb.out⟩
  · have hl : ((xs.length : Int) != ys.length) = true := by rw [bne_len]; simpa using hlen
    have Hhlen := Lib.hid hlen; clear hlen
    clear hr1 hr2
    go_enter Try.func22, Try.ntmps22
    go_wp2
    go_ret
    exact ⟨by rw [← Hhr.out, decide_eq_false (fun h => Hhlen.out (by rw [h]))]; rfl, Below.refl _ _⟩
set_option maxHeartbeats 800000 in
theorem eqMove_any (x y : Int × Int × Int) (w : World) (r : Bool) (hr : decide (x = y) = r) :
    Calls Try.prog 153 #[.agg #[.int .i64 x.1, .int .i64 x.2.1, .int .i64 x.2.2], .agg #[.int .i64 y.1, .int .i64 y.2.1, .int .i64 y.2.2]] w fun e w' => e = .returned (.bool r) ∧ ∃ o1 o2, w' = (w.alloc o1).alloc o2 := by
  obtain ⟨x1, x2, x3⟩ := x
  obtain ⟨y1, y2, y3⟩ := y
  subst hr
  by_cases h1 : x1 = y1
  · have e1 : (x1 != y1) = false := by simpa using h1
    by_cases h2 : x2 = y2
    · have e2 : (x2 != y2) = false := by simpa using h2
      by_cases h3 : x3 = y3
      · have e3 : (x3 != y3) = false := by simpa using h3
        have Hh1 := Lib.hid h1; clear h1
        have Hh2 := Lib.hid h2; clear h2
        have Hh3 := Lib.hid h3; clear h3
        go_enter Try.func153, Try.ntmps153
        go_wp2
        go_ret
        exact ⟨ret_bool (by rw [Hh1.out, Hh2.out, Hh3.out]; simp), _, _, rfl⟩
      · have e3 : (x3 != y3) = true := by simpa using h3
        have Hh1 := Lib.hid h1; clear h1
        have Hh2 := Lib.hid h2; clear h2
        have Hh3 := Lib.hid h3; clear h3
        go_enter Try.func153, Try.ntmps153
        go_wp2
        go_ret
        exact ⟨ret_bool (by simp [Hh3.out]), _, _, rfl⟩
    · have e2 : (x2 != y2) = true := by simpa using h2
      have Hh1 := Lib.hid h1; clear h1
      have Hh2 := Lib.hid h2; clear h2
      go_enter Try.func153, Try.ntmps153
      go_wp2
      go_ret
      exact ⟨ret_bool (by simp [Hh2.out]), _, _, rfl⟩
  · have e1 : (x1 != y1) = true := by simpa using h1
    have Hh1 := Lib.hid h1; clear h1
    go_enter Try.func153, Try.ntmps153
    go_wp2
    go_ret
    exact ⟨ret_bool (by simp [Hh1.out]), _, _, rfl⟩

set_option maxHeartbeats 800000 in
theorem eqMoveS_any (xs ys : List (Int × Int × Int)) (v1 v2 : Value) (w : World) (h1 : Moves 0 w v1 xs) (h2 : Moves 0 w v2 ys) (r : Bool) (hr : decide (xs = ys) = r) :
    Calls Try.prog 98 #[v1, v2] w fun e w' => e = .returned (.bool r) ∧ Below w.heap.size w w' := by
  obtain ⟨a1, c1, rfl, hc1, hm1, hr1⟩ := h1.form
  obtain ⟨a2, c2, rfl, hc2, hm2, hr2⟩ := h2.form
  clear h1 h2
  have Hhr := Lib.hid hr; clear hr
  by_cases hlen : xs.length = ys.length
  · have hl : ((xs.length : Int) != ys.length) = false := by rw [bne_len]; simpa using hlen
    have Hhlen := Lib.hid hlen; clear hlen
    go_enter Try.func98, Try.ntmps98
    go_wp2
    go_loopw [4, 5] (fun r i wr => ∃ k : Nat, k ≤ xs.length ∧ i = .int .i64 k ∧ xs.take k = ys.take k ∧ Below w.heap.size w wr) (fun _ i _ => xs.length - (intOf i).toNat)
    case atStart => exact ⟨0, Nat.zero_le _, rfl, rfl, Below.refl _ _⟩
    case round =>
      obtain ⟨k, hk, rfl, htk, hb⟩ := hrel
      have Hhtk := Lib.hid htk; clear htk
      by_cases hlt : k < xs.length
      · have hlt2 : k < ys.length := by have := Hhlen.out; omega
        obtain ⟨b1, o1, rfl, hB1, hbl1, hcs1⟩ := hr1 (by omega)
        obtain ⟨b2, o2, rfl, hB2, hbl2, hcs2⟩ := hr2 (by omega)
        have hx1 := (bcell hb b1 (o1 + k * 3) hbl1).trans (hcs1 k hlt).1
        have hx2 := (bcell hb b1 (o1 + k * 3 + 1) hbl1).trans (hcs1 k hlt).2.1
        have hx3 := (bcell hb b1 (o1 + k * 3 + 2) hbl1).trans (hcs1 k hlt).2.2
        have hy1 := (bcell hb b2 (o2 + k * 3) hbl2).trans (hcs2 k hlt2).1
        have hy2 := (bcell hb b2 (o2 + k * 3 + 1) hbl2).trans (hcs2 k hlt2).2.1
        have hy3 := (bcell hb b2 (o2 + k * 3 + 2) hbl2).trans (hcs2 k hlt2).2.2
        obtain ⟨x, hx⟩ : ∃ x, x = xs.getD k (0, 0, 0) := ⟨_, rfl⟩
        obtain ⟨y, hy⟩ : ∃ y, y = ys.getD k (0, 0, 0) := ⟨_, rfl⟩
        rw [← hx] at hx1 hx2 hx3
        rw [← hy] at hy1 hy2 hy3
        have Hhx := Lib.hid hx; clear hx
        have Hhy := Lib.hid hy; clear hy
        have Hhb := Lib.hid hb; clear hb
        clear hcs1 hcs2 hr1 hr2
        cases he : decide (x = y)
        all_goals
          have Hhe := Lib.hid he; clear he
          go_wp2
          go_region_held3 (fun w' => w'.cell? ⟨b1, o1 + k * 3, none⟩ = some (.int .i64 x.1) ∧ w'.cell? ⟨b1, o1 + k * 3 + 1, none⟩ = some (.int .i64 x.2.1) ∧ w'.cell? ⟨b1, o1 + k * 3 + 2, none⟩ = some (.int .i64 x.2.2) ∧ w'.cell? ⟨b2, o2 + k * 3, none⟩ = some (.int .i64 y.1) ∧ w'.cell? ⟨b2, o2 + k * 3 + 1, none⟩ = some (.int .i64 y.2.1) ∧ w'.cell? ⟨b2, o2 + k * 3 + 2, none⟩ = some (.int .i64 y.2.2))
            (go_keep)
            (first | (go_at_call 153; refine (eqMove_any x y _ _ Hhe.out).mono ?_; rintro e w2 ⟨rfl, o1, o2, rfl⟩))
          skip
          go_wp2
        · go_ret
          exact ⟨by rw [← Hhr.out, decide_eq_false (ne_of_getD (k := k) (d := (0, 0, 0)) (by rw [← Hhx.out, ← Hhy.out]; exact of_decide_eq_false Hhe.out))]; rfl, Hhb.out.drew.trans (((Below.refl _ _).alloc (by have := Hhb.out.size; simpa using this) _).alloc (by have := Hhb.out.size; simp; omega) _)⟩
        · go_roundw
          case rel => exact ⟨k + 1, by omega, by go_num, take_snoc_eq (d := (0, 0, 0)) hlt hlt2 Hhtk.out (by rw [← Hhx.out, ← Hhy.out]; exact of_decide_eq_true Hhe.out), Hhb.out.drew.trans (((Below.refl _ _).alloc (by have := Hhb.out.size; simpa using this) _).alloc (by have := Hhb.out.size; simp; omega) _)⟩
          case measure => simp [intOf]; omega
      · clear hr1 hr2
        have Hhb := Lib.hid hb; clear hb
        go_wp2
        go_ret
        exact ⟨by rw [← Hhr.out, decide_eq_true (eq_of_take Hhlen.out (by omega) Hhtk.out)]; rfl, Hhb.out⟩
  · have hl : ((xs.length : Int) != ys.length) = true := by rw [bne_len]; simpa using hlen
    have Hhlen := Lib.hid hlen; clear hlen
    clear hr1 hr2
    go_enter Try.func98, Try.ntmps98
    go_wp2
    go_ret
    exact ⟨by rw [← Hhr.out, decide_eq_false (fun h => Hhlen.out (by rw [h]))]; rfl, Below.refl _ _⟩

set_option maxHeartbeats 800000 in
theorem eqIntSS_any (xs ys : List (List Int)) (v1 v2 : Value) (w : World) (h1 : IntSS 0 w v1 xs) (h2 : IntSS 0 w v2 ys) (r : Bool) (hr : decide (xs = ys) = r) :
    Calls Try.prog 83 #[v1, v2] w fun e w' => e = .returned (.bool r) ∧ Below w.heap.size w w' := by
  obtain ⟨a1, c1, rfl, hc1, hm1, hr1⟩ := h1.formI
  obtain ⟨a2, c2, rfl, hc2, hm2, hr2⟩ := h2.formI
  clear h1 h2
  have Hhr := Lib.hid hr; clear hr
  by_cases hlen : xs.length = ys.length
  · have hl : ((xs.length : Int) != ys.length) = false := by rw [bne_len]; simpa using hlen
    have Hhlen := Lib.hid hlen; clear hlen
    go_enter Try.func83, Try.ntmps83
    go_wp2
    go_loopw [4, 5] (fun r i wr => ∃ k : Nat, k ≤ xs.length ∧ i = .int .i64 k ∧ xs.take k = ys.take k ∧ Below w.heap.size w wr) (fun _ i _ => xs.length - (intOf i).toNat)
    case atStart => exact ⟨0, Nat.zero_le _, rfl, rfl, Below.refl _ _⟩
    case round =>
      obtain ⟨k, hk, rfl, htk, hb⟩ := hrel
      have Hhtk := Lib.hid htk; clear htk
      by_cases hlt : k < xs.length
      · have hlt2 : k < ys.length := by have := Hhlen.out; omega
        obtain ⟨b1, o1, rfl, hB1, hbl1, hcs1⟩ := hr1 (by omega)
        obtain ⟨b2, o2, rfl, hB2, hbl2, hcs2⟩ := hr2 (by omega)
        obtain ⟨ax, cx, hxc, hxl, hxm, hxi⟩ := hcs1 k hlt
        obtain ⟨ay, cy, hyc, hyl, hym, hyi⟩ := hcs2 k hlt2
        have hx1 := (bcell hb b1 (o1 + k) hbl1).trans hxc
        have hx2 := (bcell hb b2 (o2 + k) hbl2).trans hyc
        obtain ⟨x, hx⟩ : ∃ x, x = xs.getD k [] := ⟨_, rfl⟩
        obtain ⟨y, hy⟩ : ∃ y, y = ys.getD k [] := ⟨_, rfl⟩
        rw [← hx] at hx1 hxi hxl
        rw [← hy] at hx2 hyi hyl
        have Hxi := Lib.hid (hxi.below hb).drew
        have Hyi := Lib.hid (hyi.below hb).drew
        clear hxc hyc hxi hyi
        have Hhx := Lib.hid hx; clear hx
        have Hhy := Lib.hid hy; clear hy
        have Hhb := Lib.hid hb; clear hb
        clear hcs1 hcs2 hr1 hr2
        have hd1 : b1 < wr.drew.heap.size := Nat.lt_of_lt_of_le hbl1 Hhb.out.size
        have hd2 : b2 < wr.drew.heap.size := Nat.lt_of_lt_of_le hbl2 Hhb.out.size
        cases he : decide (x = y)
        all_goals
          have Hhe := Lib.hid he; clear he
          go_wp2
          go_region_held3 (fun w' => w'.cell? ⟨b1, o1 + k, none⟩ = some (.slice ax x.length cx) ∧ w'.cell? ⟨b2, o2 + k, none⟩ = some (.slice ay y.length cy))
            (first | go_keep | exact ⟨(bcell hb2 b1 (o1 + k) hd1).trans hx1, (bcell hb2 b2 (o2 + k) hd2).trans hx2⟩)
            (first | (go_at_call 99; refine (eqIntS_any x y _ _ _ Hxi.out Hyi.out _ Hhe.out).mono ?_; rintro e w2 ⟨rfl, hb2⟩))
          have Hb2 := Lib.hid hb2; clear hb2
          go_wp2
        · go_ret
          exact ⟨by rw [← Hhr.out, decide_eq_false (ne_of_getD (k := k) (d := []) (by rw [← Hhx.out, ← Hhy.out]; exact of_decide_eq_false Hhe.out))]; rfl, (Hhb.out.drew.trans (Hb2.out.mono (by have := Hhb.out.size; simpa using this)))⟩
        · go_roundw
          case rel => exact ⟨k + 1, by omega, by go_num, take_snoc_eq (d := []) hlt hlt2 Hhtk.out (by rw [← Hhx.out, ← Hhy.out]; exact of_decide_eq_true Hhe.out), (Hhb.out.drew.trans (Hb2.out.mono (by have := Hhb.out.size; simpa using this)))⟩
          case measure => simp [intOf]; omega
      · clear hr1 hr2
        have Hhb := Lib.hid hb; clear hb
        go_wp2
        go_ret
        exact ⟨by rw [← Hhr.out, decide_eq_true (eq_of_take Hhlen.out (by omega) Hhtk.out)]; rfl, Hhb.out⟩
  · have hl : ((xs.length : Int) != ys.length) = true := by rw [bne_len]; simpa using hlen
    have Hhlen := Lib.hid hlen; clear hlen
    clear hr1 hr2
    go_enter Try.func83, Try.ntmps83
    go_wp2
    go_ret
    exact ⟨by rw [← Hhr.out, decide_eq_false (fun h => Hhlen.out (by rw [h]))]; rfl, Below.refl _ _⟩
end Go.Proofs.Ythigcohfjoodlaa
namespace Go.Proofs.Ythigcohfjoodlaa
open Go.RowKit

set_option maxHeartbeats 800000 in
theorem sameInts_any (xs ys : List Int) (v1 v2 : Value) (w : World) (h1 : Ints 0 w v1 xs) (h2 : Ints 0 w v2 ys) (r : Bool) (hr : decide (xs = ys) = r) :
    Calls Try.prog 70 #[v1, v2] w fun e w' => e = .returned (.bool r) ∧ Below w.heap.size w w' := by
  obtain ⟨a1, c1, rfl, hc1, hm1, hr1⟩ := h1.form
  obtain ⟨a2, c2, rfl, hc2, hm2, hr2⟩ := h2.form
  clear h1 h2
  have Hhr := Lib.hid hr; clear hr
  by_cases hlen : xs.length = ys.length
  · have hl : ((xs.length : Int) != ys.length) = false := by rw [bne_len]; simpa using hlen
    have Hhlen := Lib.hid hlen; clear hlen
    go_enter Try.func70, Try.ntmps70
    go_wp2
    go_loopw [4, 5] (fun r i wr => ∃ k : Nat, k ≤ xs.length ∧ i = .int .i64 k ∧ xs.take k = ys.take k ∧ Below w.heap.size w wr) (fun _ i _ => xs.length - (intOf i).toNat)
    case atStart => exact ⟨0, Nat.zero_le _, rfl, rfl, Below.refl _ _⟩
    case round =>
      obtain ⟨k, hk, rfl, htk, hb⟩ := hrel
      have Hhtk := Lib.hid htk; clear htk
      by_cases hlt : k < xs.length
      · have hlt2 : k < ys.length := by have := Hhlen.out; omega
        obtain ⟨b1, o1, rfl, hB1, hbl1, hcs1⟩ := hr1 (by omega)
        obtain ⟨b2, o2, rfl, hB2, hbl2, hcs2⟩ := hr2 (by omega)
        have hx1 := (bcell hb b1 (o1 + k) hbl1).trans (hcs1 k hlt)
        have hx2 := (bcell hb b2 (o2 + k) hbl2).trans (hcs2 k hlt2)
        obtain ⟨x, hx⟩ : ∃ x, x = xs.getD k 0 := ⟨_, rfl⟩
        obtain ⟨y, hy⟩ : ∃ y, y = ys.getD k 0 := ⟨_, rfl⟩
        rw [← hx] at hx1
        rw [← hy] at hx2
        have Hhx := Lib.hid hx; clear hx
        have Hhy := Lib.hid hy; clear hy
        have Hhb := Lib.hid hb; clear hb
        clear hcs1 hcs2 hr1 hr2
        by_cases he : x = y
        · have hne : (x != y) = false := by simpa using he
          have hne' : (!(x == y)) = false := by simpa using he
          have Hhe := Lib.hid he; clear he
          go_wp2
          go_quiet (fail)
          go_wp2
          go_roundw
          case rel => exact ⟨k + 1, by omega, by go_num, take_snoc_eq (d := 0) hlt hlt2 Hhtk.out (by rw [← Hhx.out, ← Hhy.out]; exact Hhe.out), below_drewN Hhb.out _⟩
          case measure => simp [intOf]; omega
        · have hne : (x != y) = true := by simpa using he
          have hne' : (!(x == y)) = true := by simpa using he
          have Hhe := Lib.hid he; clear he
          go_wp2
          go_quiet (fail)
          go_wp2
          go_ret
          exact ⟨by rw [← Hhr.out, decide_eq_false (ne_of_getD (k := k) (d := 0) (by rw [← Hhx.out, ← Hhy.out]; exact Hhe.out))]; rfl, below_drewN Hhb.out _⟩
      · clear hr1 hr2
        have Hhb := Lib.hid hb; clear hb
        go_wp2
        go_ret
        exact ⟨by rw [← Hhr.out, decide_eq_true (eq_of_take Hhlen.out (by omega) Hhtk.out)]; rfl, Hhb.out⟩
  · have hl : ((xs.length : Int) != ys.length) = true := by rw [bne_len]; simpa using hlen
    have Hhlen := Lib.hid hlen; clear hlen
    clear hr1 hr2
    go_enter Try.func70, Try.ntmps70
    go_wp2
    go_ret
    exact ⟨by rw [← Hhr.out, decide_eq_false (fun h => Hhlen.out (by rw [h]))]; rfl, Below.refl _ _⟩

end Go.Proofs.Ythigcohfjoodlaa
