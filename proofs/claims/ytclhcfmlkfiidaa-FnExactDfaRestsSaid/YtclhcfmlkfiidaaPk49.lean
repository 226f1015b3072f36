/-
  The walks over the functions that hold two data against each other.
  Conditions: both arguments read as lists.
  The walks over the functions that hold two automata against each other.
  Conditions: both arguments read as automata.
-/
import Derived.Test.YtclhcfmlkfiidaaProg
import Derived.Test.YtclhcfmlkfiidaaLib
import Derived.Deep.RegionHeld3
import Derived.BigQuiet
import Derived.Test.YtclhcfmlkfiidaaOwn
namespace Go.Proofs.Ytclhcfmlkfiidaa
open Go.RowKit

set_option maxHeartbeats 800000 in
theorem eqIntS_any (xs ys : List Int) (v1 v2 : Value) (w : World) (h1 : Ints 0 w v1 xs) (h2 : Ints 0 w v2 ys) (r : Bool) (hr : decide (xs = ys) = r) :
    Calls Try.prog 27 #[v1, v2] w fun e w' => e = .returned (.bool r) ∧ Below w.heap.size w w' := by
  obtain ⟨a1, c1, rfl, hc1, hm1, hr1⟩ := h1.form
  obtain ⟨a2, c2, rfl, hc2, hm2, hr2⟩ := h2.form
  clear h1 h2
  have Hhr := Lib.hid hr; clear hr
  by_cases hlen : xs.length = ys.length
  · have hl : ((xs.length : Int) != ys.length) = false := by rw [bne_len]; simpa using hlen
    have Hhlen := Lib.hid hlen; clear hlen
    go_enter Try.func27, Try.ntmps27
    go_wp2
    go_loopw [4, 5] (fun r i wr => ∃ k : Nat, k ≤ xs.length ∧ i = .int .i64 k ∧ xs.take k = ys.take k ∧ Below w.heap.size w wr) (fun _ i _ => xs.length - (intOf i).toNat)
    case atStart => exact ⟨0, Nat.zero_le _, rfl, rfl, Below.refl _ _⟩
    case round =>
      obtain ⟨k, hk, rfl, htk, hb⟩ := hrel
      have Hhtk := Lib.hid htk; clear htk
      by_cases hlt : k < xs.length
      · have hlt2 : k < ys.length := by have := Hhlen.out; omega
        obtain ⟨b1, o1, rfl, hB1, hbl1, hcs1⟩ := hr1 (by omega)
        obtain ⟨b2, o2, rfl, hB2, hbl2, hcs2⟩ := hr2 (by omega)
        have hx1 := (bcell hb b1 (o1 + k) hbl1).trans (hcs1 k hlt)
        have hx2 := (bcell hb b2 (o2 + k) hbl2).trans (hcs2 k hlt2)
        obtain ⟨x, hx⟩ : ∃ x, x = xs.getD k 0 := ⟨_, rfl⟩
        obtain ⟨y, hy⟩ : ∃ y, y = ys.getD k 0 := ⟨_, rfl⟩
        rw [← hx] at hx1
        rw [← hy] at hx2
        have Hhx := Lib.hid hx; clear hx
        have Hhy := Lib.hid hy; clear hy
        have Hhb := Lib.hid hb; clear hb
        clear hcs1 hcs2 hr1 hr2
        by_cases he : x = y
        · have hne : (x != y) = false := by simpa using he
          have hne' : (!(x == y)) = false := by simpa using he
          have Hhe := Lib.hid he; clear he
          go_wp2
          go_quiet (fail)
          go_wp2
          go_roundw
          case rel => exact ⟨k + 1, by omega, by go_num, take_snoc_eq (d := 0) hlt hlt2 Hhtk.out (by rw [← Hhx.out, ← Hhy.out]; exact Hhe.out), below_drewN Hhb.out _⟩
          case measure => simp [intOf]; omega
        · have hne : (x != y) = true := by simpa using he
          have hne' : (!(x == y)) = true := by simpa using he
          have Hhe := Lib.hid he; clear he
          go_wp2
          go_quiet (fail)
          go_wp2
          go_ret
          exact ⟨by rw [← Hhr.out, decide_eq_false (ne_of_getD (k := k) (d := 0) (by rw [← Hhx.out, ← Hhy.out]; exact Hhe.out))]; rfl, below_drewN Hhb.out _⟩
      · clear hr1 hr2
        have Hhb := Lib.hid hb; clear hb
        go_wp2
        go_ret
        exact ⟨by rw [← Hhr.out, decide_eq_true (eq_of_take Hhlen.out (by omega) Hhtk.out)]; rfl, Hhb.out⟩
  · have hl : ((xs.length : Int) != ys.length) = true := by rw [bne_len]; simpa using hlen
    have Hhlen := Lib.hid hlen; clear hlen
    clear hr1 hr2
    go_enter Try.func27, Try.ntmps27
    go_wp2
    go_ret
    exact ⟨by rw [← Hhr.out, decide_eq_false (fun h => Hhlen.out (by rw [h]))]; rfl, Below.refl _ _⟩

set_option maxHeartbeats 800000 in
theorem eqBoolS_any (xs ys : List Bool) (v1 v2 : Value) (w : World) (h1 : Bools 0 w v1 xs) (h2 : Bools 0 w v2 ys) (r : Bool) (hr : decide (xs = ys) = r) :
    Calls Try.prog 47 #[v1, v2] w fun e w' => e = .returned (.bool r) ∧ Below w.heap.size w w' := by
  obtain ⟨a1, c1, rfl, hc1, hm1, hr1⟩ := h1.form
  obtain ⟨a2, c2, rfl, hc2, hm2, hr2⟩ := h2.form
  clear h1 h2
  have Hhr := Lib.hid hr; clear hr
  by_cases hlen : xs.length = ys.length
  · have hl : ((xs.length : Int) != ys.length) = false := by rw [bne_len]; simpa using hlen
    have Hhlen := Lib.hid hlen; clear hlen
    go_enter Try.func47, Try.ntmps47
    go_wp2
    go_loopw [4, 5] (fun r i wr => ∃ k : Nat, k ≤ xs.length ∧ i = .int .i64 k ∧ xs.take k = ys.take k ∧ Below w.heap.size w wr) (fun _ i _ => xs.length - (intOf i).toNat)
    case atStart => exact ⟨0, Nat.zero_le _, rfl, rfl, Below.refl _ _⟩
    case round =>
      obtain ⟨k, hk, rfl, htk, hb⟩ := hrel
      have Hhtk := Lib.hid htk; clear htk
      by_cases hlt : k < xs.length
      · have hlt2 : k < ys.length := by have := Hhlen.out; omega
        obtain ⟨b1, o1, rfl, hB1, hbl1, hcs1⟩ := hr1 (by omega)
        obtain ⟨b2, o2, rfl, hB2, hbl2, hcs2⟩ := hr2 (by omega)
        have hx1 := (bcell hb b1 (o1 + k) hbl1).trans (hcs1 k hlt)
        have hx2 := (bcell hb b2 (o2 + k) hbl2).trans (hcs2 k hlt2)
        obtain ⟨x, hx⟩ : ∃ x, x = xs.getD k false := ⟨_, rfl⟩
        obtain ⟨y, hy⟩ : ∃ y, y = ys.getD k false := ⟨_, rfl⟩
        rw [← hx] at hx1
        rw [← hy] at hx2
        have Hhx := Lib.hid hx; clear hx
        have Hhy := Lib.hid hy; clear hy
        have Hhb := Lib.hid hb; clear hb
        clear hcs1 hcs2 hr1 hr2
        by_cases he : x = y
        · have hne : (x != y) = false := by simpa using he
          have hne' : (!(x == y)) = false := by simpa using he
          have Hhe := Lib.hid he; clear he
          go_wp2
          go_quiet (fail)
          go_wp2
          go_roundw
          case rel => exact ⟨k + 1, by omega, by go_num, take_snoc_eq (d := false) hlt hlt2 Hhtk.out (by rw [← Hhx.out, ← Hhy.out]; exact Hhe.out), below_drewN Hhb.out _⟩
          case measure => simp [intOf]; omega
        · have hne : (x != y) = true := by simpa using he
          have hne' : (!(x == y)) = true := by simpa using he
          have Hhe := Lib.hid he; clear he
          go_wp2
          go_quiet (fail)
          go_wp2
          go_ret
          exact ⟨by rw [← Hhr.out, decide_eq_false (ne_of_getD (k := k) (d := false) (by rw [← Hhx.out, ← Hhy.out]; exact Hhe.out))]; rfl, below_drewN Hhb.out _⟩
      · clear hr1 hr2
        have Hhb := Lib.hid hb; clear hb
        go_wp2
        go_ret
        exact ⟨by rw [← Hhr.out, decide_eq_true (eq_of_take Hhlen.out (by omega) Hhtk.out)]; rfl, Hhb.out⟩
  · have hl : ((xs.length : Int) != ys.length) = true := by rw [bne_len]; simpa using hlen
    have Hhlen := Lib.hid hlen; clear hlen
    clear hr1 hr2
    go_enter Try.func47, Try.ntmps47
    go_wp2
    go_ret
    exact ⟨by rw [← Hhr.out, decide_eq_false (fun h => Hhlen.out (by rw [h]))]; rfl, Below.refl _ _⟩
set_option maxHeartbeats 800000 in
theorem eqPair_any (x y : Int × Int) (w : World) (r : Bool) (hr : decide (x = y) = r) :
    Calls Try.prog 45 #[.agg #[.int .i64 x.1, .int .i64 x.2], .agg #[.int .i64 y.1, .int .i64 y.2]] w fun e w' => e = .returned (.bool r) ∧ ∃ o1 o2, w' = (w.alloc o1).alloc o2 := by
  obtain ⟨x1, x2⟩ := x
  obtain ⟨y1, y2⟩ := y
  subst hr
  by_cases h1 : x1 = y1
  · have e1 : (x1 != y1) = false := by simpa using h1
    by_cases h2 : x2 = y2
    · have e2 : (x2 != y2) = false := by simpa using h2
      have Hh1 := Lib.hid h1; clear h1
      have Hh2 := Lib.hid h2; clear h2
      go_enter Try.func45, Try.ntmps45
      go_wp2
      go_ret
      exact ⟨ret_bool (by rw [Hh1.out, Hh2.out]; simp), _, _, rfl⟩
    · have e2 : (x2 != y2) = true := by simpa using h2
      have Hh1 := Lib.hid h1; clear h1
      have Hh2 := Lib.hid h2; clear h2
      go_enter Try.func45, Try.ntmps45
      go_wp2
      go_ret
      exact ⟨ret_bool (by simp [Hh2.out]), _, _, rfl⟩
  · have e1 : (x1 != y1) = true := by simpa using h1
    have Hh1 := Lib.hid h1; clear h1
    go_enter Try.func45, Try.ntmps45
    go_wp2
    go_ret
    exact ⟨ret_bool (by simp [Hh1.out]), _, _, rfl⟩

set_option maxHeartbeats 800000 in
theorem eqPairS_any (xs ys : List (Int × Int)) (v1 v2 : Value) (w : World) (h1 : Pairs 0 w v1 xs) (h2 : Pairs 0 w v2 ys) (r : Bool) (hr : decide (xs = ys) = r) :
    Calls Try.prog 15 #[v1, v2] w fun e w' => e = .returned (.bool r) ∧ Below w.heap.size w w' := by
  obtain ⟨a1, c1, rfl, hc1, hm1, hr1⟩ := h1.form
  obtain ⟨a2, c2, rfl, hc2, hm2, hr2⟩ := h2.form
  clear h1 h2
  have Hhr := Lib.hid hr; clear hr
  by_cases hlen : xs.length = ys.length
  · have hl : ((xs.length : Int) != ys.length) = false := by rw [bne_len]; simpa using hlen
    have Hhlen := Lib.hid hlen; clear hlen
    go_enter Try.func15, Try.ntmps15
    go_wp2
    go_loopw [4, 5] (fun r i wr => ∃ k : Nat, k ≤ xs.length ∧ i = .int .i64 k ∧ xs.take k = ys.take k ∧ Below w.heap.size w wr) (fun _ i _ => xs.length - (intOf i).toNat)
    case atStart => exact ⟨0, Nat.zero_le _, rfl, rfl, Below.refl _ _⟩
    case round =>
      obtain ⟨k, hk, rfl, htk, hb⟩ := hrel
      have Hhtk := Lib.hid htk; clear htk
      by_cases hlt : k < xs.length
      · have hlt2 : k < ys.length := by have := Hhlen.out; omega
        obtain ⟨b1, o1, rfl, hB1, hbl1, hcs1⟩ := hr1 (by omega)
        obtain ⟨b2, o2, rfl, hB2, hbl2, hcs2⟩ := hr2 (by omega)
        have hx1 := (bcell hb b1 (o1 + k * 2) hbl1).trans (hcs1 k hlt).1
        have hx2 := (bcell hb b1 (o1 + k * 2 + 1) hbl1).trans (hcs1 k hlt).2
        have hy1 := (bcell hb b2 (o2 + k * 2) hbl2).trans (hcs2 k hlt2).1
        have hy2 := (bcell hb b2 (o2 + k * 2 + 1) hbl2).trans (hcs2 k hlt2).2
        obtain ⟨x, hx⟩ : ∃ x, x = xs.getD k (0, 0) := ⟨_, rfl⟩
        obtain ⟨y, hy⟩ : ∃ y, y = ys.getD k (0, 0) := ⟨_, rfl⟩
        rw [← hx] at hx1 hx2
        rw [← hy] at hy1 hy2
        have Hhx := Lib.hid hx; clear hx
        have Hhy := Lib.hid hy; clear hy
        have Hhb := Lib.hid hb; clear hb
        clear hcs1 hcs2 hr1 hr2
        cases he : decide (x = y)
        all_goals
          have Hhe := Lib.hid he; clear he
          go_wp2
          go_region_held3 (fun w' => w'.cell? ⟨b1, o1 + k * 2, none⟩ = some (.int .i64 x.1) ∧ w'.cell? ⟨b1, o1 + k * 2 + 1, none⟩ = some (.int .i64 x.2) ∧ w'.cell? ⟨b2, o2 + k * 2, none⟩ = some (.int .i64 y.1) ∧ w'.cell? ⟨b2, o2 + k * 2 + 1, none⟩ = some (.int .i64 y.2))
            (go_keep)
            (first | (go_at_call 45; refine (eqPair_any x y _ _ Hhe.out).mono ?_; rintro e w2 ⟨rfl, o1, o2, rfl⟩))
          skip
          go_wp2
        · go_ret
          exact ⟨by rw [← Hhr.out, decide_eq_false (ne_of_getD (k := k) (d := (0, 0)) (by rw [← Hhx.out, ← Hhy.out]; exact of_decide_eq_false Hhe.out))]; rfl, Hhb.out.drew.trans (((Below.refl _ _).alloc (by have := Hhb.out.size; simpa using this) _).alloc (by have := Hhb.out.size; simp; omega) _)⟩
        · go_roundw
          case rel => exact ⟨k + 1, by omega, by go_num, take_snoc_eq (d := (0, 0)) hlt hlt2 Hhtk.out (by rw [← Hhx.out, ← Hhy.out]; exact of_decide_eq_true Hhe.out), Hhb.out.drew.trans (((Below.refl _ _).alloc (by have := Hhb.out.size; simpa using this) _).alloc (by have := Hhb.out.size; simp; omega) _)⟩
          case measure => simp [intOf]; omega
      · clear hr1 hr2
        have Hhb := Lib.hid hb; clear hb
        go_wp2
        go_ret
        exact ⟨by rw [← Hhr.out, decide_eq_true (eq_of_take Hhlen.out (by omega) Hhtk.out)]; rfl, Hhb.out⟩
  · have hl : ((xs.length : Int) != ys.length) = true := by rw [bne_len]; simpa using hlen
    have Hhlen := Lib.hid hlen; clear hlen
    clear hr1 hr2
    go_enter Try.func15, Try.ntmps15
    go_wp2
    go_ret
    exact ⟨by rw [← Hhr.out, decide_eq_false (fun h => Hhlen.out (by rw [h]))]; rfl, Below.refl _ _⟩

set_option maxHeartbeats 800000 in
theorem eqIntSS_any (xs ys : List (List Int)) (v1 v2 : Value) (w : World) (h1 : IntSS 0 w v1 xs) (h2 : IntSS 0 w v2 ys) (r : Bool) (hr : decide (xs = ys) = r) :
    Calls Try.prog 46 #[v1, v2] w fun e w' => e = .returned (.bool r) ∧ Below w.heap.size w w' := by
  obtain ⟨a1, c1, rfl, hc1, hm1, hr1⟩ := h1.formI
  obtain ⟨a2, c2, rfl, hc2, hm2, hr2⟩ := h2.formI
  clear h1 h2
  have Hhr := Lib.hid hr; clear hr
  by_cases hlen : xs.length = ys.length
  · have hl : ((xs.length : Int) != ys.length) = false := by rw [bne_len]; simpa using hlen
    have Hhlen := Lib.hid hlen; clear hlen
    go_enter Try.func46, Try.ntmps46
    go_wp2
    go_loopw [4, 5] (fun r i wr => ∃ k : Nat, k ≤ xs.length ∧ i = .int .i64 k ∧ xs.take k = ys.take k ∧ Below w.heap.size w wr) (fun _ i _ => xs.length - (intOf i).toNat)
    case atStart => exact ⟨0, Nat.zero_le _, rfl, rfl, Below.refl _ _⟩
    case round =>
      obtain ⟨k, hk, rfl, htk, hb⟩ := hrel
      have Hhtk := Lib.hid htk; clear htk
      by_cases hlt : k < xs.length
      · have hlt2 : k < ys.length := by have := Hhlen.out; omega
        obtain ⟨b1, o1, rfl, hB1, hbl1, hcs1⟩ := hr1 (by omega)
        obtain ⟨b2, o2, rfl, hB2, hbl2, hcs2⟩ := hr2 (by omega)
        obtain ⟨ax, cx, hxc, hxl, hxm, hxi⟩ := hcs1 k hlt
        obtain ⟨ay, cy, hyc, hyl, hym, hyi⟩ := hcs2 k hlt2
        have hx1 := (bcell hb b1 (o1 + k) hbl1).trans hxc
        have hx2 := (bcell hb b2 (o2 + k) hbl2).trans hyc
        obtain ⟨x, hx⟩ : ∃ x, x = xs.getD k [] := ⟨_, rfl⟩
        obtain ⟨y, hy⟩ : ∃ y, y = ys.getD k [] := ⟨_, rfl⟩
        rw [← hx] at hx1 hxi hxl
        rw [← hy] at hx2 hyi hyl
        have Hxi := Lib.hid (hxi.below hb).drew
        have Hyi := Lib.hid (hyi.below hb).drew
        clear hxc hyc hxi hyi
        have Hhx := Lib.hid hx; clear hx
        have Hhy := Lib.hid hy; clear hy
        have Hhb := Lib.hid hb; clear hb
        clear hcs1 hcs2 hr1 hr2
        have hd1 : b1 < wr.drew.heap.size := Nat.lt_of_lt_of_le hbl1 Hhb.out.size
        have hd2 : b2 < wr.drew.heap.size := Nat.lt_of_lt_of_le hbl2 Hhb.out.size
        cases he : decide (x = y)
        all_goals
          have Hhe := Lib.hid he; clear he
          go_wp2
          go_region_held3 (fun w' => w'.cell? ⟨b1, o1 + k, none⟩ = some (.slice ax x.length cx) ∧ w'.cell? ⟨b2, o2 + k, none⟩ = some (.slice ay y.length cy))
            (first | go_keep | exact ⟨(bcell hb2 b1 (o1 + k) hd1).trans hx1, (bcell hb2 b2 (o2 + k) hd2).trans hx2⟩)
            (first | (go_at_call 27; refine (eqIntS_any x y _ _ _ Hxi.out Hyi.out _ Hhe.out).mono ?_; rintro e w2 ⟨rfl, hb2⟩))
          have Hb2 := Lib.hid hb2; clear hb2
          go_wp2
        · go_ret
          exact ⟨by rw [← Hhr.out, decide_eq_false (ne_of_getD (k := k) (d := []) (by rw [← Hhx.out, ← Hhy.out]; exact of_decide_eq_false Hhe.out))]; rfl, (Hhb.out.drew.trans (Hb2.out.mono (by have := Hhb.out.size; simpa using this)))⟩
        · go_roundw
          case rel => exact ⟨k + 1, by omega, by go_num, take_snoc_eq (d := []) hlt hlt2 Hhtk.out (by rw [← Hhx.out, ← Hhy.out]; exact of_decide_eq_true Hhe.out), (Hhb.out.drew.trans (Hb2.out.mono (by have := Hhb.out.size; simpa using this)))⟩
          case measure => simp [intOf]; omega
      · clear hr1 hr2
        have Hhb := Lib.hid hb; clear hb
        go_wp2
        go_ret
        exact ⟨by rw [← Hhr.out, decide_eq_true (eq_of_take Hhlen.out (by omega) Hhtk.out)]; rfl, Hhb.out⟩
  · have hl : ((xs.length : Int) != ys.length) = true := by rw [bne_len]; simpa using hlen
    have Hhlen := Lib.hid hlen; clear hlen
    clear hr1 hr2
    go_enter Try.func46, Try.ntmps46
    go_wp2
    go_ret
    exact ⟨by rw [← Hhr.out, decide_eq_false (fun h => Hhlen.out (by rw [h]))]; rfl, Below.refl _ _⟩
end Go.Proofs.Ytclhcfmlkfiidaa
namespace Go.Proofs.Ytclhcfmlkfiidaa
open Go.RowKit

theorem dfa_eq {d1 d2 : DfaD} : d1 = d2 ↔ d1.next = d2.next ∧ d1.ends = d2.ends := by
  obtain ⟨a, b⟩ := d1; obtain ⟨c, d⟩ := d2; simp
set_option maxHeartbeats 1600000 in
theorem eqDfa_any (d1 d2 : DfaD) (v1 v2 : Value) (w : World) (h1 : DfaR 0 w v1 d1) (h2 : DfaR 0 w v2 d2) (r : Bool) (hr : decide (d1 = d2) = r) :
    Calls Try.prog 16 #[v1, v2] w fun e w' => e = .returned (.bool r) ∧ Below w.heap.size w w' := by
  obtain ⟨u1, u2, rfl, g1, g2⟩ := h1
  obtain ⟨u3, u4, rfl, g3, g4⟩ := h2
  have H1 := Lib.hid g1
  have H2 := Lib.hid g2
  have H3 := Lib.hid g3
  have H4 := Lib.hid g4
  obtain ⟨a1, c1, rfl, -⟩ := g1.form
  obtain ⟨a2, c2, rfl, -⟩ := g2.form
  obtain ⟨a3, c3, rfl, -⟩ := g3.form
  obtain ⟨a4, c4, rfl, -⟩ := g4.form
  clear g1 g2 g3 g4
  have Hhr := Lib.hid hr; clear hr
  cases hn : decide (d1.next = d2.next)
  · have Hhn := Lib.hid hn; clear hn
    go_enter Try.func16, Try.ntmps16
    go_wp2_with fail
    refine (eqIntSS_any d1.next d2.next _ _ _ (H1.out.below (((Below.refl _ _).alloc (Nat.le_refl _) _).alloc (by simp) _)) (H3.out.below (((Below.refl _ _).alloc (Nat.le_refl _) _).alloc (by simp) _)) _ Hhn.out).mono ?_
    rintro e w2 ⟨rfl, hb2⟩
    have Hhb2 := Lib.hid hb2; clear hb2
    go_wp2
    go_ret
    exact ⟨by rw [← Hhr.out, decide_eq_false (fun h => of_decide_eq_false Hhn.out (dfa_eq.1 h).1)]; rfl, (((Below.refl _ _).alloc (Nat.le_refl _) _).alloc (by simp) _).trans (Hhb2.out.mono (by simp; omega))⟩
  · have Hhn := Lib.hid hn; clear hn
    cases he : decide (d1.ends = d2.ends)
    all_goals
      have Hhe := Lib.hid he; clear he
      go_enter Try.func16, Try.ntmps16
      go_wp2_with fail
      refine (eqIntSS_any d1.next d2.next _ _ _ (H1.out.below (((Below.refl _ _).alloc (Nat.le_refl _) _).alloc (by simp) _)) (H3.out.below (((Below.refl _ _).alloc (Nat.le_refl _) _).alloc (by simp) _)) _ Hhn.out).mono ?_
      rintro e w2 ⟨rfl, hb2⟩
      have hbw : Below w.heap.size w w2 := (((Below.refl _ _).alloc (Nat.le_refl _) _).alloc (by simp) _).trans (hb2.mono (by simp; omega))
      have x0 := (((Bx.new w _ _).alloc _).below hb2 (by simp; omega)).cell 1
      have x1 := ((Bx.new (w.alloc _) _ _).below hb2 (by simp)).cell 1
      simp only [List.getElem?_toArray, List.getElem?_cons_zero, List.getElem?_cons_succ, World.size_alloc] at x0 x1
      have Hhb2 := Lib.hid hb2; clear hb2
      have Hhbw := Lib.hid hbw; clear hbw
      go_wp2_with fail
      refine (eqBoolS_any d1.ends d2.ends _ _ _ (H2.out.below Hhbw.out) (H4.out.below Hhbw.out) _ Hhe.out).mono ?_
      rintro e w3 ⟨rfl, hb3⟩
      have Hhb3 := Lib.hid hb3; clear hb3
      go_wp2
      go_ret
    · exact ⟨by rw [← Hhr.out, decide_eq_false (fun h => of_decide_eq_false Hhe.out (dfa_eq.1 h).2)]; rfl, Hhbw.out.trans (Hhb3.out.mono Hhbw.out.size)⟩
    · exact ⟨by rw [← Hhr.out, decide_eq_true (dfa_eq.2 ⟨of_decide_eq_true Hhn.out, of_decide_eq_true Hhe.out⟩)]; rfl, Hhbw.out.trans (Hhb3.out.mono Hhbw.out.size)⟩
end Go.Proofs.Ytclhcfmlkfiidaa
