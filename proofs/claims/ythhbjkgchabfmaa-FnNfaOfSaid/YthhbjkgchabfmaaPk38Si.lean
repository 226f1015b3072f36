/-
  Small facts about slices in memory: what a slice value reads as, and that it still reads so in a later world.
  No condition: this text speaks of no program.
  What a call made for itself: slices in blocks of numbers from lo on and below hi, that may be written.
  No condition: this text speaks of no program.
  A map that a call makes, as a list of keys and values in the order in which the keys came: looking a key up, and storing.
  Conditions: the keys are encoded data that can be keys of the map's type; no key stands there twice.
  What a call made for itself, where one of its slices grows or one of its variables is written: blocks of different types are different blocks.
  No condition: this text speaks of no program.
  The walks over the functions that hold two data against each other.
  Conditions: both arguments read as lists.
  The walk over the laws' sameInts.
  Conditions: both arguments read as lists.
-/
import Derived.Test.YthhbjkgchabfmaaPk00Grow
namespace Go.Proofs.Ythhbjkgchabfmaa
open Go.RowKit








theorem bne_len (a b : Nat) : ((a : Int) != b) = !decide (a = b) := by rw [Bool.eq_iff_iff]; simp; omega








/-! Slices of structs of ints -/



/-! Comparing lists place by place -/
theorem eq_of_take {α : Type} {xs ys : List α} {k : Nat} (hl : xs.length = ys.length) (hk : xs.length ≤ k) (h : xs.take k = ys.take k) : xs = ys := by
  rwa [List.take_of_length_le hk, List.take_of_length_le (by omega)] at h
end Go.Proofs.Ythhbjkgchabfmaa
namespace Go.Proofs.Ythhbjkgchabfmaa
open Go.RowKit









end Go.Proofs.Ythhbjkgchabfmaa
namespace Go.Proofs.Ythhbjkgchabfmaa
open Go.RowKit Go.Maps

section
variable {α : Type} [DecidableEq α]


variable {P : Program} {kt : TypeId} {enc : α → Value} {w : World} {b : Nat} {L : List (α × Value)}




end
end Go.Proofs.Ythhbjkgchabfmaa
namespace Go.Proofs.Ythhbjkgchabfmaa
open Go.RowKit




end Go.Proofs.Ythhbjkgchabfmaa

namespace Go.Proofs.Ythhbjkgchabfmaa
open Go.RowKit





end Go.Proofs.Ythhbjkgchabfmaa
namespace Go.Proofs.Ythhbjkgchabfmaa
open Go.RowKit

set_option maxHeartbeats 800000 in
theorem sameInts_any (xs ys : List Int) (v1 v2 : Value) (w : World) (h1 : Ints 0 w v1 xs) (h2 : Ints 0 w v2 ys) (r : Bool) (hr : decide (xs = ys) = r) :
    Calls Try.prog 55 #[v1, v2] w fun e w' => e = .returned (.bool r) ∧ Below w.heap.size w w' := by
  obtain ⟨a1, c1, rfl, hc1, hm1, hr1⟩ := h1.form
  obtain ⟨a2, c2, rfl, hc2, hm2, hr2⟩ := h2.form
  clear h1 h2
  have Hhr := Lib.hid hr; clear hr
  by_cases hlen : xs.length = ys.length
  · have hl : ((xs.length : Int) != ys.length) = false := by rw [bne_len]; simpa using hlen
    have Hhlen := Lib.hid hlen; clear hlen
    go_enter Try.func55, Try.ntmps55
    go_wp2
    go_loopw [4, 5] (fun r i wr => ∃ k : Nat, k ≤ xs.length ∧ i = .int .i64 k ∧ xs.take k = ys.take k ∧ Below w.heap.size w wr) (fun _ i _ => xs.length - (intOf i).toNat)
    case atStart => exact ⟨0, Nat.zero_le _, rfl, rfl, Below.refl _ _⟩
    case round =>
      obtain ⟨k, hk, rfl, htk, hb⟩ := hrel
      have Hhtk := Lib.hid htk; clear htk
      by_cases hlt : k < xs.length
      · have hlt2 : k < ys.length := by have := Hhlen.out; omega
        obtain ⟨b1, o1, rfl, hB1, hbl1, hcs1⟩ := hr1 (by omega)
        obtain ⟨b2, o2, rfl, hB2, hbl2, hcs2⟩ := hr2 (by omega)
        have hx1 := (bcell hb b1 (o1 + k) hbl1).trans (hcs1 k hlt)
        have hx2 := (bcell hb b2 (o2 + k) hbl2).trans (hcs2 k hlt2)
        obtain ⟨x, hx⟩ : ∃ x, x = xs.getD k 0 := ⟨_, rfl⟩
        obtain ⟨y, hy⟩ : ∃ y, y = ys.getD k 0 := ⟨_, rfl⟩
        rw [← hx] at hx1
        rw [← hy] at hx2
        have Hhx := Lib.hid hx; clear hx
        have Hhy := Lib.hid hy; clear hy
        have Hhb := Lib.hid hb; clear hb
        clear hcs1 hcs2 hr1 hr2
        by_cases he : x = y
        · have hne : (x != y) = false := by simpa using he
          have hne' : (!(x == y)) = false := by simpa using he
          have Hhe := Lib.hid he; clear he
          go_wp2
          go_quiet (fail)
          go_wp2
          go_roundw
          case rel => exact ⟨k + 1, by omega, by go_num, take_snoc_eq (d := 0) hlt hlt2 Hhtk.out (by rw [← Hhx.out, ← Hhy.out]; exact Hhe.out), below_drewN Hhb.out _⟩
          case measure => simp [intOf]; omega
        · have hne : (x != y) = true := by simpa using he
          have hne' : (!(x == y)) = true := by simpa using he
          have Hhe := Lib.hid he; clear he
          go_wp2
          go_quiet (fail)
          go_wp2
          go_ret
          exact ⟨by rw [← Hhr.out, decide_eq_false (ne_of_getD (k := k) (d := 0) (by rw [← Hhx.out, ← Hhy.out]; exact Hhe.out))]; rfl, below_drewN Hhb.out _⟩
      · clear hr1 hr2
        have Hhb := Lib.hid hb; clear hb
        go_wp2
        go_ret
        exact ⟨by rw [← Hhr.out, decide_eq_true (eq_of_take Hhlen.out (by omega) Hhtk.out)]; rfl, Hhb.out⟩
  · have hl : ((xs.length : Int) != ys.length) = true := by rw [bne_len]; simpa using hlen
    have Hhlen := Lib.hid hlen; clear hlen
    clear hr1 hr2
    go_enter Try.func55, Try.ntmps55
    go_wp2
    go_ret
    exact ⟨by rw [← Hhr.out, decide_eq_false (fun h => Hhlen.out (by rw [h]))]; rfl, Below.refl _ _⟩

end Go.Proofs.Ythhbjkgchabfmaa
