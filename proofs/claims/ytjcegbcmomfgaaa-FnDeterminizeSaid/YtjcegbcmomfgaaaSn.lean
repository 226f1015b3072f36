/-
  The walk over the reference's l7Name.
  Condition: the list reads as such.
-/
import Derived.Test.YtjcegbcmomfgaaaCtx
import Derived.Test.YtjcegbcmomfgaaaProd
namespace Go.Proofs.Ytjcegbcmomfgaaa
open Go.RowKit

/-- The first place of a number, or -1. -/
def nameOf (l : List Int) (x : Int) : Int := if x ∈ l then ((l.idxOf x : Nat) : Int) else -1
theorem nameOf_at {l : List Int} {x : Int} {k : Nat} (hk : k < l.length) (hn : x ∉ l.take k) (h : l.getD k 0 = x) : nameOf l x = (k : Int) := by
  have hx : l[k] = x := by simpa [hk] using h
  have hm : x ∈ l := by rw [← hx]; exact List.getElem_mem hk
  unfold nameOf
  rw [if_pos hm]
  have e : l = l.take k ++ (x :: l.drop (k + 1)) := by
    rw [← hx, List.getElem_cons_drop, List.take_append_drop]
  have : l.idxOf x = k := by
    rw [e, List.idxOf_append, if_neg hn]
    simp
    omega
  rw [this]
set_option maxHeartbeats 1600000 in
theorem l7Name_any (l : List Int) (x : Int) (v : Value) (w : World) (hl : l.length ≤ 1000000) (h : Ints 0 w v l) :
    Calls Try.prog 29 #[v, .int .i64 x] w fun e w' => e = .returned (.int .i64 (nameOf l x)) ∧ Below w.heap.size w w' := by
  obtain ⟨a, c, rfl, hc1, hc2, hr⟩ := h.form
  have Hr := Lib.hid hr
  clear hr h
  go_enter Try.func29, Try.ntmps29
  go_wp2
  go_loopw [5] (fun i wr => ∃ k : Nat, i = .int .i64 k ∧ k ≤ l.length ∧ x ∉ l.take k ∧ Below w.heap.size w wr) (fun i _ => l.length - (intOf i).toNat)
  case atStart => exact ⟨0, rfl, Nat.zero_le _, by simp, Below.refl _ _⟩
  case round =>
    obtain ⟨k, rfl, hk, hn, hb⟩ := hrel
    by_cases hlt : k < l.length
    · have hlt2 : (k : Int) < l.length := by omega
      obtain ⟨b, o, rfl, -, hbl, hcs⟩ := Hr.out (by omega)
      have k1 := (bcell hb b _ hbl).trans (hcs k hlt)
      have htk : l.take (k + 1) = l.take k ++ [l.getD k 0] := by rw [List.take_succ_eq_append_getElem hlt]; simp [hlt]
      obtain ⟨y, hy⟩ : ∃ y, y = l.getD k 0 := ⟨_, rfl⟩
      rw [← hy] at k1 htk
      have Hhy := Lib.hid hy; clear hy
      have Hhb := Lib.hid hb; clear hb
      have Hhtk := Lib.hid htk; clear htk
      clear hcs
      by_cases he : y = x
      · subst he
        have hnm : nameOf l y = (k : Int) := nameOf_at hlt hn Hhy.out.symm
        have Hhn := Lib.hid hn; clear hn
        have Hhnm := Lib.hid hnm; clear hnm
        go_wp2
        go_ret
        refine ⟨?_, Hhb.out⟩
        rw [Hhnm.out]
        rfl
      · have he2 : (y = x) = False := by simp [he]
        have he3 : (y == x) = false := by simpa using he
        have Hhn := Lib.hid hn; clear hn
        have Hhe := Lib.hid he; clear he
        go_wp2
        go_roundw
        case rel => exact ⟨k + 1, by go_num, by omega, by rw [Hhtk.out]; simp only [List.mem_append, List.mem_singleton, not_or]; exact ⟨Hhn.out, fun e => Hhe.out e.symm⟩, Hhb.out⟩
        case measure => simp [intOf]; omega
    · obtain rfl : k = l.length := by omega
      rw [List.take_length] at hn
      have hnm : nameOf l x = -1 := by unfold nameOf; rw [if_neg hn]
      have Hhn := Lib.hid hn; clear hn
      have Hhb := Lib.hid hb; clear hb
      have Hhnm := Lib.hid hnm; clear hnm
      go_wp2
      go_ret
      refine ⟨?_, Hhb.out⟩
      rw [Hhnm.out]
      rfl
end Go.Proofs.Ytjcegbcmomfgaaa
