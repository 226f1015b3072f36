/-
  The walks over the program's sets of states: has, with, setOf, list.
  Conditions: the set is a number below 2 to the 40th, the second word of it is 0; the states lie below 128.
-/
import Derived.Test.YtclhcfmlkfiidaaNs
import Derived.Test.YtclhcfmlkfiidaaPk14
import Derived.Test.YtclhcfmlkfiidaaTo
import Derived.Test.YtclhcfmlkfiidaaGrow
import Derived.Test.YtclhcfmlkfiidaaPk5
import Derived.Laws.BitsAllLaws
import Derived.RegionTactic
import Derived.WalkSmall
namespace Go.Proofs.Ytclhcfmlkfiidaa
open Go.RowKit

abbrev setC (v : Nat) : Value := .agg #[.int .u64 (v : Int), .int .u64 0]
theorem bit_test (v s : Nat) (hv : v < 2 ^ 40) : (bits BinOp.and IntKind.u64 ((v : Int) / 2 ^ s) 1 == 1) = v.testBit s := by
  have e : ((v : Int) / 2 ^ s) = ((v / 2 ^ s : Nat) : Int) := by simp
  have hle : v / 2 ^ s ≤ v := Nat.div_le_self _ _
  rw [e, Nat.testBit_eq_decide_div_mod_eq]
  generalize v / 2 ^ s = q at hle ⊢
  rw [and_one_u64 _ (by omega) (by omega), Bool.eq_iff_iff]
  simp
  omega
theorem bit_set (v s : Nat) (hv : v < 2 ^ 40) (hs : s < 40) : bits BinOp.or IntKind.u64 (v : Int) (IntKind.u64.wrap (2 ^ s)) = ((adj v s : Nat) : Int) := by
  have e : ((2 : Int) ^ s) = ((2 ^ s : Nat) : Int) := by simp
  have hle : 2 ^ s < 2 ^ 40 := Nat.pow_lt_pow_right (by omega) hs
  unfold adj
  generalize 2 ^ s = q at hle e ⊢
  rw [e, IntKind.wrap_u64, Int.emod_eq_of_lt (by omega) (by omega), u64_or_nat _ _ (by omega) (by omega)]
theorem pow_ge {s : Nat} (h : 40 ≤ s) : 2 ^ 40 ≤ 2 ^ s := Nat.pow_le_pow_right (by omega) h
set_option maxHeartbeats 800000 in
theorem setHas_any (v s : Nat) (hv : v < 2 ^ 40) (hs : s < 128) (w : World) (r : Bool) (hr : v.testBit s = r) :
    Calls Try.prog 111 #[setC v, .int .i64 s] w fun e w' => e = .returned (.bool r) ∧ Below w.heap.size w w' := by
  by_cases h : s < 64
  · have h1 : (s : Int) / 64 = 0 := by omega
    have h2 : (s : Int) % 64 = s := by omega
    have h3 : s / 64 = 0 := by omega
    have Hhr := Lib.hid hr; clear hr
    have Hhv := Lib.hid hv; clear hv
    go_enter Try.func111, Try.ntmps111
    go_wp2
    go_ret
    exact ⟨ret_bool (by rw [← Hhr.out]; exact bit_test v s Hhv.out), (Below.refl _ _).alloc (Nat.le_refl _) _⟩
  · have h1 : (s : Int) / 64 = 1 := by omega
    have h2 : (s : Int) % 64 = ((s - 64 : Nat) : Int) := by omega
    have h3 : s / 64 = 1 := by omega
    have hf : v.testBit s = false := Nat.testBit_lt_two_pow (Nat.lt_of_lt_of_le hv (pow_ge (by omega)))
    rw [hf] at hr
    have hz : (bits BinOp.and IntKind.u64 0 1 == 1) = false := by
      have := bit_test 0 0 (by omega)
      simpa using this
    have Hhr := Lib.hid hr; clear hr
    have Hhv := Lib.hid hv; clear hv
    have Hhf := Lib.hid hf; clear hf
    go_enter Try.func111, Try.ntmps111
    go_wp2
    go_ret
    exact ⟨ret_bool Hhr.out, (Below.refl _ _).alloc (Nat.le_refl _) _⟩
set_option maxHeartbeats 800000 in
theorem setWith_any (v s : Nat) (hv : v < 2 ^ 40) (hs : s < 40) (w : World) :
    Calls Try.prog 112 #[setC v, .int .i64 s] w fun e w' => e = .returned (setC (adj v s)) ∧ Below w.heap.size w w' := by
  have h1 : (s : Int) / 64 = 0 := by omega
  have h2 : (s : Int) % 64 = s := by omega
  have h3 : s / 64 = 0 := by omega
  have Hhv := Lib.hid hv; clear hv
  go_enter Try.func112, Try.ntmps112
  go_wp2
  go_region
  go_wp2
  refine bodyPost_ret (v := setC (adj v s)) (by simp [results, Try.results112, go_sem, bit_set v s Hhv.out hs]) rfl ⟨rfl, ?_⟩
  exact ((((Below.refl _ _).alloc (Nat.le_refl _) _).alloc (by simp) _).drew)

/-- The first k of a list of states. -/
theorem setV_succ {l : List Int} {k : Nat} (hk : k < l.length) : setV (l.take (k + 1)) = adj (setV (l.take k)) (l.getD k 0).toNat := by
  unfold setV
  exact foldl_snoc _ _ hk 0
set_option maxHeartbeats 1600000 in
theorem setOf_any (l : List Int) (v : Value) (w : World) (hl : inN 40 l) (hn : l.length ≤ 1000000) (h : Ints 0 w v l) :
    Calls Try.prog 110 #[v] w fun e w' => e = .returned (setC (setV l)) ∧ Below w.heap.size w w' := by
  obtain ⟨a1, c1, rfl, hc1, hm1, hr1⟩ := h.form
  have Hhr1 := Lib.hid hr1; clear hr1
  have Hhl := Lib.hid hl; clear hl
  clear h
  go_enter Try.func110, Try.ntmps110
  go_wp2
  go_loopw [8] (fun i wr => ∃ k : Nat, k ≤ l.length ∧ i = .int .i64 k ∧ Below w.heap.size w wr ∧ Bx wr w.heap.size #[.int .u64 0, .int .u64 0] 99 ∧ Bx wr (w.heap.size + 1) #[.int .u64 (setV (l.take k) : Nat), .int .u64 0] 99)
    (fun i _ => l.length - (intOf i).toNat)
  case atStart => exact ⟨0, Nat.zero_le _, rfl, ((Below.refl _ _).alloc (Nat.le_refl _) _).alloc (by simp) _, (Bx.new w _ _).alloc _, by simpa [setV] using Bx.new (w.alloc (.cells #[.int .u64 0, .int .u64 0] 99)) #[.int .u64 0, .int .u64 0] 99⟩
  case round =>
    obtain ⟨k, hk, rfl, hb, x0, x1⟩ := hrel
    have hlt40 : setV (l.take k) < 2 ^ 40 := setV_lt (fun s hs => Hhl.out s (List.mem_of_mem_take hs))
    obtain ⟨V, hV⟩ : ∃ V, V = setV (l.take k) := ⟨_, rfl⟩
    rw [← hV] at x1 hlt40
    have c0 := x1.cell 0
    have c1' := x1.cell 1
    simp only [List.getElem?_toArray, List.getElem?_cons_zero, List.getElem?_cons_succ] at c0 c1'
    have HhV := Lib.hid hV; clear hV
    have Hhb := Lib.hid hb; clear hb
    by_cases hlt : k < l.length
    · obtain ⟨b1, o1, rfl, -, hbl, hcs⟩ := Hhr1.out (by omega)
      have hc := (bcell Hhb.out b1 _ hbl).trans (hcs k hlt)
      obtain ⟨s0, s1⟩ := Hhl.out _ (memD (d := 0) hlt)
      obtain ⟨s, hs⟩ := Int.eq_ofNat_of_zero_le s0
      rw [hs] at hc s1
      have Hhs := Lib.hid hs; clear hs
      have Hx0 := Lib.hid x0; clear x0
      have Hx1 := Lib.hid x1; clear x1
      have Hhlt40 := Lib.hid hlt40; clear hlt40
      clear hcs
      go_wp2_with fail
      refine (setWith_any V s Hhlt40.out (by omega) _).mono ?_
      rintro e w2 ⟨rfl, hb2⟩
      have y0 := Hx0.out.below hb2 Hx0.out.lt
      have y1 := Hx1.out.below hb2 Hx1.out.lt
      have hb3 := Hhb.out.trans (hb2.mono Hhb.out.size)
      have d0 := y1.cell 0
      have d1 := y1.cell 1
      have e0 := y1.fr 0
      have e1 := y1.fr 1
      simp only [List.getElem?_toArray, List.getElem?_cons_zero, List.getElem?_cons_succ] at d0 d1
      have Hy0 := Lib.hid y0; clear y0
      have Hy1 := Lib.hid y1; clear y1
      have Hhb3 := Lib.hid hb3; clear hb3
      clear c0 c1' hb2
      go_wp2
      go_roundw
      case rel =>
        refine ⟨k + 1, by omega, by go_num, (Hhb3.out.setCell (by simp) _).setCell (by simp) _, (Hy0.out.set_ne _ _ (by simp)).set_ne _ _ (by simp), ?_⟩
        have := (Hy1.out.set 0 (.int .u64 (adj V s : Nat))).set 1 (.int .u64 0)
        rw [setV_succ hlt, ← HhV.out, Hhs.out]
        simpa using this
      case measure => simp [intOf]; omega
    · obtain rfl : k = l.length := by omega
      rw [List.take_length] at HhV
      have f0 := x0.fr 0
      have f1 := x0.fr 1
      have d0 := x0.cell 0
      have d1 := x0.cell 1
      simp only [List.getElem?_toArray, List.getElem?_cons_zero, List.getElem?_cons_succ] at d0 d1
      have Hx0 := Lib.hid x0; clear x0
      have Hx1 := Lib.hid x1; clear x1
      go_wp2
      have q := (Hx0.out.set 0 (.int .u64 (V : Nat))).set 1 (.int .u64 0)
      have q0 := q.cell 0
      have q1 := q.cell 1
      simp only [List.getElem?_toArray, List.getElem?_cons_zero, List.getElem?_cons_succ, List.setIfInBounds_toArray, List.set_cons_zero, List.set_cons_succ] at q0 q1
      refine bodyPost_ret (v := setC V) (by simp [results, Try.results110, go_sem, q0, q1]) rfl ⟨by rw [HhV.out], (Hhb.out.setCell (by simp) _).setCell (by simp) _⟩

end Go.Proofs.Ytclhcfmlkfiidaa
