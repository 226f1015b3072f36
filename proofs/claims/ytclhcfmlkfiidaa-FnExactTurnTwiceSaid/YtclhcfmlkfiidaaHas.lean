/-
  The walk over the reference's search for a pair in a list.
  Conditions: the list of pairs reads as a list.
-/
import Derived.Test.YtclhcfmlkfiidaaDv
import Derived.Test.YtclhcfmlkfiidaaOwn
namespace Go.Proofs.Ytclhcfmlkfiidaa
open Go.RowKit

theorem mem_take_snoc {α : Type} {l : List α} {k : Nat} {d x : α} (hk : k < l.length) (h : ¬ x ∈ l.take k) (hp : l.getD k d ≠ x) : ¬ x ∈ l.take (k + 1) := by
  rw [List.take_succ_eq_append_getElem hk, List.mem_append]
  simp only [List.mem_singleton, not_or]
  exact ⟨h, fun e => hp (by rw [e]; simp [hk])⟩
theorem mem_getD {α : Type} {l : List α} {k : Nat} {d : α} (hk : k < l.length) : l.getD k d ∈ l := by
  simp [hk]

theorem Try.plainPair : Try.prog.underlying 55 = some (.struct (Try.prog.fieldsOf 55)) := by kernel_rfl
theorem Try.pairFields : (Try.prog.fieldsOf 55).toList.map (fun f => (f.name == "_", f.type, f.offset)) = [(false, 3, 0), (false, 3, 1)] := by kernel_rfl
theorem Try.guardPair : Try.prog.eqGuardType Try.prog.depth 55 = false := by kernel_rfl
theorem Try.heldPair : Try.prog.stoodInHeld 55 = false := by kernel_rfl
/-- '==' between two structs of two ints. -/
theorem eqFields2 {P : Program} {ti : TypeId} {fs : List Field} (d : Nat) (x1 x2 y1 y2 : Int) (w : World) (hi : P.underlying ti = some (.int .i64))
    (hf : fs.map (fun f => (f.name == "_", f.type, f.offset)) = [(false, ti, 0), (false, ti, 1)]) :
    (Op.eqFields (d + 1) #[.int .i64 x1, .int .i64 x2] #[.int .i64 y1, .int .i64 y2] fs).run P w = .ok (x1 == y1 && x2 == y2) w := by
  obtain ⟨f, g, rfl⟩ : ∃ f g, fs = [f, g] := by
    have hl : fs.length = 2 := by simpa using congrArg List.length hf
    match fs with
    | [] => simp at hl
    | [_] => simp at hl
    | [f, g] => exact ⟨f, g, rfl⟩
    | _ :: _ :: _ :: _ => simp at hl
  simp only [List.map_cons, List.map_nil, List.cons.injEq, Prod.mk.injEq, and_true] at hf
  obtain ⟨⟨f1, f2, f3⟩, g1, g2, g3⟩ := hf
  have f1' : f.name ≠ "_" := by simpa using f1
  have g1' : g.name ≠ "_" := by simpa using g1
  simp only [Op.eqFields, f1', g1', f2, f3, g2, g3, ne_eq, not_false_eq_true, if_true]
  cases h1 : x1 == y1 <;> cases h2 : x2 == y2 <;> simp [go_sem, hi, h1, h2, part, isAgg, run_underlying hi]
@[go_sem high] theorem Try.eqlPair (x1 x2 y1 y2 : Int) (w : World) : (binOp .eql 55 (.agg #[.int .i64 x1, .int .i64 x2]) (.agg #[.int .i64 y1, .int .i64 y2])).run Try.prog w = .ok (.bool (x1 == y1 && x2 == y2)) w := by
  rw [run_eql_struct, show (10000 : Nat) = 9998 + 1 + 1 from rfl, run_equalIn_struct w _ _ _ _ Try.plainPair Try.heldPair, eqFields2 (ti := 3) _ _ _ _ _ _ Try.underlying3 Try.pairFields]
  rfl
@[go_sem high] theorem Try.eqgPair (x y : Operand) (xs ys : Array Value) (w : World) : (eqGuard .eql 55 x y (.agg xs) (.agg ys)).run Try.prog w = .ok () w := run_eqGuard_agg _ _ _ _ _ _ _ Try.guardPair

set_option maxHeartbeats 1600000 in
theorem l24Has_any (xs : List (Int × Int)) (y : Int × Int) (v : Value) (w : World) (h1 : Pairs 0 w v xs) (r : Bool) (hr : decide (y ∈ xs) = r) :
    Calls Try.prog 38 #[v, .agg #[.int .i64 y.1, .int .i64 y.2]] w fun e w' => e = .returned (.bool r) ∧ Below w.heap.size w w' := by
  obtain ⟨a1, c1, rfl, hc1, hm1, hr1⟩ := h1.form
  obtain ⟨y1, y2⟩ := y
  clear h1
  have Hhr := Lib.hid hr; clear hr
  go_enter Try.func38, Try.ntmps38
  go_wp2
  go_loopw [4, 5] (fun r i wr => ∃ k : Nat, k ≤ xs.length ∧ i = .int .i64 k ∧ (¬ (y1, y2) ∈ xs.take k) ∧ Below (w.heap.size + 1) (w.alloc (.cells #[.int .i64 y1, .int .i64 y2] 55)) wr) (fun _ i _ => xs.length - (intOf i).toNat)
  case atStart => exact ⟨0, Nat.zero_le _, rfl, by simp, Below.refl _ _⟩
  case round =>
    obtain ⟨k, hk, rfl, htk, hb⟩ := hrel
    have hend : Below w.heap.size w wr := ((Below.refl _ _).alloc (Nat.le_refl _) _).trans (hb.mono (by omega))
    have hx0 := box_cell hb 0
    have hx1 := box_cell hb 1
    simp only [List.getElem?_toArray, List.getElem?_cons_zero, List.getElem?_cons_succ] at hx0 hx1
    have Htk := Lib.hid htk
    have Hend := Lib.hid hend
    have Hhb := Lib.hid hb; clear hb
    clear htk hend
    by_cases hlt : k < xs.length
    · obtain ⟨b1, o1, rfl, hB1, hbl1, hcs1⟩ := hr1 (by omega)
      have hx2 := (bcell Hend.out b1 (o1 + k * 2) hbl1).trans (hcs1 k hlt).1
      have hx3 := (bcell Hend.out b1 (o1 + k * 2 + 1) hbl1).trans (hcs1 k hlt).2
      obtain ⟨x, hxx⟩ : ∃ x, x = xs.getD k (0, 0) := ⟨_, rfl⟩
      rw [← hxx] at hx2 hx3
      obtain ⟨x1, x2⟩ := x
      have Hhxx := Lib.hid hxx; clear hxx
      simp only at hx2 hx3
      clear hcs1 hr1
      by_cases he : x1 = y1 ∧ x2 = y2
      · have hb1 : (x1 == y1 && x2 == y2) = true := by simpa using he
        have Hhe := Lib.hid he; clear he
        go_wp2
        go_quiet (fail)
        go_wp2
        go_ret
        refine ⟨by rw [← Hhr.out, decide_eq_true]; rfl; obtain ⟨e1, e2⟩ := Hhe.out; rw [← e1, ← e2, Hhxx.out]; exact mem_getD hlt, below_drewN Hend.out _⟩
      · have hb1 : (x1 == y1 && x2 == y2) = false := by
          rw [Bool.eq_false_iff]
          intro h
          exact he (by simpa using h)
        have Hhe := Lib.hid he; clear he
        go_wp2
        go_quiet (fail)
        go_wp2
        go_roundw
        case rel => exact ⟨k + 1, by omega, by go_num, mem_take_snoc (d := (0, 0)) hlt Htk.out (by rw [← Hhxx.out]; exact fun e => Hhe.out (by simpa using e)), below_drewN Hhb.out _⟩
        case measure => simp [intOf]; omega
    · clear hr1
      go_wp2
      go_ret
      exact ⟨by rw [← Hhr.out, decide_eq_false]; rfl; have h := Htk.out; rwa [List.take_of_length_le (by omega)] at h, Hend.out⟩
end Go.Proofs.Ytclhcfmlkfiidaa
