/-
  The walk over the laws' comparison of two automata with choices, where both are the same.
  Conditions: both arguments are readable.
-/
import Derived.Test.YtolkifpeblbfcaaSi
import Derived.Test.YtolkifpeblbfcaaNk
namespace Go.Proofs.Ytolkifpeblbfcaa
open Go.RowKit

theorem Try.plainMove : Try.prog.underlying 53 = some (.struct (Try.prog.fieldsOf 53)) := by kernel_rfl
theorem Try.moveFields : (Try.prog.fieldsOf 53).toList.map (fun f => (f.name == "_", f.type, f.offset)) = [(false, 3, 0), (false, 3, 1), (false, 3, 2)] := by kernel_rfl
theorem Try.guardMove : Try.prog.eqGuardType Try.prog.depth 53 = false := by kernel_rfl
theorem Try.heldMove : Try.prog.stoodInHeld 53 = false := by kernel_rfl
/-- '==' between two structs of three ints. -/
theorem eqFields3 {P : Program} {ti : TypeId} {fs : List Field} (d : Nat) (x1 x2 x3 y1 y2 y3 : Int) (w : World) (hi : P.underlying ti = some (.int .i64))
    (hf : fs.map (fun f => (f.name == "_", f.type, f.offset)) = [(false, ti, 0), (false, ti, 1), (false, ti, 2)]) :
    (Op.eqFields (d + 1) #[.int .i64 x1, .int .i64 x2, .int .i64 x3] #[.int .i64 y1, .int .i64 y2, .int .i64 y3] fs).run P w = .ok (x1 == y1 && (x2 == y2 && x3 == y3)) w := by
  obtain ⟨f, g, h, rfl⟩ : ∃ f g h, fs = [f, g, h] := by
    have hl : fs.length = 3 := by simpa using congrArg List.length hf
    match fs with
    | [] => simp at hl
    | [_] => simp at hl
    | [_, _] => simp at hl
    | [f, g, h] => exact ⟨f, g, h, rfl⟩
    | _ :: _ :: _ :: _ :: _ => simp at hl
  simp only [List.map_cons, List.map_nil, List.cons.injEq, Prod.mk.injEq, and_true] at hf
  obtain ⟨⟨f1, f2, f3⟩, ⟨g1, g2, g3⟩, h1, h2, h3⟩ := hf
  have f1' : f.name ≠ "_" := by simpa using f1
  have g1' : g.name ≠ "_" := by simpa using g1
  have h1' : h.name ≠ "_" := by simpa using h1
  simp only [Op.eqFields, f1', g1', h1', f2, f3, g2, g3, h2, h3, ne_eq, not_false_eq_true, if_true]
  cases e1 : x1 == y1 <;> cases e2 : x2 == y2 <;> cases e3 : x3 == y3 <;> simp [go_sem, hi, e1, e2, e3, part, isAgg, run_underlying hi]
@[go_sem high] theorem Try.neqMove (x1 x2 x3 : Int) (w : World) : (binOp .neq 53 (.agg #[.int .i64 x1, .int .i64 x2, .int .i64 x3]) (.agg #[.int .i64 x1, .int .i64 x2, .int .i64 x3])).run Try.prog w = .ok (.bool false) w := by
  rw [run_neq_struct, show (10000 : Nat) = 9998 + 1 + 1 from rfl, run_equalIn_struct w _ _ _ _ Try.plainMove Try.heldMove, eqFields3 (ti := 3) _ _ _ _ _ _ _ _ Try.underlying3 Try.moveFields]
  simp
@[go_sem high] theorem Try.neqMoveGuard (x y : Operand) (xs ys : Array Value) (w : World) : (eqGuard .neq 53 x y (.agg xs) (.agg ys)).run Try.prog w = .ok () w := run_eqGuard_agg _ _ _ _ _ _ _ Try.guardMove

set_option maxRecDepth 100000 in
set_option maxHeartbeats 4000000 in
theorem sameNfa_any (n : NfaD) (a b : Value) (w : World) (h1 : NfaR 0 w a n) (h2 : NfaR 0 w b n) :
    Calls Try.prog 36 #[a, b] w fun e w' => e = .returned (.bool true) ∧ Below w.heap.size w w' := by
  obtain ⟨v1, v2, v3, rfl, g1, g2, g3, hs0, hs1⟩ := h1
  obtain ⟨u1, u2, u3, rfl, k1, k2, k3, -, -⟩ := h2
  obtain ⟨a1, c1, rfl, hc1, hm1, hr1⟩ := g1.form
  obtain ⟨b1, d1, rfl, hd1, hn1, hq1⟩ := k1.form
  obtain ⟨ns, hns⟩ : ∃ ns, ns = n.states := ⟨_, rfl⟩
  rw [← hns]
  have G2 := Lib.hid g2
  have G3 := Lib.hid g3
  have K2 := Lib.hid k2
  have K3 := Lib.hid k3
  have hS0 := ((St.start w).alloc _ rfl #[.int .i64 ns, .slice a1 n.moves.length c1, v2, v3] 46).alloc (w.heap.size + 1) (by simp) #[.int .i64 ns, .slice b1 n.moves.length d1, u2, u3] 46
  have e0 := hS0.cell (v := .int .i64 ns) 0 0 rfl rfl
  have e1 := hS0.cell (v := .slice a1 n.moves.length c1) 0 1 rfl rfl
  have f0 := hS0.cell (v := .int .i64 ns) 1 0 rfl rfl
  have f1 := hS0.cell (v := .slice b1 n.moves.length d1) 1 1 rfl rfl
  have hne : (ns != ns) = false := by simp
  have hne2 : ((n.moves.length : Int) != n.moves.length) = false := by simp
  have HhS0 := Lib.hid hS0; clear hS0
  have Hhns := Lib.hid hns; clear hns
  have Hhr1 := Lib.hid hr1; clear hr1
  have Hhq1 := Lib.hid hq1; clear hq1
  clear g1 g2 g3 k1 k2 k3
  go_enter Try.func36, Try.ntmps36
  go_wp2
  go_loopw [5] (fun i wr => ∃ k : Nat, i = .int .i64 k ∧ k ≤ n.moves.length ∧ St w wr [Ent.box w.heap.size #[.int .i64 ns, .slice a1 n.moves.length c1, v2, v3] 46, Ent.box (w.heap.size + 1) #[.int .i64 ns, .slice b1 n.moves.length d1, u2, u3] 46]) (fun i _ => n.moves.length - (intOf i).toNat)
  case atStart => exact ⟨0, rfl, Nat.zero_le _, HhS0.out⟩
  case round =>
    obtain ⟨k, rfl, hk, hS⟩ := hrel
    clear e0 e1 f0 f1
    by_cases hlt : k < n.moves.length
    · have hkI : (k : Int) < n.moves.length := by omega
      obtain ⟨x1, y1, rfl, -, hbl1, hcs1⟩ := Hhr1.out (by omega)
      obtain ⟨x2, y2, rfl, -, hbl2, hcs2⟩ := Hhq1.out (by omega)
      obtain ⟨p1, p2, p3⟩ := hcs1 k hlt
      obtain ⟨q1, q2, q3⟩ := hcs2 k hlt
      replace p1 := (bcell hS.bel x1 _ hbl1).trans p1
      replace p2 := (bcell hS.bel x1 _ hbl1).trans p2
      replace p3 := (bcell hS.bel x1 _ hbl1).trans p3
      replace q1 := (bcell hS.bel x2 _ hbl2).trans q1
      replace q2 := (bcell hS.bel x2 _ hbl2).trans q2
      replace q3 := (bcell hS.bel x2 _ hbl2).trans q3
      have e1 := hS.cell (v := .slice (some ⟨x1, y1, none⟩) n.moves.length c1) 0 1 rfl rfl
      have f1 := hS.cell (v := .slice (some ⟨x2, y2, none⟩) n.moves.length d1) 1 1 rfl rfl
      obtain ⟨x, hx⟩ : ∃ x, n.moves.getD k (0, 0, 0) = x := ⟨_, rfl⟩
      rw [hx] at p1 p2 p3 q1 q2 q3
      obtain ⟨f, l, t⟩ := x
      simp only at p1 p2 p3 q1 q2 q3
      have Hhx := Lib.hid hx; clear hx
      have HhS := Lib.hid hS; clear hS
      clear hcs1 hcs2
      go_wp2_with fail
      go_quiet (fail)
      go_wp2
      go_roundw
      case rel => exact ⟨k + 1, by go_num, by omega, HhS.out.drewN nq⟩
      case measure => simp [intOf]; omega
    · obtain rfl : k = n.moves.length := by omega
      have e1 := hS.cell (v := .slice a1 n.moves.length c1) 0 1 rfl rfl
      have e2 := hS.cell (v := v2) 0 2 rfl rfl
      have e3 := hS.cell (v := v3) 0 3 rfl rfl
      have f2 := hS.cell (v := u2) 1 2 rfl rfl
      have f3 := hS.cell (v := u3) 1 3 rfl rfl
      have HS := Lib.hid hS
      clear hS
      go_wp2_with fail
      refine (sameInts_any n.firsts n.firsts _ _ _ (G2.out.below HS.out.bel) (K2.out.below HS.out.bel) true (by simp)).mono ?_
      rintro e w4 ⟨rfl, hb4⟩
      have HS4 := Lib.hid (HS.out.call hb4)
      clear hb4 e2 e3 f2 f3
      have e3 := HS4.out.cell (v := v3) 0 3 rfl rfl
      have f3 := HS4.out.cell (v := u3) 1 3 rfl rfl
      go_wp2_with fail
      refine (sameInts_any n.ends n.ends _ _ _ (G3.out.below HS4.out.bel) (K3.out.below HS4.out.bel) true (by simp)).mono ?_
      rintro e w5 ⟨rfl, hb5⟩
      have HS5 := Lib.hid (HS4.out.call hb5)
      clear hb5
      go_wp2
      go_ret
      exact ⟨rfl, HS5.out.bel⟩
end Go.Proofs.Ytolkifpeblbfcaa
