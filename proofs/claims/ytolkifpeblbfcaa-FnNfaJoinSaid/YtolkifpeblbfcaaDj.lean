/-
  The walk over the reference's DrawNfaJoin.
  Condition: the bytes read as such.
-/
import Derived.Test.YtolkifpeblbfcaaDz
namespace Go.Proofs.Ytolkifpeblbfcaa
open Go.RowKit

set_option maxRecDepth 100000 in
set_option maxHeartbeats 8000000 in
theorem drawJoin_any (bs : List Nat) (v : Value) (w : World) (hb : Bytes 0 w v bs) (hlen : bs.length ≤ 100000000) :
    Calls Try.prog 58 #[v] w fun e w' => ∃ (n m : NfaD) (a1 a2 a3 : Option Addr) (c1 c2 c3 : Nat) (am1 am2 am3 : Option Addr) (cm1 cm2 cm3 : Nat), -1 ≤ n.states ∧ n.states ≤ 41 ∧ n.moves.length ≤ 401 ∧ n.firsts.length ≤ 41 ∧ n.ends.length ≤ 41 ∧ -1 ≤ m.states ∧ m.states ≤ 41 ∧ m.moves.length ≤ 401 ∧ m.firsts.length ≤ 41 ∧ m.ends.length ≤ 41 ∧
      e = .returned (.tuple #[.agg #[.int .i64 n.states, .slice a1 n.moves.length c1, .slice a2 n.firsts.length c2, .slice a3 n.ends.length c3], .agg #[.int .i64 m.states, .slice am1 m.moves.length cm1, .slice am2 m.firsts.length cm2, .slice am3 m.ends.length cm3]]) ∧ St w w' [Ent.row 53 3 (.slice a1 n.moves.length c1) n.moves.length (n.moves.flatMap moveCells), Ent.row 3 1 (.slice a2 n.firsts.length c2) n.firsts.length (intCells n.firsts), Ent.row 3 1 (.slice a3 n.ends.length c3) n.ends.length (intCells n.ends), Ent.row 53 3 (.slice am1 m.moves.length cm1) m.moves.length (m.moves.flatMap moveCells), Ent.row 3 1 (.slice am2 m.firsts.length cm2) m.firsts.length (intCells m.firsts), Ent.row 3 1 (.slice am3 m.ends.length cm3) m.ends.length (intCells m.ends)] := by
  have hS0 := ((St.start w).alloc _ rfl #[.int .i64 0, .slice none 0 0, .slice none 0 0, .slice none 0 0] 46).alloc (w.heap.size + 1) (by simp) #[.int .i64 0, .slice none 0 0, .slice none 0 0, .slice none 0 0] 46
  have Hb := Lib.hid hb
  have HhS0 := Lib.hid hS0; clear hS0
  clear hb
  go_enter Try.func58, Try.ntmps58
  go_wp2_with fail
  refine (drawEither_any bs v _ (Hb.out.below HhS0.out.bel) hlen).mono ?_
  rintro e w1 ⟨n, m, a1, a2, a3, c1, c2, c3, am1, am2, am3, cm1, cm2, cm3, n0, n1, n2, n3, n4, m0, m1, m2, m3, m4, rfl, hS'⟩
  have HS3 := Lib.hid (HhS0.out.cat hS')
  clear hS'
  have f00 := HS3.out.fr 0 0 rfl
  have k00 := HS3.out.cell (v := .int .i64 0) 0 0 rfl rfl
  have f01 := HS3.out.fr 0 1 rfl
  have k01 := HS3.out.cell (v := .slice none 0 0) 0 1 rfl rfl
  have f02 := HS3.out.fr 0 2 rfl
  have k02 := HS3.out.cell (v := .slice none 0 0) 0 2 rfl rfl
  have f03 := HS3.out.fr 0 3 rfl
  have k03 := HS3.out.cell (v := .slice none 0 0) 0 3 rfl rfl
  have f10 := HS3.out.fr 1 0 rfl
  have k10 := HS3.out.cell (v := .int .i64 0) 1 0 rfl rfl
  have f11 := HS3.out.fr 1 1 rfl
  have k11 := HS3.out.cell (v := .slice none 0 0) 1 1 rfl rfl
  have f12 := HS3.out.fr 1 2 rfl
  have k12 := HS3.out.cell (v := .slice none 0 0) 1 2 rfl rfl
  have f13 := HS3.out.fr 1 3 rfl
  have k13 := HS3.out.cell (v := .slice none 0 0) 1 3 rfl rfl
  have HS4 := Lib.hid ((((((((HS3.out.set 0 rfl 0 (.int .i64 n.states)).set 0 rfl 1 (.slice a1 n.moves.length c1)).set 0 rfl 2 (.slice a2 n.firsts.length c2)).set 0 rfl 3 (.slice a3 n.ends.length c3)).set 1 rfl 0 (.int .i64 m.states)).set 1 rfl 1 (.slice am1 m.moves.length cm1)).set 1 rfl 2 (.slice am2 m.firsts.length cm2)).set 1 rfl 3 (.slice am3 m.ends.length cm3))
  have q0 := HS4.out.cell (v := .int .i64 n.states) 0 0 rfl rfl
  have q1 := HS4.out.cell (v := .slice a1 n.moves.length c1) 0 1 rfl rfl
  have q2 := HS4.out.cell (v := .slice a2 n.firsts.length c2) 0 2 rfl rfl
  have q3 := HS4.out.cell (v := .slice a3 n.ends.length c3) 0 3 rfl rfl
  have r0 := HS4.out.cell (v := .int .i64 m.states) 1 0 rfl rfl
  have r1 := HS4.out.cell (v := .slice am1 m.moves.length cm1) 1 1 rfl rfl
  have r2 := HS4.out.cell (v := .slice am2 m.firsts.length cm2) 1 2 rfl rfl
  have r3 := HS4.out.cell (v := .slice am3 m.ends.length cm3) 1 3 rfl rfl
  go_wp2
  refine bodyPost_ret (v := .tuple #[.agg #[.int .i64 n.states, .slice a1 n.moves.length c1, .slice a2 n.firsts.length c2, .slice a3 n.ends.length c3], .agg #[.int .i64 m.states, .slice am1 m.moves.length cm1, .slice am2 m.firsts.length cm2, .slice am3 m.ends.length cm3]]) (by simp [results, Try.results58, go_sem, q0, q1, q2, q3, r0, r1, r2, r3]) rfl ?_
  exact ⟨n, m, a1, a2, a3, c1, c2, c3, am1, am2, am3, cm1, cm2, cm3, n0, n1, n2, n3, n4, m0, m1, m2, m3, m4, rfl, HS4.out.pick [2, 3, 4, 5, 6, 7] (by decide)⟩
end Go.Proofs.Ytolkifpeblbfcaa
