/-
  The walk over the reference's DrawNfaStep: an automaton with choices, some states and a letter are drawn.
  Condition: the bytes read as such.
-/
import Derived.Test.YtolkifpeblbfcaaDk
namespace Go.Proofs.Ytolkifpeblbfcaa
open Go.RowKit

def zz (k : Nat) : Nat := if k = 6 then 1 else if k = 7 then 2 else 0
def zl (k z : Nat) : Int := if z = 0 then (k : Int) else if z = 1 then -1 else 3
theorem zz_lt (k : Nat) : zz k < 3 := by unfold zz; split <;> (try split) <;> omega
theorem zz_cell {P : Nat → Value → Prop} (h : ∀ j v, (#[Value.int .i64 0, Value.int .i64 0, Value.int .i64 0, Value.int .i64 0, Value.int .i64 0, Value.int .i64 0, Value.int .i64 1, Value.int .i64 2] : Array Value)[j]? = some v → P j v) (k : Nat) (hk : k < 8) : P k (.int .i64 ((zz k : Nat) : Int)) := by
  obtain rfl | rfl | rfl | rfl | rfl | rfl | rfl | rfl : k = 0 ∨ k = 1 ∨ k = 2 ∨ k = 3 ∨ k = 4 ∨ k = 5 ∨ k = 6 ∨ k = 7 := by omega
  all_goals exact h _ _ rfl
theorem zl_cell {P : Nat → Value → Prop} {q : Nat} (h : ∀ j v, (#[Value.int .i64 ((q : Nat) : Int), Value.int .i64 (-1), Value.int .i64 3] : Array Value)[j]? = some v → P j v) (z : Nat) (hz : z < 3) : P z (.int .i64 (zl q z)) := by
  obtain rfl | rfl | rfl : z = 0 ∨ z = 1 ∨ z = 2 := by omega
  all_goals exact h _ _ rfl
set_option maxRecDepth 100000 in
set_option maxHeartbeats 8000000 in
theorem drawStep_any (bs : List Nat) (v : Value) (w : World) (hb : Bytes 0 w v bs) (hlen : bs.length ≤ 100000000) :
    Calls Try.prog 50 #[v] w fun e w' => ∃ (n : NfaD) (L : List Int) (c : Int) (a1 a2 a3 a4 : Option Addr) (c1 c2 c3 c4 : Nat), -1 ≤ n.states ∧ n.states ≤ 41 ∧ n.moves.length ≤ 401 ∧ n.firsts.length ≤ 41 ∧ n.ends.length ≤ 41 ∧ L.length ≤ 43 ∧
      e = .returned (.tuple #[.agg #[.int .i64 n.states, .slice a1 n.moves.length c1, .slice a2 n.firsts.length c2, .slice a3 n.ends.length c3], .slice a4 L.length c4, .int .i64 c]) ∧ St w w' [Ent.row 53 3 (.slice a1 n.moves.length c1) n.moves.length (n.moves.flatMap moveCells), Ent.row 3 1 (.slice a2 n.firsts.length c2) n.firsts.length (intCells n.firsts), Ent.row 3 1 (.slice a3 n.ends.length c3) n.ends.length (intCells n.ends), Ent.row 3 1 (.slice a4 L.length c4) L.length (intCells L)] := by
  have hS0 := (St.start w).alloc _ rfl #[.int .i64 0, .slice none 0 0, .slice none 0 0, .slice none 0 0] 46
  have Hb := Lib.hid hb
  have HhS0 := Lib.hid hS0; clear hS0
  clear hb
  go_enter Try.func50, Try.ntmps50
  go_wp2_with fail
  refine (open2_any bs v _ (Hb.out.below HhS0.out.bel) hlen).mono ?_
  rintro e w1 ⟨vb, bs', hl', hB, rfl, hS'⟩
  obtain ⟨b, hbb⟩ : ∃ b, b = (w.alloc (.cells #[.int .i64 0, .slice none 0 0, .slice none 0 0, .slice none 0 0] 46)).heap.size := ⟨_, rfl⟩
  rw [← hbb] at hS'
  rw [← hbb]
  have hB1 := hB w Hb.out
  have HB := Lib.hid hB1
  have HS1 := Lib.hid ((HhS0.out.cat hS').pick [1, 0] (by decide))
  have Hhbb := Lib.hid hbb; clear hbb
  clear hS' hB hB1
  go_wp2_with fail
  refine (l20Nfa_any bs' vb b 0 14 w w1 _ HB.out hl' (by omega) (by omega) HS1.out).mono ?_
  rintro e w2 ⟨n, pn, a1, a2, a3, c1, c2, c3, hpn, hs0, hs1, hm, hf, he, rfl, hS2⟩
  have HS2 := Lib.hid (hS2.alloc _ rfl #[.int .i64 n.states, .slice a1 n.moves.length c1, .slice a2 n.firsts.length c2, .slice a3 n.ends.length c3] 46)
  clear hS2
  have e0 := HS2.out.cell (v := .int .i64 n.states) 5 0 rfl rfl
  have e1 := HS2.out.cell (v := .slice a1 n.moves.length c1) 5 1 rfl rfl
  have e2 := HS2.out.cell (v := .slice a2 n.firsts.length c2) 5 2 rfl rfl
  have e3 := HS2.out.cell (v := .slice a3 n.ends.length c3) 5 3 rfl rfl
  go_wp2_with fail
  refine (l20Set_any bs' vb b pn n.states _ _ _ w _ _ HB.out hl' (by omega) (by omega) (by omega) (St.pack (A := [RdE b vb pn]) (R := [Ent.box w.heap.size #[.int .i64 0, .slice none 0 0, .slice none 0 0, .slice none 0 0] 46, Ent.row 53 3 (.slice a1 n.moves.length c1) n.moves.length (n.moves.flatMap moveCells), Ent.row 3 1 (.slice a2 n.firsts.length c2) n.firsts.length (intCells n.firsts), Ent.row 3 1 (.slice a3 n.ends.length c3) n.ends.length (intCells n.ends), Ent.box w2.heap.size #[.int .i64 n.states, .slice a1 n.moves.length c1, .slice a2 n.firsts.length c2, .slice a3 n.ends.length c3] 46]) HS2.out)).mono ?_
  rintro e w3 ⟨L, a4, c4, pL, hL, hpL, rfl, hSp⟩
  have hS3 := (St.unpack (A := [RdE b vb pn]) (A' := [RdE b vb pL, Ent.row 3 1 (.slice a4 L.length c4) L.length (intCells L)]) (R := [Ent.box w.heap.size #[.int .i64 0, .slice none 0 0, .slice none 0 0, .slice none 0 0] 46, Ent.row 53 3 (.slice a1 n.moves.length c1) n.moves.length (n.moves.flatMap moveCells), Ent.row 3 1 (.slice a2 n.firsts.length c2) n.firsts.length (intCells n.firsts), Ent.row 3 1 (.slice a3 n.ends.length c3) n.ends.length (intCells n.ends), Ent.box w2.heap.size #[.int .i64 n.states, .slice a1 n.moves.length c1, .slice a2 n.firsts.length c2, .slice a3 n.ends.length c3] 46]) HS2.out (hSp.pick [0, 2, 1] (by decide))).pick [0, 2, 3, 4, 5, 6, 1] (by decide)
  have HS3 := Lib.hid hS3
  clear hSp hS3 e0 e1 e2 e3
  go_wp2
  refine wp_region_any (by kernel_rfl) ?_
  refine wpAny_invA (fun A listed a w' => ∃ (l0 l1 l2 l3 l4 l5 l6 l7 l8 l9 l10 l11 l12 l13 l14 : Bool) (ka : Nat) (kb : {k : Nat // k < 8}) (ba : Nat) (bb : Nat), listed = #[l0, l1, l2, l3, l4, l5, l6, l7, l8, l9, l10, l11, l12, l13, l14] ∧ (l3 = true → l2 = true) ∧ (l4 = true → l3 = true) ∧ (l7 = true → l6 = true ∧ l3 = true) ∧ (l8 = true → l5 = true ∧ l7 = true) ∧ (l9 = true → l8 = true) ∧ (l10 = true → l4 = true ∧ l9 = true) ∧ (l11 = true → l10 = true) ∧ (l12 = true → l0 = true ∧ l7 = true) ∧ (l13 = true → l1 = true ∧ l12 = true) ∧ (l14 = true → l11 = true ∧ l13 = true) ∧
      a = ⟨((((((((((((((A.tmps.setIfInBounds 15 (if l0 = true then .agg #[.int .i64 n.states, .slice a1 n.moves.length c1, .slice a2 n.firsts.length c2, .slice a3 n.ends.length c3] else A.tmps.getD 15 undef)).setIfInBounds 16 (if l1 = true then .slice a4 L.length c4 else A.tmps.getD 16 undef)).setIfInBounds 17 (if l2 = true then .pointer (some ⟨b, 0, none⟩) else A.tmps.getD 17 undef)).setIfInBounds 18 (if l3 = true then .int .i64 ((ka : Nat) : Int) else A.tmps.getD 18 undef)).setIfInBounds 19 (if l4 = true then .slice (some ⟨ba, 0, none⟩) 3 3 else A.tmps.getD 19 undef)).setIfInBounds 20 (if l5 = true then .slice (some ⟨bb, 0, none⟩) 8 8 else A.tmps.getD 20 undef)).setIfInBounds 21 (if l6 = true then .pointer (some ⟨b, 0, none⟩) else A.tmps.getD 21 undef)).setIfInBounds 22 (if l7 = true then .int .i64 ((kb.1 : Nat) : Int) else A.tmps.getD 22 undef)).setIfInBounds 23 (if l8 = true then .pointer (some ⟨bb, kb.1, none⟩) else A.tmps.getD 23 undef)).setIfInBounds 24 (if l9 = true then .int .i64 ((zz kb.1 : Nat) : Int) else A.tmps.getD 24 undef)).setIfInBounds 25 (if l10 = true then .pointer (some ⟨ba, zz kb.1, none⟩) else A.tmps.getD 25 undef)).setIfInBounds 26 (if l11 = true then .int .i64 (zl ka (zz kb.1)) else A.tmps.getD 26 undef)).setIfInBounds 3 (if l13 = true then .slice a4 L.length c4 else A.tmps.getD 3 undef)).setIfInBounds 4 (if l14 = true then .int .i64 (zl ka (zz kb.1)) else A.tmps.getD 4 undef)), A.defers⟩ ∧
      St w w' [RdE b vb (if l7 = true then pL + 1 + 1 else if l3 = true then pL + 1 else pL), Ent.box w.heap.size #[(if l12 = true then .int .i64 n.states else .int .i64 0), (if l12 = true then .slice a1 n.moves.length c1 else .slice none 0 0), (if l12 = true then .slice a2 n.firsts.length c2 else .slice none 0 0), (if l12 = true then .slice a3 n.ends.length c3 else .slice none 0 0)] 46, Ent.row 53 3 (.slice a1 n.moves.length c1) n.moves.length (n.moves.flatMap moveCells), Ent.row 3 1 (.slice a2 n.firsts.length c2) n.firsts.length (intCells n.firsts), Ent.row 3 1 (.slice a3 n.ends.length c3) n.ends.length (intCells n.ends), Ent.box w2.heap.size #[.int .i64 n.states, .slice a1 n.moves.length c1, .slice a2 n.firsts.length c2, .slice a3 n.ends.length c3] 46, Ent.row 3 1 (.slice a4 L.length c4) L.length (intCells L), (if l4 = true then Ent.box ba #[.int .i64 ((ka : Nat) : Int), .int .i64 (-1), .int .i64 3] 3 else Ent.nil), (if l5 = true then Ent.box bb #[.int .i64 0, .int .i64 0, .int .i64 0, .int .i64 0, .int .i64 0, .int .i64 0, .int .i64 1, .int .i64 2] 3 else Ent.nil)]) ?_ ?_ ?_
  · rintro listed a w' ⟨l0, l1, l2, l3, l4, l5, l6, l7, l8, l9, l10, l11, l12, l13, l14, ka, kb, ba, bb, rfl, hd3, hd4, hd7, hd8, hd9, hd10, hd11, hd12, hd13, hd14, rfl, hS⟩ i hi
    obtain ⟨hun, o, ho, hall⟩ := mem_ready.1 hi
    have hlt := (Array.getElem?_eq_some_iff.1 ho).1
    refine wpOp_step ho (fun K hK => ?_)
    clear hi
    have HS := Lib.hid hS
    clear hS
    simp only [List.setIfInBounds_toArray, List.set_cons_zero, List.set_cons_succ, Array.getD_eq_getD_getElem?, List.getElem?_toArray, List.getElem?_cons_zero, List.getElem?_cons_succ, Option.getD_some]
    obtain h | h | h | h | h | h | h | h | h | h | h | h | h | h | h : i = 0 ∨ i = 1 ∨ i = 2 ∨ i = 3 ∨ i = 4 ∨ i = 5 ∨ i = 6 ∨ i = 7 ∨ i = 8 ∨ i = 9 ∨ i = 10 ∨ i = 11 ∨ i = 12 ∨ i = 13 ∨ i = 14 := by simp at hlt; omega
    all_goals subst h
    all_goals simp only [List.getElem?_toArray, List.getElem?_cons_zero, List.getElem?_cons_succ, Option.some.injEq] at ho
    all_goals subst ho
    all_goals simp [Region.binds] at hun hall
    · subst hun
      obtain rfl : l12 = false := offL hd12 rfl
      obtain rfl : l13 = false := offR hd13 rfl
      obtain rfl : l14 = false := offR hd14 rfl
      have e0 := HS.out.cell (v := .int .i64 n.states) 5 0 rfl rfl
      have e1 := HS.out.cell (v := .slice a1 n.moves.length c1) 5 1 rfl rfl
      have e2 := HS.out.cell (v := .slice a2 n.firsts.length c2) 5 2 rfl rfl
      have e3 := HS.out.cell (v := .slice a3 n.ends.length c3) 5 3 rfl rfl
      go_simp
      exact hK _ _ ⟨true, l1, l2, l3, l4, l5, l6, l7, l8, l9, l10, l11, false, false, false, ka, kb, ba, bb, rfl, hd3, hd4, hd7, hd8, hd9, hd10, hd11, by simp, by simp, by simp, (by simp only [↓reduceIte, Bool.false_eq_true, List.setIfInBounds_toArray, List.set_cons_zero, List.set_cons_succ, Array.getD_eq_getD_getElem?, List.getElem?_toArray, List.getElem?_cons_zero, List.getElem?_cons_succ, Option.getD_some]), HS.out⟩
    · subst hun
      obtain rfl : l13 = false := offL hd13 rfl
      obtain rfl : l14 = false := offR hd14 rfl
      go_simp
      exact hK _ _ ⟨l0, true, l2, l3, l4, l5, l6, l7, l8, l9, l10, l11, l12, false, false, ka, kb, ba, bb, rfl, hd3, hd4, hd7, hd8, hd9, hd10, hd11, hd12, by simp, by simp, (by simp only [↓reduceIte, Bool.false_eq_true, List.setIfInBounds_toArray, List.set_cons_zero, List.set_cons_succ, Array.getD_eq_getD_getElem?, List.getElem?_toArray, List.getElem?_cons_zero, List.getElem?_cons_succ, Option.getD_some]), HS.out⟩
    · subst hun
      obtain rfl : l3 = false := by cases l3 with | false => rfl | true => simpa using hd3 rfl
      obtain rfl : l4 = false := by cases l4 with | false => rfl | true => simpa using hd4 rfl
      obtain rfl : l7 = false := offR hd7 rfl
      obtain rfl : l8 = false := offR hd8 rfl
      obtain rfl : l9 = false := by cases l9 with | false => rfl | true => simpa using hd9 rfl
      obtain rfl : l10 = false := offL hd10 rfl
      obtain rfl : l11 = false := by cases l11 with | false => rfl | true => simpa using hd11 rfl
      obtain rfl : l12 = false := offR hd12 rfl
      obtain rfl : l13 = false := offR hd13 rfl
      obtain rfl : l14 = false := offL hd14 rfl
      go_simp
      exact hK _ _ ⟨l0, l1, true, false, false, l5, l6, false, false, false, false, false, false, false, false, ka, kb, ba, bb, rfl, by simp, by simp, by simp, by simp, by simp, by simp, by simp, by simp, by simp, by simp, (by simp only [↓reduceIte, Bool.false_eq_true, List.setIfInBounds_toArray, List.set_cons_zero, List.set_cons_succ, Array.getD_eq_getD_getElem?, List.getElem?_toArray, List.getElem?_cons_zero, List.getElem?_cons_succ, Option.getD_some]), HS.out⟩
    · obtain rfl := hall
      subst hun
      obtain rfl : l4 = false := by cases l4 with | false => rfl | true => simpa using hd4 rfl
      obtain rfl : l7 = false := offR hd7 rfl
      obtain rfl : l8 = false := offR hd8 rfl
      obtain rfl : l9 = false := by cases l9 with | false => rfl | true => simpa using hd9 rfl
      obtain rfl : l10 = false := offL hd10 rfl
      obtain rfl : l11 = false := by cases l11 with | false => rfl | true => simpa using hd11 rfl
      obtain rfl : l12 = false := offR hd12 rfl
      obtain rfl : l13 = false := offR hd13 rfl
      obtain rfl : l14 = false := offL hd14 rfl
      go_simp
      go_at_call 120
      refine (pick_any bs' vb b (pL) 3 w _ _ HB.out hl' (by omega) (by omega) (by omega) (St.pack (A := [RdE b vb (pL)]) (R := [Ent.box w.heap.size #[.int .i64 0, .slice none 0 0, .slice none 0 0, .slice none 0 0] 46, Ent.row 53 3 (.slice a1 n.moves.length c1) n.moves.length (n.moves.flatMap moveCells), Ent.row 3 1 (.slice a2 n.firsts.length c2) n.firsts.length (intCells n.firsts), Ent.row 3 1 (.slice a3 n.ends.length c3) n.ends.length (intCells n.ends), Ent.box w2.heap.size #[.int .i64 n.states, .slice a1 n.moves.length c1, .slice a2 n.firsts.length c2, .slice a3 n.ends.length c3] 46, Ent.row 3 1 (.slice a4 L.length c4) L.length (intCells L), Ent.nil, (if l5 = true then Ent.box bb #[.int .i64 0, .int .i64 0, .int .i64 0, .int .i64 0, .int .i64 0, .int .i64 0, .int .i64 1, .int .i64 2] 3 else Ent.nil)]) (HS.out.pick [0, 1, 2, 3, 4, 5, 6, 7, 8] (by decide)))).mono ?_
      rintro e u1 ⟨j1, hj1, rfl, hSp⟩
      have hS2 := St.unpack (A := [RdE b vb (pL)]) (A' := [RdE b vb (pL + 1)]) (R := [Ent.box w.heap.size #[.int .i64 0, .slice none 0 0, .slice none 0 0, .slice none 0 0] 46, Ent.row 53 3 (.slice a1 n.moves.length c1) n.moves.length (n.moves.flatMap moveCells), Ent.row 3 1 (.slice a2 n.firsts.length c2) n.firsts.length (intCells n.firsts), Ent.row 3 1 (.slice a3 n.ends.length c3) n.ends.length (intCells n.ends), Ent.box w2.heap.size #[.int .i64 n.states, .slice a1 n.moves.length c1, .slice a2 n.firsts.length c2, .slice a3 n.ends.length c3] 46, Ent.row 3 1 (.slice a4 L.length c4) L.length (intCells L), Ent.nil, (if l5 = true then Ent.box bb #[.int .i64 0, .int .i64 0, .int .i64 0, .int .i64 0, .int .i64 0, .int .i64 0, .int .i64 1, .int .i64 2] 3 else Ent.nil)]) (HS.out.pick [0, 1, 2, 3, 4, 5, 6, 7, 8] (by decide)) hSp
      have HhS2 := Lib.hid hS2; clear hS2
      go_simp
      exact hK _ _ ⟨l0, l1, true, true, false, l5, l6, false, false, false, false, false, false, false, false, j1, kb, ba, bb, rfl, by simp, by simp, by simp, by simp, by simp, by simp, by simp, by simp, by simp, by simp, (by simp only [↓reduceIte, Bool.false_eq_true, List.setIfInBounds_toArray, List.set_cons_zero, List.set_cons_succ, Array.getD_eq_getD_getElem?, List.getElem?_toArray, List.getElem?_cons_zero, List.getElem?_cons_succ, Option.getD_some]), HhS2.out⟩
    · obtain rfl := hall
      subst hun
      obtain ⟨rfl⟩ := hd3 rfl
      obtain rfl : l10 = false := offL hd10 rfl
      obtain rfl : l11 = false := by cases l11 with | false => rfl | true => simpa using hd11 rfl
      obtain rfl : l14 = false := offL hd14 rfl
      have hS2 := (HS.out.alloc _ rfl #[.int .i64 ((ka : Nat) : Int), .int .i64 (-1), .int .i64 3] 3).pick [0, 1, 2, 3, 4, 5, 6, 9, 8] (by decide)
      have HhS2 := Lib.hid hS2; clear hS2
      go_simp
      exact hK _ _ ⟨l0, l1, true, true, true, l5, l6, l7, l8, l9, false, false, l12, l13, false, ka, kb, _, bb, rfl, by simp, by simp, hd7, hd8, hd9, by simp, by simp, hd12, hd13, by simp, (by simp only [↓reduceIte, Bool.false_eq_true, List.setIfInBounds_toArray, List.set_cons_zero, List.set_cons_succ, Array.getD_eq_getD_getElem?, List.getElem?_toArray, List.getElem?_cons_zero, List.getElem?_cons_succ, Option.getD_some]), HhS2.out⟩
    · subst hun
      obtain rfl : l8 = false := offL hd8 rfl
      obtain rfl : l9 = false := by cases l9 with | false => rfl | true => simpa using hd9 rfl
      obtain rfl : l10 = false := offR hd10 rfl
      obtain rfl : l11 = false := by cases l11 with | false => rfl | true => simpa using hd11 rfl
      obtain rfl : l14 = false := offL hd14 rfl
      have hS2 := (HS.out.alloc _ rfl #[.int .i64 0, .int .i64 0, .int .i64 0, .int .i64 0, .int .i64 0, .int .i64 0, .int .i64 1, .int .i64 2] 3).pick [0, 1, 2, 3, 4, 5, 6, 7, 9] (by decide)
      have HhS2 := Lib.hid hS2; clear hS2
      go_simp
      exact hK _ _ ⟨l0, l1, l2, l3, l4, true, l6, l7, false, false, false, false, l12, l13, false, ka, kb, ba, _, rfl, hd3, hd4, hd7, by simp, by simp, by simp, by simp, hd12, hd13, by simp, (by simp only [↓reduceIte, Bool.false_eq_true, List.setIfInBounds_toArray, List.set_cons_zero, List.set_cons_succ, Array.getD_eq_getD_getElem?, List.getElem?_toArray, List.getElem?_cons_zero, List.getElem?_cons_succ, Option.getD_some]), HhS2.out⟩
    · subst hun
      obtain rfl : l7 = false := offL hd7 rfl
      obtain rfl : l8 = false := offR hd8 rfl
      obtain rfl : l9 = false := by cases l9 with | false => rfl | true => simpa using hd9 rfl
      obtain rfl : l10 = false := offR hd10 rfl
      obtain rfl : l11 = false := by cases l11 with | false => rfl | true => simpa using hd11 rfl
      obtain rfl : l12 = false := offR hd12 rfl
      obtain rfl : l13 = false := offR hd13 rfl
      obtain rfl : l14 = false := offL hd14 rfl
      go_simp
      exact hK _ _ ⟨l0, l1, l2, l3, l4, l5, true, false, false, false, false, false, false, false, false, ka, kb, ba, bb, rfl, hd3, hd4, by simp, by simp, by simp, by simp, by simp, by simp, by simp, by simp, (by simp only [↓reduceIte, Bool.false_eq_true, List.setIfInBounds_toArray, List.set_cons_zero, List.set_cons_succ, Array.getD_eq_getD_getElem?, List.getElem?_toArray, List.getElem?_cons_zero, List.getElem?_cons_succ, Option.getD_some]), HS.out⟩
    · obtain ⟨rfl, rfl⟩ := hall
      subst hun
      obtain ⟨rfl⟩ := hd3 rfl
      obtain rfl : l8 = false := offR hd8 rfl
      obtain rfl : l9 = false := by cases l9 with | false => rfl | true => simpa using hd9 rfl
      obtain rfl : l10 = false := offR hd10 rfl
      obtain rfl : l11 = false := by cases l11 with | false => rfl | true => simpa using hd11 rfl
      obtain rfl : l12 = false := offR hd12 rfl
      obtain rfl : l13 = false := offR hd13 rfl
      obtain rfl : l14 = false := offL hd14 rfl
      go_simp
      go_at_call 120
      refine (pick_any bs' vb b (pL + 1) 8 w _ _ HB.out hl' (by omega) (by omega) (by omega) (St.pack (A := [RdE b vb (pL + 1)]) (R := [Ent.box w.heap.size #[.int .i64 0, .slice none 0 0, .slice none 0 0, .slice none 0 0] 46, Ent.row 53 3 (.slice a1 n.moves.length c1) n.moves.length (n.moves.flatMap moveCells), Ent.row 3 1 (.slice a2 n.firsts.length c2) n.firsts.length (intCells n.firsts), Ent.row 3 1 (.slice a3 n.ends.length c3) n.ends.length (intCells n.ends), Ent.box w2.heap.size #[.int .i64 n.states, .slice a1 n.moves.length c1, .slice a2 n.firsts.length c2, .slice a3 n.ends.length c3] 46, Ent.row 3 1 (.slice a4 L.length c4) L.length (intCells L), (if l4 = true then Ent.box ba #[.int .i64 ((ka : Nat) : Int), .int .i64 (-1), .int .i64 3] 3 else Ent.nil), (if l5 = true then Ent.box bb #[.int .i64 0, .int .i64 0, .int .i64 0, .int .i64 0, .int .i64 0, .int .i64 0, .int .i64 1, .int .i64 2] 3 else Ent.nil)]) (HS.out.pick [0, 1, 2, 3, 4, 5, 6, 7, 8] (by decide)))).mono ?_
      rintro e u1 ⟨j1, hj1, rfl, hSp⟩
      have hS2 := St.unpack (A := [RdE b vb (pL + 1)]) (A' := [RdE b vb (pL + 1 + 1)]) (R := [Ent.box w.heap.size #[.int .i64 0, .slice none 0 0, .slice none 0 0, .slice none 0 0] 46, Ent.row 53 3 (.slice a1 n.moves.length c1) n.moves.length (n.moves.flatMap moveCells), Ent.row 3 1 (.slice a2 n.firsts.length c2) n.firsts.length (intCells n.firsts), Ent.row 3 1 (.slice a3 n.ends.length c3) n.ends.length (intCells n.ends), Ent.box w2.heap.size #[.int .i64 n.states, .slice a1 n.moves.length c1, .slice a2 n.firsts.length c2, .slice a3 n.ends.length c3] 46, Ent.row 3 1 (.slice a4 L.length c4) L.length (intCells L), (if l4 = true then Ent.box ba #[.int .i64 ((ka : Nat) : Int), .int .i64 (-1), .int .i64 3] 3 else Ent.nil), (if l5 = true then Ent.box bb #[.int .i64 0, .int .i64 0, .int .i64 0, .int .i64 0, .int .i64 0, .int .i64 0, .int .i64 1, .int .i64 2] 3 else Ent.nil)]) (HS.out.pick [0, 1, 2, 3, 4, 5, 6, 7, 8] (by decide)) hSp
      have HhS2 := Lib.hid hS2; clear hS2
      go_simp
      exact hK _ _ ⟨l0, l1, true, true, l4, l5, true, true, false, false, false, false, false, false, false, ka, ⟨j1, hj1⟩, ba, bb, rfl, by simp, hd4, by simp, by simp, by simp, by simp, by simp, by simp, by simp, by simp, (by simp only [↓reduceIte, Bool.false_eq_true, List.setIfInBounds_toArray, List.set_cons_zero, List.set_cons_succ, Array.getD_eq_getD_getElem?, List.getElem?_toArray, List.getElem?_cons_zero, List.getElem?_cons_succ, Option.getD_some]), HhS2.out⟩
    · obtain ⟨rfl, rfl⟩ := hall
      subst hun
      obtain ⟨rfl, rfl⟩ := hd7 rfl
      obtain ⟨rfl⟩ := hd3 rfl
      obtain rfl : l9 = false := by cases l9 with | false => rfl | true => simpa using hd9 rfl
      obtain rfl : l10 = false := offR hd10 rfl
      obtain rfl : l11 = false := by cases l11 with | false => rfl | true => simpa using hd11 rfl
      obtain rfl : l14 = false := offL hd14 rfl
      have hk2 : ((kb.1 : Nat) : Int) < 8 := by have := kb.2; omega
      have hk3 : kb.1 < 8 := kb.2
      go_simp
      exact hK _ _ ⟨l0, l1, true, true, l4, true, true, true, true, false, false, false, l12, l13, false, ka, kb, ba, bb, rfl, by simp, hd4, by simp, by simp, by simp, by simp, by simp, hd12, hd13, by simp, (by simp only [↓reduceIte, Bool.false_eq_true, List.setIfInBounds_toArray, List.set_cons_zero, List.set_cons_succ, Array.getD_eq_getD_getElem?, List.getElem?_toArray, List.getElem?_cons_zero, List.getElem?_cons_succ, Option.getD_some]), HS.out⟩
    · obtain rfl := hall
      subst hun
      obtain ⟨rfl, rfl⟩ := hd8 rfl
      obtain ⟨rfl, rfl⟩ := hd7 rfl
      obtain ⟨rfl⟩ := hd3 rfl
      obtain rfl : l10 = false := offR hd10 rfl
      obtain rfl : l11 = false := by cases l11 with | false => rfl | true => simpa using hd11 rfl
      obtain rfl : l14 = false := offL hd14 rfl
      have hz := zz_cell (fun j v => HS.out.cell (v := v) 8 j rfl) kb.1 kb.2
      go_simp
      exact hK _ _ ⟨l0, l1, true, true, l4, true, true, true, true, true, false, false, l12, l13, false, ka, kb, ba, bb, rfl, by simp, hd4, by simp, by simp, by simp, by simp, by simp, hd12, hd13, by simp, (by simp only [↓reduceIte, Bool.false_eq_true, List.setIfInBounds_toArray, List.set_cons_zero, List.set_cons_succ, Array.getD_eq_getD_getElem?, List.getElem?_toArray, List.getElem?_cons_zero, List.getElem?_cons_succ, Option.getD_some]), HS.out⟩
    · obtain ⟨rfl, rfl⟩ := hall
      subst hun
      obtain ⟨rfl⟩ := hd4 rfl
      obtain ⟨rfl⟩ := hd9 rfl
      obtain ⟨rfl⟩ := hd3 rfl
      obtain ⟨rfl, rfl⟩ := hd8 rfl
      obtain ⟨rfl, -⟩ := hd7 rfl
      obtain rfl : l11 = false := by cases l11 with | false => rfl | true => simpa using hd11 rfl
      obtain rfl : l14 = false := offL hd14 rfl
      have hz : ((zz kb.1 : Nat) : Int) < 3 := by have := zz_lt kb.1; omega
      have hz3 : zz kb.1 < 3 := zz_lt kb.1
      go_simp
      exact hK _ _ ⟨l0, l1, true, true, true, true, true, true, true, true, true, false, l12, l13, false, ka, kb, ba, bb, rfl, by simp, by simp, by simp, by simp, by simp, by simp, by simp, hd12, hd13, by simp, (by simp only [↓reduceIte, Bool.false_eq_true, List.setIfInBounds_toArray, List.set_cons_zero, List.set_cons_succ, Array.getD_eq_getD_getElem?, List.getElem?_toArray, List.getElem?_cons_zero, List.getElem?_cons_succ, Option.getD_some]), HS.out⟩
    · obtain rfl := hall
      subst hun
      obtain ⟨rfl, rfl⟩ := hd10 rfl
      obtain ⟨rfl⟩ := hd4 rfl
      obtain ⟨rfl⟩ := hd9 rfl
      obtain ⟨rfl⟩ := hd3 rfl
      obtain ⟨rfl, rfl⟩ := hd8 rfl
      obtain ⟨rfl, -⟩ := hd7 rfl
      obtain rfl : l14 = false := offL hd14 rfl
      have hz := zl_cell (fun j v => HS.out.cell (v := v) 7 j rfl) (zz kb.1) (zz_lt kb.1)
      go_simp
      exact hK _ _ ⟨l0, l1, true, true, true, true, true, true, true, true, true, true, l12, l13, false, ka, kb, ba, bb, rfl, by simp, by simp, by simp, by simp, by simp, by simp, by simp, hd12, hd13, by simp, (by simp only [↓reduceIte, Bool.false_eq_true, List.setIfInBounds_toArray, List.set_cons_zero, List.set_cons_succ, Array.getD_eq_getD_getElem?, List.getElem?_toArray, List.getElem?_cons_zero, List.getElem?_cons_succ, Option.getD_some]), HS.out⟩
    · obtain ⟨rfl, rfl, -⟩ := hall
      subst hun
      obtain ⟨rfl, rfl⟩ := hd7 rfl
      obtain ⟨rfl⟩ := hd3 rfl
      obtain rfl : l13 = false := offR hd13 rfl
      obtain rfl : l14 = false := offR hd14 rfl
      have f0 := HS.out.fr 1 0 rfl
      have k0 := HS.out.cell (v := .int .i64 0) 1 0 rfl rfl
      have f1 := HS.out.fr 1 1 rfl
      have k1 := HS.out.cell (v := .slice none 0 0) 1 1 rfl rfl
      have f2 := HS.out.fr 1 2 rfl
      have k2 := HS.out.cell (v := .slice none 0 0) 1 2 rfl rfl
      have f3 := HS.out.fr 1 3 rfl
      have k3 := HS.out.cell (v := .slice none 0 0) 1 3 rfl rfl
      go_simp
      exact hK _ _ ⟨true, l1, true, true, l4, l5, true, true, l8, l9, l10, l11, true, false, false, ka, kb, ba, bb, rfl, by simp, hd4, by simp, hd8, hd9, hd10, hd11, by simp, by simp, by simp, (by simp only [↓reduceIte, Bool.false_eq_true, List.setIfInBounds_toArray, List.set_cons_zero, List.set_cons_succ, Array.getD_eq_getD_getElem?, List.getElem?_toArray, List.getElem?_cons_zero, List.getElem?_cons_succ, Option.getD_some]), ((((HS.out.set 1 rfl 0 (.int .i64 n.states)).set 1 rfl 1 (.slice a1 n.moves.length c1)).set 1 rfl 2 (.slice a2 n.firsts.length c2)).set 1 rfl 3 (.slice a3 n.ends.length c3))⟩
    · obtain ⟨rfl, rfl, rfl, -⟩ := hall
      subst hun
      obtain ⟨-, rfl⟩ := hd12 rfl
      obtain ⟨rfl, rfl⟩ := hd7 rfl
      obtain ⟨rfl⟩ := hd3 rfl
      obtain rfl : l14 = false := offR hd14 rfl
      go_simp
      exact hK _ _ ⟨true, true, true, true, l4, l5, true, true, l8, l9, l10, l11, true, true, false, ka, kb, ba, bb, rfl, by simp, hd4, by simp, hd8, hd9, hd10, hd11, by simp, by simp, by simp, (by simp only [↓reduceIte, Bool.false_eq_true, List.setIfInBounds_toArray, List.set_cons_zero, List.set_cons_succ, Array.getD_eq_getD_getElem?, List.getElem?_toArray, List.getElem?_cons_zero, List.getElem?_cons_succ, Option.getD_some]), HS.out⟩
    · obtain ⟨rfl, rfl, rfl, rfl, rfl, rfl, rfl, rfl, rfl, rfl, rfl, rfl, rfl, -, rfl, -⟩ := hall
      subst hun
      go_simp
      exact hK _ _ ⟨true, true, true, true, true, true, true, true, true, true, true, true, true, true, true, ka, kb, ba, bb, rfl, by simp, by simp, by simp, by simp, by simp, by simp, by simp, by simp, by simp, by simp, (by simp only [↓reduceIte, List.setIfInBounds_toArray, List.set_cons_zero, List.set_cons_succ]), HS.out⟩
  · rintro listed a w' ⟨l0, l1, l2, l3, l4, l5, l6, l7, l8, l9, l10, l11, l12, l13, l14, ka, kb, ba, bb, rfl, hd3, hd4, hd7, hd8, hd9, hd10, hd11, hd12, hd13, hd14, rfl, hS⟩ hr
    have hall := ready_nilM (by kernel_rfl) rfl hr
    obtain rfl : l0 = true := by simpa using hall 0 (by simp)
    obtain rfl : l1 = true := by simpa using hall 1 (by simp)
    obtain rfl : l2 = true := by simpa using hall 2 (by simp)
    obtain rfl : l3 = true := by simpa using hall 3 (by simp)
    obtain rfl : l4 = true := by simpa using hall 4 (by simp)
    obtain rfl : l5 = true := by simpa using hall 5 (by simp)
    obtain rfl : l6 = true := by simpa using hall 6 (by simp)
    obtain rfl : l7 = true := by simpa using hall 7 (by simp)
    obtain rfl : l8 = true := by simpa using hall 8 (by simp)
    obtain rfl : l9 = true := by simpa using hall 9 (by simp)
    obtain rfl : l10 = true := by simpa using hall 10 (by simp)
    obtain rfl : l11 = true := by simpa using hall 11 (by simp)
    obtain rfl : l12 = true := by simpa using hall 12 (by simp)
    obtain rfl : l13 = true := by simpa using hall 13 (by simp)
    obtain rfl : l14 = true := by simpa using hall 14 (by simp)
    clear hall hr hd3 hd4 hd7 hd8 hd9 hd10 hd11 hd12 hd13 hd14
    simp only [↓reduceIte] at hS ⊢
    simp only [List.setIfInBounds_toArray, List.set_cons_zero, List.set_cons_succ]
    have HSf := Lib.hid (hS.pick [0, 1, 2, 3, 4, 5, 6] (by decide))
    clear hS
    have q0 := HSf.out.cell (v := .int .i64 n.states) 1 0 rfl rfl
    have q1 := HSf.out.cell (v := .slice a1 n.moves.length c1) 1 1 rfl rfl
    have q2 := HSf.out.cell (v := .slice a2 n.firsts.length c2) 1 2 rfl rfl
    have q3 := HSf.out.cell (v := .slice a3 n.ends.length c3) 1 3 rfl rfl
    go_wp2
    refine bodyPost_ret (v := .tuple #[.agg #[.int .i64 n.states, .slice a1 n.moves.length c1, .slice a2 n.firsts.length c2, .slice a3 n.ends.length c3], .slice a4 L.length c4, .int .i64 (zl ka (zz kb.1))]) (by simp [results, Try.results50, go_sem, q0, q1, q2, q3]) rfl ?_
    exact ⟨n, L, zl ka (zz kb.1), a1, a2, a3, a4, c1, c2, c3, c4, hs0, hs1, hm, hf, he, hL, rfl, HSf.out.pick [2, 3, 4, 6] (by decide)⟩
  · refine ⟨false, false, false, false, false, false, false, false, false, false, false, false, false, false, false, 0, ⟨0, by omega⟩, 0, 0, rfl, by simp, by simp, by simp, by simp, by simp, by simp, by simp, by simp, by simp, by simp, (by simp only [↓reduceIte, Bool.false_eq_true, List.setIfInBounds_toArray, List.set_cons_zero, List.set_cons_succ, Array.getD_eq_getD_getElem?, List.getElem?_toArray, List.getElem?_cons_zero, List.getElem?_cons_succ, Option.getD_some]), ?_⟩
    exact HS3.out.drew.pick [0, 1, 2, 3, 4, 5, 6, 7, 8] (by decide)
end Go.Proofs.Ytolkifpeblbfcaa
