/-
  The walks over the reference's DrawNfaStar, DrawTurnNfa, DrawNfaRun, DrawNfaEither, DrawNfaJoin: automata with choices are drawn, and a text.
  Condition: the bytes read as such.
-/
import Derived.Test.YthigcohfjoodlaaDk
import Derived.Test.YthigcohfjoodlaaWr
namespace Go.Proofs.Ythigcohfjoodlaa
open Go.RowKit

set_option maxRecDepth 100000 in
set_option maxHeartbeats 8000000 in
theorem drawStar_any (bs : List Nat) (v : Value) (w : World) (hb : Bytes 0 w v bs) (hlen : bs.length ≤ 100000000) :
    Calls Try.prog 65 #[v] w fun e w' => ∃ (n : NfaD) (a1 a2 a3 : Option Addr) (c1 c2 c3 : Nat), -1 ≤ n.states ∧ n.states ≤ 41 ∧ n.moves.length ≤ 401 ∧ n.firsts.length ≤ 41 ∧ n.ends.length ≤ 41 ∧
      e = .returned (.agg #[.int .i64 n.states, .slice a1 n.moves.length c1, .slice a2 n.firsts.length c2, .slice a3 n.ends.length c3]) ∧ St w w' [Ent.row 133 3 (.slice a1 n.moves.length c1) n.moves.length (n.moves.flatMap moveCells), Ent.row 3 1 (.slice a2 n.firsts.length c2) n.firsts.length (intCells n.firsts), Ent.row 3 1 (.slice a3 n.ends.length c3) n.ends.length (intCells n.ends)] := by
  have hS0 := (St.start w).alloc _ rfl #[.int .i64 0, .slice none 0 0, .slice none 0 0, .slice none 0 0] 51
  have Hb := Lib.hid hb
  have HhS0 := Lib.hid hS0; clear hS0
  clear hb
  go_enter Try.func65, Try.ntmps65
  go_wp2_with fail
  refine (open2_any bs v _ (Hb.out.below HhS0.out.bel) hlen).mono ?_
  rintro e w1 ⟨vb, bs', hl', hB, rfl, hS'⟩
  obtain ⟨b, hbb⟩ : ∃ b, b = (w.alloc (.cells #[.int .i64 0, .slice none 0 0, .slice none 0 0, .slice none 0 0] 51)).heap.size := ⟨_, rfl⟩
  rw [← hbb] at hS'
  rw [← hbb]
  have hB1 := hB w Hb.out
  have HB := Lib.hid hB1
  have HS1 := Lib.hid ((HhS0.out.cat hS').pick [1, 0] (by decide))
  have Hhbb := Lib.hid hbb; clear hbb
  clear hS' hB hB1
  go_wp2_with fail
  refine (l20Nfa_any bs' vb b 0 12 w w1 _ HB.out hl' (by omega) (by omega) HS1.out).mono ?_
  rintro e w2 ⟨n, pn, a1, a2, a3, c1, c2, c3, hpn, hs0, hs1, hm, hf, he, rfl, hS2⟩
  have HS := Lib.hid hS2
  clear hS2
  have f0 := HS.out.fr 1 0 rfl
  have k0 := HS.out.cell (v := .int .i64 0) 1 0 rfl rfl
  have f1 := HS.out.fr 1 1 rfl
  have k1 := HS.out.cell (v := .slice none 0 0) 1 1 rfl rfl
  have f2 := HS.out.fr 1 2 rfl
  have k2 := HS.out.cell (v := .slice none 0 0) 1 2 rfl rfl
  have f3 := HS.out.fr 1 3 rfl
  have k3 := HS.out.cell (v := .slice none 0 0) 1 3 rfl rfl
  have HS3 := Lib.hid ((((HS.out.set 1 rfl 0 (.int .i64 n.states)).set 1 rfl 1 (.slice a1 n.moves.length c1)).set 1 rfl 2 (.slice a2 n.firsts.length c2)).set 1 rfl 3 (.slice a3 n.ends.length c3))
  have q0 := HS3.out.cell (v := .int .i64 n.states) 1 0 rfl rfl
  have q1 := HS3.out.cell (v := .slice a1 n.moves.length c1) 1 1 rfl rfl
  have q2 := HS3.out.cell (v := .slice a2 n.firsts.length c2) 1 2 rfl rfl
  have q3 := HS3.out.cell (v := .slice a3 n.ends.length c3) 1 3 rfl rfl
  go_wp2
  refine bodyPost_ret (v := .agg #[.int .i64 n.states, .slice a1 n.moves.length c1, .slice a2 n.firsts.length c2, .slice a3 n.ends.length c3]) (by simp [results, Try.results65, go_sem, q0, q1, q2, q3]) rfl ?_
  exact ⟨n, a1, a2, a3, c1, c2, c3, hs0, hs1, hm, hf, he, rfl, HS3.out.pick [2, 3, 4] (by decide)⟩
set_option maxRecDepth 100000 in
set_option maxHeartbeats 8000000 in
theorem drawTurn_any (bs : List Nat) (v : Value) (w : World) (hb : Bytes 0 w v bs) (hlen : bs.length ≤ 100000000) :
    Calls Try.prog 60 #[v] w fun e w' => ∃ (n : NfaD) (a1 a2 a3 : Option Addr) (c1 c2 c3 : Nat), -1 ≤ n.states ∧ n.states ≤ 41 ∧ n.moves.length ≤ 401 ∧ n.firsts.length ≤ 41 ∧ n.ends.length ≤ 41 ∧
      e = .returned (.agg #[.int .i64 n.states, .slice a1 n.moves.length c1, .slice a2 n.firsts.length c2, .slice a3 n.ends.length c3]) ∧ St w w' [Ent.row 133 3 (.slice a1 n.moves.length c1) n.moves.length (n.moves.flatMap moveCells), Ent.row 3 1 (.slice a2 n.firsts.length c2) n.firsts.length (intCells n.firsts), Ent.row 3 1 (.slice a3 n.ends.length c3) n.ends.length (intCells n.ends)] := by
  have hS0 := (St.start w).alloc _ rfl #[.int .i64 0, .slice none 0 0, .slice none 0 0, .slice none 0 0] 51
  have Hb := Lib.hid hb
  have HhS0 := Lib.hid hS0; clear hS0
  clear hb
  go_enter Try.func60, Try.ntmps60
  go_wp2_with fail
  refine (open2_any bs v _ (Hb.out.below HhS0.out.bel) hlen).mono ?_
  rintro e w1 ⟨vb, bs', hl', hB, rfl, hS'⟩
  obtain ⟨b, hbb⟩ : ∃ b, b = (w.alloc (.cells #[.int .i64 0, .slice none 0 0, .slice none 0 0, .slice none 0 0] 51)).heap.size := ⟨_, rfl⟩
  rw [← hbb] at hS'
  rw [← hbb]
  have hB1 := hB w Hb.out
  have HB := Lib.hid hB1
  have HS1 := Lib.hid ((HhS0.out.cat hS').pick [1, 0] (by decide))
  have Hhbb := Lib.hid hbb; clear hbb
  clear hS' hB hB1
  go_wp2_with fail
  refine (l20Nfa_any bs' vb b 0 12 w w1 _ HB.out hl' (by omega) (by omega) HS1.out).mono ?_
  rintro e w2 ⟨n, pn, a1, a2, a3, c1, c2, c3, hpn, hs0, hs1, hm, hf, he, rfl, hS2⟩
  have HS := Lib.hid hS2
  clear hS2
  have f0 := HS.out.fr 1 0 rfl
  have k0 := HS.out.cell (v := .int .i64 0) 1 0 rfl rfl
  have f1 := HS.out.fr 1 1 rfl
  have k1 := HS.out.cell (v := .slice none 0 0) 1 1 rfl rfl
  have f2 := HS.out.fr 1 2 rfl
  have k2 := HS.out.cell (v := .slice none 0 0) 1 2 rfl rfl
  have f3 := HS.out.fr 1 3 rfl
  have k3 := HS.out.cell (v := .slice none 0 0) 1 3 rfl rfl
  have HS3 := Lib.hid ((((HS.out.set 1 rfl 0 (.int .i64 n.states)).set 1 rfl 1 (.slice a1 n.moves.length c1)).set 1 rfl 2 (.slice a2 n.firsts.length c2)).set 1 rfl 3 (.slice a3 n.ends.length c3))
  have q0 := HS3.out.cell (v := .int .i64 n.states) 1 0 rfl rfl
  have q1 := HS3.out.cell (v := .slice a1 n.moves.length c1) 1 1 rfl rfl
  have q2 := HS3.out.cell (v := .slice a2 n.firsts.length c2) 1 2 rfl rfl
  have q3 := HS3.out.cell (v := .slice a3 n.ends.length c3) 1 3 rfl rfl
  go_wp2
  refine bodyPost_ret (v := .agg #[.int .i64 n.states, .slice a1 n.moves.length c1, .slice a2 n.firsts.length c2, .slice a3 n.ends.length c3]) (by simp [results, Try.results60, go_sem, q0, q1, q2, q3]) rfl ?_
  exact ⟨n, a1, a2, a3, c1, c2, c3, hs0, hs1, hm, hf, he, rfl, HS3.out.pick [2, 3, 4] (by decide)⟩
set_option maxRecDepth 100000 in
set_option maxHeartbeats 8000000 in
theorem drawRun_any (bs : List Nat) (v : Value) (w : World) (hb : Bytes 0 w v bs) (hlen : bs.length ≤ 100000000) :
    Calls Try.prog 68 #[v] w fun e w' => ∃ (n : NfaD) (l : List Nat) (a1 a2 a3 : Option Addr) (c1 c2 c3 : Nat), -1 ≤ n.states ∧ n.states ≤ 41 ∧ n.moves.length ≤ 401 ∧ n.firsts.length ≤ 41 ∧ n.ends.length ≤ 41 ∧ isT l ∧ l.length ≤ 10 ∧
      e = .returned (.tuple #[.agg #[.int .i64 n.states, .slice a1 n.moves.length c1, .slice a2 n.firsts.length c2, .slice a3 n.ends.length c3], .string (txB l)]) ∧ St w w' [Ent.row 133 3 (.slice a1 n.moves.length c1) n.moves.length (n.moves.flatMap moveCells), Ent.row 3 1 (.slice a2 n.firsts.length c2) n.firsts.length (intCells n.firsts), Ent.row 3 1 (.slice a3 n.ends.length c3) n.ends.length (intCells n.ends)] := by
  have hS0 := (St.start w).alloc _ rfl #[.int .i64 0, .slice none 0 0, .slice none 0 0, .slice none 0 0] 51
  have Hb := Lib.hid hb
  have HhS0 := Lib.hid hS0; clear hS0
  clear hb
  go_enter Try.func68, Try.ntmps68
  go_wp2_with fail
  refine (open2_any bs v _ (Hb.out.below HhS0.out.bel) hlen).mono ?_
  rintro e w1 ⟨vb, bs', hl', hB, rfl, hS'⟩
  obtain ⟨b, hbb⟩ : ∃ b, b = (w.alloc (.cells #[.int .i64 0, .slice none 0 0, .slice none 0 0, .slice none 0 0] 51)).heap.size := ⟨_, rfl⟩
  rw [← hbb] at hS'
  rw [← hbb]
  have hB1 := hB w Hb.out
  have HB := Lib.hid hB1
  have HS1 := Lib.hid ((HhS0.out.cat hS').pick [1, 0] (by decide))
  have Hhbb := Lib.hid hbb; clear hbb
  clear hS' hB hB1
  go_wp2_with fail
  refine (l20Nfa_any bs' vb b 0 14 w w1 _ HB.out hl' (by omega) (by omega) HS1.out).mono ?_
  rintro e w2 ⟨n, pn, a1, a2, a3, c1, c2, c3, hpn, hs0, hs1, hm, hf, he, rfl, hS2⟩
  have HS2 := Lib.hid (hS2.alloc _ rfl #[.int .i64 n.states, .slice a1 n.moves.length c1, .slice a2 n.firsts.length c2, .slice a3 n.ends.length c3] 51)
  clear hS2
  go_wp2
  refine wp_region_any (by kernel_rfl) ?_
  refine wpAny_invA (fun A listed a w' => ∃ (l0 l1 l2 l3 l4 : Bool) (l : {l : List Nat // isT l ∧ l.length ≤ 10}) (pz : Nat), listed = #[l0, l1, l2, l3, l4] ∧ (l2 = true → l1 = true) ∧ (l3 = true → l2 = true ∧ l0 = true) ∧ (l4 = true → l2 = true ∧ l3 = true) ∧
      a = ⟨((((A.tmps.setIfInBounds 10 (if l0 = true then .agg #[.int .i64 n.states, .slice a1 n.moves.length c1, .slice a2 n.firsts.length c2, .slice a3 n.ends.length c3] else A.tmps.getD 10 undef)).setIfInBounds 11 (if l1 = true then .pointer (some ⟨b, 0, none⟩) else A.tmps.getD 11 undef)).setIfInBounds 12 (if l2 = true then .string (txB l.1) else A.tmps.getD 12 undef)).setIfInBounds 3 (if l4 = true then .string (txB l.1) else A.tmps.getD 3 undef)), A.defers⟩ ∧
      St w w' [RdE b vb (if l2 = true then pz else pn), Ent.box w.heap.size #[(if l3 = true then .int .i64 n.states else .int .i64 0), (if l3 = true then .slice a1 n.moves.length c1 else .slice none 0 0), (if l3 = true then .slice a2 n.firsts.length c2 else .slice none 0 0), (if l3 = true then .slice a3 n.ends.length c3 else .slice none 0 0)] 51, Ent.row 133 3 (.slice a1 n.moves.length c1) n.moves.length (n.moves.flatMap moveCells), Ent.row 3 1 (.slice a2 n.firsts.length c2) n.firsts.length (intCells n.firsts), Ent.row 3 1 (.slice a3 n.ends.length c3) n.ends.length (intCells n.ends), Ent.box w2.heap.size #[.int .i64 n.states, .slice a1 n.moves.length c1, .slice a2 n.firsts.length c2, .slice a3 n.ends.length c3] 51]) ?_ ?_ ?_
  · rintro listed a w' ⟨l0, l1, l2, l3, l4, l, pz, rfl, hd2, hd3, hd4, rfl, hS⟩ i hi
    obtain ⟨hun, o, ho, hall⟩ := mem_ready.1 hi
    have hlt := (Array.getElem?_eq_some_iff.1 ho).1
    refine wpOp_step ho (fun K hK => ?_)
    clear hi
    have HS := Lib.hid hS
    clear hS
    simp only [List.setIfInBounds_toArray, List.set_cons_zero, List.set_cons_succ, Array.getD_eq_getD_getElem?, List.getElem?_toArray, List.getElem?_cons_zero, List.getElem?_cons_succ, Option.getD_some]
    obtain h | h | h | h | h : i = 0 ∨ i = 1 ∨ i = 2 ∨ i = 3 ∨ i = 4 := by simp at hlt; omega
    all_goals subst h
    all_goals simp only [List.getElem?_toArray, List.getElem?_cons_zero, List.getElem?_cons_succ, Option.some.injEq] at ho
    all_goals subst ho
    all_goals simp [Region.binds] at hun hall
    · subst hun
      obtain rfl : l3 = false := offR hd3 rfl
      obtain rfl : l4 = false := offR hd4 rfl
      have e0 := HS.out.cell (v := .int .i64 n.states) 5 0 rfl rfl
      have e1 := HS.out.cell (v := .slice a1 n.moves.length c1) 5 1 rfl rfl
      have e2 := HS.out.cell (v := .slice a2 n.firsts.length c2) 5 2 rfl rfl
      have e3 := HS.out.cell (v := .slice a3 n.ends.length c3) 5 3 rfl rfl
      go_simp
      exact hK _ _ ⟨true, l1, l2, false, false, l, pz, rfl, hd2, by simp, by simp, (by simp only [↓reduceIte, Bool.false_eq_true, List.setIfInBounds_toArray, List.set_cons_zero, List.set_cons_succ, Array.getD_eq_getD_getElem?, List.getElem?_toArray, List.getElem?_cons_zero, List.getElem?_cons_succ, Option.getD_some]), HS.out⟩
    · subst hun
      obtain rfl : l2 = false := by cases l2 with | false => rfl | true => simpa using hd2 rfl
      obtain rfl : l3 = false := offL hd3 rfl
      obtain rfl : l4 = false := offL hd4 rfl
      go_simp
      exact hK _ _ ⟨l0, true, false, false, false, l, pz, rfl, by simp, by simp, by simp, (by simp only [↓reduceIte, Bool.false_eq_true, List.setIfInBounds_toArray, List.set_cons_zero, List.set_cons_succ, Array.getD_eq_getD_getElem?, List.getElem?_toArray, List.getElem?_cons_zero, List.getElem?_cons_succ, Option.getD_some]), HS.out⟩
    · obtain rfl := hall
      subst hun
      obtain rfl : l3 = false := offL hd3 rfl
      obtain rfl : l4 = false := offL hd4 rfl
      go_simp
      go_at_call 115
      refine (l20Word_any bs' vb b pn 14 w _ _ HB.out hl' (by omega) (by omega) (St.pack (A := [RdE b vb pn]) (R := [Ent.box w.heap.size #[.int .i64 0, .slice none 0 0, .slice none 0 0, .slice none 0 0] 51, Ent.row 133 3 (.slice a1 n.moves.length c1) n.moves.length (n.moves.flatMap moveCells), Ent.row 3 1 (.slice a2 n.firsts.length c2) n.firsts.length (intCells n.firsts), Ent.row 3 1 (.slice a3 n.ends.length c3) n.ends.length (intCells n.ends), Ent.box w2.heap.size #[.int .i64 n.states, .slice a1 n.moves.length c1, .slice a2 n.firsts.length c2, .slice a3 n.ends.length c3] 51]) (HS.out.pick [0, 1, 2, 3, 4, 5] (by decide)))).mono ?_
      rintro e u1 ⟨l9, p9, ht9, hl9, rfl, hSp⟩
      have hS2 := St.unpack (A := [RdE b vb pn]) (A' := [RdE b vb p9]) (R := [Ent.box w.heap.size #[.int .i64 0, .slice none 0 0, .slice none 0 0, .slice none 0 0] 51, Ent.row 133 3 (.slice a1 n.moves.length c1) n.moves.length (n.moves.flatMap moveCells), Ent.row 3 1 (.slice a2 n.firsts.length c2) n.firsts.length (intCells n.firsts), Ent.row 3 1 (.slice a3 n.ends.length c3) n.ends.length (intCells n.ends), Ent.box w2.heap.size #[.int .i64 n.states, .slice a1 n.moves.length c1, .slice a2 n.firsts.length c2, .slice a3 n.ends.length c3] 51]) (HS.out.pick [0, 1, 2, 3, 4, 5] (by decide)) hSp
      have HhS2 := Lib.hid hS2; clear hS2
      go_simp
      exact hK _ _ ⟨l0, true, true, false, false, ⟨l9, ht9, hl9⟩, p9, rfl, by simp, by simp, by simp, (by simp only [↓reduceIte, Bool.false_eq_true, List.setIfInBounds_toArray, List.set_cons_zero, List.set_cons_succ, Array.getD_eq_getD_getElem?, List.getElem?_toArray, List.getElem?_cons_zero, List.getElem?_cons_succ, Option.getD_some]), HhS2.out⟩
    · obtain ⟨rfl, rfl, -⟩ := hall
      subst hun
      obtain ⟨rfl⟩ := hd2 rfl
      obtain rfl : l4 = false := offR hd4 rfl
      have f0 := HS.out.fr 1 0 rfl
      have k0 := HS.out.cell (v := .int .i64 0) 1 0 rfl rfl
      have f1 := HS.out.fr 1 1 rfl
      have k1 := HS.out.cell (v := .slice none 0 0) 1 1 rfl rfl
      have f2 := HS.out.fr 1 2 rfl
      have k2 := HS.out.cell (v := .slice none 0 0) 1 2 rfl rfl
      have f3 := HS.out.fr 1 3 rfl
      have k3 := HS.out.cell (v := .slice none 0 0) 1 3 rfl rfl
      go_simp
      exact hK _ _ ⟨true, true, true, true, false, l, pz, rfl, by simp, by simp, by simp, (by simp only [↓reduceIte, Bool.false_eq_true, List.setIfInBounds_toArray, List.set_cons_zero, List.set_cons_succ, Array.getD_eq_getD_getElem?, List.getElem?_toArray, List.getElem?_cons_zero, List.getElem?_cons_succ, Option.getD_some]), ((((HS.out.set 1 rfl 0 (.int .i64 n.states)).set 1 rfl 1 (.slice a1 n.moves.length c1)).set 1 rfl 2 (.slice a2 n.firsts.length c2)).set 1 rfl 3 (.slice a3 n.ends.length c3))⟩
    · obtain ⟨rfl, rfl, rfl, rfl, -⟩ := hall
      subst hun
      go_simp
      exact hK _ _ ⟨true, true, true, true, true, l, pz, rfl, by simp, by simp, by simp, (by simp only [↓reduceIte, List.setIfInBounds_toArray, List.set_cons_zero, List.set_cons_succ]), HS.out⟩
  · rintro listed a w' ⟨l0, l1, l2, l3, l4, l, pz, rfl, hd2, hd3, hd4, rfl, hS⟩ hr
    have hall := ready_nilM (by kernel_rfl) rfl hr
    obtain rfl : l0 = true := by simpa using hall 0 (by simp)
    obtain rfl : l1 = true := by simpa using hall 1 (by simp)
    obtain rfl : l2 = true := by simpa using hall 2 (by simp)
    obtain rfl : l3 = true := by simpa using hall 3 (by simp)
    obtain rfl : l4 = true := by simpa using hall 4 (by simp)
    clear hall hr hd2 hd3 hd4
    simp only [↓reduceIte] at hS ⊢
    simp only [List.setIfInBounds_toArray, List.set_cons_zero, List.set_cons_succ]
    have HSf := Lib.hid (hS.pick [0, 1, 2, 3, 4, 5] (by decide))
    clear hS
    have q0 := HSf.out.cell (v := .int .i64 n.states) 1 0 rfl rfl
    have q1 := HSf.out.cell (v := .slice a1 n.moves.length c1) 1 1 rfl rfl
    have q2 := HSf.out.cell (v := .slice a2 n.firsts.length c2) 1 2 rfl rfl
    have q3 := HSf.out.cell (v := .slice a3 n.ends.length c3) 1 3 rfl rfl
    go_wp2
    refine bodyPost_ret (v := .tuple #[.agg #[.int .i64 n.states, .slice a1 n.moves.length c1, .slice a2 n.firsts.length c2, .slice a3 n.ends.length c3], .string (txB l.1)]) (by simp [results, Try.results68, go_sem, q0, q1, q2, q3]) rfl ?_
    exact ⟨n, l.1, a1, a2, a3, c1, c2, c3, hs0, hs1, hm, hf, he, l.2.1, l.2.2, rfl, HSf.out.pick [2, 3, 4] (by decide)⟩
  · refine ⟨false, false, false, false, false, ⟨[], by simp [isT]⟩, 0, rfl, by simp, by simp, by simp, (by simp only [↓reduceIte, Bool.false_eq_true, List.setIfInBounds_toArray, List.set_cons_zero, List.set_cons_succ, Array.getD_eq_getD_getElem?, List.getElem?_toArray, List.getElem?_cons_zero, List.getElem?_cons_succ, Option.getD_some]), ?_⟩
    exact HS2.out.drew.pick [0, 1, 2, 3, 4, 5] (by decide)
set_option maxRecDepth 100000 in
set_option maxHeartbeats 8000000 in
theorem drawEither_any (bs : List Nat) (v : Value) (w : World) (hb : Bytes 0 w v bs) (hlen : bs.length ≤ 100000000) :
    Calls Try.prog 52 #[v] w fun e w' => ∃ (n m : NfaD) (a1 a2 a3 : Option Addr) (c1 c2 c3 : Nat) (am1 am2 am3 : Option Addr) (cm1 cm2 cm3 : Nat), -1 ≤ n.states ∧ n.states ≤ 41 ∧ n.moves.length ≤ 401 ∧ n.firsts.length ≤ 41 ∧ n.ends.length ≤ 41 ∧ -1 ≤ m.states ∧ m.states ≤ 41 ∧ m.moves.length ≤ 401 ∧ m.firsts.length ≤ 41 ∧ m.ends.length ≤ 41 ∧
      e = .returned (.tuple #[.agg #[.int .i64 n.states, .slice a1 n.moves.length c1, .slice a2 n.firsts.length c2, .slice a3 n.ends.length c3], .agg #[.int .i64 m.states, .slice am1 m.moves.length cm1, .slice am2 m.firsts.length cm2, .slice am3 m.ends.length cm3]]) ∧ St w w' [Ent.row 133 3 (.slice a1 n.moves.length c1) n.moves.length (n.moves.flatMap moveCells), Ent.row 3 1 (.slice a2 n.firsts.length c2) n.firsts.length (intCells n.firsts), Ent.row 3 1 (.slice a3 n.ends.length c3) n.ends.length (intCells n.ends), Ent.row 133 3 (.slice am1 m.moves.length cm1) m.moves.length (m.moves.flatMap moveCells), Ent.row 3 1 (.slice am2 m.firsts.length cm2) m.firsts.length (intCells m.firsts), Ent.row 3 1 (.slice am3 m.ends.length cm3) m.ends.length (intCells m.ends)] := by
  have hS0 := ((St.start w).alloc _ rfl #[.int .i64 0, .slice none 0 0, .slice none 0 0, .slice none 0 0] 51).alloc (w.heap.size + 1) (by simp) #[.int .i64 0, .slice none 0 0, .slice none 0 0, .slice none 0 0] 51
  have Hb := Lib.hid hb
  have HhS0 := Lib.hid hS0; clear hS0
  clear hb
  go_enter Try.func52, Try.ntmps52
  go_wp2_with fail
  refine (open2_any bs v _ (Hb.out.below HhS0.out.bel) hlen).mono ?_
  rintro e w1 ⟨vb, bs', hl', hB, rfl, hS'⟩
  obtain ⟨b, hbb⟩ : ∃ b, b = ((w.alloc (.cells #[.int .i64 0, .slice none 0 0, .slice none 0 0, .slice none 0 0] 51)).alloc (.cells #[.int .i64 0, .slice none 0 0, .slice none 0 0, .slice none 0 0] 51)).heap.size := ⟨_, rfl⟩
  rw [← hbb] at hS'
  rw [← hbb]
  have hB1 := hB w Hb.out
  have HB := Lib.hid hB1
  have HS1 := Lib.hid ((HhS0.out.cat hS').pick [2, 0, 1] (by decide))
  have Hhbb := Lib.hid hbb; clear hbb
  clear hS' hB hB1
  go_wp2_with fail
  refine (l20Nfa_any bs' vb b 0 14 w w1 _ HB.out hl' (by omega) (by omega) (St.pack (A := [RdE b vb 0]) (R := [Ent.box w.heap.size #[.int .i64 0, .slice none 0 0, .slice none 0 0, .slice none 0 0] 51, Ent.box (w.heap.size + 1) #[.int .i64 0, .slice none 0 0, .slice none 0 0, .slice none 0 0] 51]) HS1.out)).mono ?_
  rintro e w2 ⟨n, pn, a1, a2, a3, c1, c2, c3, hpn, hs0, hs1, hm, hf, he, rfl, hSp⟩
  have hS2 := (St.unpack (A := [RdE b vb 0]) (A' := [RdE b vb pn, Ent.row 133 3 (.slice a1 n.moves.length c1) n.moves.length (n.moves.flatMap moveCells), Ent.row 3 1 (.slice a2 n.firsts.length c2) n.firsts.length (intCells n.firsts), Ent.row 3 1 (.slice a3 n.ends.length c3) n.ends.length (intCells n.ends)]) (R := [Ent.box w.heap.size #[.int .i64 0, .slice none 0 0, .slice none 0 0, .slice none 0 0] 51, Ent.box (w.heap.size + 1) #[.int .i64 0, .slice none 0 0, .slice none 0 0, .slice none 0 0] 51]) HS1.out (hSp.pick [0, 2, 3, 4, 1] (by decide))).pick [0, 4, 5, 1, 2, 3] (by decide)
  have HS2 := Lib.hid (hS2.alloc _ rfl #[.int .i64 n.states, .slice a1 n.moves.length c1, .slice a2 n.firsts.length c2, .slice a3 n.ends.length c3] 51)
  clear hS2 hSp
  go_wp2
  refine wp_region_any (by kernel_rfl) ?_
  refine wpAny_invA (fun A listed a w' => ∃ (l0 l1 l2 l3 l4 : Bool) (m : {n : NfaD // -1 ≤ n.states ∧ n.states ≤ 41 ∧ n.moves.length ≤ 401 ∧ n.firsts.length ≤ 41 ∧ n.ends.length ≤ 41}) (am1 : Option Addr) (am2 : Option Addr) (am3 : Option Addr) (cm1 : Nat) (cm2 : Nat) (cm3 : Nat) (pz : Nat), listed = #[l0, l1, l2, l3, l4] ∧ (l2 = true → l1 = true) ∧ (l3 = true → l2 = true ∧ l0 = true) ∧ (l4 = true → l2 = true ∧ l3 = true) ∧
      a = ⟨(((A.tmps.setIfInBounds 10 (if l0 = true then .agg #[.int .i64 n.states, .slice a1 n.moves.length c1, .slice a2 n.firsts.length c2, .slice a3 n.ends.length c3] else A.tmps.getD 10 undef)).setIfInBounds 11 (if l1 = true then .pointer (some ⟨b, 0, none⟩) else A.tmps.getD 11 undef)).setIfInBounds 12 (if l2 = true then .agg #[.int .i64 m.1.states, .slice am1 m.1.moves.length cm1, .slice am2 m.1.firsts.length cm2, .slice am3 m.1.ends.length cm3] else A.tmps.getD 12 undef)), A.defers⟩ ∧
      St w w' [RdE b vb (if l2 = true then pz else pn), Ent.box w.heap.size #[(if l3 = true then .int .i64 n.states else .int .i64 0), (if l3 = true then .slice a1 n.moves.length c1 else .slice none 0 0), (if l3 = true then .slice a2 n.firsts.length c2 else .slice none 0 0), (if l3 = true then .slice a3 n.ends.length c3 else .slice none 0 0)] 51, Ent.box (w.heap.size + 1) #[(if l4 = true then .int .i64 m.1.states else .int .i64 0), (if l4 = true then .slice am1 m.1.moves.length cm1 else .slice none 0 0), (if l4 = true then .slice am2 m.1.firsts.length cm2 else .slice none 0 0), (if l4 = true then .slice am3 m.1.ends.length cm3 else .slice none 0 0)] 51, Ent.row 133 3 (.slice a1 n.moves.length c1) n.moves.length (n.moves.flatMap moveCells), Ent.row 3 1 (.slice a2 n.firsts.length c2) n.firsts.length (intCells n.firsts), Ent.row 3 1 (.slice a3 n.ends.length c3) n.ends.length (intCells n.ends), Ent.box w2.heap.size #[.int .i64 n.states, .slice a1 n.moves.length c1, .slice a2 n.firsts.length c2, .slice a3 n.ends.length c3] 51, (if l2 = true then Ent.row 133 3 (.slice am1 m.1.moves.length cm1) m.1.moves.length (m.1.moves.flatMap moveCells) else Ent.nil), (if l2 = true then Ent.row 3 1 (.slice am2 m.1.firsts.length cm2) m.1.firsts.length (intCells m.1.firsts) else Ent.nil), (if l2 = true then Ent.row 3 1 (.slice am3 m.1.ends.length cm3) m.1.ends.length (intCells m.1.ends) else Ent.nil)]) ?_ ?_ ?_
  · rintro listed a w' ⟨l0, l1, l2, l3, l4, m, am1, am2, am3, cm1, cm2, cm3, pz, rfl, hd2, hd3, hd4, rfl, hS⟩ i hi
    obtain ⟨hun, o, ho, hall⟩ := mem_ready.1 hi
    have hlt := (Array.getElem?_eq_some_iff.1 ho).1
    refine wpOp_step ho (fun K hK => ?_)
    clear hi
    have HS := Lib.hid hS
    clear hS
    simp only [List.setIfInBounds_toArray, List.set_cons_zero, List.set_cons_succ, Array.getD_eq_getD_getElem?, List.getElem?_toArray, List.getElem?_cons_zero, List.getElem?_cons_succ, Option.getD_some]
    obtain h | h | h | h | h : i = 0 ∨ i = 1 ∨ i = 2 ∨ i = 3 ∨ i = 4 := by simp at hlt; omega
    all_goals subst h
    all_goals simp only [List.getElem?_toArray, List.getElem?_cons_zero, List.getElem?_cons_succ, Option.some.injEq] at ho
    all_goals subst ho
    all_goals simp [Region.binds] at hun hall
    · subst hun
      obtain rfl : l3 = false := offR hd3 rfl
      obtain rfl : l4 = false := offR hd4 rfl
      have e0 := HS.out.cell (v := .int .i64 n.states) 6 0 rfl rfl
      have e1 := HS.out.cell (v := .slice a1 n.moves.length c1) 6 1 rfl rfl
      have e2 := HS.out.cell (v := .slice a2 n.firsts.length c2) 6 2 rfl rfl
      have e3 := HS.out.cell (v := .slice a3 n.ends.length c3) 6 3 rfl rfl
      go_simp
      exact hK _ _ ⟨true, l1, l2, false, false, m, am1, am2, am3, cm1, cm2, cm3, pz, rfl, hd2, by simp, by simp, (by simp only [↓reduceIte, List.setIfInBounds_toArray, List.set_cons_zero, List.set_cons_succ, Array.getD_eq_getD_getElem?, List.getElem?_toArray, List.getElem?_cons_zero, List.getElem?_cons_succ, Option.getD_some]), HS.out⟩
    · subst hun
      obtain rfl : l2 = false := by cases l2 with | false => rfl | true => simpa using hd2 rfl
      obtain rfl : l3 = false := offL hd3 rfl
      obtain rfl : l4 = false := offL hd4 rfl
      go_simp
      exact hK _ _ ⟨l0, true, false, false, false, m, am1, am2, am3, cm1, cm2, cm3, pz, rfl, by simp, by simp, by simp, (by simp only [↓reduceIte, Bool.false_eq_true, List.setIfInBounds_toArray, List.set_cons_zero, List.set_cons_succ, Array.getD_eq_getD_getElem?, List.getElem?_toArray, List.getElem?_cons_zero, List.getElem?_cons_succ, Option.getD_some]), HS.out⟩
    · obtain rfl := hall
      subst hun
      obtain rfl : l3 = false := offL hd3 rfl
      obtain rfl : l4 = false := offL hd4 rfl
      go_simp
      go_at_call 110
      refine (l20Nfa_any bs' vb b pn 14 w _ _ HB.out hl' (by omega) (by omega) (St.pack (A := [RdE b vb pn]) (R := [Ent.box w.heap.size #[.int .i64 0, .slice none 0 0, .slice none 0 0, .slice none 0 0] 51, Ent.box (w.heap.size + 1) #[.int .i64 0, .slice none 0 0, .slice none 0 0, .slice none 0 0] 51, Ent.row 133 3 (.slice a1 n.moves.length c1) n.moves.length (n.moves.flatMap moveCells), Ent.row 3 1 (.slice a2 n.firsts.length c2) n.firsts.length (intCells n.firsts), Ent.row 3 1 (.slice a3 n.ends.length c3) n.ends.length (intCells n.ends), Ent.box w2.heap.size #[.int .i64 n.states, .slice a1 n.moves.length c1, .slice a2 n.firsts.length c2, .slice a3 n.ends.length c3] 51]) (HS.out.pick [0, 1, 2, 3, 4, 5, 6] (by decide)))).mono ?_
      rintro e u1 ⟨m9, p9, x1, x2, x3, d1, d2, d3, hp9, ms0, ms1, mm, mf, me, rfl, hSp⟩
      have hS2 := (St.unpack (A := [RdE b vb pn]) (A' := [RdE b vb p9, Ent.row 133 3 (.slice x1 m9.moves.length d1) m9.moves.length (m9.moves.flatMap moveCells), Ent.row 3 1 (.slice x2 m9.firsts.length d2) m9.firsts.length (intCells m9.firsts), Ent.row 3 1 (.slice x3 m9.ends.length d3) m9.ends.length (intCells m9.ends)]) (R := [Ent.box w.heap.size #[.int .i64 0, .slice none 0 0, .slice none 0 0, .slice none 0 0] 51, Ent.box (w.heap.size + 1) #[.int .i64 0, .slice none 0 0, .slice none 0 0, .slice none 0 0] 51, Ent.row 133 3 (.slice a1 n.moves.length c1) n.moves.length (n.moves.flatMap moveCells), Ent.row 3 1 (.slice a2 n.firsts.length c2) n.firsts.length (intCells n.firsts), Ent.row 3 1 (.slice a3 n.ends.length c3) n.ends.length (intCells n.ends), Ent.box w2.heap.size #[.int .i64 n.states, .slice a1 n.moves.length c1, .slice a2 n.firsts.length c2, .slice a3 n.ends.length c3] 51]) (HS.out.pick [0, 1, 2, 3, 4, 5, 6] (by decide)) (hSp.pick [0, 2, 3, 4, 1] (by decide))).pick [0, 4, 5, 6, 7, 8, 9, 1, 2, 3] (by decide)
      have HhS2 := Lib.hid hS2; clear hS2
      go_simp
      exact hK _ _ ⟨l0, true, true, false, false, ⟨m9, ms0, ms1, mm, mf, me⟩, x1, x2, x3, d1, d2, d3, p9, rfl, by simp, by simp, by simp, (by simp only [↓reduceIte, List.setIfInBounds_toArray, List.set_cons_zero, List.set_cons_succ, Array.getD_eq_getD_getElem?, List.getElem?_toArray, List.getElem?_cons_zero, List.getElem?_cons_succ, Option.getD_some]), HhS2.out⟩
    · obtain ⟨rfl, rfl, -⟩ := hall
      subst hun
      obtain ⟨rfl⟩ := hd2 rfl
      obtain rfl : l4 = false := offR hd4 rfl
      have f0 := HS.out.fr 1 0 rfl
      have k0 := HS.out.cell (v := .int .i64 0) 1 0 rfl rfl
      have f1 := HS.out.fr 1 1 rfl
      have k1 := HS.out.cell (v := .slice none 0 0) 1 1 rfl rfl
      have f2 := HS.out.fr 1 2 rfl
      have k2 := HS.out.cell (v := .slice none 0 0) 1 2 rfl rfl
      have f3 := HS.out.fr 1 3 rfl
      have k3 := HS.out.cell (v := .slice none 0 0) 1 3 rfl rfl
      go_simp
      exact hK _ _ ⟨true, true, true, true, false, m, am1, am2, am3, cm1, cm2, cm3, pz, rfl, by simp, by simp, by simp, (by simp only [↓reduceIte, List.setIfInBounds_toArray, List.set_cons_zero, List.set_cons_succ]), ((((HS.out.set 1 rfl 0 (.int .i64 n.states)).set 1 rfl 1 (.slice a1 n.moves.length c1)).set 1 rfl 2 (.slice a2 n.firsts.length c2)).set 1 rfl 3 (.slice a3 n.ends.length c3))⟩
    · obtain ⟨rfl, rfl, rfl, rfl, -⟩ := hall
      subst hun
      have f0 := HS.out.fr 2 0 rfl
      have k0 := HS.out.cell (v := .int .i64 0) 2 0 rfl rfl
      have f1 := HS.out.fr 2 1 rfl
      have k1 := HS.out.cell (v := .slice none 0 0) 2 1 rfl rfl
      have f2 := HS.out.fr 2 2 rfl
      have k2 := HS.out.cell (v := .slice none 0 0) 2 2 rfl rfl
      have f3 := HS.out.fr 2 3 rfl
      have k3 := HS.out.cell (v := .slice none 0 0) 2 3 rfl rfl
      go_simp
      exact hK _ _ ⟨true, true, true, true, true, m, am1, am2, am3, cm1, cm2, cm3, pz, rfl, by simp, by simp, by simp, (by simp only [↓reduceIte, List.setIfInBounds_toArray, List.set_cons_zero, List.set_cons_succ]), ((((HS.out.set 2 rfl 0 (.int .i64 m.1.states)).set 2 rfl 1 (.slice am1 m.1.moves.length cm1)).set 2 rfl 2 (.slice am2 m.1.firsts.length cm2)).set 2 rfl 3 (.slice am3 m.1.ends.length cm3))⟩
  · rintro listed a w' ⟨l0, l1, l2, l3, l4, m, am1, am2, am3, cm1, cm2, cm3, pz, rfl, hd2, hd3, hd4, rfl, hS⟩ hr
    have hall := ready_nilM (by kernel_rfl) rfl hr
    obtain rfl : l0 = true := by simpa using hall 0 (by simp)
    obtain rfl : l1 = true := by simpa using hall 1 (by simp)
    obtain rfl : l2 = true := by simpa using hall 2 (by simp)
    obtain rfl : l3 = true := by simpa using hall 3 (by simp)
    obtain rfl : l4 = true := by simpa using hall 4 (by simp)
    clear hall hr hd2 hd3 hd4
    simp only [↓reduceIte] at hS ⊢
    simp only [List.setIfInBounds_toArray, List.set_cons_zero, List.set_cons_succ]
    have HSf := Lib.hid (hS.pick [0, 1, 2, 3, 4, 5, 6, 7, 8, 9] (by decide))
    clear hS
    have q0 := HSf.out.cell (v := .int .i64 n.states) 1 0 rfl rfl
    have q1 := HSf.out.cell (v := .slice a1 n.moves.length c1) 1 1 rfl rfl
    have q2 := HSf.out.cell (v := .slice a2 n.firsts.length c2) 1 2 rfl rfl
    have q3 := HSf.out.cell (v := .slice a3 n.ends.length c3) 1 3 rfl rfl
    have r0 := HSf.out.cell (v := .int .i64 m.1.states) 2 0 rfl rfl
    have r1 := HSf.out.cell (v := .slice am1 m.1.moves.length cm1) 2 1 rfl rfl
    have r2 := HSf.out.cell (v := .slice am2 m.1.firsts.length cm2) 2 2 rfl rfl
    have r3 := HSf.out.cell (v := .slice am3 m.1.ends.length cm3) 2 3 rfl rfl
    go_wp2
    refine bodyPost_ret (v := .tuple #[.agg #[.int .i64 n.states, .slice a1 n.moves.length c1, .slice a2 n.firsts.length c2, .slice a3 n.ends.length c3], .agg #[.int .i64 m.1.states, .slice am1 m.1.moves.length cm1, .slice am2 m.1.firsts.length cm2, .slice am3 m.1.ends.length cm3]]) (by simp [results, Try.results52, go_sem, q0, q1, q2, q3, r0, r1, r2, r3]) rfl ?_
    exact ⟨n, m.1, a1, a2, a3, c1, c2, c3, am1, am2, am3, cm1, cm2, cm3, hs0, hs1, hm, hf, he, m.2.1, m.2.2.1, m.2.2.2.1, m.2.2.2.2.1, m.2.2.2.2.2, rfl, HSf.out.pick [3, 4, 5, 7, 8, 9] (by decide)⟩
  · refine ⟨false, false, false, false, false, ⟨⟨0, [], [], []⟩, by simp⟩, none, none, none, 0, 0, 0, 0, rfl, by simp, by simp, by simp, (by simp only [↓reduceIte, Bool.false_eq_true, List.setIfInBounds_toArray, List.set_cons_zero, List.set_cons_succ, Array.getD_eq_getD_getElem?, List.getElem?_toArray, List.getElem?_cons_zero, List.getElem?_cons_succ, Option.getD_some]), ?_⟩
    exact HS2.out.drew.pick [0, 1, 2, 3, 4, 5, 6, 9, 10, 11] (by decide)
end Go.Proofs.Ythigcohfjoodlaa
