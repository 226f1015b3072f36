/-
  The walks over the reference's DrawNfaStar, DrawTurnNfa, DrawNfaRun, DrawNfaEither, DrawNfaJoin: automata with choices are drawn, and a text.
  Condition: the bytes read as such.
-/
import Derived.Test.YtjcegbcmomfgaaaDk
import Derived.Test.YtjcegbcmomfgaaaWr
namespace Go.Proofs.Ytjcegbcmomfgaaa
open Go.RowKit

set_option maxRecDepth 100000 in
set_option maxHeartbeats 8000000 in
theorem drawRun_any (bs : List Nat) (v : Value) (w : World) (hb : Bytes 0 w v bs) (hlen : bs.length ≤ 100000000) :
    Calls Try.prog 23 #[v] w fun e w' => ∃ (n : NfaD) (l : List Nat) (a1 a2 a3 : Option Addr) (c1 c2 c3 : Nat), -1 ≤ n.states ∧ n.states ≤ 41 ∧ n.moves.length ≤ 401 ∧ n.firsts.length ≤ 41 ∧ n.ends.length ≤ 41 ∧ isT l ∧ l.length ≤ 10 ∧
      e = .returned (.tuple #[.agg #[.int .i64 n.states, .slice a1 n.moves.length c1, .slice a2 n.firsts.length c2, .slice a3 n.ends.length c3], .string (txB l)]) ∧ St w w' [Ent.row 76 3 (.slice a1 n.moves.length c1) n.moves.length (n.moves.flatMap moveCells), Ent.row 3 1 (.slice a2 n.firsts.length c2) n.firsts.length (intCells n.firsts), Ent.row 3 1 (.slice a3 n.ends.length c3) n.ends.length (intCells n.ends)] := by
  have hS0 := (St.start w).alloc _ rfl #[.int .i64 0, .slice none 0 0, .slice none 0 0, .slice none 0 0] 26
  have Hb := Lib.hid hb
  have HhS0 := Lib.hid hS0; clear hS0
  clear hb
  go_enter Try.func23, Try.ntmps23
  go_wp2_with fail
  refine (open2_any bs v _ (Hb.out.below HhS0.out.bel) hlen).mono ?_
  rintro e w1 ⟨vb, bs', hl', hB, rfl, hS'⟩
  obtain ⟨b, hbb⟩ : ∃ b, b = (w.alloc (.cells #[.int .i64 0, .slice none 0 0, .slice none 0 0, .slice none 0 0] 26)).heap.size := ⟨_, rfl⟩
  rw [← hbb] at hS'
  rw [← hbb]
  have hB1 := hB w Hb.out
  have HB := Lib.hid hB1
  have HS1 := Lib.hid ((HhS0.out.cat hS').pick [1, 0] (by decide))
  have Hhbb := Lib.hid hbb; clear hbb
  clear hS' hB hB1
  go_wp2_with fail
  refine (l20Nfa_any bs' vb b 0 14 w w1 _ HB.out hl' (by omega) (by omega) HS1.out).mono ?_
  rintro e w2 ⟨n, pn, a1, a2, a3, c1, c2, c3, hpn, hs0, hs1, hm, hf, he, rfl, hS2⟩
  have HS2 := Lib.hid (hS2.alloc _ rfl #[.int .i64 n.states, .slice a1 n.moves.length c1, .slice a2 n.firsts.length c2, .slice a3 n.ends.length c3] 26)
  clear hS2
  go_wp2
  refine wp_region_any (by kernel_rfl) ?_
  refine wpAny_invA (fun A listed a w' => ∃ (l0 l1 l2 l3 l4 : Bool) (l : {l : List Nat // isT l ∧ l.length ≤ 10}) (pz : Nat), listed = #[l0, l1, l2, l3, l4] ∧ (l2 = true → l1 = true) ∧ (l3 = true → l2 = true ∧ l0 = true) ∧ (l4 = true → l2 = true ∧ l3 = true) ∧
      a = ⟨((((A.tmps.setIfInBounds 10 (if l0 = true then .agg #[.int .i64 n.states, .slice a1 n.moves.length c1, .slice a2 n.firsts.length c2, .slice a3 n.ends.length c3] else A.tmps.getD 10 undef)).setIfInBounds 11 (if l1 = true then .pointer (some ⟨b, 0, none⟩) else A.tmps.getD 11 undef)).setIfInBounds 12 (if l2 = true then .string (txB l.1) else A.tmps.getD 12 undef)).setIfInBounds 3 (if l4 = true then .string (txB l.1) else A.tmps.getD 3 undef)), A.defers⟩ ∧
      St w w' [RdE b vb (if l2 = true then pz else pn), Ent.box w.heap.size #[(if l3 = true then .int .i64 n.states else .int .i64 0), (if l3 = true then .slice a1 n.moves.length c1 else .slice none 0 0), (if l3 = true then .slice a2 n.firsts.length c2 else .slice none 0 0), (if l3 = true then .slice a3 n.ends.length c3 else .slice none 0 0)] 26, Ent.row 76 3 (.slice a1 n.moves.length c1) n.moves.length (n.moves.flatMap moveCells), Ent.row 3 1 (.slice a2 n.firsts.length c2) n.firsts.length (intCells n.firsts), Ent.row 3 1 (.slice a3 n.ends.length c3) n.ends.length (intCells n.ends), Ent.box w2.heap.size #[.int .i64 n.states, .slice a1 n.moves.length c1, .slice a2 n.firsts.length c2, .slice a3 n.ends.length c3] 26]) ?_ ?_ ?_
  · rintro listed a w' ⟨l0, l1, l2, l3, l4, l, pz, rfl, hd2, hd3, hd4, rfl, hS⟩ i hi
    obtain ⟨hun, o, ho, hall⟩ := mem_ready.1 hi
    have hlt := (Array.getElem?_eq_some_iff.1 ho).1
    refine wpOp_step ho (fun K hK => ?_)
    clear hi
    have HS := Lib.hid hS
    clear hS
    simp only [List.setIfInBounds_toArray, List.set_cons_zero, List.set_cons_succ, Array.getD_eq_getD_getElem?, List.getElem?_toArray, List.getElem?_cons_zero, List.getElem?_cons_succ, Option.getD_some]
    obtain h | h | h | h | h : i = 0 ∨ i = 1 ∨ i = 2 ∨ i = 3 ∨ i = 4 := by simp at hlt; omega
    all_goals subst h
    all_goals simp only [List.getElem?_toArray, List.getElem?_cons_zero, List.getElem?_cons_succ, Option.some.injEq] at ho
    all_goals subst ho
    all_goals simp [Region.binds] at hun hall
    · subst hun
      obtain rfl : l3 = false := offR hd3 rfl
      obtain rfl : l4 = false := offR hd4 rfl
      have e0 := HS.out.cell (v := .int .i64 n.states) 5 0 rfl rfl
      have e1 := HS.out.cell (v := .slice a1 n.moves.length c1) 5 1 rfl rfl
      have e2 := HS.out.cell (v := .slice a2 n.firsts.length c2) 5 2 rfl rfl
      have e3 := HS.out.cell (v := .slice a3 n.ends.length c3) 5 3 rfl rfl
      go_simp
      exact hK _ _ ⟨true, l1, l2, false, false, l, pz, rfl, hd2, by simp, by simp, (by simp only [↓reduceIte, Bool.false_eq_true, List.setIfInBounds_toArray, List.set_cons_zero, List.set_cons_succ, Array.getD_eq_getD_getElem?, List.getElem?_toArray, List.getElem?_cons_zero, List.getElem?_cons_succ, Option.getD_some]), HS.out⟩
    · subst hun
      obtain rfl : l2 = false := by cases l2 with | false => rfl | true => simpa using hd2 rfl
      obtain rfl : l3 = false := offL hd3 rfl
      obtain rfl : l4 = false := offL hd4 rfl
      go_simp
      exact hK _ _ ⟨l0, true, false, false, false, l, pz, rfl, by simp, by simp, by simp, (by simp only [↓reduceIte, Bool.false_eq_true, List.setIfInBounds_toArray, List.set_cons_zero, List.set_cons_succ, Array.getD_eq_getD_getElem?, List.getElem?_toArray, List.getElem?_cons_zero, List.getElem?_cons_succ, Option.getD_some]), HS.out⟩
    · obtain rfl := hall
      subst hun
      obtain rfl : l3 = false := offL hd3 rfl
      obtain rfl : l4 = false := offL hd4 rfl
      go_simp
      go_at_call 42
      refine (l20Word_any bs' vb b pn 14 w _ _ HB.out hl' (by omega) (by omega) (St.pack (A := [RdE b vb pn]) (R := [Ent.box w.heap.size #[.int .i64 0, .slice none 0 0, .slice none 0 0, .slice none 0 0] 26, Ent.row 76 3 (.slice a1 n.moves.length c1) n.moves.length (n.moves.flatMap moveCells), Ent.row 3 1 (.slice a2 n.firsts.length c2) n.firsts.length (intCells n.firsts), Ent.row 3 1 (.slice a3 n.ends.length c3) n.ends.length (intCells n.ends), Ent.box w2.heap.size #[.int .i64 n.states, .slice a1 n.moves.length c1, .slice a2 n.firsts.length c2, .slice a3 n.ends.length c3] 26]) (HS.out.pick [0, 1, 2, 3, 4, 5] (by decide)))).mono ?_
      rintro e u1 ⟨l9, p9, ht9, hl9, rfl, hSp⟩
      have hS2 := St.unpack (A := [RdE b vb pn]) (A' := [RdE b vb p9]) (R := [Ent.box w.heap.size #[.int .i64 0, .slice none 0 0, .slice none 0 0, .slice none 0 0] 26, Ent.row 76 3 (.slice a1 n.moves.length c1) n.moves.length (n.moves.flatMap moveCells), Ent.row 3 1 (.slice a2 n.firsts.length c2) n.firsts.length (intCells n.firsts), Ent.row 3 1 (.slice a3 n.ends.length c3) n.ends.length (intCells n.ends), Ent.box w2.heap.size #[.int .i64 n.states, .slice a1 n.moves.length c1, .slice a2 n.firsts.length c2, .slice a3 n.ends.length c3] 26]) (HS.out.pick [0, 1, 2, 3, 4, 5] (by decide)) hSp
      have HhS2 := Lib.hid hS2; clear hS2
      go_simp
      exact hK _ _ ⟨l0, true, true, false, false, ⟨l9, ht9, hl9⟩, p9, rfl, by simp, by simp, by simp, (by simp only [↓reduceIte, Bool.false_eq_true, List.setIfInBounds_toArray, List.set_cons_zero, List.set_cons_succ, Array.getD_eq_getD_getElem?, List.getElem?_toArray, List.getElem?_cons_zero, List.getElem?_cons_succ, Option.getD_some]), HhS2.out⟩
    · obtain ⟨rfl, rfl, -⟩ := hall
      subst hun
      obtain ⟨rfl⟩ := hd2 rfl
      obtain rfl : l4 = false := offR hd4 rfl
      have f0 := HS.out.fr 1 0 rfl
      have k0 := HS.out.cell (v := .int .i64 0) 1 0 rfl rfl
      have f1 := HS.out.fr 1 1 rfl
      have k1 := HS.out.cell (v := .slice none 0 0) 1 1 rfl rfl
      have f2 := HS.out.fr 1 2 rfl
      have k2 := HS.out.cell (v := .slice none 0 0) 1 2 rfl rfl
      have f3 := HS.out.fr 1 3 rfl
      have k3 := HS.out.cell (v := .slice none 0 0) 1 3 rfl rfl
      go_simp
      exact hK _ _ ⟨true, true, true, true, false, l, pz, rfl, by simp, by simp, by simp, (by simp only [↓reduceIte, Bool.false_eq_true, List.setIfInBounds_toArray, List.set_cons_zero, List.set_cons_succ, Array.getD_eq_getD_getElem?, List.getElem?_toArray, List.getElem?_cons_zero, List.getElem?_cons_succ, Option.getD_some]), ((((HS.out.set 1 rfl 0 (.int .i64 n.states)).set 1 rfl 1 (.slice a1 n.moves.length c1)).set 1 rfl 2 (.slice a2 n.firsts.length c2)).set 1 rfl 3 (.slice a3 n.ends.length c3))⟩
    · obtain ⟨rfl, rfl, rfl, rfl, -⟩ := hall
      subst hun
      go_simp
      exact hK _ _ ⟨true, true, true, true, true, l, pz, rfl, by simp, by simp, by simp, (by simp only [↓reduceIte, List.setIfInBounds_toArray, List.set_cons_zero, List.set_cons_succ]), HS.out⟩
  · rintro listed a w' ⟨l0, l1, l2, l3, l4, l, pz, rfl, hd2, hd3, hd4, rfl, hS⟩ hr
    have hall := ready_nilM (by kernel_rfl) rfl hr
    obtain rfl : l0 = true := by simpa using hall 0 (by simp)
    obtain rfl : l1 = true := by simpa using hall 1 (by simp)
    obtain rfl : l2 = true := by simpa using hall 2 (by simp)
    obtain rfl : l3 = true := by simpa using hall 3 (by simp)
    obtain rfl : l4 = true := by simpa using hall 4 (by simp)
    clear hall hr hd2 hd3 hd4
    simp only [↓reduceIte] at hS ⊢
    simp only [List.setIfInBounds_toArray, List.set_cons_zero, List.set_cons_succ]
    have HSf := Lib.hid (hS.pick [0, 1, 2, 3, 4, 5] (by decide))
    clear hS
    have q0 := HSf.out.cell (v := .int .i64 n.states) 1 0 rfl rfl
    have q1 := HSf.out.cell (v := .slice a1 n.moves.length c1) 1 1 rfl rfl
    have q2 := HSf.out.cell (v := .slice a2 n.firsts.length c2) 1 2 rfl rfl
    have q3 := HSf.out.cell (v := .slice a3 n.ends.length c3) 1 3 rfl rfl
    go_wp2
    refine bodyPost_ret (v := .tuple #[.agg #[.int .i64 n.states, .slice a1 n.moves.length c1, .slice a2 n.firsts.length c2, .slice a3 n.ends.length c3], .string (txB l.1)]) (by simp [results, Try.results23, go_sem, q0, q1, q2, q3]) rfl ?_
    exact ⟨n, l.1, a1, a2, a3, c1, c2, c3, hs0, hs1, hm, hf, he, l.2.1, l.2.2, rfl, HSf.out.pick [2, 3, 4] (by decide)⟩
  · refine ⟨false, false, false, false, false, ⟨[], by simp [isT]⟩, 0, rfl, by simp, by simp, by simp, (by simp only [↓reduceIte, Bool.false_eq_true, List.setIfInBounds_toArray, List.set_cons_zero, List.set_cons_succ, Array.getD_eq_getD_getElem?, List.getElem?_toArray, List.getElem?_cons_zero, List.getElem?_cons_succ, Option.getD_some]), ?_⟩
    exact HS2.out.drew.pick [0, 1, 2, 3, 4, 5] (by decide)
end Go.Proofs.Ytjcegbcmomfgaaa
