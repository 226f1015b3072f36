/-
  The walk over the reference's l20Nfa: an automaton with choices is drawn; it is not large.
  Conditions: the reader is among the things that the call owns.
-/
import Derived.Test.YtjcegbcmomfgaaaBn
namespace Go.Proofs.Ytjcegbcmomfgaaa
open Go.RowKit

set_option maxRecDepth 100000 in
set_option maxHeartbeats 16000000 in
theorem l20Nfa_any (bs : List Nat) (vb : Value) (b p nn : Nat) (w0 w : World) (X : Ent) (hb : Bytes 0 w0 vb bs) (hlen : bs.length ≤ 2000) (hp : p ≤ 1000) (hnn : nn ≤ 10000) (hS : St w0 w [RdE b vb p, X]) :
    Calls Try.prog 34 #[.pointer (some ⟨b, 0, none⟩), .int .i64 ((nn : Nat) : Int)] w fun e w' => ∃ (n : NfaD) (p' : Nat) (a1 a2 a3 : Option Addr) (c1 c2 c3 : Nat), p' ≤ p + 1000 ∧ -1 ≤ n.states ∧ n.states ≤ 41 ∧ n.moves.length ≤ 401 ∧ n.firsts.length ≤ 41 ∧ n.ends.length ≤ 41 ∧
      e = .returned (.agg #[.int .i64 n.states, .slice a1 n.moves.length c1, .slice a2 n.firsts.length c2, .slice a3 n.ends.length c3]) ∧
      St w0 w' [RdE b vb p', X, Ent.row 76 3 (.slice a1 n.moves.length c1) n.moves.length (n.moves.flatMap moveCells), Ent.row 3 1 (.slice a2 n.firsts.length c2) n.firsts.length (intCells n.firsts), Ent.row 3 1 (.slice a3 n.ends.length c3) n.ends.length (intCells n.ends)] := by
  have Hb := Lib.hid hb
  have HS1 := Lib.hid (hS.alloc w.heap.size rfl #[.int .i64 0, .slice none 0 0, .slice none 0 0, .slice none 0 0] 26)
  obtain ⟨i0, hi, hz0, hz1, hz2⟩ := info_parts Try.infoMv
  obtain ⟨j0, hj, hy0, hy1, hy2⟩ := info_parts Try.infoInt
  have Hhi := Lib.hid hi; clear hi
  have Hhz0 := Lib.hid hz0; clear hz0
  have Hhz1 := Lib.hid hz1; clear hz1
  have Hhz2 := Lib.hid hz2; clear hz2
  have Hhj := Lib.hid hj; clear hj
  have Hhy0 := Lib.hid hy0; clear hy0
  have Hhy1 := Lib.hid hy1; clear hy1
  have Hhy2 := Lib.hid hy2; clear hy2
  clear hb hS
  go_enter Try.func34, Try.ntmps34
  go_wp2_with fail
  refine (pick_any bs vb b (p) 6 w0 _ _ Hb.out hlen (by omega) (by omega) (by omega) (St.pack (A := [RdE b vb (p)]) (R := [X, Ent.box w.heap.size #[.int .i64 0, .slice none 0 0, .slice none 0 0, .slice none 0 0] 26]) HS1.out)).mono ?_
  rintro e w1 ⟨k0, hk0, rfl, hSp⟩
  have HS2 := Lib.hid (St.unpack (A := [RdE b vb (p)]) (A' := [RdE b vb (p + 1)]) (R := [X, Ent.box w.heap.size #[.int .i64 0, .slice none 0 0, .slice none 0 0, .slice none 0 0] 26]) HS1.out hSp)
  clear hSp
  obtain ⟨S, hSS⟩ : ∃ S, S = k0 + 1 := ⟨_, rfl⟩
  have hSI : (1 : Int) + (k0 : Int) = (S : Int) := by omega
  have hS6 : S ≤ 6 := by omega
  have hS1 : 1 ≤ S := by omega
  obtain ⟨bx, hbx⟩ : ∃ bx, bx = w1.heap.size := ⟨_, rfl⟩
  have hS3 := (((HS2.out.alloc w1.heap.size rfl #[.int .i64 ((S : Nat) : Int), .slice none 0 0, .slice none 0 0, .slice none 0 0] 26).nilRow 76 3).nilRow 3 1).nilRow 3 1
  rw [← hbx] at hS3
  have HS3 := Lib.hid hS3
  have HhSS := Lib.hid hSS; clear hSS
  clear hS3
  go_wp2_with fail
  rw [← hbx]
  have Hhbx := Lib.hid hbx; clear hbx
  refine (pick_any bs vb b (p + 1) 14 w0 _ _ Hb.out hlen (by omega) (by omega) (by omega) (St.pack (A := [RdE b vb (p + 1)]) (R := [X, Ent.box w.heap.size #[.int .i64 0, .slice none 0 0, .slice none 0 0, .slice none 0 0] 26, Ent.box bx #[.int .i64 ((S : Nat) : Int), .slice none 0 0, .slice none 0 0, .slice none 0 0] 26, Ent.row 76 3 (.slice none 0 0) 0 [], Ent.row 3 1 (.slice none 0 0) 0 [], Ent.row 3 1 (.slice none 0 0) 0 []]) HS3.out)).mono ?_
  rintro e w2 ⟨kk, hkk, rfl, hSp⟩
  have HS4 := Lib.hid (St.unpack (A := [RdE b vb (p + 1)]) (A' := [RdE b vb (p + 1 + 1)]) (R := [X, Ent.box w.heap.size #[.int .i64 0, .slice none 0 0, .slice none 0 0, .slice none 0 0] 26, Ent.box bx #[.int .i64 ((S : Nat) : Int), .slice none 0 0, .slice none 0 0, .slice none 0 0] 26, Ent.row 76 3 (.slice none 0 0) 0 [], Ent.row 3 1 (.slice none 0 0) 0 [], Ent.row 3 1 (.slice none 0 0) 0 []]) HS3.out hSp)
  clear hSp
  go_wp2
  go_loopw [6] (fun vi wr => ∃ (k pq nl : Nat) (a1 : Option Addr) (c1 : Nat) (NN : List (Int × Int × Int)), vi = .int .i64 k ∧ k ≤ 13 ∧ nl + k ≤ 13 ∧ pq + 3 * k ≤ p + 41 ∧ NN.length = nl ∧ St w0 wr [RdE b vb pq, X, Ent.box w.heap.size #[.int .i64 0, .slice none 0 0, .slice none 0 0, .slice none 0 0] 26, Ent.box bx #[.int .i64 ((S : Nat) : Int), .slice a1 nl c1, .slice none 0 0, .slice none 0 0] 26, Ent.row 76 3 (.slice a1 nl c1) nl (NN.flatMap moveCells), Ent.row 3 1 (.slice none 0 0) 0 [], Ent.row 3 1 (.slice none 0 0) 0 []]) (fun vi _ => (intOf vi).toNat)
  case atStart => exact ⟨kk, p + 1 + 1, 0, none, 0, [], rfl, by omega, by omega, by omega, rfl, HS4.out⟩
  case round =>
    obtain ⟨k', pq, nl, a1, c1, NN, rfl, hk, hnl, hpq, hNl, hS⟩ := hrel
    by_cases hk0 : 0 < k'
    · have hkI : (0 : Int) < (k' : Int) := by omega
      have HSq := Lib.hid hS
      have HNl := Lib.hid hNl
      clear hS hNl
      go_wp2
      refine wp_region_any (by kernel_rfl) ?_
      refine wpAny_invA (fun A listed a w' => ∃ (l0 l1 l2 l3 l4 l5 l6 l7 l8 l9 l10 l11 l12 l13 l14 l15 l16 l17 : Bool) (g7 : Nat) (c7 : Nat) (bn : Nat) (k1 : Nat) (k2 : Nat) (k3 : Nat), listed = #[l0, l1, l2, l3, l4, l5, l6, l7, l8, l9, l10, l11, l12, l13, l14, l15, l16, l17] ∧ (l7 = true → l5 = true ∧ l6 = true) ∧ (l8 = true → l7 = true ∧ l5 = true) ∧ (l12 = true → l7 = true ∧ l11 = true) ∧ (l13 = true → l5 = true ∧ l8 = true ∧ l12 = true) ∧ (l14 = true → l13 = true ∧ l12 = true) ∧ (l15 = true → l1 = true ∧ l14 = true) ∧ (l17 = true → l15 = true ∧ l1 = true) ∧
          a = ⟨(((((((((((((((((A.tmps.setIfInBounds 20 (if l0 = true then .pointer (some ⟨bx, 1, none⟩) else A.tmps.getD 20 undef)).setIfInBounds 21 (if l1 = true then .slice a1 nl c1 else A.tmps.getD 21 undef)).setIfInBounds 22 (if l2 = true then .pointer (some ⟨b, 0, none⟩) else A.tmps.getD 22 undef)).setIfInBounds 23 (if l3 = true then .pointer (some ⟨bx, 0, none⟩) else A.tmps.getD 23 undef)).setIfInBounds 24 (if l4 = true then .int .i64 ((S : Nat) : Int) else A.tmps.getD 24 undef)).setIfInBounds 25 (if l5 = true then .int .i64 ((k1 : Nat) : Int) else A.tmps.getD 25 undef)).setIfInBounds 26 (if l6 = true then .pointer (some ⟨b, 0, none⟩) else A.tmps.getD 26 undef)).setIfInBounds 27 (if l7 = true then .int .i64 ((k2 : Nat) : Int) else A.tmps.getD 27 undef)).setIfInBounds 28 (if l8 = true then .int .i64 (IntKind.i64.wrap ((k2 : Int) - 1)) else A.tmps.getD 28 undef)).setIfInBounds 29 (if l9 = true then .pointer (some ⟨b, 0, none⟩) else A.tmps.getD 29 undef)).setIfInBounds 30 (if l10 = true then .pointer (some ⟨bx, 0, none⟩) else A.tmps.getD 30 undef)).setIfInBounds 31 (if l11 = true then .int .i64 ((S : Nat) : Int) else A.tmps.getD 31 undef)).setIfInBounds 32 (if l12 = true then .int .i64 ((k3 : Nat) : Int) else A.tmps.getD 32 undef)).setIfInBounds 33 (if l13 = true then .agg #[.int .i64 ((k1 : Nat) : Int), .int .i64 (IntKind.i64.wrap ((k2 : Int) - 1)), .int .i64 ((k3 : Nat) : Int)] else A.tmps.getD 33 undef)).setIfInBounds 34 (if l14 = true then .slice (some ⟨bn, 0, none⟩) 1 1 else A.tmps.getD 34 undef)).setIfInBounds 35 (if l15 = true then .slice (some ⟨g7, 0, none⟩) (nl + 1) c7 else A.tmps.getD 35 undef)).setIfInBounds 36 (if l16 = true then .pointer (some ⟨bx, 1, none⟩) else A.tmps.getD 36 undef)), A.defers⟩ ∧
          St w0 w' [RdE b vb (if l12 = true then pq + 1 + 1 + 1 else if l7 = true then pq + 1 + 1 else if l5 = true then pq + 1 else pq), X, Ent.box w.heap.size #[.int .i64 0, .slice none 0 0, .slice none 0 0, .slice none 0 0] 26, Ent.box bx #[.int .i64 ((S : Nat) : Int), (if l17 = true then .slice (some ⟨g7, 0, none⟩) (nl + 1) c7 else .slice a1 nl c1), .slice none 0 0, .slice none 0 0] 26, (if l15 = true then Ent.row 76 3 (.slice (some ⟨g7, 0, none⟩) (nl + 1) c7) (nl + 1) ((NN.flatMap moveCells) ++ [.int .i64 ((k1 : Nat) : Int), .int .i64 (IntKind.i64.wrap ((k2 : Int) - 1)), .int .i64 ((k3 : Nat) : Int)]) else Ent.row 76 3 (.slice a1 nl c1) nl (NN.flatMap moveCells)), Ent.row 3 1 (.slice none 0 0) 0 [], Ent.row 3 1 (.slice none 0 0) 0 [], (if l14 = true then Ent.box bn #[.int .i64 ((k1 : Nat) : Int), .int .i64 (IntKind.i64.wrap ((k2 : Int) - 1)), .int .i64 ((k3 : Nat) : Int)] 76 else Ent.nil)]) ?_ ?_ ?_
      · rintro listed a w' ⟨l0, l1, l2, l3, l4, l5, l6, l7, l8, l9, l10, l11, l12, l13, l14, l15, l16, l17, g7, c7, bn, k1, k2, k3, rfl, hd7, hd8, hd12, hd13, hd14, hd15, hd17, rfl, hS⟩ i hi
        obtain ⟨hun, o, ho, hall⟩ := mem_ready.1 hi
        have hlt := (Array.getElem?_eq_some_iff.1 ho).1
        refine wpOp_step ho (fun K hK => ?_)
        clear hi
        have HS := Lib.hid hS
        clear hS
        simp only [List.setIfInBounds_toArray, List.set_cons_zero, List.set_cons_succ, Array.getD_eq_getD_getElem?, List.getElem?_toArray, List.getElem?_cons_zero, List.getElem?_cons_succ, Option.getD_some]
        obtain h | h | h | h | h | h | h | h | h | h | h | h | h | h | h | h | h | h : i = 0 ∨ i = 1 ∨ i = 2 ∨ i = 3 ∨ i = 4 ∨ i = 5 ∨ i = 6 ∨ i = 7 ∨ i = 8 ∨ i = 9 ∨ i = 10 ∨ i = 11 ∨ i = 12 ∨ i = 13 ∨ i = 14 ∨ i = 15 ∨ i = 16 ∨ i = 17 := by simp at hlt; omega
        all_goals subst h
        all_goals simp only [List.getElem?_toArray, List.getElem?_cons_zero, List.getElem?_cons_succ, Option.some.injEq] at ho
        all_goals subst ho
        all_goals simp [Region.binds] at hun hall
        · subst hun
          go_simp
          exact hK _ _ ⟨true, l1, l2, l3, l4, l5, l6, l7, l8, l9, l10, l11, l12, l13, l14, l15, l16, l17, g7, c7, bn, k1, k2, k3, rfl, hd7, hd8, hd12, hd13, hd14, hd15, hd17, (by simp only [↓reduceIte, List.setIfInBounds_toArray, List.set_cons_zero, List.set_cons_succ, Array.getD_eq_getD_getElem?, List.getElem?_toArray, List.getElem?_cons_zero, List.getElem?_cons_succ, Option.getD_some]), HS.out⟩
        · obtain rfl := hall
          subst hun
          obtain rfl : l15 = false := offL hd15 rfl
          obtain rfl : l17 = false := offL hd17 rfl
          have e0 := HS.out.cell (v := .slice a1 nl c1) 3 1 rfl rfl
          go_simp
          exact hK _ _ ⟨true, true, l2, l3, l4, l5, l6, l7, l8, l9, l10, l11, l12, l13, l14, false, l16, false, g7, c7, bn, k1, k2, k3, rfl, hd7, hd8, hd12, hd13, hd14, by simp, by simp, (by simp only [↓reduceIte, Bool.false_eq_true, List.setIfInBounds_toArray, List.set_cons_zero, List.set_cons_succ, Array.getD_eq_getD_getElem?, List.getElem?_toArray, List.getElem?_cons_zero, List.getElem?_cons_succ, Option.getD_some]), HS.out⟩
        · subst hun
          go_simp
          exact hK _ _ ⟨l0, l1, true, l3, l4, l5, l6, l7, l8, l9, l10, l11, l12, l13, l14, l15, l16, l17, g7, c7, bn, k1, k2, k3, rfl, hd7, hd8, hd12, hd13, hd14, hd15, hd17, (by simp only [↓reduceIte, List.setIfInBounds_toArray, List.set_cons_zero, List.set_cons_succ, Array.getD_eq_getD_getElem?, List.getElem?_toArray, List.getElem?_cons_zero, List.getElem?_cons_succ, Option.getD_some]), HS.out⟩
        · subst hun
          go_simp
          exact hK _ _ ⟨l0, l1, l2, true, l4, l5, l6, l7, l8, l9, l10, l11, l12, l13, l14, l15, l16, l17, g7, c7, bn, k1, k2, k3, rfl, hd7, hd8, hd12, hd13, hd14, hd15, hd17, (by simp only [↓reduceIte, List.setIfInBounds_toArray, List.set_cons_zero, List.set_cons_succ, Array.getD_eq_getD_getElem?, List.getElem?_toArray, List.getElem?_cons_zero, List.getElem?_cons_succ, Option.getD_some]), HS.out⟩
        · obtain rfl := hall
          subst hun
          have e0 := HS.out.cell (v := .int .i64 ((S : Nat) : Int)) 3 0 rfl rfl
          go_simp
          exact hK _ _ ⟨l0, l1, l2, true, true, l5, l6, l7, l8, l9, l10, l11, l12, l13, l14, l15, l16, l17, g7, c7, bn, k1, k2, k3, rfl, hd7, hd8, hd12, hd13, hd14, hd15, hd17, (by simp only [↓reduceIte, List.setIfInBounds_toArray, List.set_cons_zero, List.set_cons_succ, Array.getD_eq_getD_getElem?, List.getElem?_toArray, List.getElem?_cons_zero, List.getElem?_cons_succ, Option.getD_some]), HS.out⟩
        · obtain ⟨rfl, rfl⟩ := hall
          subst hun
          obtain rfl : l7 = false := offL hd7 rfl
          obtain rfl : l8 = false := offL hd8 rfl
          obtain rfl : l12 = false := offL hd12 rfl
          obtain rfl : l13 = false := by cases l13 with | false => rfl | true => simpa using hd13 rfl
          obtain rfl : l14 = false := offL hd14 rfl
          obtain rfl : l15 = false := offR hd15 rfl
          obtain rfl : l17 = false := offL hd17 rfl
          go_simp
          go_at_call 62
          refine (pick_any bs vb b (pq) S w0 _ _ Hb.out hlen (by omega) (by omega) (by omega) (St.pack (A := [RdE b vb (pq)]) (R := [X, Ent.box w.heap.size #[.int .i64 0, .slice none 0 0, .slice none 0 0, .slice none 0 0] 26, Ent.box bx #[.int .i64 ((S : Nat) : Int), .slice a1 nl c1, .slice none 0 0, .slice none 0 0] 26, Ent.row 76 3 (.slice a1 nl c1) nl (NN.flatMap moveCells), Ent.row 3 1 (.slice none 0 0) 0 [], Ent.row 3 1 (.slice none 0 0) 0 [], Ent.nil]) HS.out)).mono ?_
          rintro e u1 ⟨k9, hk9, rfl, hSp⟩
          have hS2 := St.unpack (A := [RdE b vb (pq)]) (A' := [RdE b vb (pq + 1)]) (R := [X, Ent.box w.heap.size #[.int .i64 0, .slice none 0 0, .slice none 0 0, .slice none 0 0] 26, Ent.box bx #[.int .i64 ((S : Nat) : Int), .slice a1 nl c1, .slice none 0 0, .slice none 0 0] 26, Ent.row 76 3 (.slice a1 nl c1) nl (NN.flatMap moveCells), Ent.row 3 1 (.slice none 0 0) 0 [], Ent.row 3 1 (.slice none 0 0) 0 [], Ent.nil]) HS.out hSp
          have HhS2 := Lib.hid hS2; clear hS2
          go_simp
          exact hK _ _ ⟨l0, l1, true, l3, true, true, l6, false, false, l9, l10, l11, false, false, false, false, l16, false, g7, c7, bn, k9, k2, k3, rfl, by simp, by simp, by simp, by simp, by simp, by simp, by simp, (by simp only [↓reduceIte, Bool.false_eq_true, List.setIfInBounds_toArray, List.set_cons_zero, List.set_cons_succ, Array.getD_eq_getD_getElem?, List.getElem?_toArray, List.getElem?_cons_zero, List.getElem?_cons_succ, Option.getD_some]), HhS2.out⟩
        · subst hun
          obtain rfl : l7 = false := offR hd7 rfl
          obtain rfl : l8 = false := offL hd8 rfl
          obtain rfl : l12 = false := offL hd12 rfl
          obtain rfl : l13 = false := by cases l13 with | false => rfl | true => simpa using hd13 rfl
          obtain rfl : l14 = false := offL hd14 rfl
          obtain rfl : l15 = false := offR hd15 rfl
          obtain rfl : l17 = false := offL hd17 rfl
          go_simp
          exact hK _ _ ⟨l0, l1, l2, l3, l4, l5, true, false, false, l9, l10, l11, false, false, false, false, l16, false, g7, c7, bn, k1, k2, k3, rfl, by simp, by simp, by simp, by simp, by simp, by simp, by simp, (by simp only [↓reduceIte, Bool.false_eq_true, List.setIfInBounds_toArray, List.set_cons_zero, List.set_cons_succ, Array.getD_eq_getD_getElem?, List.getElem?_toArray, List.getElem?_cons_zero, List.getElem?_cons_succ, Option.getD_some]), HS.out⟩
        · obtain ⟨rfl, rfl⟩ := hall
          subst hun
          obtain rfl : l8 = false := offL hd8 rfl
          obtain rfl : l12 = false := offL hd12 rfl
          obtain rfl : l13 = false := by cases l13 with | false => rfl | true => simpa using hd13 rfl
          obtain rfl : l14 = false := offL hd14 rfl
          obtain rfl : l15 = false := offR hd15 rfl
          obtain rfl : l17 = false := offL hd17 rfl
          go_simp
          go_at_call 62
          refine (pick_any bs vb b (pq + 1) 4 w0 _ _ Hb.out hlen (by omega) (by omega) (by omega) (St.pack (A := [RdE b vb (pq + 1)]) (R := [X, Ent.box w.heap.size #[.int .i64 0, .slice none 0 0, .slice none 0 0, .slice none 0 0] 26, Ent.box bx #[.int .i64 ((S : Nat) : Int), .slice a1 nl c1, .slice none 0 0, .slice none 0 0] 26, Ent.row 76 3 (.slice a1 nl c1) nl (NN.flatMap moveCells), Ent.row 3 1 (.slice none 0 0) 0 [], Ent.row 3 1 (.slice none 0 0) 0 [], Ent.nil]) HS.out)).mono ?_
          rintro e u1 ⟨k9, hk9, rfl, hSp⟩
          have hS2 := St.unpack (A := [RdE b vb (pq + 1)]) (A' := [RdE b vb (pq + 1 + 1)]) (R := [X, Ent.box w.heap.size #[.int .i64 0, .slice none 0 0, .slice none 0 0, .slice none 0 0] 26, Ent.box bx #[.int .i64 ((S : Nat) : Int), .slice a1 nl c1, .slice none 0 0, .slice none 0 0] 26, Ent.row 76 3 (.slice a1 nl c1) nl (NN.flatMap moveCells), Ent.row 3 1 (.slice none 0 0) 0 [], Ent.row 3 1 (.slice none 0 0) 0 [], Ent.nil]) HS.out hSp
          have HhS2 := Lib.hid hS2; clear hS2
          go_simp
          exact hK _ _ ⟨l0, l1, l2, l3, l4, true, true, true, false, l9, l10, l11, false, false, false, false, l16, false, g7, c7, bn, k1, k9, k3, rfl, by simp, by simp, by simp, by simp, by simp, by simp, by simp, (by simp only [↓reduceIte, Bool.false_eq_true, List.setIfInBounds_toArray, List.set_cons_zero, List.set_cons_succ, Array.getD_eq_getD_getElem?, List.getElem?_toArray, List.getElem?_cons_zero, List.getElem?_cons_succ, Option.getD_some]), HhS2.out⟩
        · obtain rfl := hall
          subst hun
          obtain ⟨rfl, rfl⟩ := hd7 rfl
          obtain rfl : l13 = false := by cases l13 with | false => rfl | true => simpa using hd13 rfl
          obtain rfl : l14 = false := offL hd14 rfl
          obtain rfl : l15 = false := offR hd15 rfl
          obtain rfl : l17 = false := offL hd17 rfl
          go_simp
          exact hK _ _ ⟨l0, l1, l2, l3, l4, true, true, true, true, l9, l10, l11, l12, false, false, false, l16, false, g7, c7, bn, k1, k2, k3, rfl, by simp, by simp, hd12, by simp, by simp, by simp, by simp, (by simp only [↓reduceIte, Bool.false_eq_true, List.setIfInBounds_toArray, List.set_cons_zero, List.set_cons_succ, Array.getD_eq_getD_getElem?, List.getElem?_toArray, List.getElem?_cons_zero, List.getElem?_cons_succ, Option.getD_some]), HS.out⟩
        · subst hun
          go_simp
          exact hK _ _ ⟨l0, l1, l2, l3, l4, l5, l6, l7, l8, true, l10, l11, l12, l13, l14, l15, l16, l17, g7, c7, bn, k1, k2, k3, rfl, hd7, hd8, hd12, hd13, hd14, hd15, hd17, (by simp only [↓reduceIte, List.setIfInBounds_toArray, List.set_cons_zero, List.set_cons_succ, Array.getD_eq_getD_getElem?, List.getElem?_toArray, List.getElem?_cons_zero, List.getElem?_cons_succ, Option.getD_some]), HS.out⟩
        · subst hun
          go_simp
          exact hK _ _ ⟨l0, l1, l2, l3, l4, l5, l6, l7, l8, l9, true, l11, l12, l13, l14, l15, l16, l17, g7, c7, bn, k1, k2, k3, rfl, hd7, hd8, hd12, hd13, hd14, hd15, hd17, (by simp only [↓reduceIte, List.setIfInBounds_toArray, List.set_cons_zero, List.set_cons_succ, Array.getD_eq_getD_getElem?, List.getElem?_toArray, List.getElem?_cons_zero, List.getElem?_cons_succ, Option.getD_some]), HS.out⟩
        · obtain rfl := hall
          subst hun
          obtain rfl : l12 = false := offR hd12 rfl
          obtain rfl : l13 = false := by cases l13 with | false => rfl | true => simpa using hd13 rfl
          obtain rfl : l14 = false := offL hd14 rfl
          obtain rfl : l15 = false := offR hd15 rfl
          obtain rfl : l17 = false := offL hd17 rfl
          have e0 := HS.out.cell (v := .int .i64 ((S : Nat) : Int)) 3 0 rfl rfl
          go_simp
          exact hK _ _ ⟨l0, l1, l2, l3, l4, l5, l6, l7, l8, l9, true, true, false, false, false, false, l16, false, g7, c7, bn, k1, k2, k3, rfl, hd7, hd8, by simp, by simp, by simp, by simp, by simp, (by simp only [↓reduceIte, Bool.false_eq_true, List.setIfInBounds_toArray, List.set_cons_zero, List.set_cons_succ, Array.getD_eq_getD_getElem?, List.getElem?_toArray, List.getElem?_cons_zero, List.getElem?_cons_succ, Option.getD_some]), HS.out⟩
        · obtain ⟨rfl, rfl, rfl⟩ := hall
          subst hun
          obtain ⟨rfl, rfl⟩ := hd7 rfl
          obtain rfl : l13 = false := by cases l13 with | false => rfl | true => simpa using hd13 rfl
          obtain rfl : l14 = false := offL hd14 rfl
          obtain rfl : l15 = false := offR hd15 rfl
          obtain rfl : l17 = false := offL hd17 rfl
          go_simp
          go_at_call 62
          refine (pick_any bs vb b (pq + 1 + 1) S w0 _ _ Hb.out hlen (by omega) (by omega) (by omega) (St.pack (A := [RdE b vb (pq + 1 + 1)]) (R := [X, Ent.box w.heap.size #[.int .i64 0, .slice none 0 0, .slice none 0 0, .slice none 0 0] 26, Ent.box bx #[.int .i64 ((S : Nat) : Int), .slice a1 nl c1, .slice none 0 0, .slice none 0 0] 26, Ent.row 76 3 (.slice a1 nl c1) nl (NN.flatMap moveCells), Ent.row 3 1 (.slice none 0 0) 0 [], Ent.row 3 1 (.slice none 0 0) 0 [], Ent.nil]) HS.out)).mono ?_
          rintro e u1 ⟨k9, hk9, rfl, hSp⟩
          have hS2 := St.unpack (A := [RdE b vb (pq + 1 + 1)]) (A' := [RdE b vb (pq + 1 + 1 + 1)]) (R := [X, Ent.box w.heap.size #[.int .i64 0, .slice none 0 0, .slice none 0 0, .slice none 0 0] 26, Ent.box bx #[.int .i64 ((S : Nat) : Int), .slice a1 nl c1, .slice none 0 0, .slice none 0 0] 26, Ent.row 76 3 (.slice a1 nl c1) nl (NN.flatMap moveCells), Ent.row 3 1 (.slice none 0 0) 0 [], Ent.row 3 1 (.slice none 0 0) 0 [], Ent.nil]) HS.out hSp
          have HhS2 := Lib.hid hS2; clear hS2
          go_simp
          exact hK _ _ ⟨l0, l1, l2, l3, l4, true, true, true, l8, true, l10, true, true, false, false, false, l16, false, g7, c7, bn, k1, k2, k9, rfl, by simp, hd8, by simp, by simp, by simp, by simp, by simp, (by simp only [↓reduceIte, Bool.false_eq_true, List.setIfInBounds_toArray, List.set_cons_zero, List.set_cons_succ, Array.getD_eq_getD_getElem?, List.getElem?_toArray, List.getElem?_cons_zero, List.getElem?_cons_succ, Option.getD_some]), HhS2.out⟩
        · obtain ⟨rfl, rfl, rfl⟩ := hall
          subst hun
          obtain ⟨rfl, -⟩ := hd8 rfl
          obtain ⟨-, rfl⟩ := hd12 rfl
          obtain ⟨-, rfl⟩ := hd7 rfl
          obtain rfl : l14 = false := offL hd14 rfl
          obtain rfl : l15 = false := offR hd15 rfl
          obtain rfl : l17 = false := offL hd17 rfl
          go_simp
          exact hK _ _ ⟨l0, l1, l2, l3, l4, true, true, true, true, l9, l10, true, true, true, false, false, l16, false, g7, c7, bn, k1, k2, k3, rfl, by simp, by simp, by simp, by simp, by simp, by simp, by simp, (by simp only [↓reduceIte, Bool.false_eq_true, List.setIfInBounds_toArray, List.set_cons_zero, List.set_cons_succ, Array.getD_eq_getD_getElem?, List.getElem?_toArray, List.getElem?_cons_zero, List.getElem?_cons_succ, Option.getD_some]), HS.out⟩
        · obtain rfl := hall
          subst hun
          obtain ⟨rfl, rfl, rfl⟩ := hd13 rfl
          obtain ⟨rfl, -⟩ := hd8 rfl
          obtain ⟨-, rfl⟩ := hd12 rfl
          obtain ⟨-, rfl⟩ := hd7 rfl
          obtain rfl : l15 = false := offR hd15 rfl
          obtain rfl : l17 = false := offL hd17 rfl
          have hS2 := (HS.out.alloc _ rfl #[.int .i64 ((k1 : Nat) : Int), .int .i64 (IntKind.i64.wrap ((k2 : Int) - 1)), .int .i64 ((k3 : Nat) : Int)] 76).pick [0, 1, 2, 3, 4, 5, 6, 8] (by decide)
          have HhS2 := Lib.hid hS2; clear hS2
          go_simp
          exact hK _ _ ⟨l0, l1, l2, l3, l4, true, true, true, true, l9, l10, true, true, true, true, false, l16, false, g7, c7, _, k1, k2, k3, rfl, by simp, by simp, by simp, by simp, by simp, by simp, by simp, (by simp only [↓reduceIte, Bool.false_eq_true, List.setIfInBounds_toArray, List.set_cons_zero, List.set_cons_succ, Array.getD_eq_getD_getElem?, List.getElem?_toArray, List.getElem?_cons_zero, List.getElem?_cons_succ, Option.getD_some]), HhS2.out⟩
        · obtain ⟨rfl, rfl, rfl⟩ := hall
          subst hun
          obtain ⟨rfl, rfl⟩ := hd12 rfl
          obtain ⟨rfl, -⟩ := hd14 rfl
          obtain ⟨rfl, rfl⟩ := hd7 rfl
          obtain ⟨-, rfl, -⟩ := hd13 rfl
          obtain rfl : l17 = false := offL hd17 rfl
          refine step_append_lies (a := ⟨_, _⟩) _ (by rfl) _ _ _ (by rfl) w0.heap.size 76 i0 (.agg #[.int .i64 0, .int .i64 0, .int .i64 0]) 3 24 Try.underlying23 Hhi.out Hhz0.out Hhz1.out Hhz2.out (by rfl) (by omega) (.slice a1 nl c1) nl (NN.flatMap moveCells) (by rfl) (HS.out.row 4 rfl) ⟨bn, 0, none⟩ 1 1 [.int .i64 ((k1 : Nat) : Int), .int .i64 (IntKind.i64.wrap ((k2 : Int) - 1)), .int .i64 ((k3 : Nat) : Int)] (by rfl) (by rfl) (World.news_of_block (HS.out.box 7 rfl)) one_mv (by omega) (by unfold maxLen; omega) (by omega) HS.out.size _ rfl ?_
          intro g8 c8 w8 hown8 hgrow8 hat8 hlt8
          have HS8 := Lib.hid (HS.out.app 4 rfl hown8 hgrow8 hat8)
          clear hown8 hgrow8 hat8
          go_simp
          exact hK _ _ ⟨l0, true, l2, l3, l4, true, true, true, true, l9, l10, true, true, true, true, true, l16, false, g8, c8, bn, k1, k2, k3, rfl, by simp, by simp, by simp, by simp, by simp, by simp, by simp, (by simp only [↓reduceIte, List.setIfInBounds_toArray, List.set_cons_zero, List.set_cons_succ, Array.getD_eq_getD_getElem?, List.getElem?_toArray, List.getElem?_cons_zero, List.getElem?_cons_succ, Option.getD_some]), HS8.out⟩
        · obtain ⟨rfl, rfl, rfl, rfl, rfl, rfl, rfl, rfl, rfl, rfl, rfl, rfl, rfl, rfl, rfl, rfl⟩ := hall
          subst hun
          go_simp
          exact hK _ _ ⟨true, true, true, true, true, true, true, true, true, true, true, true, true, true, true, true, true, l17, g7, c7, bn, k1, k2, k3, rfl, by simp, by simp, by simp, by simp, by simp, by simp, hd17, (by simp only [↓reduceIte, List.setIfInBounds_toArray, List.set_cons_zero, List.set_cons_succ]), HS.out⟩
        · obtain ⟨rfl, rfl, rfl, rfl, rfl, rfl, rfl, rfl, rfl, rfl, rfl, rfl, rfl, rfl, rfl, rfl, rfl, -⟩ := hall
          subst hun
          have f0 := HS.out.fr 3 1 rfl
          have k0 := HS.out.cell (v := .slice a1 nl c1) 3 1 rfl rfl
          go_simp
          exact hK _ _ ⟨true, true, true, true, true, true, true, true, true, true, true, true, true, true, true, true, true, true, g7, c7, bn, k1, k2, k3, rfl, by simp, by simp, by simp, by simp, by simp, by simp, by simp, (by simp only [↓reduceIte, List.setIfInBounds_toArray, List.set_cons_zero, List.set_cons_succ]), (HS.out.set 3 rfl 1 (.slice (some ⟨g7, 0, none⟩) (nl + 1) c7))⟩
      · rintro listed a w' ⟨l0, l1, l2, l3, l4, l5, l6, l7, l8, l9, l10, l11, l12, l13, l14, l15, l16, l17, g7, c7, bn, k1, k2, k3, rfl, hd7, hd8, hd12, hd13, hd14, hd15, hd17, rfl, hS⟩ hr
        have hall := ready_nil (by kernel_rfl) rfl hr
        obtain rfl : l0 = true := by simpa using hall 0 (by simp)
        obtain rfl : l1 = true := by simpa using hall 1 (by simp)
        obtain rfl : l2 = true := by simpa using hall 2 (by simp)
        obtain rfl : l3 = true := by simpa using hall 3 (by simp)
        obtain rfl : l4 = true := by simpa using hall 4 (by simp)
        obtain rfl : l5 = true := by simpa using hall 5 (by simp)
        obtain rfl : l6 = true := by simpa using hall 6 (by simp)
        obtain rfl : l7 = true := by simpa using hall 7 (by simp)
        obtain rfl : l8 = true := by simpa using hall 8 (by simp)
        obtain rfl : l9 = true := by simpa using hall 9 (by simp)
        obtain rfl : l10 = true := by simpa using hall 10 (by simp)
        obtain rfl : l11 = true := by simpa using hall 11 (by simp)
        obtain rfl : l12 = true := by simpa using hall 12 (by simp)
        obtain rfl : l13 = true := by simpa using hall 13 (by simp)
        obtain rfl : l14 = true := by simpa using hall 14 (by simp)
        obtain rfl : l15 = true := by simpa using hall 15 (by simp)
        obtain rfl : l16 = true := by simpa using hall 16 (by simp)
        obtain rfl : l17 = true := by simpa using hall 17 (by simp)
        clear hall hr hd7 hd8 hd12 hd13 hd14 hd15 hd17
        simp only [↓reduceIte] at hS ⊢
        simp only [List.setIfInBounds_toArray, List.set_cons_zero, List.set_cons_succ]
        have HS9 := Lib.hid (hS.pick [0, 1, 2, 3, 4, 5, 6] (by decide))
        clear hS
        go_wp2
        go_roundw
        case rel =>
          refine ⟨k' - 1, pq + 1 + 1 + 1, nl + 1, some ⟨g7, 0, none⟩, c7, NN ++ [(((k1 : Nat) : Int), IntKind.i64.wrap ((k2 : Int) - 1), ((k3 : Nat) : Int))], by congr 1; omega, by omega, by omega, by omega, by rw [List.length_append, HNl.out]; rfl, ?_⟩
          rw [List.flatMap_append]
          exact HS9.out
        case measure => simp [intOf]; omega
      · refine ⟨false, false, false, false, false, false, false, false, false, false, false, false, false, false, false, false, false, false, 0, 0, 0, 0, 0, 0, rfl, by simp, by simp, by simp, by simp, by simp, by simp, by simp, (by simp only [↓reduceIte, Bool.false_eq_true, List.setIfInBounds_toArray, List.set_cons_zero, List.set_cons_succ, Array.getD_eq_getD_getElem?, List.getElem?_toArray, List.getElem?_cons_zero, List.getElem?_cons_succ, Option.getD_some]), ?_⟩
        exact HSq.out.drew.pick [0, 1, 2, 3, 4, 5, 6, 7] (by decide)
    · obtain rfl : k' = 0 := by omega
      rw [show (((0 : Nat) : Int)) = (0 : Int) from rfl]
      have HS5 := Lib.hid hS
      have HNl := Lib.hid hNl
      clear hS hNl
      go_wp2
      go_loopw [7] (fun vi wr => ∃ (k pq nf ne : Nat) (a2 : Option Addr) (c2 : Nat) (a3 : Option Addr) (c3 : Nat) (FF EE : List Int), vi = .int .i64 k ∧ k ≤ S ∧ nf ≤ k ∧ ne ≤ k ∧ pq ≤ p + 41 + 2 * k ∧ FF.length = nf ∧ EE.length = ne ∧ St w0 wr [RdE b vb pq, X, Ent.box w.heap.size #[.int .i64 0, .slice none 0 0, .slice none 0 0, .slice none 0 0] 26, Ent.box bx #[.int .i64 ((S : Nat) : Int), .slice a1 nl c1, .slice a2 nf c2, .slice a3 ne c3] 26, Ent.row 76 3 (.slice a1 nl c1) nl (NN.flatMap moveCells), Ent.row 3 1 (.slice a2 nf c2) nf (intCells FF), Ent.row 3 1 (.slice a3 ne c3) ne (intCells EE)]) (fun vi _ => S - (intOf vi).toNat)
      case atStart => exact ⟨0, pq, 0, 0, none, 0, none, 0, [], [], rfl, Nat.zero_le _, Nat.le_refl _, Nat.le_refl _, by omega, rfl, rfl, HS5.out⟩
      case round =>
        obtain ⟨k, pq, nf, ne, a2, c2, a3, c3, FF, EE, rfl, hkS, hnf, hne, hpq2, hFl, hEl, hS⟩ := hrel
        have c0 := hS.cell (v := .int .i64 ((S : Nat) : Int)) 3 0 rfl rfl
        by_cases hkl : k < S
        · have hkI : (k : Int) < S := by omega
          have HSl := Lib.hid hS
          have HFl := Lib.hid hFl
          have HEl := Lib.hid hEl
          clear hS hFl hEl
          by_cases hk0' : (k : Int) = 0
          · obtain ⟨v1, v2, v3⟩ := yes_eqI hk0'
            clear hk0'
            have hSa := HSl.out.alloc_ (.cells #[.int .i64 (k : Int)] 3)
            have HRa := Lib.hid (hSa.row 5 rfl)
            have HSa := Lib.hid hSa
            have e5 := HSl.out.cell (v := .slice a2 nf c2) 3 2 rfl rfl
            clear hSa
            go_wp2_with (at_builtin; refine wpList_append_lies _ rfl _ _ _ rfl _ 3 j0 (.int .i64 0) 1 8 Try.underlying24 Hhj.out Hhy0.out Hhy1.out Hhy2.out rfl (by omega) _ nf _ rfl HRa.out ⟨wr.heap.size, 0, none⟩ 1 1 [.int .i64 (k : Int)] rfl rfl (World.news_of_block (heap_alloc_new wr _)) one_int (by omega) (by unfold maxLen; omega) (by omega) HSa.out.size _ rfl ?_; intro gf cf wf hown6 hgrowf hat6 hlt6; have HS6 := Lib.hid (HSa.out.app 5 rfl hown6 hgrowf hat6); have y1 := HS6.out.cell (v := .slice a2 nf c2) 3 2 rfl rfl; have y2 := HS6.out.fr 3 2 rfl; clear hown6 hgrowf hat6 hlt6)
            have HSh := Lib.hid (HS6.out.set 3 rfl 2 (.slice (some ⟨gf, 0, none⟩) (nf + 1) cf))
            clear y1 y2 e5 HS6 HSa HRa
            go_wp2_with fail
            refine (pick_any bs vb b (pq) 3 w0 _ _ Hb.out hlen (by omega) (by omega) (by omega) (St.pack (A := [RdE b vb (pq)]) (R := [X, Ent.box w.heap.size #[.int .i64 0, .slice none 0 0, .slice none 0 0, .slice none 0 0] 26, Ent.box bx #[.int .i64 ((S : Nat) : Int), .slice a1 nl c1, .slice (some ⟨gf, 0, none⟩) (nf + 1) cf, .slice a3 ne c3] 26, Ent.row 76 3 (.slice a1 nl c1) nl (NN.flatMap moveCells), Ent.row 3 1 (.slice (some ⟨gf, 0, none⟩) (nf + 1) cf) (nf + 1) (intCells FF ++ [.int .i64 (k : Int)]), Ent.row 3 1 (.slice a3 ne c3) ne (intCells EE)]) HSh.out)).mono ?_
            rintro e we ⟨k3, hk3, rfl, hSp⟩
            have HSe := Lib.hid (St.unpack (A := [RdE b vb (pq)]) (A' := [RdE b vb (pq + 1)]) (R := [X, Ent.box w.heap.size #[.int .i64 0, .slice none 0 0, .slice none 0 0, .slice none 0 0] 26, Ent.box bx #[.int .i64 ((S : Nat) : Int), .slice a1 nl c1, .slice (some ⟨gf, 0, none⟩) (nf + 1) cf, .slice a3 ne c3] 26, Ent.row 76 3 (.slice a1 nl c1) nl (NN.flatMap moveCells), Ent.row 3 1 (.slice (some ⟨gf, 0, none⟩) (nf + 1) cf) (nf + 1) (intCells FF ++ [.int .i64 (k : Int)]), Ent.row 3 1 (.slice a3 ne c3) ne (intCells EE)]) HSh.out hSp)
            clear hSp
            by_cases hk3' : (k3 : Int) = 0
            · obtain ⟨x1, x2, x3⟩ := yes_eqI hk3'
              clear hk3'
              have hSa := HSe.out.alloc_ (.cells #[.int .i64 (k : Int)] 3)
              have HRa := Lib.hid (hSa.row 6 rfl)
              have HSa := Lib.hid hSa
              have e5 := HSe.out.cell (v := .slice a3 ne c3) 3 3 rfl rfl
              clear hSa
              go_wp2_with (at_builtin; refine wpList_append_lies _ rfl _ _ _ rfl _ 3 j0 (.int .i64 0) 1 8 Try.underlying24 Hhj.out Hhy0.out Hhy1.out Hhy2.out rfl (by omega) _ ne _ rfl HRa.out ⟨we.heap.size, 0, none⟩ 1 1 [.int .i64 (k : Int)] rfl rfl (World.news_of_block (heap_alloc_new we _)) one_int (by omega) (by unfold maxLen; omega) (by omega) HSa.out.size _ rfl ?_; intro g6 c6 w6 hown6 hgrow6 hat6 hlt6; have HS6 := Lib.hid (HSa.out.app 6 rfl hown6 hgrow6 hat6); have y1 := HS6.out.cell (v := .slice a3 ne c3) 3 3 rfl rfl; have y2 := HS6.out.fr 3 3 rfl; clear hown6 hgrow6 hat6 hlt6)
              have HSg := Lib.hid (HS6.out.set 3 rfl 3 (.slice (some ⟨g6, 0, none⟩) (ne + 1) c6))
              clear y1 y2 e5 HS6 HSa HRa
              go_roundw
              case rel => exact ⟨k + 1, pq + 1, (nf + 1), ne + 1, (some ⟨gf, 0, none⟩), cf, some ⟨g6, 0, none⟩, c6, (FF ++ [(k : Int)]), EE ++ [(k : Int)], by go_num, by omega, by omega, by omega, by omega, (by rw [List.length_append, HFl.out]; rfl), by rw [List.length_append, HEl.out]; rfl, by rw [intCells_snoc, intCells_snoc]; exact HSg.out⟩
              case measure => simp [intOf]; omega
            · obtain ⟨x1, x2, x3, -⟩ := not_eqI hk3'
              clear hk3'
              go_wp2
              go_roundw
              case rel => exact ⟨k + 1, pq + 1, (nf + 1), ne, (some ⟨gf, 0, none⟩), cf, a3, c3, (FF ++ [(k : Int)]), EE, by go_num, by omega, by omega, by omega, by omega, (by rw [List.length_append, HFl.out]; rfl), HEl.out, by rw [intCells_snoc]; exact HSe.out⟩
              case measure => simp [intOf]; omega
          · obtain ⟨v1, v2, v3, -⟩ := not_eqI hk0'
            clear hk0'
            go_wp2_with fail
            refine (pick_any bs vb b (pq) 5 w0 _ _ Hb.out hlen (by omega) (by omega) (by omega) (St.pack (A := [RdE b vb (pq)]) (R := [X, Ent.box w.heap.size #[.int .i64 0, .slice none 0 0, .slice none 0 0, .slice none 0 0] 26, Ent.box bx #[.int .i64 ((S : Nat) : Int), .slice a1 nl c1, .slice a2 nf c2, .slice a3 ne c3] 26, Ent.row 76 3 (.slice a1 nl c1) nl (NN.flatMap moveCells), Ent.row 3 1 (.slice a2 nf c2) nf (intCells FF), Ent.row 3 1 (.slice a3 ne c3) ne (intCells EE)]) HSl.out)).mono ?_
            rintro e wm ⟨k5, hk5, rfl, hSp⟩
            have HSm := Lib.hid (St.unpack (A := [RdE b vb (pq)]) (A' := [RdE b vb (pq + 1)]) (R := [X, Ent.box w.heap.size #[.int .i64 0, .slice none 0 0, .slice none 0 0, .slice none 0 0] 26, Ent.box bx #[.int .i64 ((S : Nat) : Int), .slice a1 nl c1, .slice a2 nf c2, .slice a3 ne c3] 26, Ent.row 76 3 (.slice a1 nl c1) nl (NN.flatMap moveCells), Ent.row 3 1 (.slice a2 nf c2) nf (intCells FF), Ent.row 3 1 (.slice a3 ne c3) ne (intCells EE)]) HSl.out hSp)
            clear hSp
            by_cases hk5' : (k5 : Int) = 0
            · obtain ⟨u1, u2, u3⟩ := yes_eqI hk5'
              clear hk5'
              have hSa := HSm.out.alloc_ (.cells #[.int .i64 (k : Int)] 3)
              have HRa := Lib.hid (hSa.row 5 rfl)
              have HSa := Lib.hid hSa
              have e5 := HSm.out.cell (v := .slice a2 nf c2) 3 2 rfl rfl
              clear hSa
              go_wp2_with (at_builtin; refine wpList_append_lies _ rfl _ _ _ rfl _ 3 j0 (.int .i64 0) 1 8 Try.underlying24 Hhj.out Hhy0.out Hhy1.out Hhy2.out rfl (by omega) _ nf _ rfl HRa.out ⟨wm.heap.size, 0, none⟩ 1 1 [.int .i64 (k : Int)] rfl rfl (World.news_of_block (heap_alloc_new wm _)) one_int (by omega) (by unfold maxLen; omega) (by omega) HSa.out.size _ rfl ?_; intro gf cf wf hown6 hgrowf hat6 hlt6; have HS6 := Lib.hid (HSa.out.app 5 rfl hown6 hgrowf hat6); have y1 := HS6.out.cell (v := .slice a2 nf c2) 3 2 rfl rfl; have y2 := HS6.out.fr 3 2 rfl; clear hown6 hgrowf hat6 hlt6)
              have HSh := Lib.hid (HS6.out.set 3 rfl 2 (.slice (some ⟨gf, 0, none⟩) (nf + 1) cf))
              clear y1 y2 e5 HS6 HSa HRa
              go_wp2_with fail
              refine (pick_any bs vb b (pq + 1) 3 w0 _ _ Hb.out hlen (by omega) (by omega) (by omega) (St.pack (A := [RdE b vb (pq + 1)]) (R := [X, Ent.box w.heap.size #[.int .i64 0, .slice none 0 0, .slice none 0 0, .slice none 0 0] 26, Ent.box bx #[.int .i64 ((S : Nat) : Int), .slice a1 nl c1, .slice (some ⟨gf, 0, none⟩) (nf + 1) cf, .slice a3 ne c3] 26, Ent.row 76 3 (.slice a1 nl c1) nl (NN.flatMap moveCells), Ent.row 3 1 (.slice (some ⟨gf, 0, none⟩) (nf + 1) cf) (nf + 1) (intCells FF ++ [.int .i64 (k : Int)]), Ent.row 3 1 (.slice a3 ne c3) ne (intCells EE)]) HSh.out)).mono ?_
              rintro e we ⟨k3, hk3, rfl, hSp⟩
              have HSe := Lib.hid (St.unpack (A := [RdE b vb (pq + 1)]) (A' := [RdE b vb (pq + 1 + 1)]) (R := [X, Ent.box w.heap.size #[.int .i64 0, .slice none 0 0, .slice none 0 0, .slice none 0 0] 26, Ent.box bx #[.int .i64 ((S : Nat) : Int), .slice a1 nl c1, .slice (some ⟨gf, 0, none⟩) (nf + 1) cf, .slice a3 ne c3] 26, Ent.row 76 3 (.slice a1 nl c1) nl (NN.flatMap moveCells), Ent.row 3 1 (.slice (some ⟨gf, 0, none⟩) (nf + 1) cf) (nf + 1) (intCells FF ++ [.int .i64 (k : Int)]), Ent.row 3 1 (.slice a3 ne c3) ne (intCells EE)]) HSh.out hSp)
              clear hSp
              by_cases hk3' : (k3 : Int) = 0
              · obtain ⟨x1, x2, x3⟩ := yes_eqI hk3'
                clear hk3'
                have hSa := HSe.out.alloc_ (.cells #[.int .i64 (k : Int)] 3)
                have HRa := Lib.hid (hSa.row 6 rfl)
                have HSa := Lib.hid hSa
                have e5 := HSe.out.cell (v := .slice a3 ne c3) 3 3 rfl rfl
                clear hSa
                go_wp2_with (at_builtin; refine wpList_append_lies _ rfl _ _ _ rfl _ 3 j0 (.int .i64 0) 1 8 Try.underlying24 Hhj.out Hhy0.out Hhy1.out Hhy2.out rfl (by omega) _ ne _ rfl HRa.out ⟨we.heap.size, 0, none⟩ 1 1 [.int .i64 (k : Int)] rfl rfl (World.news_of_block (heap_alloc_new we _)) one_int (by omega) (by unfold maxLen; omega) (by omega) HSa.out.size _ rfl ?_; intro g6 c6 w6 hown6 hgrow6 hat6 hlt6; have HS6 := Lib.hid (HSa.out.app 6 rfl hown6 hgrow6 hat6); have y1 := HS6.out.cell (v := .slice a3 ne c3) 3 3 rfl rfl; have y2 := HS6.out.fr 3 3 rfl; clear hown6 hgrow6 hat6 hlt6)
                have HSg := Lib.hid (HS6.out.set 3 rfl 3 (.slice (some ⟨g6, 0, none⟩) (ne + 1) c6))
                clear y1 y2 e5 HS6 HSa HRa
                go_roundw
                case rel => exact ⟨k + 1, pq + 1 + 1, (nf + 1), ne + 1, (some ⟨gf, 0, none⟩), cf, some ⟨g6, 0, none⟩, c6, (FF ++ [(k : Int)]), EE ++ [(k : Int)], by go_num, by omega, by omega, by omega, by omega, (by rw [List.length_append, HFl.out]; rfl), by rw [List.length_append, HEl.out]; rfl, by rw [intCells_snoc, intCells_snoc]; exact HSg.out⟩
                case measure => simp [intOf]; omega
              · obtain ⟨x1, x2, x3, -⟩ := not_eqI hk3'
                clear hk3'
                go_wp2
                go_roundw
                case rel => exact ⟨k + 1, pq + 1 + 1, (nf + 1), ne, (some ⟨gf, 0, none⟩), cf, a3, c3, (FF ++ [(k : Int)]), EE, by go_num, by omega, by omega, by omega, by omega, (by rw [List.length_append, HFl.out]; rfl), HEl.out, by rw [intCells_snoc]; exact HSe.out⟩
                case measure => simp [intOf]; omega
            · obtain ⟨u1, u2, u3, -⟩ := not_eqI hk5'
              clear hk5'
              go_wp2_with fail
              refine (pick_any bs vb b (pq + 1) 3 w0 _ _ Hb.out hlen (by omega) (by omega) (by omega) (St.pack (A := [RdE b vb (pq + 1)]) (R := [X, Ent.box w.heap.size #[.int .i64 0, .slice none 0 0, .slice none 0 0, .slice none 0 0] 26, Ent.box bx #[.int .i64 ((S : Nat) : Int), .slice a1 nl c1, .slice a2 nf c2, .slice a3 ne c3] 26, Ent.row 76 3 (.slice a1 nl c1) nl (NN.flatMap moveCells), Ent.row 3 1 (.slice a2 nf c2) nf (intCells FF), Ent.row 3 1 (.slice a3 ne c3) ne (intCells EE)]) HSm.out)).mono ?_
              rintro e we ⟨k3, hk3, rfl, hSp⟩
              have HSe := Lib.hid (St.unpack (A := [RdE b vb (pq + 1)]) (A' := [RdE b vb (pq + 1 + 1)]) (R := [X, Ent.box w.heap.size #[.int .i64 0, .slice none 0 0, .slice none 0 0, .slice none 0 0] 26, Ent.box bx #[.int .i64 ((S : Nat) : Int), .slice a1 nl c1, .slice a2 nf c2, .slice a3 ne c3] 26, Ent.row 76 3 (.slice a1 nl c1) nl (NN.flatMap moveCells), Ent.row 3 1 (.slice a2 nf c2) nf (intCells FF), Ent.row 3 1 (.slice a3 ne c3) ne (intCells EE)]) HSm.out hSp)
              clear hSp
              by_cases hk3' : (k3 : Int) = 0
              · obtain ⟨x1, x2, x3⟩ := yes_eqI hk3'
                clear hk3'
                have hSa := HSe.out.alloc_ (.cells #[.int .i64 (k : Int)] 3)
                have HRa := Lib.hid (hSa.row 6 rfl)
                have HSa := Lib.hid hSa
                have e5 := HSe.out.cell (v := .slice a3 ne c3) 3 3 rfl rfl
                clear hSa
                go_wp2_with (at_builtin; refine wpList_append_lies _ rfl _ _ _ rfl _ 3 j0 (.int .i64 0) 1 8 Try.underlying24 Hhj.out Hhy0.out Hhy1.out Hhy2.out rfl (by omega) _ ne _ rfl HRa.out ⟨we.heap.size, 0, none⟩ 1 1 [.int .i64 (k : Int)] rfl rfl (World.news_of_block (heap_alloc_new we _)) one_int (by omega) (by unfold maxLen; omega) (by omega) HSa.out.size _ rfl ?_; intro g6 c6 w6 hown6 hgrow6 hat6 hlt6; have HS6 := Lib.hid (HSa.out.app 6 rfl hown6 hgrow6 hat6); have y1 := HS6.out.cell (v := .slice a3 ne c3) 3 3 rfl rfl; have y2 := HS6.out.fr 3 3 rfl; clear hown6 hgrow6 hat6 hlt6)
                have HSg := Lib.hid (HS6.out.set 3 rfl 3 (.slice (some ⟨g6, 0, none⟩) (ne + 1) c6))
                clear y1 y2 e5 HS6 HSa HRa
                go_roundw
                case rel => exact ⟨k + 1, pq + 1 + 1, nf, ne + 1, a2, c2, some ⟨g6, 0, none⟩, c6, FF, EE ++ [(k : Int)], by go_num, by omega, by omega, by omega, by omega, HFl.out, by rw [List.length_append, HEl.out]; rfl, by rw [intCells_snoc]; exact HSg.out⟩
                case measure => simp [intOf]; omega
              · obtain ⟨x1, x2, x3, -⟩ := not_eqI hk3'
                clear hk3'
                go_wp2
                go_roundw
                case rel => exact ⟨k + 1, pq + 1 + 1, nf, ne, a2, c2, a3, c3, FF, EE, by go_num, by omega, by omega, by omega, by omega, HFl.out, HEl.out, HSe.out⟩
                case measure => simp [intOf]; omega
        · obtain rfl : S = k := by omega
          have hnl13 := HNl.out
          subst hnl13
          subst hFl
          subst hEl
          have HSl := Lib.hid hS
          clear hS
          have hz0' : (-1 : Int) ≤ ((S : Nat) : Int) := by omega
          have hz1' : ((S : Nat) : Int) ≤ 41 := by omega
          go_wp2_with fail
          refine (odd_any bs vb b pq 4 w0 _ _ Hb.out hlen (by omega) (by omega) (St.pack (A := [RdE b vb pq]) (R := [X, Ent.box w.heap.size #[.int .i64 0, .slice none 0 0, .slice none 0 0, .slice none 0 0] 26, Ent.box bx #[.int .i64 ((S : Nat) : Int), .slice a1 NN.length c1, .slice a2 FF.length c2, .slice a3 EE.length c3] 26, Ent.row 76 3 (.slice a1 NN.length c1) NN.length (NN.flatMap moveCells), Ent.row 3 1 (.slice a2 FF.length c2) FF.length (intCells FF), Ent.row 3 1 (.slice a3 EE.length c3) EE.length (intCells EE)]) HSl.out)).mono ?_
          rintro e wd ⟨qd, pd, hpd, rfl, hSp⟩
          have HSd := Lib.hid (St.unpack (A := [RdE b vb pq]) (A' := [RdE b vb pd]) (R := [X, Ent.box w.heap.size #[.int .i64 0, .slice none 0 0, .slice none 0 0, .slice none 0 0] 26, Ent.box bx #[.int .i64 ((S : Nat) : Int), .slice a1 NN.length c1, .slice a2 FF.length c2, .slice a3 EE.length c3] 26, Ent.row 76 3 (.slice a1 NN.length c1) NN.length (NN.flatMap moveCells), Ent.row 3 1 (.slice a2 FF.length c2) FF.length (intCells FF), Ent.row 3 1 (.slice a3 EE.length c3) EE.length (intCells EE)]) HSl.out hSp)
          clear hSp c0
          cases qd
          · go_wp2_with fail
            refine (odd_any bs vb b pd nn w0 _ _ Hb.out hlen (by omega) hnn (St.pack (A := [RdE b vb pd]) (R := [X, Ent.box w.heap.size #[.int .i64 0, .slice none 0 0, .slice none 0 0, .slice none 0 0] 26, Ent.box bx #[.int .i64 ((S : Nat) : Int), .slice a1 NN.length c1, .slice a2 FF.length c2, .slice a3 EE.length c3] 26, Ent.row 76 3 (.slice a1 NN.length c1) NN.length (NN.flatMap moveCells), Ent.row 3 1 (.slice a2 FF.length c2) FF.length (intCells FF), Ent.row 3 1 (.slice a3 EE.length c3) EE.length (intCells EE)]) HSd.out)).mono ?_
            rintro e wo ⟨qo, po, hpo, rfl, hSp⟩
            have HSo := Lib.hid (St.unpack (A := [RdE b vb pd]) (A' := [RdE b vb po]) (R := [X, Ent.box w.heap.size #[.int .i64 0, .slice none 0 0, .slice none 0 0, .slice none 0 0] 26, Ent.box bx #[.int .i64 ((S : Nat) : Int), .slice a1 NN.length c1, .slice a2 FF.length c2, .slice a3 EE.length c3] 26, Ent.row 76 3 (.slice a1 NN.length c1) NN.length (NN.flatMap moveCells), Ent.row 3 1 (.slice a2 FF.length c2) FF.length (intCells FF), Ent.row 3 1 (.slice a3 EE.length c3) EE.length (intCells EE)]) HSd.out hSp)
            clear hSp
            cases qo
            · have HSr2 := HSo
              have t0 := HSr2.out.cell (v := .int .i64 ((S : Nat) : Int)) 3 0 rfl rfl
              have t1 := HSr2.out.cell (v := .slice a1 NN.length c1) 3 1 rfl rfl
              have t2 := HSr2.out.cell (v := .slice a2 FF.length c2) 3 2 rfl rfl
              have t3 := HSr2.out.cell (v := .slice a3 EE.length c3) 3 3 rfl rfl
              have f0 := HSr2.out.fr 2 0 rfl
              have k0 := HSr2.out.cell (v := .int .i64 0) 2 0 rfl rfl
              have f1 := HSr2.out.fr 2 1 rfl
              have k1 := HSr2.out.cell (v := .slice none 0 0) 2 1 rfl rfl
              have f2 := HSr2.out.fr 2 2 rfl
              have k2 := HSr2.out.cell (v := .slice none 0 0) 2 2 rfl rfl
              have f3 := HSr2.out.fr 2 3 rfl
              have k3 := HSr2.out.cell (v := .slice none 0 0) 2 3 rfl rfl
              go_wp2
              have hq := ((((HSr2.out.set 2 rfl 0 (.int .i64 ((S : Nat) : Int))).set 2 rfl 1 (.slice a1 NN.length c1)).set 2 rfl 2 (.slice a2 FF.length c2)).set 2 rfl 3 (.slice a3 EE.length c3))
              have q0 := hq.cell (v := .int .i64 ((S : Nat) : Int)) 2 0 rfl rfl
              have q1 := hq.cell (v := .slice a1 NN.length c1) 2 1 rfl rfl
              have q2 := hq.cell (v := .slice a2 FF.length c2) 2 2 rfl rfl
              have q3 := hq.cell (v := .slice a3 EE.length c3) 2 3 rfl rfl
              refine bodyPost_ret (v := .agg #[.int .i64 ((S : Nat) : Int), .slice a1 NN.length c1, .slice a2 FF.length c2, .slice a3 EE.length c3]) (by simp [results, Try.results34, go_sem, q0, q1, q2, q3]) rfl ?_
              refine ⟨⟨((S : Nat) : Int), NN, FF, EE⟩, po, _, _, _, _, _, _, by omega, hz0', hz1', by simp only; omega, by simp only; omega, by simp only; omega, rfl, ?_⟩
              exact hq.pick [0, 1, 4, 5, 6] (by decide)
            · go_wp2_with fail
              refine (pick_any bs vb b (po) 4 w0 _ _ Hb.out hlen (by omega) (by omega) (by omega) (St.pack (A := [RdE b vb (po)]) (R := [X, Ent.box w.heap.size #[.int .i64 0, .slice none 0 0, .slice none 0 0, .slice none 0 0] 26, Ent.box bx #[.int .i64 ((S : Nat) : Int), .slice a1 NN.length c1, .slice a2 FF.length c2, .slice a3 EE.length c3] 26, Ent.row 76 3 (.slice a1 NN.length c1) NN.length (NN.flatMap moveCells), Ent.row 3 1 (.slice a2 FF.length c2) FF.length (intCells FF), Ent.row 3 1 (.slice a3 EE.length c3) EE.length (intCells EE)]) HSo.out)).mono ?_
              rintro e wk ⟨k4, hk4, rfl, hSp⟩
              have HSk := Lib.hid (St.unpack (A := [RdE b vb (po)]) (A' := [RdE b vb (po + 1)]) (R := [X, Ent.box w.heap.size #[.int .i64 0, .slice none 0 0, .slice none 0 0, .slice none 0 0] 26, Ent.box bx #[.int .i64 ((S : Nat) : Int), .slice a1 NN.length c1, .slice a2 FF.length c2, .slice a3 EE.length c3] 26, Ent.row 76 3 (.slice a1 NN.length c1) NN.length (NN.flatMap moveCells), Ent.row 3 1 (.slice a2 FF.length c2) FF.length (intCells FF), Ent.row 3 1 (.slice a3 EE.length c3) EE.length (intCells EE)]) HSo.out hSp)
              clear hSp
              obtain h40 | h41 | h42 | h43 : (k4 : Int) = 0 ∨ (k4 : Int) = 1 ∨ (k4 : Int) = 2 ∨ (k4 : Int) = 3 := by omega
              · obtain ⟨z0a, z0b, z0c⟩ := yes_eqI h40
                obtain ⟨z1a, z1b, z1c, z1d⟩ := not_eqI (show (k4 : Int) ≠ 1 by omega)
                obtain ⟨z2a, z2b, z2c, z2d⟩ := not_eqI (show (k4 : Int) ≠ 2 by omega)
                clear h40
                have hSa := HSk.out.alloc_ (.cells #[.int .i64 0, .int .i64 3, .int .i64 0] 76)
                have HRa := Lib.hid (hSa.row 4 rfl)
                have HSa := Lib.hid hSa
                have e5 := HSk.out.cell (v := .slice a1 NN.length c1) 3 1 rfl rfl
                clear hSa
                go_wp2_with (at_builtin; refine wpList_append_lies _ rfl _ _ _ rfl _ 76 i0 (.agg #[.int .i64 0, .int .i64 0, .int .i64 0]) 3 24 Try.underlying23 Hhi.out Hhz0.out Hhz1.out Hhz2.out rfl (by omega) _ NN.length _ rfl HRa.out ⟨wk.heap.size, 0, none⟩ 1 1 [.int .i64 0, .int .i64 3, .int .i64 0] rfl rfl (World.news_of_block (heap_alloc_new wk _)) one_mv (by omega) (by unfold maxLen; omega) (by omega) HSa.out.size _ rfl ?_; intro g6 c6 w6 hown6 hgrow6 hat6 hlt6; have HS6 := Lib.hid (HSa.out.app 4 rfl hown6 hgrow6 hat6); have y1 := HS6.out.cell (v := .slice a1 NN.length c1) 3 1 rfl rfl; have y2 := HS6.out.fr 3 1 rfl; have HSf := Lib.hid (HS6.out.set 3 rfl 1 (.slice (some ⟨g6, 0, none⟩) (NN.length + 1) c6)); have t0 := HSf.out.cell (v := .int .i64 ((S : Nat) : Int)) 3 0 rfl rfl; have t1 := HSf.out.cell (v := .slice (some ⟨g6, 0, none⟩) (NN.length + 1) c6) 3 1 rfl rfl; have t2 := HSf.out.cell (v := .slice a2 FF.length c2) 3 2 rfl rfl; have t3 := HSf.out.cell (v := .slice a3 EE.length c3) 3 3 rfl rfl; have f0 := HSf.out.fr 2 0 rfl; have k0q := HSf.out.cell (v := .int .i64 0) 2 0 rfl rfl; have f1 := HSf.out.fr 2 1 rfl; have k1q := HSf.out.cell (v := .slice none 0 0) 2 1 rfl rfl; have f2 := HSf.out.fr 2 2 rfl; have k2q := HSf.out.cell (v := .slice none 0 0) 2 2 rfl rfl; have f3 := HSf.out.fr 2 3 rfl; have k3q := HSf.out.cell (v := .slice none 0 0) 2 3 rfl rfl; clear hown6 hgrow6 hat6 hlt6)
                have hq := ((((HSf.out.set 2 rfl 0 (.int .i64 ((S : Nat) : Int))).set 2 rfl 1 (.slice (some ⟨g6, 0, none⟩) (NN.length + 1) c6)).set 2 rfl 2 (.slice a2 FF.length c2)).set 2 rfl 3 (.slice a3 EE.length c3))
                have q0 := hq.cell (v := .int .i64 ((S : Nat) : Int)) 2 0 rfl rfl
                have q1 := hq.cell (v := .slice (some ⟨g6, 0, none⟩) (NN.length + 1) c6) 2 1 rfl rfl
                have q2 := hq.cell (v := .slice a2 FF.length c2) 2 2 rfl rfl
                have q3 := hq.cell (v := .slice a3 EE.length c3) 2 3 rfl rfl
                refine bodyPost_ret (v := .agg #[.int .i64 ((S : Nat) : Int), .slice (some ⟨g6, 0, none⟩) (NN.length + 1) c6, .slice a2 FF.length c2, .slice a3 EE.length c3]) (by simp [results, Try.results34, go_sem, q0, q1, q2, q3]) rfl ?_
                refine ⟨⟨((S : Nat) : Int), NN ++ [(0, 3, 0)], FF, EE⟩, po + 1, (some ⟨g6, 0, none⟩), a2, a3, c6, c2, c3, by omega, hz0', hz1', by simp only [List.length_append, List.length_singleton]; omega, by simp only; omega, by simp only; omega, by simp only [List.length_append, List.length_singleton], ?_⟩
                simp only [List.length_append, List.length_singleton, List.flatMap_append]
                exact hq.pick [0, 1, 4, 5, 6] (by decide)
              · obtain ⟨z1a, z1b, z1c⟩ := yes_eqI h41
                obtain ⟨z0a, z0b, z0c, z0d⟩ := not_eqI (show (k4 : Int) ≠ 0 by omega)
                obtain ⟨z2a, z2b, z2c, z2d⟩ := not_eqI (show (k4 : Int) ≠ 2 by omega)
                clear h41
                have e6 := HSk.out.cell (v := .int .i64 ((S : Nat) : Int)) 3 0 rfl rfl
                have hSa := HSk.out.alloc_ (.cells #[.int .i64 ((S : Nat) : Int)] 3)
                have HRa := Lib.hid (hSa.row 6 rfl)
                have HSa := Lib.hid hSa
                have e5 := HSk.out.cell (v := .slice a3 EE.length c3) 3 3 rfl rfl
                clear hSa
                go_wp2_with (at_builtin; refine wpList_append_lies _ rfl _ _ _ rfl _ 3 j0 (.int .i64 0) 1 8 Try.underlying24 Hhj.out Hhy0.out Hhy1.out Hhy2.out rfl (by omega) _ EE.length _ rfl HRa.out ⟨wk.heap.size, 0, none⟩ 1 1 [.int .i64 ((S : Nat) : Int)] rfl rfl (World.news_of_block (heap_alloc_new wk _)) one_int (by omega) (by unfold maxLen; omega) (by omega) HSa.out.size _ rfl ?_; intro g6 c6 w6 hown6 hgrow6 hat6 hlt6; have HS6 := Lib.hid (HSa.out.app 6 rfl hown6 hgrow6 hat6); have y1 := HS6.out.cell (v := .slice a3 EE.length c3) 3 3 rfl rfl; have y2 := HS6.out.fr 3 3 rfl; have HSf := Lib.hid (HS6.out.set 3 rfl 3 (.slice (some ⟨g6, 0, none⟩) (EE.length + 1) c6)); have t0 := HSf.out.cell (v := .int .i64 ((S : Nat) : Int)) 3 0 rfl rfl; have t1 := HSf.out.cell (v := .slice a1 NN.length c1) 3 1 rfl rfl; have t2 := HSf.out.cell (v := .slice a2 FF.length c2) 3 2 rfl rfl; have t3 := HSf.out.cell (v := .slice (some ⟨g6, 0, none⟩) (EE.length + 1) c6) 3 3 rfl rfl; have f0 := HSf.out.fr 2 0 rfl; have k0q := HSf.out.cell (v := .int .i64 0) 2 0 rfl rfl; have f1 := HSf.out.fr 2 1 rfl; have k1q := HSf.out.cell (v := .slice none 0 0) 2 1 rfl rfl; have f2 := HSf.out.fr 2 2 rfl; have k2q := HSf.out.cell (v := .slice none 0 0) 2 2 rfl rfl; have f3 := HSf.out.fr 2 3 rfl; have k3q := HSf.out.cell (v := .slice none 0 0) 2 3 rfl rfl; clear hown6 hgrow6 hat6 hlt6)
                have hq := ((((HSf.out.set 2 rfl 0 (.int .i64 ((S : Nat) : Int))).set 2 rfl 1 (.slice a1 NN.length c1)).set 2 rfl 2 (.slice a2 FF.length c2)).set 2 rfl 3 (.slice (some ⟨g6, 0, none⟩) (EE.length + 1) c6))
                have q0 := hq.cell (v := .int .i64 ((S : Nat) : Int)) 2 0 rfl rfl
                have q1 := hq.cell (v := .slice a1 NN.length c1) 2 1 rfl rfl
                have q2 := hq.cell (v := .slice a2 FF.length c2) 2 2 rfl rfl
                have q3 := hq.cell (v := .slice (some ⟨g6, 0, none⟩) (EE.length + 1) c6) 2 3 rfl rfl
                refine bodyPost_ret (v := .agg #[.int .i64 ((S : Nat) : Int), .slice a1 NN.length c1, .slice a2 FF.length c2, .slice (some ⟨g6, 0, none⟩) (EE.length + 1) c6]) (by simp [results, Try.results34, go_sem, q0, q1, q2, q3]) rfl ?_
                refine ⟨⟨((S : Nat) : Int), NN, FF, EE ++ [((S : Nat) : Int)]⟩, po + 1, a1, a2, (some ⟨g6, 0, none⟩), c1, c2, c6, by omega, hz0', hz1', by simp only; omega, by simp only; omega, by simp only [List.length_append, List.length_singleton]; omega, by simp only [List.length_append, List.length_singleton], ?_⟩
                simp only [List.length_append, List.length_singleton, intCells_snoc]
                exact hq.pick [0, 1, 4, 5, 6] (by decide)
              · obtain ⟨z2a, z2b, z2c⟩ := yes_eqI h42
                obtain ⟨z0a, z0b, z0c, z0d⟩ := not_eqI (show (k4 : Int) ≠ 0 by omega)
                obtain ⟨z1a, z1b, z1c, z1d⟩ := not_eqI (show (k4 : Int) ≠ 1 by omega)
                clear h42
                have hSa := HSk.out.alloc_ (.cells #[.int .i64 (-1)] 3)
                have HRa := Lib.hid (hSa.row 5 rfl)
                have HSa := Lib.hid hSa
                have e5 := HSk.out.cell (v := .slice a2 FF.length c2) 3 2 rfl rfl
                clear hSa
                go_wp2_with (at_builtin; refine wpList_append_lies _ rfl _ _ _ rfl _ 3 j0 (.int .i64 0) 1 8 Try.underlying24 Hhj.out Hhy0.out Hhy1.out Hhy2.out rfl (by omega) _ FF.length _ rfl HRa.out ⟨wk.heap.size, 0, none⟩ 1 1 [.int .i64 (-1)] rfl rfl (World.news_of_block (heap_alloc_new wk _)) one_int (by omega) (by unfold maxLen; omega) (by omega) HSa.out.size _ rfl ?_; intro g6 c6 w6 hown6 hgrow6 hat6 hlt6; have HS6 := Lib.hid (HSa.out.app 5 rfl hown6 hgrow6 hat6); have y1 := HS6.out.cell (v := .slice a2 FF.length c2) 3 2 rfl rfl; have y2 := HS6.out.fr 3 2 rfl; have HSf := Lib.hid (HS6.out.set 3 rfl 2 (.slice (some ⟨g6, 0, none⟩) (FF.length + 1) c6)); have t0 := HSf.out.cell (v := .int .i64 ((S : Nat) : Int)) 3 0 rfl rfl; have t1 := HSf.out.cell (v := .slice a1 NN.length c1) 3 1 rfl rfl; have t2 := HSf.out.cell (v := .slice (some ⟨g6, 0, none⟩) (FF.length + 1) c6) 3 2 rfl rfl; have t3 := HSf.out.cell (v := .slice a3 EE.length c3) 3 3 rfl rfl; have f0 := HSf.out.fr 2 0 rfl; have k0q := HSf.out.cell (v := .int .i64 0) 2 0 rfl rfl; have f1 := HSf.out.fr 2 1 rfl; have k1q := HSf.out.cell (v := .slice none 0 0) 2 1 rfl rfl; have f2 := HSf.out.fr 2 2 rfl; have k2q := HSf.out.cell (v := .slice none 0 0) 2 2 rfl rfl; have f3 := HSf.out.fr 2 3 rfl; have k3q := HSf.out.cell (v := .slice none 0 0) 2 3 rfl rfl; clear hown6 hgrow6 hat6 hlt6)
                have hq := ((((HSf.out.set 2 rfl 0 (.int .i64 ((S : Nat) : Int))).set 2 rfl 1 (.slice a1 NN.length c1)).set 2 rfl 2 (.slice (some ⟨g6, 0, none⟩) (FF.length + 1) c6)).set 2 rfl 3 (.slice a3 EE.length c3))
                have q0 := hq.cell (v := .int .i64 ((S : Nat) : Int)) 2 0 rfl rfl
                have q1 := hq.cell (v := .slice a1 NN.length c1) 2 1 rfl rfl
                have q2 := hq.cell (v := .slice (some ⟨g6, 0, none⟩) (FF.length + 1) c6) 2 2 rfl rfl
                have q3 := hq.cell (v := .slice a3 EE.length c3) 2 3 rfl rfl
                refine bodyPost_ret (v := .agg #[.int .i64 ((S : Nat) : Int), .slice a1 NN.length c1, .slice (some ⟨g6, 0, none⟩) (FF.length + 1) c6, .slice a3 EE.length c3]) (by simp [results, Try.results34, go_sem, q0, q1, q2, q3]) rfl ?_
                refine ⟨⟨((S : Nat) : Int), NN, FF ++ [-1], EE⟩, po + 1, a1, (some ⟨g6, 0, none⟩), a3, c1, c6, c3, by omega, hz0', hz1', by simp only; omega, by simp only [List.length_append, List.length_singleton]; omega, by simp only; omega, by simp only [List.length_append, List.length_singleton], ?_⟩
                simp only [List.length_append, List.length_singleton, intCells_snoc]
                exact hq.pick [0, 1, 4, 5, 6] (by decide)
              · obtain ⟨z0a, z0b, z0c, z0d⟩ := not_eqI (show (k4 : Int) ≠ 0 by omega)
                obtain ⟨z1a, z1b, z1c, z1d⟩ := not_eqI (show (k4 : Int) ≠ 1 by omega)
                obtain ⟨z2a, z2b, z2c, z2d⟩ := not_eqI (show (k4 : Int) ≠ 2 by omega)
                clear h43
                have HSb := Lib.hid (HSk.out.alloc _ rfl #[.int .i64 (-1), .int .i64 41] 3)
                go_wp2_with fail
                refine (pick_any bs vb b (po + 1) 2 w0 _ _ Hb.out hlen (by omega) (by omega) (by omega) (St.pack (A := [RdE b vb (po + 1)]) (R := [X, Ent.box w.heap.size #[.int .i64 0, .slice none 0 0, .slice none 0 0, .slice none 0 0] 26, Ent.box bx #[.int .i64 ((S : Nat) : Int), .slice a1 NN.length c1, .slice a2 FF.length c2, .slice a3 EE.length c3] 26, Ent.row 76 3 (.slice a1 NN.length c1) NN.length (NN.flatMap moveCells), Ent.row 3 1 (.slice a2 FF.length c2) FF.length (intCells FF), Ent.row 3 1 (.slice a3 EE.length c3) EE.length (intCells EE), Ent.box wk.heap.size #[.int .i64 (-1), .int .i64 41] 3]) HSb.out)).mono ?_
                rintro e wc ⟨k2, hk2, rfl, hSp⟩
                have HSc := Lib.hid (St.unpack (A := [RdE b vb (po + 1)]) (A' := [RdE b vb (po + 1 + 1)]) (R := [X, Ent.box w.heap.size #[.int .i64 0, .slice none 0 0, .slice none 0 0, .slice none 0 0] 26, Ent.box bx #[.int .i64 ((S : Nat) : Int), .slice a1 NN.length c1, .slice a2 FF.length c2, .slice a3 EE.length c3] 26, Ent.row 76 3 (.slice a1 NN.length c1) NN.length (NN.flatMap moveCells), Ent.row 3 1 (.slice a2 FF.length c2) FF.length (intCells FF), Ent.row 3 1 (.slice a3 EE.length c3) EE.length (intCells EE), Ent.box wk.heap.size #[.int .i64 (-1), .int .i64 41] 3]) HSb.out hSp)
                clear hSp
                obtain ⟨kv, hkv, hkb⟩ : ∃ kv : Int, (#[.int .i64 (-1), .int .i64 41] : Array Value)[k2]? = some (.int .i64 kv) ∧ (kv = -1 ∨ kv = 41) := by
                  obtain rfl | rfl : k2 = 0 ∨ k2 = 1 := by omega
                  all_goals exact ⟨_, rfl, by decide⟩
                have e7 := HSc.out.cell (v := .int .i64 kv) 7 k2 rfl hkv
                have hk2I : (k2 : Int) < 2 := by omega
                have e8 := HSc.out.cell (v := .int .i64 ((S : Nat) : Int)) 3 0 rfl rfl
                have e9' := HSc.out.fr 3 0 rfl
                have HSf := Lib.hid ((HSc.out.set 3 rfl 0 (.int .i64 kv)).pick [0, 1, 2, 3, 4, 5, 6] (by decide))
                have t0 := HSf.out.cell (v := .int .i64 kv) 3 0 rfl rfl
                have t1 := HSf.out.cell (v := .slice a1 NN.length c1) 3 1 rfl rfl
                have t2 := HSf.out.cell (v := .slice a2 FF.length c2) 3 2 rfl rfl
                have t3 := HSf.out.cell (v := .slice a3 EE.length c3) 3 3 rfl rfl
                have f0 := HSf.out.fr 2 0 rfl
                have k0' := HSf.out.cell (v := .int .i64 0) 2 0 rfl rfl
                have f1 := HSf.out.fr 2 1 rfl
                have k1' := HSf.out.cell (v := .slice none 0 0) 2 1 rfl rfl
                have f2 := HSf.out.fr 2 2 rfl
                have k2' := HSf.out.cell (v := .slice none 0 0) 2 2 rfl rfl
                have f3 := HSf.out.fr 2 3 rfl
                have k3' := HSf.out.cell (v := .slice none 0 0) 2 3 rfl rfl
                go_wp2
                have hq := ((((HSf.out.set 2 rfl 0 (.int .i64 kv)).set 2 rfl 1 (.slice a1 NN.length c1)).set 2 rfl 2 (.slice a2 FF.length c2)).set 2 rfl 3 (.slice a3 EE.length c3))
                have q0 := hq.cell (v := .int .i64 kv) 2 0 rfl rfl
                have q1 := hq.cell (v := .slice a1 NN.length c1) 2 1 rfl rfl
                have q2 := hq.cell (v := .slice a2 FF.length c2) 2 2 rfl rfl
                have q3 := hq.cell (v := .slice a3 EE.length c3) 2 3 rfl rfl
                refine bodyPost_ret (v := .agg #[.int .i64 kv, .slice a1 NN.length c1, .slice a2 FF.length c2, .slice a3 EE.length c3]) (by simp [results, Try.results34, go_sem, q0, q1, q2, q3]) rfl ?_
                exact ⟨⟨kv, NN, FF, EE⟩, po + 1 + 1, _, _, _, _, _, _, by omega, by simp only; omega, by simp only; omega, by simp only; omega, by simp only; omega, by simp only; omega, rfl, hq.pick [0, 1, 4, 5, 6] (by decide)⟩
          · go_wp2_with fail
            refine (pick_any bs vb b (pd) 3 w0 _ _ Hb.out hlen (by omega) (by omega) (by omega) (St.pack (A := [RdE b vb (pd)]) (R := [X, Ent.box w.heap.size #[.int .i64 0, .slice none 0 0, .slice none 0 0, .slice none 0 0] 26, Ent.box bx #[.int .i64 ((S : Nat) : Int), .slice a1 NN.length c1, .slice a2 FF.length c2, .slice a3 EE.length c3] 26, Ent.row 76 3 (.slice a1 NN.length c1) NN.length (NN.flatMap moveCells), Ent.row 3 1 (.slice a2 FF.length c2) FF.length (intCells FF), Ent.row 3 1 (.slice a3 EE.length c3) EE.length (intCells EE)]) HSd.out)).mono ?_
            rintro e wp ⟨k7, hk7, rfl, hSp⟩
            have HSp := Lib.hid (St.unpack (A := [RdE b vb (pd)]) (A' := [RdE b vb (pd + 1)]) (R := [X, Ent.box w.heap.size #[.int .i64 0, .slice none 0 0, .slice none 0 0, .slice none 0 0] 26, Ent.box bx #[.int .i64 ((S : Nat) : Int), .slice a1 NN.length c1, .slice a2 FF.length c2, .slice a3 EE.length c3] 26, Ent.row 76 3 (.slice a1 NN.length c1) NN.length (NN.flatMap moveCells), Ent.row 3 1 (.slice a2 FF.length c2) FF.length (intCells FF), Ent.row 3 1 (.slice a3 EE.length c3) EE.length (intCells EE)]) HSd.out hSp)
            clear hSp
            obtain ⟨D, hD⟩ : ∃ D, D = k7 + 1 := ⟨_, rfl⟩
            have hDI : (1 : Int) + (k7 : Int) = (D : Int) := by omega
            have hD3 : D ≤ 3 := by omega
            have hFD := FL_small hD3
            have HhD := Lib.hid hD; clear hD
            go_wp2_with fail
            refine (make_any bs vb b w0 Hb.out hlen D hD3 true (pd + 1) _ _ (by omega) (St.pack (A := [RdE b vb (pd + 1)]) (R := [X, Ent.box w.heap.size #[.int .i64 0, .slice none 0 0, .slice none 0 0, .slice none 0 0] 26, Ent.box bx #[.int .i64 ((S : Nat) : Int), .slice a1 NN.length c1, .slice a2 FF.length c2, .slice a3 EE.length c3] 26, Ent.row 76 3 (.slice a1 NN.length c1) NN.length (NN.flatMap moveCells), Ent.row 3 1 (.slice a2 FF.length c2) FF.length (intCells FF), Ent.row 3 1 (.slice a3 EE.length c3) EE.length (intCells EE)]) HSp.out)).mono ?_
            rintro e wm ⟨am, cm, es, pm, hel, hpm, rfl, hSm⟩
            have hSm2 := St.unpack (A := [RdE b vb (pd + 1)]) (A' := [RdE b vb pm, PartE am cm es]) (R := [X, Ent.box w.heap.size #[.int .i64 0, .slice none 0 0, .slice none 0 0, .slice none 0 0] 26, Ent.box bx #[.int .i64 ((S : Nat) : Int), .slice a1 NN.length c1, .slice a2 FF.length c2, .slice a3 EE.length c3] 26, Ent.row 76 3 (.slice a1 NN.length c1) NN.length (NN.flatMap moveCells), Ent.row 3 1 (.slice a2 FF.length c2) FF.length (intCells FF), Ent.row 3 1 (.slice a3 EE.length c3) EE.length (intCells EE)]) HSp.out (hSm.pick [0, 2, 1] (by decide))
            have hpr : Pairs 0 wm (.slice am es.length cm) es := pairs_of_row (hSm2.row 1 rfl)
            have HSm := Lib.hid hSm2
            have Hpr := Lib.hid hpr
            clear hSm hSm2 hpr
            go_wp2_with fail
            refine (build_any es.length es _ _ (Nat.le_refl _) (by omega) Hpr.out).mono ?_
            rintro e wb ⟨Y, yb, hsY, ua, uc, va, vc, xa, xc, rfl, hS'⟩
            obtain ⟨sY0, sY1, sY2, sY3, sY4⟩ := hsY
            have hSb := (HSm.out.cat hS').alloc _ rfl #[.int .i64 Y.states, .slice ua Y.moves.length uc, .slice va Y.firsts.length vc, .slice xa Y.ends.length xc] 26
            have HSb := Lib.hid hSb
            clear hSb hS'
            cases yb
            · have HSc := Lib.hid (HSb.out.pick [0, 2, 3, 4, 5, 6, 7] (by decide))
              clear HSb
              go_wp2_with fail
              refine (odd_any bs vb b pm nn w0 _ _ Hb.out hlen (by omega) hnn (St.pack (A := [RdE b vb pm]) (R := [X, Ent.box w.heap.size #[.int .i64 0, .slice none 0 0, .slice none 0 0, .slice none 0 0] 26, Ent.box bx #[.int .i64 ((S : Nat) : Int), .slice a1 NN.length c1, .slice a2 FF.length c2, .slice a3 EE.length c3] 26, Ent.row 76 3 (.slice a1 NN.length c1) NN.length (NN.flatMap moveCells), Ent.row 3 1 (.slice a2 FF.length c2) FF.length (intCells FF), Ent.row 3 1 (.slice a3 EE.length c3) EE.length (intCells EE)]) HSc.out)).mono ?_
              rintro e wo ⟨qo, po, hpo, rfl, hSp⟩
              have HSo := Lib.hid (St.unpack (A := [RdE b vb pm]) (A' := [RdE b vb po]) (R := [X, Ent.box w.heap.size #[.int .i64 0, .slice none 0 0, .slice none 0 0, .slice none 0 0] 26, Ent.box bx #[.int .i64 ((S : Nat) : Int), .slice a1 NN.length c1, .slice a2 FF.length c2, .slice a3 EE.length c3] 26, Ent.row 76 3 (.slice a1 NN.length c1) NN.length (NN.flatMap moveCells), Ent.row 3 1 (.slice a2 FF.length c2) FF.length (intCells FF), Ent.row 3 1 (.slice a3 EE.length c3) EE.length (intCells EE)]) HSc.out hSp)
              clear hSp
              cases qo
              · have HSr2 := HSo
                have t0 := HSr2.out.cell (v := .int .i64 ((S : Nat) : Int)) 3 0 rfl rfl
                have t1 := HSr2.out.cell (v := .slice a1 NN.length c1) 3 1 rfl rfl
                have t2 := HSr2.out.cell (v := .slice a2 FF.length c2) 3 2 rfl rfl
                have t3 := HSr2.out.cell (v := .slice a3 EE.length c3) 3 3 rfl rfl
                have f0 := HSr2.out.fr 2 0 rfl
                have k0 := HSr2.out.cell (v := .int .i64 0) 2 0 rfl rfl
                have f1 := HSr2.out.fr 2 1 rfl
                have k1 := HSr2.out.cell (v := .slice none 0 0) 2 1 rfl rfl
                have f2 := HSr2.out.fr 2 2 rfl
                have k2 := HSr2.out.cell (v := .slice none 0 0) 2 2 rfl rfl
                have f3 := HSr2.out.fr 2 3 rfl
                have k3 := HSr2.out.cell (v := .slice none 0 0) 2 3 rfl rfl
                go_wp2
                have hq := ((((HSr2.out.set 2 rfl 0 (.int .i64 ((S : Nat) : Int))).set 2 rfl 1 (.slice a1 NN.length c1)).set 2 rfl 2 (.slice a2 FF.length c2)).set 2 rfl 3 (.slice a3 EE.length c3))
                have q0 := hq.cell (v := .int .i64 ((S : Nat) : Int)) 2 0 rfl rfl
                have q1 := hq.cell (v := .slice a1 NN.length c1) 2 1 rfl rfl
                have q2 := hq.cell (v := .slice a2 FF.length c2) 2 2 rfl rfl
                have q3 := hq.cell (v := .slice a3 EE.length c3) 2 3 rfl rfl
                refine bodyPost_ret (v := .agg #[.int .i64 ((S : Nat) : Int), .slice a1 NN.length c1, .slice a2 FF.length c2, .slice a3 EE.length c3]) (by simp [results, Try.results34, go_sem, q0, q1, q2, q3]) rfl ?_
                refine ⟨⟨((S : Nat) : Int), NN, FF, EE⟩, po, _, _, _, _, _, _, by omega, hz0', hz1', by simp only; omega, by simp only; omega, by simp only; omega, rfl, ?_⟩
                exact hq.pick [0, 1, 4, 5, 6] (by decide)
              · go_wp2_with fail
                refine (pick_any bs vb b (po) 4 w0 _ _ Hb.out hlen (by omega) (by omega) (by omega) (St.pack (A := [RdE b vb (po)]) (R := [X, Ent.box w.heap.size #[.int .i64 0, .slice none 0 0, .slice none 0 0, .slice none 0 0] 26, Ent.box bx #[.int .i64 ((S : Nat) : Int), .slice a1 NN.length c1, .slice a2 FF.length c2, .slice a3 EE.length c3] 26, Ent.row 76 3 (.slice a1 NN.length c1) NN.length (NN.flatMap moveCells), Ent.row 3 1 (.slice a2 FF.length c2) FF.length (intCells FF), Ent.row 3 1 (.slice a3 EE.length c3) EE.length (intCells EE)]) HSo.out)).mono ?_
                rintro e wk ⟨k4, hk4, rfl, hSp⟩
                have HSk := Lib.hid (St.unpack (A := [RdE b vb (po)]) (A' := [RdE b vb (po + 1)]) (R := [X, Ent.box w.heap.size #[.int .i64 0, .slice none 0 0, .slice none 0 0, .slice none 0 0] 26, Ent.box bx #[.int .i64 ((S : Nat) : Int), .slice a1 NN.length c1, .slice a2 FF.length c2, .slice a3 EE.length c3] 26, Ent.row 76 3 (.slice a1 NN.length c1) NN.length (NN.flatMap moveCells), Ent.row 3 1 (.slice a2 FF.length c2) FF.length (intCells FF), Ent.row 3 1 (.slice a3 EE.length c3) EE.length (intCells EE)]) HSo.out hSp)
                clear hSp
                obtain h40 | h41 | h42 | h43 : (k4 : Int) = 0 ∨ (k4 : Int) = 1 ∨ (k4 : Int) = 2 ∨ (k4 : Int) = 3 := by omega
                · obtain ⟨z0a, z0b, z0c⟩ := yes_eqI h40
                  obtain ⟨z1a, z1b, z1c, z1d⟩ := not_eqI (show (k4 : Int) ≠ 1 by omega)
                  obtain ⟨z2a, z2b, z2c, z2d⟩ := not_eqI (show (k4 : Int) ≠ 2 by omega)
                  clear h40
                  have hSa := HSk.out.alloc_ (.cells #[.int .i64 0, .int .i64 3, .int .i64 0] 76)
                  have HRa := Lib.hid (hSa.row 4 rfl)
                  have HSa := Lib.hid hSa
                  have e5 := HSk.out.cell (v := .slice a1 NN.length c1) 3 1 rfl rfl
                  clear hSa
                  go_wp2_with (at_builtin; refine wpList_append_lies _ rfl _ _ _ rfl _ 76 i0 (.agg #[.int .i64 0, .int .i64 0, .int .i64 0]) 3 24 Try.underlying23 Hhi.out Hhz0.out Hhz1.out Hhz2.out rfl (by omega) _ NN.length _ rfl HRa.out ⟨wk.heap.size, 0, none⟩ 1 1 [.int .i64 0, .int .i64 3, .int .i64 0] rfl rfl (World.news_of_block (heap_alloc_new wk _)) one_mv (by omega) (by unfold maxLen; omega) (by omega) HSa.out.size _ rfl ?_; intro g6 c6 w6 hown6 hgrow6 hat6 hlt6; have HS6 := Lib.hid (HSa.out.app 4 rfl hown6 hgrow6 hat6); have y1 := HS6.out.cell (v := .slice a1 NN.length c1) 3 1 rfl rfl; have y2 := HS6.out.fr 3 1 rfl; have HSf := Lib.hid (HS6.out.set 3 rfl 1 (.slice (some ⟨g6, 0, none⟩) (NN.length + 1) c6)); have t0 := HSf.out.cell (v := .int .i64 ((S : Nat) : Int)) 3 0 rfl rfl; have t1 := HSf.out.cell (v := .slice (some ⟨g6, 0, none⟩) (NN.length + 1) c6) 3 1 rfl rfl; have t2 := HSf.out.cell (v := .slice a2 FF.length c2) 3 2 rfl rfl; have t3 := HSf.out.cell (v := .slice a3 EE.length c3) 3 3 rfl rfl; have f0 := HSf.out.fr 2 0 rfl; have k0q := HSf.out.cell (v := .int .i64 0) 2 0 rfl rfl; have f1 := HSf.out.fr 2 1 rfl; have k1q := HSf.out.cell (v := .slice none 0 0) 2 1 rfl rfl; have f2 := HSf.out.fr 2 2 rfl; have k2q := HSf.out.cell (v := .slice none 0 0) 2 2 rfl rfl; have f3 := HSf.out.fr 2 3 rfl; have k3q := HSf.out.cell (v := .slice none 0 0) 2 3 rfl rfl; clear hown6 hgrow6 hat6 hlt6)
                  have hq := ((((HSf.out.set 2 rfl 0 (.int .i64 ((S : Nat) : Int))).set 2 rfl 1 (.slice (some ⟨g6, 0, none⟩) (NN.length + 1) c6)).set 2 rfl 2 (.slice a2 FF.length c2)).set 2 rfl 3 (.slice a3 EE.length c3))
                  have q0 := hq.cell (v := .int .i64 ((S : Nat) : Int)) 2 0 rfl rfl
                  have q1 := hq.cell (v := .slice (some ⟨g6, 0, none⟩) (NN.length + 1) c6) 2 1 rfl rfl
                  have q2 := hq.cell (v := .slice a2 FF.length c2) 2 2 rfl rfl
                  have q3 := hq.cell (v := .slice a3 EE.length c3) 2 3 rfl rfl
                  refine bodyPost_ret (v := .agg #[.int .i64 ((S : Nat) : Int), .slice (some ⟨g6, 0, none⟩) (NN.length + 1) c6, .slice a2 FF.length c2, .slice a3 EE.length c3]) (by simp [results, Try.results34, go_sem, q0, q1, q2, q3]) rfl ?_
                  refine ⟨⟨((S : Nat) : Int), NN ++ [(0, 3, 0)], FF, EE⟩, po + 1, (some ⟨g6, 0, none⟩), a2, a3, c6, c2, c3, by omega, hz0', hz1', by simp only [List.length_append, List.length_singleton]; omega, by simp only; omega, by simp only; omega, by simp only [List.length_append, List.length_singleton], ?_⟩
                  simp only [List.length_append, List.length_singleton, List.flatMap_append]
                  exact hq.pick [0, 1, 4, 5, 6] (by decide)
                · obtain ⟨z1a, z1b, z1c⟩ := yes_eqI h41
                  obtain ⟨z0a, z0b, z0c, z0d⟩ := not_eqI (show (k4 : Int) ≠ 0 by omega)
                  obtain ⟨z2a, z2b, z2c, z2d⟩ := not_eqI (show (k4 : Int) ≠ 2 by omega)
                  clear h41
                  have e6 := HSk.out.cell (v := .int .i64 ((S : Nat) : Int)) 3 0 rfl rfl
                  have hSa := HSk.out.alloc_ (.cells #[.int .i64 ((S : Nat) : Int)] 3)
                  have HRa := Lib.hid (hSa.row 6 rfl)
                  have HSa := Lib.hid hSa
                  have e5 := HSk.out.cell (v := .slice a3 EE.length c3) 3 3 rfl rfl
                  clear hSa
                  go_wp2_with (at_builtin; refine wpList_append_lies _ rfl _ _ _ rfl _ 3 j0 (.int .i64 0) 1 8 Try.underlying24 Hhj.out Hhy0.out Hhy1.out Hhy2.out rfl (by omega) _ EE.length _ rfl HRa.out ⟨wk.heap.size, 0, none⟩ 1 1 [.int .i64 ((S : Nat) : Int)] rfl rfl (World.news_of_block (heap_alloc_new wk _)) one_int (by omega) (by unfold maxLen; omega) (by omega) HSa.out.size _ rfl ?_; intro g6 c6 w6 hown6 hgrow6 hat6 hlt6; have HS6 := Lib.hid (HSa.out.app 6 rfl hown6 hgrow6 hat6); have y1 := HS6.out.cell (v := .slice a3 EE.length c3) 3 3 rfl rfl; have y2 := HS6.out.fr 3 3 rfl; have HSf := Lib.hid (HS6.out.set 3 rfl 3 (.slice (some ⟨g6, 0, none⟩) (EE.length + 1) c6)); have t0 := HSf.out.cell (v := .int .i64 ((S : Nat) : Int)) 3 0 rfl rfl; have t1 := HSf.out.cell (v := .slice a1 NN.length c1) 3 1 rfl rfl; have t2 := HSf.out.cell (v := .slice a2 FF.length c2) 3 2 rfl rfl; have t3 := HSf.out.cell (v := .slice (some ⟨g6, 0, none⟩) (EE.length + 1) c6) 3 3 rfl rfl; have f0 := HSf.out.fr 2 0 rfl; have k0q := HSf.out.cell (v := .int .i64 0) 2 0 rfl rfl; have f1 := HSf.out.fr 2 1 rfl; have k1q := HSf.out.cell (v := .slice none 0 0) 2 1 rfl rfl; have f2 := HSf.out.fr 2 2 rfl; have k2q := HSf.out.cell (v := .slice none 0 0) 2 2 rfl rfl; have f3 := HSf.out.fr 2 3 rfl; have k3q := HSf.out.cell (v := .slice none 0 0) 2 3 rfl rfl; clear hown6 hgrow6 hat6 hlt6)
                  have hq := ((((HSf.out.set 2 rfl 0 (.int .i64 ((S : Nat) : Int))).set 2 rfl 1 (.slice a1 NN.length c1)).set 2 rfl 2 (.slice a2 FF.length c2)).set 2 rfl 3 (.slice (some ⟨g6, 0, none⟩) (EE.length + 1) c6))
                  have q0 := hq.cell (v := .int .i64 ((S : Nat) : Int)) 2 0 rfl rfl
                  have q1 := hq.cell (v := .slice a1 NN.length c1) 2 1 rfl rfl
                  have q2 := hq.cell (v := .slice a2 FF.length c2) 2 2 rfl rfl
                  have q3 := hq.cell (v := .slice (some ⟨g6, 0, none⟩) (EE.length + 1) c6) 2 3 rfl rfl
                  refine bodyPost_ret (v := .agg #[.int .i64 ((S : Nat) : Int), .slice a1 NN.length c1, .slice a2 FF.length c2, .slice (some ⟨g6, 0, none⟩) (EE.length + 1) c6]) (by simp [results, Try.results34, go_sem, q0, q1, q2, q3]) rfl ?_
                  refine ⟨⟨((S : Nat) : Int), NN, FF, EE ++ [((S : Nat) : Int)]⟩, po + 1, a1, a2, (some ⟨g6, 0, none⟩), c1, c2, c6, by omega, hz0', hz1', by simp only; omega, by simp only; omega, by simp only [List.length_append, List.length_singleton]; omega, by simp only [List.length_append, List.length_singleton], ?_⟩
                  simp only [List.length_append, List.length_singleton, intCells_snoc]
                  exact hq.pick [0, 1, 4, 5, 6] (by decide)
                · obtain ⟨z2a, z2b, z2c⟩ := yes_eqI h42
                  obtain ⟨z0a, z0b, z0c, z0d⟩ := not_eqI (show (k4 : Int) ≠ 0 by omega)
                  obtain ⟨z1a, z1b, z1c, z1d⟩ := not_eqI (show (k4 : Int) ≠ 1 by omega)
                  clear h42
                  have hSa := HSk.out.alloc_ (.cells #[.int .i64 (-1)] 3)
                  have HRa := Lib.hid (hSa.row 5 rfl)
                  have HSa := Lib.hid hSa
                  have e5 := HSk.out.cell (v := .slice a2 FF.length c2) 3 2 rfl rfl
                  clear hSa
                  go_wp2_with (at_builtin; refine wpList_append_lies _ rfl _ _ _ rfl _ 3 j0 (.int .i64 0) 1 8 Try.underlying24 Hhj.out Hhy0.out Hhy1.out Hhy2.out rfl (by omega) _ FF.length _ rfl HRa.out ⟨wk.heap.size, 0, none⟩ 1 1 [.int .i64 (-1)] rfl rfl (World.news_of_block (heap_alloc_new wk _)) one_int (by omega) (by unfold maxLen; omega) (by omega) HSa.out.size _ rfl ?_; intro g6 c6 w6 hown6 hgrow6 hat6 hlt6; have HS6 := Lib.hid (HSa.out.app 5 rfl hown6 hgrow6 hat6); have y1 := HS6.out.cell (v := .slice a2 FF.length c2) 3 2 rfl rfl; have y2 := HS6.out.fr 3 2 rfl; have HSf := Lib.hid (HS6.out.set 3 rfl 2 (.slice (some ⟨g6, 0, none⟩) (FF.length + 1) c6)); have t0 := HSf.out.cell (v := .int .i64 ((S : Nat) : Int)) 3 0 rfl rfl; have t1 := HSf.out.cell (v := .slice a1 NN.length c1) 3 1 rfl rfl; have t2 := HSf.out.cell (v := .slice (some ⟨g6, 0, none⟩) (FF.length + 1) c6) 3 2 rfl rfl; have t3 := HSf.out.cell (v := .slice a3 EE.length c3) 3 3 rfl rfl; have f0 := HSf.out.fr 2 0 rfl; have k0q := HSf.out.cell (v := .int .i64 0) 2 0 rfl rfl; have f1 := HSf.out.fr 2 1 rfl; have k1q := HSf.out.cell (v := .slice none 0 0) 2 1 rfl rfl; have f2 := HSf.out.fr 2 2 rfl; have k2q := HSf.out.cell (v := .slice none 0 0) 2 2 rfl rfl; have f3 := HSf.out.fr 2 3 rfl; have k3q := HSf.out.cell (v := .slice none 0 0) 2 3 rfl rfl; clear hown6 hgrow6 hat6 hlt6)
                  have hq := ((((HSf.out.set 2 rfl 0 (.int .i64 ((S : Nat) : Int))).set 2 rfl 1 (.slice a1 NN.length c1)).set 2 rfl 2 (.slice (some ⟨g6, 0, none⟩) (FF.length + 1) c6)).set 2 rfl 3 (.slice a3 EE.length c3))
                  have q0 := hq.cell (v := .int .i64 ((S : Nat) : Int)) 2 0 rfl rfl
                  have q1 := hq.cell (v := .slice a1 NN.length c1) 2 1 rfl rfl
                  have q2 := hq.cell (v := .slice (some ⟨g6, 0, none⟩) (FF.length + 1) c6) 2 2 rfl rfl
                  have q3 := hq.cell (v := .slice a3 EE.length c3) 2 3 rfl rfl
                  refine bodyPost_ret (v := .agg #[.int .i64 ((S : Nat) : Int), .slice a1 NN.length c1, .slice (some ⟨g6, 0, none⟩) (FF.length + 1) c6, .slice a3 EE.length c3]) (by simp [results, Try.results34, go_sem, q0, q1, q2, q3]) rfl ?_
                  refine ⟨⟨((S : Nat) : Int), NN, FF ++ [-1], EE⟩, po + 1, a1, (some ⟨g6, 0, none⟩), a3, c1, c6, c3, by omega, hz0', hz1', by simp only; omega, by simp only [List.length_append, List.length_singleton]; omega, by simp only; omega, by simp only [List.length_append, List.length_singleton], ?_⟩
                  simp only [List.length_append, List.length_singleton, intCells_snoc]
                  exact hq.pick [0, 1, 4, 5, 6] (by decide)
                · obtain ⟨z0a, z0b, z0c, z0d⟩ := not_eqI (show (k4 : Int) ≠ 0 by omega)
                  obtain ⟨z1a, z1b, z1c, z1d⟩ := not_eqI (show (k4 : Int) ≠ 1 by omega)
                  obtain ⟨z2a, z2b, z2c, z2d⟩ := not_eqI (show (k4 : Int) ≠ 2 by omega)
                  clear h43
                  have HSb := Lib.hid (HSk.out.alloc _ rfl #[.int .i64 (-1), .int .i64 41] 3)
                  go_wp2_with fail
                  refine (pick_any bs vb b (po + 1) 2 w0 _ _ Hb.out hlen (by omega) (by omega) (by omega) (St.pack (A := [RdE b vb (po + 1)]) (R := [X, Ent.box w.heap.size #[.int .i64 0, .slice none 0 0, .slice none 0 0, .slice none 0 0] 26, Ent.box bx #[.int .i64 ((S : Nat) : Int), .slice a1 NN.length c1, .slice a2 FF.length c2, .slice a3 EE.length c3] 26, Ent.row 76 3 (.slice a1 NN.length c1) NN.length (NN.flatMap moveCells), Ent.row 3 1 (.slice a2 FF.length c2) FF.length (intCells FF), Ent.row 3 1 (.slice a3 EE.length c3) EE.length (intCells EE), Ent.box wk.heap.size #[.int .i64 (-1), .int .i64 41] 3]) HSb.out)).mono ?_
                  rintro e wc ⟨k2, hk2, rfl, hSp⟩
                  have HSc := Lib.hid (St.unpack (A := [RdE b vb (po + 1)]) (A' := [RdE b vb (po + 1 + 1)]) (R := [X, Ent.box w.heap.size #[.int .i64 0, .slice none 0 0, .slice none 0 0, .slice none 0 0] 26, Ent.box bx #[.int .i64 ((S : Nat) : Int), .slice a1 NN.length c1, .slice a2 FF.length c2, .slice a3 EE.length c3] 26, Ent.row 76 3 (.slice a1 NN.length c1) NN.length (NN.flatMap moveCells), Ent.row 3 1 (.slice a2 FF.length c2) FF.length (intCells FF), Ent.row 3 1 (.slice a3 EE.length c3) EE.length (intCells EE), Ent.box wk.heap.size #[.int .i64 (-1), .int .i64 41] 3]) HSb.out hSp)
                  clear hSp
                  obtain ⟨kv, hkv, hkb⟩ : ∃ kv : Int, (#[.int .i64 (-1), .int .i64 41] : Array Value)[k2]? = some (.int .i64 kv) ∧ (kv = -1 ∨ kv = 41) := by
                    obtain rfl | rfl : k2 = 0 ∨ k2 = 1 := by omega
                    all_goals exact ⟨_, rfl, by decide⟩
                  have e7 := HSc.out.cell (v := .int .i64 kv) 7 k2 rfl hkv
                  have hk2I : (k2 : Int) < 2 := by omega
                  have e8 := HSc.out.cell (v := .int .i64 ((S : Nat) : Int)) 3 0 rfl rfl
                  have e9' := HSc.out.fr 3 0 rfl
                  have HSf := Lib.hid ((HSc.out.set 3 rfl 0 (.int .i64 kv)).pick [0, 1, 2, 3, 4, 5, 6] (by decide))
                  have t0 := HSf.out.cell (v := .int .i64 kv) 3 0 rfl rfl
                  have t1 := HSf.out.cell (v := .slice a1 NN.length c1) 3 1 rfl rfl
                  have t2 := HSf.out.cell (v := .slice a2 FF.length c2) 3 2 rfl rfl
                  have t3 := HSf.out.cell (v := .slice a3 EE.length c3) 3 3 rfl rfl
                  have f0 := HSf.out.fr 2 0 rfl
                  have k0' := HSf.out.cell (v := .int .i64 0) 2 0 rfl rfl
                  have f1 := HSf.out.fr 2 1 rfl
                  have k1' := HSf.out.cell (v := .slice none 0 0) 2 1 rfl rfl
                  have f2 := HSf.out.fr 2 2 rfl
                  have k2' := HSf.out.cell (v := .slice none 0 0) 2 2 rfl rfl
                  have f3 := HSf.out.fr 2 3 rfl
                  have k3' := HSf.out.cell (v := .slice none 0 0) 2 3 rfl rfl
                  go_wp2
                  have hq := ((((HSf.out.set 2 rfl 0 (.int .i64 kv)).set 2 rfl 1 (.slice a1 NN.length c1)).set 2 rfl 2 (.slice a2 FF.length c2)).set 2 rfl 3 (.slice a3 EE.length c3))
                  have q0 := hq.cell (v := .int .i64 kv) 2 0 rfl rfl
                  have q1 := hq.cell (v := .slice a1 NN.length c1) 2 1 rfl rfl
                  have q2 := hq.cell (v := .slice a2 FF.length c2) 2 2 rfl rfl
                  have q3 := hq.cell (v := .slice a3 EE.length c3) 2 3 rfl rfl
                  refine bodyPost_ret (v := .agg #[.int .i64 kv, .slice a1 NN.length c1, .slice a2 FF.length c2, .slice a3 EE.length c3]) (by simp [results, Try.results34, go_sem, q0, q1, q2, q3]) rfl ?_
                  exact ⟨⟨kv, NN, FF, EE⟩, po + 1 + 1, _, _, _, _, _, _, by omega, by simp only; omega, by simp only; omega, by simp only; omega, by simp only; omega, by simp only; omega, rfl, hq.pick [0, 1, 4, 5, 6] (by decide)⟩
            · have t0 := HSb.out.cell (v := .int .i64 Y.states) 11 0 rfl rfl
              have t1 := HSb.out.cell (v := .slice ua Y.moves.length uc) 11 1 rfl rfl
              have t2 := HSb.out.cell (v := .slice va Y.firsts.length vc) 11 2 rfl rfl
              have t3 := HSb.out.cell (v := .slice xa Y.ends.length xc) 11 3 rfl rfl
              have f0 := HSb.out.fr 4 0 rfl
              have k0 := HSb.out.cell (v := .int .i64 ((S : Nat) : Int)) 4 0 rfl rfl
              have f1 := HSb.out.fr 4 1 rfl
              have k1 := HSb.out.cell (v := .slice a1 NN.length c1) 4 1 rfl rfl
              have f2 := HSb.out.fr 4 2 rfl
              have k2 := HSb.out.cell (v := .slice a2 FF.length c2) 4 2 rfl rfl
              have f3 := HSb.out.fr 4 3 rfl
              have k3 := HSb.out.cell (v := .slice a3 EE.length c3) 4 3 rfl rfl
              have hz0' : (-1 : Int) ≤ Y.states := by omega
              have hz1' : Y.states ≤ 41 := by omega
              have HSc := Lib.hid (((((HSb.out.set 4 rfl 0 (.int .i64 Y.states)).set 4 rfl 1 (.slice ua Y.moves.length uc)).set 4 rfl 2 (.slice va Y.firsts.length vc)).set 4 rfl 3 (.slice xa Y.ends.length xc)).pick [0, 2, 3, 4, 8, 9, 10] (by decide))
              go_wp2_with fail
              refine (odd_any bs vb b pm nn w0 _ _ Hb.out hlen (by omega) hnn (St.pack (A := [RdE b vb pm]) (R := [X, Ent.box w.heap.size #[.int .i64 0, .slice none 0 0, .slice none 0 0, .slice none 0 0] 26, Ent.box bx #[.int .i64 Y.states, .slice ua Y.moves.length uc, .slice va Y.firsts.length vc, .slice xa Y.ends.length xc] 26, Ent.row 76 3 (.slice ua Y.moves.length uc) Y.moves.length (Y.moves.flatMap moveCells), Ent.row 3 1 (.slice va Y.firsts.length vc) Y.firsts.length (intCells Y.firsts), Ent.row 3 1 (.slice xa Y.ends.length xc) Y.ends.length (intCells Y.ends)]) HSc.out)).mono ?_
              rintro e wo ⟨qo, po, hpo, rfl, hSp⟩
              have HSo := Lib.hid (St.unpack (A := [RdE b vb pm]) (A' := [RdE b vb po]) (R := [X, Ent.box w.heap.size #[.int .i64 0, .slice none 0 0, .slice none 0 0, .slice none 0 0] 26, Ent.box bx #[.int .i64 Y.states, .slice ua Y.moves.length uc, .slice va Y.firsts.length vc, .slice xa Y.ends.length xc] 26, Ent.row 76 3 (.slice ua Y.moves.length uc) Y.moves.length (Y.moves.flatMap moveCells), Ent.row 3 1 (.slice va Y.firsts.length vc) Y.firsts.length (intCells Y.firsts), Ent.row 3 1 (.slice xa Y.ends.length xc) Y.ends.length (intCells Y.ends)]) HSc.out hSp)
              clear hSp
              cases qo
              · have HSr2 := HSo
                have t0 := HSr2.out.cell (v := .int .i64 Y.states) 3 0 rfl rfl
                have t1 := HSr2.out.cell (v := .slice ua Y.moves.length uc) 3 1 rfl rfl
                have t2 := HSr2.out.cell (v := .slice va Y.firsts.length vc) 3 2 rfl rfl
                have t3 := HSr2.out.cell (v := .slice xa Y.ends.length xc) 3 3 rfl rfl
                have f0 := HSr2.out.fr 2 0 rfl
                have k0 := HSr2.out.cell (v := .int .i64 0) 2 0 rfl rfl
                have f1 := HSr2.out.fr 2 1 rfl
                have k1 := HSr2.out.cell (v := .slice none 0 0) 2 1 rfl rfl
                have f2 := HSr2.out.fr 2 2 rfl
                have k2 := HSr2.out.cell (v := .slice none 0 0) 2 2 rfl rfl
                have f3 := HSr2.out.fr 2 3 rfl
                have k3 := HSr2.out.cell (v := .slice none 0 0) 2 3 rfl rfl
                go_wp2
                have hq := ((((HSr2.out.set 2 rfl 0 (.int .i64 Y.states)).set 2 rfl 1 (.slice ua Y.moves.length uc)).set 2 rfl 2 (.slice va Y.firsts.length vc)).set 2 rfl 3 (.slice xa Y.ends.length xc))
                have q0 := hq.cell (v := .int .i64 Y.states) 2 0 rfl rfl
                have q1 := hq.cell (v := .slice ua Y.moves.length uc) 2 1 rfl rfl
                have q2 := hq.cell (v := .slice va Y.firsts.length vc) 2 2 rfl rfl
                have q3 := hq.cell (v := .slice xa Y.ends.length xc) 2 3 rfl rfl
                refine bodyPost_ret (v := .agg #[.int .i64 Y.states, .slice ua Y.moves.length uc, .slice va Y.firsts.length vc, .slice xa Y.ends.length xc]) (by simp [results, Try.results34, go_sem, q0, q1, q2, q3]) rfl ?_
                refine ⟨⟨Y.states, Y.moves, Y.firsts, Y.ends⟩, po, _, _, _, _, _, _, by omega, hz0', hz1', by simp only; omega, by simp only; omega, by simp only; omega, rfl, ?_⟩
                exact hq.pick [0, 1, 4, 5, 6] (by decide)
              · go_wp2_with fail
                refine (pick_any bs vb b (po) 4 w0 _ _ Hb.out hlen (by omega) (by omega) (by omega) (St.pack (A := [RdE b vb (po)]) (R := [X, Ent.box w.heap.size #[.int .i64 0, .slice none 0 0, .slice none 0 0, .slice none 0 0] 26, Ent.box bx #[.int .i64 Y.states, .slice ua Y.moves.length uc, .slice va Y.firsts.length vc, .slice xa Y.ends.length xc] 26, Ent.row 76 3 (.slice ua Y.moves.length uc) Y.moves.length (Y.moves.flatMap moveCells), Ent.row 3 1 (.slice va Y.firsts.length vc) Y.firsts.length (intCells Y.firsts), Ent.row 3 1 (.slice xa Y.ends.length xc) Y.ends.length (intCells Y.ends)]) HSo.out)).mono ?_
                rintro e wk ⟨k4, hk4, rfl, hSp⟩
                have HSk := Lib.hid (St.unpack (A := [RdE b vb (po)]) (A' := [RdE b vb (po + 1)]) (R := [X, Ent.box w.heap.size #[.int .i64 0, .slice none 0 0, .slice none 0 0, .slice none 0 0] 26, Ent.box bx #[.int .i64 Y.states, .slice ua Y.moves.length uc, .slice va Y.firsts.length vc, .slice xa Y.ends.length xc] 26, Ent.row 76 3 (.slice ua Y.moves.length uc) Y.moves.length (Y.moves.flatMap moveCells), Ent.row 3 1 (.slice va Y.firsts.length vc) Y.firsts.length (intCells Y.firsts), Ent.row 3 1 (.slice xa Y.ends.length xc) Y.ends.length (intCells Y.ends)]) HSo.out hSp)
                clear hSp
                obtain h40 | h41 | h42 | h43 : (k4 : Int) = 0 ∨ (k4 : Int) = 1 ∨ (k4 : Int) = 2 ∨ (k4 : Int) = 3 := by omega
                · obtain ⟨z0a, z0b, z0c⟩ := yes_eqI h40
                  obtain ⟨z1a, z1b, z1c, z1d⟩ := not_eqI (show (k4 : Int) ≠ 1 by omega)
                  obtain ⟨z2a, z2b, z2c, z2d⟩ := not_eqI (show (k4 : Int) ≠ 2 by omega)
                  clear h40
                  have hSa := HSk.out.alloc_ (.cells #[.int .i64 0, .int .i64 3, .int .i64 0] 76)
                  have HRa := Lib.hid (hSa.row 4 rfl)
                  have HSa := Lib.hid hSa
                  have e5 := HSk.out.cell (v := .slice ua Y.moves.length uc) 3 1 rfl rfl
                  clear hSa
                  go_wp2_with (at_builtin; refine wpList_append_lies _ rfl _ _ _ rfl _ 76 i0 (.agg #[.int .i64 0, .int .i64 0, .int .i64 0]) 3 24 Try.underlying23 Hhi.out Hhz0.out Hhz1.out Hhz2.out rfl (by omega) _ Y.moves.length _ rfl HRa.out ⟨wk.heap.size, 0, none⟩ 1 1 [.int .i64 0, .int .i64 3, .int .i64 0] rfl rfl (World.news_of_block (heap_alloc_new wk _)) one_mv (by omega) (by unfold maxLen; omega) (by omega) HSa.out.size _ rfl ?_; intro g6 c6 w6 hown6 hgrow6 hat6 hlt6; have HS6 := Lib.hid (HSa.out.app 4 rfl hown6 hgrow6 hat6); have y1 := HS6.out.cell (v := .slice ua Y.moves.length uc) 3 1 rfl rfl; have y2 := HS6.out.fr 3 1 rfl; have HSf := Lib.hid (HS6.out.set 3 rfl 1 (.slice (some ⟨g6, 0, none⟩) (Y.moves.length + 1) c6)); have t0 := HSf.out.cell (v := .int .i64 Y.states) 3 0 rfl rfl; have t1 := HSf.out.cell (v := .slice (some ⟨g6, 0, none⟩) (Y.moves.length + 1) c6) 3 1 rfl rfl; have t2 := HSf.out.cell (v := .slice va Y.firsts.length vc) 3 2 rfl rfl; have t3 := HSf.out.cell (v := .slice xa Y.ends.length xc) 3 3 rfl rfl; have f0 := HSf.out.fr 2 0 rfl; have k0q := HSf.out.cell (v := .int .i64 0) 2 0 rfl rfl; have f1 := HSf.out.fr 2 1 rfl; have k1q := HSf.out.cell (v := .slice none 0 0) 2 1 rfl rfl; have f2 := HSf.out.fr 2 2 rfl; have k2q := HSf.out.cell (v := .slice none 0 0) 2 2 rfl rfl; have f3 := HSf.out.fr 2 3 rfl; have k3q := HSf.out.cell (v := .slice none 0 0) 2 3 rfl rfl; clear hown6 hgrow6 hat6 hlt6)
                  have hq := ((((HSf.out.set 2 rfl 0 (.int .i64 Y.states)).set 2 rfl 1 (.slice (some ⟨g6, 0, none⟩) (Y.moves.length + 1) c6)).set 2 rfl 2 (.slice va Y.firsts.length vc)).set 2 rfl 3 (.slice xa Y.ends.length xc))
                  have q0 := hq.cell (v := .int .i64 Y.states) 2 0 rfl rfl
                  have q1 := hq.cell (v := .slice (some ⟨g6, 0, none⟩) (Y.moves.length + 1) c6) 2 1 rfl rfl
                  have q2 := hq.cell (v := .slice va Y.firsts.length vc) 2 2 rfl rfl
                  have q3 := hq.cell (v := .slice xa Y.ends.length xc) 2 3 rfl rfl
                  refine bodyPost_ret (v := .agg #[.int .i64 Y.states, .slice (some ⟨g6, 0, none⟩) (Y.moves.length + 1) c6, .slice va Y.firsts.length vc, .slice xa Y.ends.length xc]) (by simp [results, Try.results34, go_sem, q0, q1, q2, q3]) rfl ?_
                  refine ⟨⟨Y.states, Y.moves ++ [(0, 3, 0)], Y.firsts, Y.ends⟩, po + 1, (some ⟨g6, 0, none⟩), va, xa, c6, vc, xc, by omega, hz0', hz1', by simp only [List.length_append, List.length_singleton]; omega, by simp only; omega, by simp only; omega, by simp only [List.length_append, List.length_singleton], ?_⟩
                  simp only [List.length_append, List.length_singleton, List.flatMap_append]
                  exact hq.pick [0, 1, 4, 5, 6] (by decide)
                · obtain ⟨z1a, z1b, z1c⟩ := yes_eqI h41
                  obtain ⟨z0a, z0b, z0c, z0d⟩ := not_eqI (show (k4 : Int) ≠ 0 by omega)
                  obtain ⟨z2a, z2b, z2c, z2d⟩ := not_eqI (show (k4 : Int) ≠ 2 by omega)
                  clear h41
                  have e6 := HSk.out.cell (v := .int .i64 Y.states) 3 0 rfl rfl
                  have hSa := HSk.out.alloc_ (.cells #[.int .i64 Y.states] 3)
                  have HRa := Lib.hid (hSa.row 6 rfl)
                  have HSa := Lib.hid hSa
                  have e5 := HSk.out.cell (v := .slice xa Y.ends.length xc) 3 3 rfl rfl
                  clear hSa
                  go_wp2_with (at_builtin; refine wpList_append_lies _ rfl _ _ _ rfl _ 3 j0 (.int .i64 0) 1 8 Try.underlying24 Hhj.out Hhy0.out Hhy1.out Hhy2.out rfl (by omega) _ Y.ends.length _ rfl HRa.out ⟨wk.heap.size, 0, none⟩ 1 1 [.int .i64 Y.states] rfl rfl (World.news_of_block (heap_alloc_new wk _)) one_int (by omega) (by unfold maxLen; omega) (by omega) HSa.out.size _ rfl ?_; intro g6 c6 w6 hown6 hgrow6 hat6 hlt6; have HS6 := Lib.hid (HSa.out.app 6 rfl hown6 hgrow6 hat6); have y1 := HS6.out.cell (v := .slice xa Y.ends.length xc) 3 3 rfl rfl; have y2 := HS6.out.fr 3 3 rfl; have HSf := Lib.hid (HS6.out.set 3 rfl 3 (.slice (some ⟨g6, 0, none⟩) (Y.ends.length + 1) c6)); have t0 := HSf.out.cell (v := .int .i64 Y.states) 3 0 rfl rfl; have t1 := HSf.out.cell (v := .slice ua Y.moves.length uc) 3 1 rfl rfl; have t2 := HSf.out.cell (v := .slice va Y.firsts.length vc) 3 2 rfl rfl; have t3 := HSf.out.cell (v := .slice (some ⟨g6, 0, none⟩) (Y.ends.length + 1) c6) 3 3 rfl rfl; have f0 := HSf.out.fr 2 0 rfl; have k0q := HSf.out.cell (v := .int .i64 0) 2 0 rfl rfl; have f1 := HSf.out.fr 2 1 rfl; have k1q := HSf.out.cell (v := .slice none 0 0) 2 1 rfl rfl; have f2 := HSf.out.fr 2 2 rfl; have k2q := HSf.out.cell (v := .slice none 0 0) 2 2 rfl rfl; have f3 := HSf.out.fr 2 3 rfl; have k3q := HSf.out.cell (v := .slice none 0 0) 2 3 rfl rfl; clear hown6 hgrow6 hat6 hlt6)
                  have hq := ((((HSf.out.set 2 rfl 0 (.int .i64 Y.states)).set 2 rfl 1 (.slice ua Y.moves.length uc)).set 2 rfl 2 (.slice va Y.firsts.length vc)).set 2 rfl 3 (.slice (some ⟨g6, 0, none⟩) (Y.ends.length + 1) c6))
                  have q0 := hq.cell (v := .int .i64 Y.states) 2 0 rfl rfl
                  have q1 := hq.cell (v := .slice ua Y.moves.length uc) 2 1 rfl rfl
                  have q2 := hq.cell (v := .slice va Y.firsts.length vc) 2 2 rfl rfl
                  have q3 := hq.cell (v := .slice (some ⟨g6, 0, none⟩) (Y.ends.length + 1) c6) 2 3 rfl rfl
                  refine bodyPost_ret (v := .agg #[.int .i64 Y.states, .slice ua Y.moves.length uc, .slice va Y.firsts.length vc, .slice (some ⟨g6, 0, none⟩) (Y.ends.length + 1) c6]) (by simp [results, Try.results34, go_sem, q0, q1, q2, q3]) rfl ?_
                  refine ⟨⟨Y.states, Y.moves, Y.firsts, Y.ends ++ [Y.states]⟩, po + 1, ua, va, (some ⟨g6, 0, none⟩), uc, vc, c6, by omega, hz0', hz1', by simp only; omega, by simp only; omega, by simp only [List.length_append, List.length_singleton]; omega, by simp only [List.length_append, List.length_singleton], ?_⟩
                  simp only [List.length_append, List.length_singleton, intCells_snoc]
                  exact hq.pick [0, 1, 4, 5, 6] (by decide)
                · obtain ⟨z2a, z2b, z2c⟩ := yes_eqI h42
                  obtain ⟨z0a, z0b, z0c, z0d⟩ := not_eqI (show (k4 : Int) ≠ 0 by omega)
                  obtain ⟨z1a, z1b, z1c, z1d⟩ := not_eqI (show (k4 : Int) ≠ 1 by omega)
                  clear h42
                  have hSa := HSk.out.alloc_ (.cells #[.int .i64 (-1)] 3)
                  have HRa := Lib.hid (hSa.row 5 rfl)
                  have HSa := Lib.hid hSa
                  have e5 := HSk.out.cell (v := .slice va Y.firsts.length vc) 3 2 rfl rfl
                  clear hSa
                  go_wp2_with (at_builtin; refine wpList_append_lies _ rfl _ _ _ rfl _ 3 j0 (.int .i64 0) 1 8 Try.underlying24 Hhj.out Hhy0.out Hhy1.out Hhy2.out rfl (by omega) _ Y.firsts.length _ rfl HRa.out ⟨wk.heap.size, 0, none⟩ 1 1 [.int .i64 (-1)] rfl rfl (World.news_of_block (heap_alloc_new wk _)) one_int (by omega) (by unfold maxLen; omega) (by omega) HSa.out.size _ rfl ?_; intro g6 c6 w6 hown6 hgrow6 hat6 hlt6; have HS6 := Lib.hid (HSa.out.app 5 rfl hown6 hgrow6 hat6); have y1 := HS6.out.cell (v := .slice va Y.firsts.length vc) 3 2 rfl rfl; have y2 := HS6.out.fr 3 2 rfl; have HSf := Lib.hid (HS6.out.set 3 rfl 2 (.slice (some ⟨g6, 0, none⟩) (Y.firsts.length + 1) c6)); have t0 := HSf.out.cell (v := .int .i64 Y.states) 3 0 rfl rfl; have t1 := HSf.out.cell (v := .slice ua Y.moves.length uc) 3 1 rfl rfl; have t2 := HSf.out.cell (v := .slice (some ⟨g6, 0, none⟩) (Y.firsts.length + 1) c6) 3 2 rfl rfl; have t3 := HSf.out.cell (v := .slice xa Y.ends.length xc) 3 3 rfl rfl; have f0 := HSf.out.fr 2 0 rfl; have k0q := HSf.out.cell (v := .int .i64 0) 2 0 rfl rfl; have f1 := HSf.out.fr 2 1 rfl; have k1q := HSf.out.cell (v := .slice none 0 0) 2 1 rfl rfl; have f2 := HSf.out.fr 2 2 rfl; have k2q := HSf.out.cell (v := .slice none 0 0) 2 2 rfl rfl; have f3 := HSf.out.fr 2 3 rfl; have k3q := HSf.out.cell (v := .slice none 0 0) 2 3 rfl rfl; clear hown6 hgrow6 hat6 hlt6)
                  have hq := ((((HSf.out.set 2 rfl 0 (.int .i64 Y.states)).set 2 rfl 1 (.slice ua Y.moves.length uc)).set 2 rfl 2 (.slice (some ⟨g6, 0, none⟩) (Y.firsts.length + 1) c6)).set 2 rfl 3 (.slice xa Y.ends.length xc))
                  have q0 := hq.cell (v := .int .i64 Y.states) 2 0 rfl rfl
                  have q1 := hq.cell (v := .slice ua Y.moves.length uc) 2 1 rfl rfl
                  have q2 := hq.cell (v := .slice (some ⟨g6, 0, none⟩) (Y.firsts.length + 1) c6) 2 2 rfl rfl
                  have q3 := hq.cell (v := .slice xa Y.ends.length xc) 2 3 rfl rfl
                  refine bodyPost_ret (v := .agg #[.int .i64 Y.states, .slice ua Y.moves.length uc, .slice (some ⟨g6, 0, none⟩) (Y.firsts.length + 1) c6, .slice xa Y.ends.length xc]) (by simp [results, Try.results34, go_sem, q0, q1, q2, q3]) rfl ?_
                  refine ⟨⟨Y.states, Y.moves, Y.firsts ++ [-1], Y.ends⟩, po + 1, ua, (some ⟨g6, 0, none⟩), xa, uc, c6, xc, by omega, hz0', hz1', by simp only; omega, by simp only [List.length_append, List.length_singleton]; omega, by simp only; omega, by simp only [List.length_append, List.length_singleton], ?_⟩
                  simp only [List.length_append, List.length_singleton, intCells_snoc]
                  exact hq.pick [0, 1, 4, 5, 6] (by decide)
                · obtain ⟨z0a, z0b, z0c, z0d⟩ := not_eqI (show (k4 : Int) ≠ 0 by omega)
                  obtain ⟨z1a, z1b, z1c, z1d⟩ := not_eqI (show (k4 : Int) ≠ 1 by omega)
                  obtain ⟨z2a, z2b, z2c, z2d⟩ := not_eqI (show (k4 : Int) ≠ 2 by omega)
                  clear h43
                  have HSb := Lib.hid (HSk.out.alloc _ rfl #[.int .i64 (-1), .int .i64 41] 3)
                  go_wp2_with fail
                  refine (pick_any bs vb b (po + 1) 2 w0 _ _ Hb.out hlen (by omega) (by omega) (by omega) (St.pack (A := [RdE b vb (po + 1)]) (R := [X, Ent.box w.heap.size #[.int .i64 0, .slice none 0 0, .slice none 0 0, .slice none 0 0] 26, Ent.box bx #[.int .i64 Y.states, .slice ua Y.moves.length uc, .slice va Y.firsts.length vc, .slice xa Y.ends.length xc] 26, Ent.row 76 3 (.slice ua Y.moves.length uc) Y.moves.length (Y.moves.flatMap moveCells), Ent.row 3 1 (.slice va Y.firsts.length vc) Y.firsts.length (intCells Y.firsts), Ent.row 3 1 (.slice xa Y.ends.length xc) Y.ends.length (intCells Y.ends), Ent.box wk.heap.size #[.int .i64 (-1), .int .i64 41] 3]) HSb.out)).mono ?_
                  rintro e wc ⟨k2, hk2, rfl, hSp⟩
                  have HSc := Lib.hid (St.unpack (A := [RdE b vb (po + 1)]) (A' := [RdE b vb (po + 1 + 1)]) (R := [X, Ent.box w.heap.size #[.int .i64 0, .slice none 0 0, .slice none 0 0, .slice none 0 0] 26, Ent.box bx #[.int .i64 Y.states, .slice ua Y.moves.length uc, .slice va Y.firsts.length vc, .slice xa Y.ends.length xc] 26, Ent.row 76 3 (.slice ua Y.moves.length uc) Y.moves.length (Y.moves.flatMap moveCells), Ent.row 3 1 (.slice va Y.firsts.length vc) Y.firsts.length (intCells Y.firsts), Ent.row 3 1 (.slice xa Y.ends.length xc) Y.ends.length (intCells Y.ends), Ent.box wk.heap.size #[.int .i64 (-1), .int .i64 41] 3]) HSb.out hSp)
                  clear hSp
                  obtain ⟨kv, hkv, hkb⟩ : ∃ kv : Int, (#[.int .i64 (-1), .int .i64 41] : Array Value)[k2]? = some (.int .i64 kv) ∧ (kv = -1 ∨ kv = 41) := by
                    obtain rfl | rfl : k2 = 0 ∨ k2 = 1 := by omega
                    all_goals exact ⟨_, rfl, by decide⟩
                  have e7 := HSc.out.cell (v := .int .i64 kv) 7 k2 rfl hkv
                  have hk2I : (k2 : Int) < 2 := by omega
                  have e8 := HSc.out.cell (v := .int .i64 Y.states) 3 0 rfl rfl
                  have e9' := HSc.out.fr 3 0 rfl
                  have HSf := Lib.hid ((HSc.out.set 3 rfl 0 (.int .i64 kv)).pick [0, 1, 2, 3, 4, 5, 6] (by decide))
                  have t0 := HSf.out.cell (v := .int .i64 kv) 3 0 rfl rfl
                  have t1 := HSf.out.cell (v := .slice ua Y.moves.length uc) 3 1 rfl rfl
                  have t2 := HSf.out.cell (v := .slice va Y.firsts.length vc) 3 2 rfl rfl
                  have t3 := HSf.out.cell (v := .slice xa Y.ends.length xc) 3 3 rfl rfl
                  have f0 := HSf.out.fr 2 0 rfl
                  have k0' := HSf.out.cell (v := .int .i64 0) 2 0 rfl rfl
                  have f1 := HSf.out.fr 2 1 rfl
                  have k1' := HSf.out.cell (v := .slice none 0 0) 2 1 rfl rfl
                  have f2 := HSf.out.fr 2 2 rfl
                  have k2' := HSf.out.cell (v := .slice none 0 0) 2 2 rfl rfl
                  have f3 := HSf.out.fr 2 3 rfl
                  have k3' := HSf.out.cell (v := .slice none 0 0) 2 3 rfl rfl
                  go_wp2
                  have hq := ((((HSf.out.set 2 rfl 0 (.int .i64 kv)).set 2 rfl 1 (.slice ua Y.moves.length uc)).set 2 rfl 2 (.slice va Y.firsts.length vc)).set 2 rfl 3 (.slice xa Y.ends.length xc))
                  have q0 := hq.cell (v := .int .i64 kv) 2 0 rfl rfl
                  have q1 := hq.cell (v := .slice ua Y.moves.length uc) 2 1 rfl rfl
                  have q2 := hq.cell (v := .slice va Y.firsts.length vc) 2 2 rfl rfl
                  have q3 := hq.cell (v := .slice xa Y.ends.length xc) 2 3 rfl rfl
                  refine bodyPost_ret (v := .agg #[.int .i64 kv, .slice ua Y.moves.length uc, .slice va Y.firsts.length vc, .slice xa Y.ends.length xc]) (by simp [results, Try.results34, go_sem, q0, q1, q2, q3]) rfl ?_
                  exact ⟨⟨kv, Y.moves, Y.firsts, Y.ends⟩, po + 1 + 1, _, _, _, _, _, _, by omega, by simp only; omega, by simp only; omega, by simp only; omega, by simp only; omega, by simp only; omega, rfl, hq.pick [0, 1, 4, 5, 6] (by decide)⟩

end Go.Proofs.Ytjcegbcmomfgaaa
