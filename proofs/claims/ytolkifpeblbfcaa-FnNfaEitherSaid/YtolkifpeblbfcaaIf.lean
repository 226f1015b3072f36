/-
  The walk over the program's eitherNfa.
  Conditions: the automata are readable and in order.
-/
import Derived.Test.YtolkifpeblbfcaaIe
namespace Go.Proofs.Ytolkifpeblbfcaa
open Go.RowKit

set_option maxRecDepth 100000 in
set_option maxHeartbeats 16000000 in
theorem eitherNfa_any (p q : NfaD) (v1 v2 v3 u1 u2 u3 : Value) (w : World) (hp : nfaOk p = true) (hq : nfaOk q = true) (h1 : Moves 0 w v1 p.moves) (h2 : Ints 0 w v2 p.firsts) (h3 : Ints 0 w v3 p.ends) (g1 : Moves 0 w u1 q.moves) (g2 : Ints 0 w u2 q.firsts) (g3 : Ints 0 w u3 q.ends) :
    Calls Try.prog 126 #[.agg #[.int .i64 p.states, v1, v2, v3], .agg #[.int .i64 q.states, u1, u2, u3]] w fun e w' => RNfaS (eithN p q) w e w' := by
  obtain ⟨S, hSp, hS40, hpm, hpl, hpf, hpfl, hpe, hpel⟩ := nfaOk_facts hp
  obtain ⟨Q, hQq, hQ40, hqm, hql, hqf, hqfl, hqe, hqel⟩ := nfaOk_facts hq
  have hsm := fun (u : World) (hu : Below w.heap.size w u) => shiftedMoves_any p q S v1 v2 v3 u1 u2 u3 u hSp hS40 (by omega) (by omega) (mvIn_40 hqm hQ40) (h1.below hu) (g1.below hu)
  have hsf := fun (u : World) (hu : Below w.heap.size w u) => shifted_any q.firsts u2 (S : Int) u (by omega) (fun x hx => by have := hqf x hx; omega) (by omega) (g2.below hu)
  have hcf := fun (u : World) (b : Nat) (va vb : Value) (hb : b < u.heap.size) (k0 : u.cell? ⟨b, 0, none⟩ = some va) (k1 : u.cell? ⟨b, 1, none⟩ = some vb) (hx : Ints 0 u va p.firsts) (hy : u.ownsRow w.heap.size 3 1 vb (q.firsts.map (· + (S : Int))).length (intCells (q.firsts.map (· + (S : Int))))) => concat_any p.firsts (q.firsts.map (· + (S : Int))) va vb b 2 u (by omega) (by rw [List.length_map]; omega) hb k0 k1 hx (ints_of_row' hy)
  have hce := fun (u : World) (b : Nat) (va vb : Value) (hb : b < u.heap.size) (k0 : u.cell? ⟨b, 0, none⟩ = some va) (k1 : u.cell? ⟨b, 1, none⟩ = some vb) (hx : Ints 0 u va p.ends) (hy : u.ownsRow w.heap.size 3 1 vb (q.ends.map (· + (S : Int))).length (intCells (q.ends.map (· + (S : Int))))) => concat_any p.ends (q.ends.map (· + (S : Int))) va vb b 2 u (by omega) (by rw [List.length_map]; omega) hb k0 k1 hx (ints_of_row' hy)
  simp only [List.length_map] at hcf hce
  have H2 := Lib.hid h2
  have H3 := Lib.hid h3
  have hse := fun (u : World) (hu : Below w.heap.size w u) => shifted_any q.ends u3 (S : Int) u (by omega) (fun x hx => by have := hqe x hx; omega) (by omega) (g3.below hu)
  obtain ⟨pa1, pc1, rfl, -, -, -⟩ := h1.form
  obtain ⟨pa2, pc2, rfl, -, -, -⟩ := h2.form
  obtain ⟨pa3, pc3, rfl, -, -, -⟩ := h3.form
  obtain ⟨qa1, qc1, rfl, -, -, -⟩ := g1.form
  obtain ⟨qa2, qc2, rfl, -, -, -⟩ := g2.form
  obtain ⟨qa3, qc3, rfl, -, -, -⟩ := g3.form
  obtain ⟨L1, hL1⟩ : ∃ L, L = p.moves.length := ⟨_, rfl⟩
  obtain ⟨F1, hF1⟩ : ∃ L, L = p.firsts.length := ⟨_, rfl⟩
  obtain ⟨E1, hE1⟩ : ∃ L, L = p.ends.length := ⟨_, rfl⟩
  obtain ⟨L2, hL2⟩ : ∃ L, L = q.moves.length := ⟨_, rfl⟩
  obtain ⟨F2, hF2⟩ : ∃ L, L = q.firsts.length := ⟨_, rfl⟩
  obtain ⟨E2, hE2⟩ : ∃ L, L = q.ends.length := ⟨_, rfl⟩
  have hS0 := (((St.start w).alloc _ rfl #[.int .i64 p.states, .slice pa1 p.moves.length pc1, .slice pa2 p.firsts.length pc2, .slice pa3 p.ends.length pc3] 46).alloc (w.heap.size + 1) (by simp) #[.int .i64 q.states, .slice qa1 q.moves.length qc1, .slice qa2 q.firsts.length qc2, .slice qa3 q.ends.length qc3] 46).alloc (w.heap.size + 1 + 1) (by simp) #[.int .i64 0, .slice none 0 0, .slice none 0 0, .slice none 0 0] 46
  rw [hSp, hQq, ← hL1, ← hF1, ← hE1, ← hL2, ← hF2, ← hE2] at hS0
  rw [hSp, hQq, ← hL1, ← hF1, ← hE1, ← hL2, ← hF2, ← hE2]
  rw [hSp, hQq, ← hL1, ← hF1, ← hE1, ← hL2, ← hF2, ← hE2] at hsm
  rw [← hL1] at hpl
  rw [← hF1] at hpfl H2
  rw [← hE1] at hpel H3
  rw [← hL2] at hql
  rw [← hF2] at hqfl hsf
  rw [← hE2] at hqel hse
  rw [← hF1, ← hF2] at hcf
  rw [← hE1, ← hE2] at hce
  have hS1 := hS0.call (Below.refl _ _)
  have HS0 : Hid (St w _ [Ent.box w.heap.size #[.int .i64 (S : Int), .slice pa1 L1 pc1, .slice pa2 F1 pc2, .slice pa3 E1 pc3] 46, Ent.box (w.heap.size + 1) #[.int .i64 (Q : Int), .slice qa1 L2 qc1, .slice qa2 F2 qc2, .slice qa3 E2 qc3] 46, Ent.box (w.heap.size + 1 + 1) #[.int .i64 0, .slice none 0 0, .slice none 0 0, .slice none 0 0] 46, Ent.nil, Ent.nil, Ent.nil, Ent.nil, Ent.nil, Ent.nil, Ent.nil]) := Lib.hid (hS1.pick [0, 1, 2, 3, 4, 5, 6, 7, 8, 9] (by decide))
  have Hsm := Lib.hid hsm
  have Hcf := Lib.hid hcf
  have Hse := Lib.hid hse
  have Hsf := Lib.hid hsf
  have Hce := Lib.hid hce
  have HhL1 := Lib.hid hL1; clear hL1
  have HhF1 := Lib.hid hF1; clear hF1
  have HhE1 := Lib.hid hE1; clear hE1
  have HhL2 := Lib.hid hL2; clear hL2
  have HhF2 := Lib.hid hF2; clear hF2
  have HhE2 := Lib.hid hE2; clear hE2
  have HhSp := Lib.hid hSp; clear hSp
  have HhQq := Lib.hid hQq; clear hQq
  clear h1 h2 h3 g1 g2 g3 hsm hcf hse hsf hce hS0 hS1 hpm hpf hpe hqm hqe hqf hp hq
  go_enter Try.func126, Try.ntmps126
  go_wp2_with fail
  refine wp_region_any (by kernel_rfl) ?_
  refine wpAny_invA (fun A listed a w' => ∃ (l0 l1 l2 l3 l4 l5 l6 l7 l8 l9 l10 l11 l12 l13 l14 l15 l16 l17 l18 l19 l20 l21 l22 l23 l24 l25 l26 l27 : Bool) (am : Option Addr) (cm : Nat) (ag : Option Addr) (cg : Nat) (af : Option Addr) (cf : Nat) (ah : Option Addr) (ch : Nat) (ae : Option Addr) (ce : Nat) (b1 : Nat) (b2 : Nat), listed = #[l0, l1, l2, l3, l4, l5, l6, l7, l8, l9, l10, l11, l12, l13, l14, l15, l16, l17, l18, l19, l20, l21, l22, l23, l24, l25, l26, l27] ∧ (l15 = true → l9 = true ∧ l14 = true) ∧ (l16 = true → l15 = true ∧ l14 = true) ∧ (l24 = true → l18 = true ∧ l23 = true) ∧ (l25 = true → l24 = true ∧ l23 = true) ∧ (l26 = true → l4 = true ∧ l7 = true ∧ l16 = true ∧ l25 = true) ∧ (l27 = true → l26 = true ∧ l25 = true) ∧
      a = ⟨(((((((((((((((((((((((((((A.tmps.setIfInBounds 5 (if l0 = true then .pointer (some ⟨w.heap.size, 0, none⟩) else A.tmps.getD 5 undef)).setIfInBounds 6 (if l1 = true then .int .i64 (S : Int) else A.tmps.getD 6 undef)).setIfInBounds 7 (if l2 = true then .pointer (some ⟨w.heap.size + 1, 0, none⟩) else A.tmps.getD 7 undef)).setIfInBounds 8 (if l3 = true then .int .i64 (Q : Int) else A.tmps.getD 8 undef)).setIfInBounds 9 (if l4 = true then .int .i64 ((S : Int) + (Q : Int)) else A.tmps.getD 9 undef)).setIfInBounds 10 (if l5 = true then .agg #[.int .i64 (S : Int), .slice pa1 L1 pc1, .slice pa2 F1 pc2, .slice pa3 E1 pc3] else A.tmps.getD 10 undef)).setIfInBounds 11 (if l6 = true then .agg #[.int .i64 (Q : Int), .slice qa1 L2 qc1, .slice qa2 F2 qc2, .slice qa3 E2 qc3] else A.tmps.getD 11 undef)).setIfInBounds 12 (if l7 = true then .slice am (L1 + L2) cm else A.tmps.getD 12 undef)).setIfInBounds 13 (if l8 = true then .pointer (some ⟨w.heap.size, 2, none⟩) else A.tmps.getD 13 undef)).setIfInBounds 14 (if l9 = true then .slice pa2 F1 pc2 else A.tmps.getD 14 undef)).setIfInBounds 15 (if l10 = true then .pointer (some ⟨w.heap.size + 1, 2, none⟩) else A.tmps.getD 15 undef)).setIfInBounds 16 (if l11 = true then .slice qa2 F2 qc2 else A.tmps.getD 16 undef)).setIfInBounds 17 (if l12 = true then .pointer (some ⟨w.heap.size, 0, none⟩) else A.tmps.getD 17 undef)).setIfInBounds 18 (if l13 = true then .int .i64 (S : Int) else A.tmps.getD 18 undef)).setIfInBounds 19 (if l14 = true then .slice ag F2 cg else A.tmps.getD 19 undef)).setIfInBounds 20 (if l15 = true then .slice (some ⟨b1, 0, none⟩) 2 2 else A.tmps.getD 20 undef)).setIfInBounds 21 (if l16 = true then .slice af (F1 + F2) cf else A.tmps.getD 21 undef)).setIfInBounds 22 (if l17 = true then .pointer (some ⟨w.heap.size, 3, none⟩) else A.tmps.getD 22 undef)).setIfInBounds 23 (if l18 = true then .slice pa3 E1 pc3 else A.tmps.getD 23 undef)).setIfInBounds 24 (if l19 = true then .pointer (some ⟨w.heap.size + 1, 3, none⟩) else A.tmps.getD 24 undef)).setIfInBounds 25 (if l20 = true then .slice qa3 E2 qc3 else A.tmps.getD 25 undef)).setIfInBounds 26 (if l21 = true then .pointer (some ⟨w.heap.size, 0, none⟩) else A.tmps.getD 26 undef)).setIfInBounds 27 (if l22 = true then .int .i64 (S : Int) else A.tmps.getD 27 undef)).setIfInBounds 28 (if l23 = true then .slice ah E2 ch else A.tmps.getD 28 undef)).setIfInBounds 29 (if l24 = true then .slice (some ⟨b2, 0, none⟩) 2 2 else A.tmps.getD 29 undef)).setIfInBounds 30 (if l25 = true then .slice ae (E1 + E2) ce else A.tmps.getD 30 undef)).setIfInBounds 31 (if l26 = true then .agg #[.int .i64 ((S : Int) + (Q : Int)), .slice am (L1 + L2) cm, .slice af (F1 + F2) cf, .slice ae (E1 + E2) ce] else A.tmps.getD 31 undef)), A.defers⟩ ∧
      St w w' [Ent.box w.heap.size #[.int .i64 (S : Int), .slice pa1 L1 pc1, .slice pa2 F1 pc2, .slice pa3 E1 pc3] 46, Ent.box (w.heap.size + 1) #[.int .i64 (Q : Int), .slice qa1 L2 qc1, .slice qa2 F2 qc2, .slice qa3 E2 qc3] 46, Ent.box (w.heap.size + 1 + 1) #[(if l27 = true then .int .i64 ((S : Int) + (Q : Int)) else .int .i64 0), (if l27 = true then .slice am (L1 + L2) cm else .slice none 0 0), (if l27 = true then .slice af (F1 + F2) cf else .slice none 0 0), (if l27 = true then .slice ae (E1 + E2) ce else .slice none 0 0)] 46, (if l7 = true then Ent.row 53 3 (.slice am (L1 + L2) cm) (L1 + L2) ((p.moves ++ q.moves.map (shM (S : Int))).flatMap moveCells) else Ent.nil), (if l14 = true then Ent.row 3 1 (.slice ag F2 cg) F2 (intCells (q.firsts.map (· + (S : Int)))) else Ent.nil), (if l15 = true then Ent.box b1 #[.slice pa2 F1 pc2, .slice ag F2 cg] 44 else Ent.nil), (if l16 = true then Ent.row 3 1 (.slice af (F1 + F2) cf) (F1 + F2) (intCells (p.firsts ++ q.firsts.map (· + (S : Int)))) else Ent.nil), (if l23 = true then Ent.row 3 1 (.slice ah E2 ch) E2 (intCells (q.ends.map (· + (S : Int)))) else Ent.nil), (if l24 = true then Ent.box b2 #[.slice pa3 E1 pc3, .slice ah E2 ch] 44 else Ent.nil), (if l25 = true then Ent.row 3 1 (.slice ae (E1 + E2) ce) (E1 + E2) (intCells (p.ends ++ q.ends.map (· + (S : Int)))) else Ent.nil)]) ?_ ?_ ?_
  · rintro listed a w' ⟨l0, l1, l2, l3, l4, l5, l6, l7, l8, l9, l10, l11, l12, l13, l14, l15, l16, l17, l18, l19, l20, l21, l22, l23, l24, l25, l26, l27, am, cm, ag, cg, af, cf, ah, ch, ae, ce, b1, b2, rfl, hd15, hd16, hd24, hd25, hd26, hd27, rfl, hS⟩ i hi
    obtain ⟨hun, o, ho, hall⟩ := mem_ready.1 hi
    have hlt := (Array.getElem?_eq_some_iff.1 ho).1
    refine wpOp_step ho (fun K hK => ?_)
    clear hi
    have HS := Lib.hid hS
    clear hS
    simp only [List.setIfInBounds_toArray, List.set_cons_zero, List.set_cons_succ, Array.getD_eq_getD_getElem?, List.getElem?_toArray, List.getElem?_cons_zero, List.getElem?_cons_succ, Option.getD_some]
    obtain h | h | h | h | h | h | h | h | h | h | h | h | h | h | h | h | h | h | h | h | h | h | h | h | h | h | h | h : i = 0 ∨ i = 1 ∨ i = 2 ∨ i = 3 ∨ i = 4 ∨ i = 5 ∨ i = 6 ∨ i = 7 ∨ i = 8 ∨ i = 9 ∨ i = 10 ∨ i = 11 ∨ i = 12 ∨ i = 13 ∨ i = 14 ∨ i = 15 ∨ i = 16 ∨ i = 17 ∨ i = 18 ∨ i = 19 ∨ i = 20 ∨ i = 21 ∨ i = 22 ∨ i = 23 ∨ i = 24 ∨ i = 25 ∨ i = 26 ∨ i = 27 := by simp at hlt; omega
    all_goals subst h
    all_goals simp only [List.getElem?_toArray, List.getElem?_cons_zero, List.getElem?_cons_succ, Option.some.injEq] at ho
    all_goals subst ho
    all_goals simp [Region.binds] at hun hall
    · subst hun
      go_simp
      exact hK _ _ ⟨true, l1, l2, l3, l4, l5, l6, l7, l8, l9, l10, l11, l12, l13, l14, l15, l16, l17, l18, l19, l20, l21, l22, l23, l24, l25, l26, l27, am, cm, ag, cg, af, cf, ah, ch, ae, ce, b1, b2, rfl, hd15, hd16, hd24, hd25, hd26, hd27, (by simp only [↓reduceIte, List.setIfInBounds_toArray, List.set_cons_zero, List.set_cons_succ, Array.getD_eq_getD_getElem?, List.getElem?_toArray, List.getElem?_cons_zero, List.getElem?_cons_succ, Option.getD_some]), HS.out⟩
    · obtain rfl := hall
      subst hun
      have e0 := HS.out.cell (v := .int .i64 (S : Int)) 0 0 rfl rfl
      go_simp
      exact hK _ _ ⟨true, true, l2, l3, l4, l5, l6, l7, l8, l9, l10, l11, l12, l13, l14, l15, l16, l17, l18, l19, l20, l21, l22, l23, l24, l25, l26, l27, am, cm, ag, cg, af, cf, ah, ch, ae, ce, b1, b2, rfl, hd15, hd16, hd24, hd25, hd26, hd27, (by simp only [↓reduceIte, List.setIfInBounds_toArray, List.set_cons_zero, List.set_cons_succ, Array.getD_eq_getD_getElem?, List.getElem?_toArray, List.getElem?_cons_zero, List.getElem?_cons_succ, Option.getD_some]), HS.out⟩
    · subst hun
      go_simp
      exact hK _ _ ⟨l0, l1, true, l3, l4, l5, l6, l7, l8, l9, l10, l11, l12, l13, l14, l15, l16, l17, l18, l19, l20, l21, l22, l23, l24, l25, l26, l27, am, cm, ag, cg, af, cf, ah, ch, ae, ce, b1, b2, rfl, hd15, hd16, hd24, hd25, hd26, hd27, (by simp only [↓reduceIte, List.setIfInBounds_toArray, List.set_cons_zero, List.set_cons_succ, Array.getD_eq_getD_getElem?, List.getElem?_toArray, List.getElem?_cons_zero, List.getElem?_cons_succ, Option.getD_some]), HS.out⟩
    · obtain rfl := hall
      subst hun
      have e0 := HS.out.cell (v := .int .i64 (Q : Int)) 1 0 rfl rfl
      go_simp
      exact hK _ _ ⟨l0, l1, true, true, l4, l5, l6, l7, l8, l9, l10, l11, l12, l13, l14, l15, l16, l17, l18, l19, l20, l21, l22, l23, l24, l25, l26, l27, am, cm, ag, cg, af, cf, ah, ch, ae, ce, b1, b2, rfl, hd15, hd16, hd24, hd25, hd26, hd27, (by simp only [↓reduceIte, List.setIfInBounds_toArray, List.set_cons_zero, List.set_cons_succ, Array.getD_eq_getD_getElem?, List.getElem?_toArray, List.getElem?_cons_zero, List.getElem?_cons_succ, Option.getD_some]), HS.out⟩
    · obtain ⟨rfl, rfl⟩ := hall
      subst hun
      obtain rfl : l26 = false := by cases l26 with | false => rfl | true => simpa using hd26 rfl
      obtain rfl : l27 = false := offL hd27 rfl
      have hw : IntKind.i64.wrap ((S : Int) + (Q : Int)) = (S : Int) + (Q : Int) := IntWalk.i64_in _ (by omega)
      go_simp
      exact hK _ _ ⟨l0, true, l2, true, true, l5, l6, l7, l8, l9, l10, l11, l12, l13, l14, l15, l16, l17, l18, l19, l20, l21, l22, l23, l24, l25, false, false, am, cm, ag, cg, af, cf, ah, ch, ae, ce, b1, b2, rfl, hd15, hd16, hd24, hd25, by simp, by simp, (by simp only [↓reduceIte, Bool.false_eq_true, List.setIfInBounds_toArray, List.set_cons_zero, List.set_cons_succ, Array.getD_eq_getD_getElem?, List.getElem?_toArray, List.getElem?_cons_zero, List.getElem?_cons_succ, Option.getD_some]), HS.out⟩
    · subst hun
      have e0 := HS.out.cell (v := .int .i64 (S : Int)) 0 0 rfl rfl
      have e1 := HS.out.cell (v := .slice pa1 L1 pc1) 0 1 rfl rfl
      have e2 := HS.out.cell (v := .slice pa2 F1 pc2) 0 2 rfl rfl
      have e3 := HS.out.cell (v := .slice pa3 E1 pc3) 0 3 rfl rfl
      go_simp
      exact hK _ _ ⟨l0, l1, l2, l3, l4, true, l6, l7, l8, l9, l10, l11, l12, l13, l14, l15, l16, l17, l18, l19, l20, l21, l22, l23, l24, l25, l26, l27, am, cm, ag, cg, af, cf, ah, ch, ae, ce, b1, b2, rfl, hd15, hd16, hd24, hd25, hd26, hd27, (by simp only [↓reduceIte, List.setIfInBounds_toArray, List.set_cons_zero, List.set_cons_succ, Array.getD_eq_getD_getElem?, List.getElem?_toArray, List.getElem?_cons_zero, List.getElem?_cons_succ, Option.getD_some]), HS.out⟩
    · subst hun
      have e0 := HS.out.cell (v := .int .i64 (Q : Int)) 1 0 rfl rfl
      have e1 := HS.out.cell (v := .slice qa1 L2 qc1) 1 1 rfl rfl
      have e2 := HS.out.cell (v := .slice qa2 F2 qc2) 1 2 rfl rfl
      have e3 := HS.out.cell (v := .slice qa3 E2 qc3) 1 3 rfl rfl
      go_simp
      exact hK _ _ ⟨l0, l1, l2, l3, l4, l5, true, l7, l8, l9, l10, l11, l12, l13, l14, l15, l16, l17, l18, l19, l20, l21, l22, l23, l24, l25, l26, l27, am, cm, ag, cg, af, cf, ah, ch, ae, ce, b1, b2, rfl, hd15, hd16, hd24, hd25, hd26, hd27, (by simp only [↓reduceIte, List.setIfInBounds_toArray, List.set_cons_zero, List.set_cons_succ, Array.getD_eq_getD_getElem?, List.getElem?_toArray, List.getElem?_cons_zero, List.getElem?_cons_succ, Option.getD_some]), HS.out⟩
    · obtain ⟨rfl, rfl⟩ := hall
      subst hun
      obtain rfl : l26 = false := by cases l26 with | false => rfl | true => simpa using hd26 rfl
      obtain rfl : l27 = false := offL hd27 rfl
      go_simp
      go_at_call 150
      refine (Hsm.out _ HS.out.bel).mono ?_
      rintro e u1 ⟨x1, d1, rfl, hb⟩
      have hS2 := (HS.out.cat hb).pick [0, 1, 2, 10, 4, 5, 6, 7, 8, 9] (by decide)
      have HhS2 := Lib.hid hS2; clear hS2
      go_simp
      exact hK _ _ ⟨l0, l1, l2, l3, l4, true, true, true, l8, l9, l10, l11, l12, l13, l14, l15, l16, l17, l18, l19, l20, l21, l22, l23, l24, l25, false, false, x1, d1, ag, cg, af, cf, ah, ch, ae, ce, b1, b2, rfl, hd15, hd16, hd24, hd25, by simp, by simp, (by simp only [↓reduceIte, Bool.false_eq_true, List.setIfInBounds_toArray, List.set_cons_zero, List.set_cons_succ, Array.getD_eq_getD_getElem?, List.getElem?_toArray, List.getElem?_cons_zero, List.getElem?_cons_succ, Option.getD_some]), HhS2.out⟩
    · subst hun
      go_simp
      exact hK _ _ ⟨l0, l1, l2, l3, l4, l5, l6, l7, true, l9, l10, l11, l12, l13, l14, l15, l16, l17, l18, l19, l20, l21, l22, l23, l24, l25, l26, l27, am, cm, ag, cg, af, cf, ah, ch, ae, ce, b1, b2, rfl, hd15, hd16, hd24, hd25, hd26, hd27, (by simp only [↓reduceIte, List.setIfInBounds_toArray, List.set_cons_zero, List.set_cons_succ, Array.getD_eq_getD_getElem?, List.getElem?_toArray, List.getElem?_cons_zero, List.getElem?_cons_succ, Option.getD_some]), HS.out⟩
    · obtain rfl := hall
      subst hun
      obtain rfl : l15 = false := offL hd15 rfl
      obtain rfl : l16 = false := offL hd16 rfl
      obtain rfl : l26 = false := by cases l26 with | false => rfl | true => simpa using hd26 rfl
      obtain rfl : l27 = false := offL hd27 rfl
      have e0 := HS.out.cell (v := .slice pa2 F1 pc2) 0 2 rfl rfl
      go_simp
      exact hK _ _ ⟨l0, l1, l2, l3, l4, l5, l6, l7, true, true, l10, l11, l12, l13, l14, false, false, l17, l18, l19, l20, l21, l22, l23, l24, l25, false, false, am, cm, ag, cg, af, cf, ah, ch, ae, ce, b1, b2, rfl, by simp, by simp, hd24, hd25, by simp, by simp, (by simp only [↓reduceIte, Bool.false_eq_true, List.setIfInBounds_toArray, List.set_cons_zero, List.set_cons_succ, Array.getD_eq_getD_getElem?, List.getElem?_toArray, List.getElem?_cons_zero, List.getElem?_cons_succ, Option.getD_some]), HS.out⟩
    · subst hun
      go_simp
      exact hK _ _ ⟨l0, l1, l2, l3, l4, l5, l6, l7, l8, l9, true, l11, l12, l13, l14, l15, l16, l17, l18, l19, l20, l21, l22, l23, l24, l25, l26, l27, am, cm, ag, cg, af, cf, ah, ch, ae, ce, b1, b2, rfl, hd15, hd16, hd24, hd25, hd26, hd27, (by simp only [↓reduceIte, List.setIfInBounds_toArray, List.set_cons_zero, List.set_cons_succ, Array.getD_eq_getD_getElem?, List.getElem?_toArray, List.getElem?_cons_zero, List.getElem?_cons_succ, Option.getD_some]), HS.out⟩
    · obtain rfl := hall
      subst hun
      have e0 := HS.out.cell (v := .slice qa2 F2 qc2) 1 2 rfl rfl
      go_simp
      exact hK _ _ ⟨l0, l1, l2, l3, l4, l5, l6, l7, l8, l9, true, true, l12, l13, l14, l15, l16, l17, l18, l19, l20, l21, l22, l23, l24, l25, l26, l27, am, cm, ag, cg, af, cf, ah, ch, ae, ce, b1, b2, rfl, hd15, hd16, hd24, hd25, hd26, hd27, (by simp only [↓reduceIte, List.setIfInBounds_toArray, List.set_cons_zero, List.set_cons_succ, Array.getD_eq_getD_getElem?, List.getElem?_toArray, List.getElem?_cons_zero, List.getElem?_cons_succ, Option.getD_some]), HS.out⟩
    · subst hun
      go_simp
      exact hK _ _ ⟨l0, l1, l2, l3, l4, l5, l6, l7, l8, l9, l10, l11, true, l13, l14, l15, l16, l17, l18, l19, l20, l21, l22, l23, l24, l25, l26, l27, am, cm, ag, cg, af, cf, ah, ch, ae, ce, b1, b2, rfl, hd15, hd16, hd24, hd25, hd26, hd27, (by simp only [↓reduceIte, List.setIfInBounds_toArray, List.set_cons_zero, List.set_cons_succ, Array.getD_eq_getD_getElem?, List.getElem?_toArray, List.getElem?_cons_zero, List.getElem?_cons_succ, Option.getD_some]), HS.out⟩
    · obtain rfl := hall
      subst hun
      have e0 := HS.out.cell (v := .int .i64 (S : Int)) 0 0 rfl rfl
      go_simp
      exact hK _ _ ⟨l0, l1, l2, l3, l4, l5, l6, l7, l8, l9, l10, l11, true, true, l14, l15, l16, l17, l18, l19, l20, l21, l22, l23, l24, l25, l26, l27, am, cm, ag, cg, af, cf, ah, ch, ae, ce, b1, b2, rfl, hd15, hd16, hd24, hd25, hd26, hd27, (by simp only [↓reduceIte, List.setIfInBounds_toArray, List.set_cons_zero, List.set_cons_succ, Array.getD_eq_getD_getElem?, List.getElem?_toArray, List.getElem?_cons_zero, List.getElem?_cons_succ, Option.getD_some]), HS.out⟩
    · obtain ⟨rfl, rfl, rfl⟩ := hall
      subst hun
      obtain rfl : l15 = false := offR hd15 rfl
      obtain rfl : l16 = false := offL hd16 rfl
      obtain rfl : l26 = false := by cases l26 with | false => rfl | true => simpa using hd26 rfl
      obtain rfl : l27 = false := offL hd27 rfl
      go_simp
      go_at_call 152
      refine (Hsf.out _ HS.out.bel).mono ?_
      rintro e u1 ⟨x1, d1, rfl, hb⟩
      have hS2 := (HS.out.cat hb).pick [0, 1, 2, 3, 10, 5, 6, 7, 8, 9] (by decide)
      have HhS2 := Lib.hid hS2; clear hS2
      go_simp
      exact hK _ _ ⟨l0, l1, l2, l3, l4, l5, l6, true, l8, l9, l10, true, l12, true, true, false, false, l17, l18, l19, l20, l21, l22, l23, l24, l25, false, false, am, cm, x1, d1, af, cf, ah, ch, ae, ce, b1, b2, rfl, by simp, by simp, hd24, hd25, by simp, by simp, (by simp only [↓reduceIte, Bool.false_eq_true, List.setIfInBounds_toArray, List.set_cons_zero, List.set_cons_succ, Array.getD_eq_getD_getElem?, List.getElem?_toArray, List.getElem?_cons_zero, List.getElem?_cons_succ, Option.getD_some]), HhS2.out⟩
    · obtain ⟨rfl, rfl⟩ := hall
      subst hun
      obtain rfl : l16 = false := offL hd16 rfl
      obtain rfl : l26 = false := by cases l26 with | false => rfl | true => simpa using hd26 rfl
      obtain rfl : l27 = false := offL hd27 rfl
      have hS2 := (HS.out.alloc _ rfl #[.slice pa2 F1 pc2, .slice ag F2 cg] 44).pick [0, 1, 2, 3, 4, 10, 6, 7, 8, 9] (by decide)
      have HhS2 := Lib.hid hS2; clear hS2
      go_simp
      exact hK _ _ ⟨l0, l1, l2, l3, l4, l5, l6, l7, l8, true, l10, l11, l12, l13, true, true, false, l17, l18, l19, l20, l21, l22, l23, l24, l25, false, false, am, cm, ag, cg, af, cf, ah, ch, ae, ce, w'.heap.size, b2, rfl, by simp, by simp, hd24, hd25, by simp, by simp, (by simp only [↓reduceIte, Bool.false_eq_true, List.setIfInBounds_toArray, List.set_cons_zero, List.set_cons_succ, Array.getD_eq_getD_getElem?, List.getElem?_toArray, List.getElem?_cons_zero, List.getElem?_cons_succ, Option.getD_some]), HhS2.out⟩
    · obtain ⟨rfl, rfl⟩ := hall
      subst hun
      obtain ⟨rfl, -⟩ := hd15 rfl
      obtain rfl : l26 = false := by cases l26 with | false => rfl | true => simpa using hd26 rfl
      obtain rfl : l27 = false := offL hd27 rfl
      go_simp
      go_at_call 153
      refine (Hcf.out _ _ _ _ (HS.out.boxlt 5 rfl).2 (HS.out.cell 5 0 rfl rfl) (HS.out.cell 5 1 rfl rfl) (H2.out.below HS.out.bel) (HS.out.row 4 rfl)).mono ?_
      rintro e u1 ⟨x1, d1, rfl, hb⟩
      have hS2 := (HS.out.cat hb).pick [0, 1, 2, 3, 4, 5, 10, 7, 8, 9] (by decide)
      have HhS2 := Lib.hid hS2; clear hS2
      go_simp
      exact hK _ _ ⟨l0, l1, l2, l3, l4, l5, l6, l7, l8, true, l10, l11, l12, l13, true, true, true, l17, l18, l19, l20, l21, l22, l23, l24, l25, false, false, am, cm, ag, cg, x1, d1, ah, ch, ae, ce, b1, b2, rfl, by simp, by simp, hd24, hd25, by simp, by simp, (by simp only [↓reduceIte, Bool.false_eq_true, List.setIfInBounds_toArray, List.set_cons_zero, List.set_cons_succ, Array.getD_eq_getD_getElem?, List.getElem?_toArray, List.getElem?_cons_zero, List.getElem?_cons_succ, Option.getD_some]), HhS2.out⟩
    · subst hun
      go_simp
      exact hK _ _ ⟨l0, l1, l2, l3, l4, l5, l6, l7, l8, l9, l10, l11, l12, l13, l14, l15, l16, true, l18, l19, l20, l21, l22, l23, l24, l25, l26, l27, am, cm, ag, cg, af, cf, ah, ch, ae, ce, b1, b2, rfl, hd15, hd16, hd24, hd25, hd26, hd27, (by simp only [↓reduceIte, List.setIfInBounds_toArray, List.set_cons_zero, List.set_cons_succ, Array.getD_eq_getD_getElem?, List.getElem?_toArray, List.getElem?_cons_zero, List.getElem?_cons_succ, Option.getD_some]), HS.out⟩
    · obtain rfl := hall
      subst hun
      obtain rfl : l24 = false := offL hd24 rfl
      obtain rfl : l25 = false := offL hd25 rfl
      obtain rfl : l26 = false := by cases l26 with | false => rfl | true => simpa using hd26 rfl
      obtain rfl : l27 = false := offL hd27 rfl
      have e0 := HS.out.cell (v := .slice pa3 E1 pc3) 0 3 rfl rfl
      go_simp
      exact hK _ _ ⟨l0, l1, l2, l3, l4, l5, l6, l7, l8, l9, l10, l11, l12, l13, l14, l15, l16, true, true, l19, l20, l21, l22, l23, false, false, false, false, am, cm, ag, cg, af, cf, ah, ch, ae, ce, b1, b2, rfl, hd15, hd16, by simp, by simp, by simp, by simp, (by simp only [↓reduceIte, Bool.false_eq_true, List.setIfInBounds_toArray, List.set_cons_zero, List.set_cons_succ, Array.getD_eq_getD_getElem?, List.getElem?_toArray, List.getElem?_cons_zero, List.getElem?_cons_succ, Option.getD_some]), HS.out⟩
    · subst hun
      go_simp
      exact hK _ _ ⟨l0, l1, l2, l3, l4, l5, l6, l7, l8, l9, l10, l11, l12, l13, l14, l15, l16, l17, l18, true, l20, l21, l22, l23, l24, l25, l26, l27, am, cm, ag, cg, af, cf, ah, ch, ae, ce, b1, b2, rfl, hd15, hd16, hd24, hd25, hd26, hd27, (by simp only [↓reduceIte, List.setIfInBounds_toArray, List.set_cons_zero, List.set_cons_succ, Array.getD_eq_getD_getElem?, List.getElem?_toArray, List.getElem?_cons_zero, List.getElem?_cons_succ, Option.getD_some]), HS.out⟩
    · obtain rfl := hall
      subst hun
      have e0 := HS.out.cell (v := .slice qa3 E2 qc3) 1 3 rfl rfl
      go_simp
      exact hK _ _ ⟨l0, l1, l2, l3, l4, l5, l6, l7, l8, l9, l10, l11, l12, l13, l14, l15, l16, l17, l18, true, true, l21, l22, l23, l24, l25, l26, l27, am, cm, ag, cg, af, cf, ah, ch, ae, ce, b1, b2, rfl, hd15, hd16, hd24, hd25, hd26, hd27, (by simp only [↓reduceIte, List.setIfInBounds_toArray, List.set_cons_zero, List.set_cons_succ, Array.getD_eq_getD_getElem?, List.getElem?_toArray, List.getElem?_cons_zero, List.getElem?_cons_succ, Option.getD_some]), HS.out⟩
    · subst hun
      go_simp
      exact hK _ _ ⟨l0, l1, l2, l3, l4, l5, l6, l7, l8, l9, l10, l11, l12, l13, l14, l15, l16, l17, l18, l19, l20, true, l22, l23, l24, l25, l26, l27, am, cm, ag, cg, af, cf, ah, ch, ae, ce, b1, b2, rfl, hd15, hd16, hd24, hd25, hd26, hd27, (by simp only [↓reduceIte, List.setIfInBounds_toArray, List.set_cons_zero, List.set_cons_succ, Array.getD_eq_getD_getElem?, List.getElem?_toArray, List.getElem?_cons_zero, List.getElem?_cons_succ, Option.getD_some]), HS.out⟩
    · obtain rfl := hall
      subst hun
      have e0 := HS.out.cell (v := .int .i64 (S : Int)) 0 0 rfl rfl
      go_simp
      exact hK _ _ ⟨l0, l1, l2, l3, l4, l5, l6, l7, l8, l9, l10, l11, l12, l13, l14, l15, l16, l17, l18, l19, l20, true, true, l23, l24, l25, l26, l27, am, cm, ag, cg, af, cf, ah, ch, ae, ce, b1, b2, rfl, hd15, hd16, hd24, hd25, hd26, hd27, (by simp only [↓reduceIte, List.setIfInBounds_toArray, List.set_cons_zero, List.set_cons_succ, Array.getD_eq_getD_getElem?, List.getElem?_toArray, List.getElem?_cons_zero, List.getElem?_cons_succ, Option.getD_some]), HS.out⟩
    · obtain ⟨rfl, rfl, rfl⟩ := hall
      subst hun
      obtain ⟨rfl, rfl⟩ := hd16 rfl
      obtain ⟨rfl, -⟩ := hd15 rfl
      obtain rfl : l24 = false := offR hd24 rfl
      obtain rfl : l25 = false := offL hd25 rfl
      obtain rfl : l26 = false := by cases l26 with | false => rfl | true => simpa using hd26 rfl
      obtain rfl : l27 = false := offL hd27 rfl
      go_simp
      go_at_call 152
      refine (Hse.out _ HS.out.bel).mono ?_
      rintro e u1 ⟨x1, d1, rfl, hb⟩
      have hS2 := (HS.out.cat hb).pick [0, 1, 2, 3, 4, 5, 6, 10, 8, 9] (by decide)
      have HhS2 := Lib.hid hS2; clear hS2
      go_simp
      exact hK _ _ ⟨l0, l1, l2, l3, l4, l5, l6, l7, l8, true, l10, l11, l12, l13, true, true, true, l17, l18, l19, true, l21, true, true, false, false, false, false, am, cm, ag, cg, af, cf, x1, d1, ae, ce, b1, b2, rfl, by simp, by simp, by simp, by simp, by simp, by simp, (by simp only [↓reduceIte, Bool.false_eq_true, List.setIfInBounds_toArray, List.set_cons_zero, List.set_cons_succ, Array.getD_eq_getD_getElem?, List.getElem?_toArray, List.getElem?_cons_zero, List.getElem?_cons_succ, Option.getD_some]), HhS2.out⟩
    · obtain ⟨rfl, rfl⟩ := hall
      subst hun
      obtain rfl : l25 = false := offL hd25 rfl
      obtain rfl : l26 = false := by cases l26 with | false => rfl | true => simpa using hd26 rfl
      obtain rfl : l27 = false := offL hd27 rfl
      have hS2 := (HS.out.alloc _ rfl #[.slice pa3 E1 pc3, .slice ah E2 ch] 44).pick [0, 1, 2, 3, 4, 5, 6, 7, 10, 9] (by decide)
      have HhS2 := Lib.hid hS2; clear hS2
      go_simp
      exact hK _ _ ⟨l0, l1, l2, l3, l4, l5, l6, l7, l8, l9, l10, l11, l12, l13, l14, l15, l16, l17, true, l19, l20, l21, l22, true, true, false, false, false, am, cm, ag, cg, af, cf, ah, ch, ae, ce, b1, w'.heap.size, rfl, hd15, hd16, by simp, by simp, by simp, by simp, (by simp only [↓reduceIte, Bool.false_eq_true, List.setIfInBounds_toArray, List.set_cons_zero, List.set_cons_succ, Array.getD_eq_getD_getElem?, List.getElem?_toArray, List.getElem?_cons_zero, List.getElem?_cons_succ, Option.getD_some]), HhS2.out⟩
    · obtain ⟨rfl, rfl⟩ := hall
      subst hun
      obtain ⟨rfl, -⟩ := hd24 rfl
      obtain rfl : l26 = false := by cases l26 with | false => rfl | true => simpa using hd26 rfl
      obtain rfl : l27 = false := offL hd27 rfl
      go_simp
      go_at_call 153
      refine (Hce.out _ _ _ _ (HS.out.boxlt 8 rfl).2 (HS.out.cell 8 0 rfl rfl) (HS.out.cell 8 1 rfl rfl) (H3.out.below HS.out.bel) (HS.out.row 7 rfl)).mono ?_
      rintro e u1 ⟨x1, d1, rfl, hb⟩
      have hS2 := (HS.out.cat hb).pick [0, 1, 2, 3, 4, 5, 6, 7, 8, 10] (by decide)
      have HhS2 := Lib.hid hS2; clear hS2
      go_simp
      exact hK _ _ ⟨l0, l1, l2, l3, l4, l5, l6, l7, l8, l9, l10, l11, l12, l13, l14, l15, l16, l17, true, l19, l20, l21, l22, true, true, true, false, false, am, cm, ag, cg, af, cf, ah, ch, x1, d1, b1, b2, rfl, hd15, hd16, by simp, by simp, by simp, by simp, (by simp only [↓reduceIte, Bool.false_eq_true, List.setIfInBounds_toArray, List.set_cons_zero, List.set_cons_succ, Array.getD_eq_getD_getElem?, List.getElem?_toArray, List.getElem?_cons_zero, List.getElem?_cons_succ, Option.getD_some]), HhS2.out⟩
    · obtain ⟨rfl, rfl, rfl, rfl⟩ := hall
      subst hun
      obtain ⟨rfl, rfl⟩ := hd16 rfl
      obtain ⟨rfl, rfl⟩ := hd25 rfl
      obtain ⟨rfl, -⟩ := hd15 rfl
      obtain ⟨rfl, -⟩ := hd24 rfl
      obtain rfl : l27 = false := offL hd27 rfl
      go_simp
      exact hK _ _ ⟨l0, l1, l2, l3, true, l5, l6, true, l8, true, l10, l11, l12, l13, true, true, true, l17, true, l19, l20, l21, l22, true, true, true, true, false, am, cm, ag, cg, af, cf, ah, ch, ae, ce, b1, b2, rfl, by simp, by simp, by simp, by simp, by simp, by simp, (by simp only [↓reduceIte, List.setIfInBounds_toArray, List.set_cons_zero, List.set_cons_succ, Array.getD_eq_getD_getElem?, List.getElem?_toArray, List.getElem?_cons_zero, List.getElem?_cons_succ, Option.getD_some]), HS.out⟩
    · obtain ⟨rfl, rfl, rfl, rfl, rfl, rfl, rfl, rfl, rfl, rfl, rfl, rfl, rfl, rfl, rfl, rfl, rfl, rfl, rfl, rfl, rfl, rfl, rfl, rfl, rfl, rfl, rfl, -, -⟩ := hall
      subst hun
      have f0 := HS.out.fr 2 0 rfl
      have k0 := HS.out.cell (v := .int .i64 0) 2 0 rfl rfl
      have f1 := HS.out.fr 2 1 rfl
      have k1 := HS.out.cell (v := .slice none 0 0) 2 1 rfl rfl
      have f2 := HS.out.fr 2 2 rfl
      have k2 := HS.out.cell (v := .slice none 0 0) 2 2 rfl rfl
      have f3 := HS.out.fr 2 3 rfl
      have k3 := HS.out.cell (v := .slice none 0 0) 2 3 rfl rfl
      go_simp
      exact hK _ _ ⟨true, true, true, true, true, true, true, true, true, true, true, true, true, true, true, true, true, true, true, true, true, true, true, true, true, true, true, true, am, cm, ag, cg, af, cf, ah, ch, ae, ce, b1, b2, rfl, by simp, by simp, by simp, by simp, by simp, by simp, (by simp only [↓reduceIte, List.setIfInBounds_toArray, List.set_cons_zero, List.set_cons_succ]), ((((HS.out.set 2 rfl 0 (.int .i64 ((S : Int) + (Q : Int)))).set 2 rfl 1 (.slice am (L1 + L2) cm)).set 2 rfl 2 (.slice af (F1 + F2) cf)).set 2 rfl 3 (.slice ae (E1 + E2) ce))⟩
  · rintro listed a w' ⟨l0, l1, l2, l3, l4, l5, l6, l7, l8, l9, l10, l11, l12, l13, l14, l15, l16, l17, l18, l19, l20, l21, l22, l23, l24, l25, l26, l27, am, cm, ag, cg, af, cf, ah, ch, ae, ce, b1, b2, rfl, hd15, hd16, hd24, hd25, hd26, hd27, rfl, hS⟩ hr
    have hall := ready_nilM (by kernel_rfl) rfl hr
    obtain rfl : l0 = true := by simpa using hall 0 (by simp)
    obtain rfl : l1 = true := by simpa using hall 1 (by simp)
    obtain rfl : l2 = true := by simpa using hall 2 (by simp)
    obtain rfl : l3 = true := by simpa using hall 3 (by simp)
    obtain rfl : l4 = true := by simpa using hall 4 (by simp)
    obtain rfl : l5 = true := by simpa using hall 5 (by simp)
    obtain rfl : l6 = true := by simpa using hall 6 (by simp)
    obtain rfl : l7 = true := by simpa using hall 7 (by simp)
    obtain rfl : l8 = true := by simpa using hall 8 (by simp)
    obtain rfl : l9 = true := by simpa using hall 9 (by simp)
    obtain rfl : l10 = true := by simpa using hall 10 (by simp)
    obtain rfl : l11 = true := by simpa using hall 11 (by simp)
    obtain rfl : l12 = true := by simpa using hall 12 (by simp)
    obtain rfl : l13 = true := by simpa using hall 13 (by simp)
    obtain rfl : l14 = true := by simpa using hall 14 (by simp)
    obtain rfl : l15 = true := by simpa using hall 15 (by simp)
    obtain rfl : l16 = true := by simpa using hall 16 (by simp)
    obtain rfl : l17 = true := by simpa using hall 17 (by simp)
    obtain rfl : l18 = true := by simpa using hall 18 (by simp)
    obtain rfl : l19 = true := by simpa using hall 19 (by simp)
    obtain rfl : l20 = true := by simpa using hall 20 (by simp)
    obtain rfl : l21 = true := by simpa using hall 21 (by simp)
    obtain rfl : l22 = true := by simpa using hall 22 (by simp)
    obtain rfl : l23 = true := by simpa using hall 23 (by simp)
    obtain rfl : l24 = true := by simpa using hall 24 (by simp)
    obtain rfl : l25 = true := by simpa using hall 25 (by simp)
    obtain rfl : l26 = true := by simpa using hall 26 (by simp)
    obtain rfl : l27 = true := by simpa using hall 27 (by simp)
    clear hall hr hd15 hd16 hd24 hd25 hd26 hd27
    simp only [↓reduceIte] at hS ⊢
    simp only [List.setIfInBounds_toArray, List.set_cons_zero, List.set_cons_succ]
    have HSf := Lib.hid (hS.pick [0, 1, 2, 3, 4, 5, 6, 7, 8, 9] (by decide))
    clear hS
    have q0 := HSf.out.cell (v := .int .i64 ((S : Int) + (Q : Int))) 2 0 rfl rfl
    have q1 := HSf.out.cell (v := .slice am (L1 + L2) cm) 2 1 rfl rfl
    have q2 := HSf.out.cell (v := .slice af (F1 + F2) cf) 2 2 rfl rfl
    have q3 := HSf.out.cell (v := .slice ae (E1 + E2) ce) 2 3 rfl rfl
    go_wp2
    refine bodyPost_ret (v := .agg #[.int .i64 ((S : Int) + (Q : Int)), .slice am (L1 + L2) cm, .slice af (F1 + F2) cf, .slice ae (E1 + E2) ce]) (by simp [results, Try.results126, go_sem, q0, q1, q2, q3]) rfl ?_
    have hj : eithN p q = ⟨(S : Int) + (Q : Int), p.moves ++ q.moves.map (shM (S : Int)), p.firsts ++ q.firsts.map (· + (S : Int)), p.ends ++ q.ends.map (· + (S : Int))⟩ := by
      unfold eithN shN
      rw [HhSp.out, HhQq.out]
      simp only [NfaD.mk.injEq, and_true]
      omega
    rw [hj]
    refine ⟨am, cm, af, cf, ae, ce, ?_, ?_⟩
    · simp only [List.length_append, List.length_map, ← HhL1.out, ← HhL2.out, ← HhF1.out, ← HhF2.out, ← HhE1.out, ← HhE2.out]
    · simp only [List.length_append, List.length_map, ← HhL1.out, ← HhL2.out, ← HhF1.out, ← HhF2.out, ← HhE1.out, ← HhE2.out]
      exact HSf.out.pick [3, 6, 9] (by decide)
  · refine ⟨false, false, false, false, false, false, false, false, false, false, false, false, false, false, false, false, false, false, false, false, false, false, false, false, false, false, false, false, none, 0, none, 0, none, 0, none, 0, none, 0, 0, 0, rfl, by simp, by simp, by simp, by simp, by simp, by simp, (by simp only [↓reduceIte, Bool.false_eq_true, List.setIfInBounds_toArray, List.set_cons_zero, List.set_cons_succ, Array.getD_eq_getD_getElem?, List.getElem?_toArray, List.getElem?_cons_zero, List.getElem?_cons_succ, Option.getD_some]), ?_⟩
    exact HS0.out.drew.pick [0, 1, 2, 3, 4, 5, 6, 7, 8, 9] (by decide)
end Go.Proofs.Ytolkifpeblbfcaa
