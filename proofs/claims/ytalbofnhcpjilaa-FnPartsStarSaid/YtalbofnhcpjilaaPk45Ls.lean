/-
  The walks over the program's NfaStar: slices.Clone of moves, checkedNfa, starNfa, NfaStar.
  Conditions: the automaton is readable.
-/
import Derived.Test.YtalbofnhcpjilaaPk44Wlg
namespace Go.Proofs.Ytalbofnhcpjilaa
open Go.RowKit
set_option maxRecDepth 100000 in
set_option maxHeartbeats 8000000 in
theorem cloneMv_any (xs : List (Int × Int × Int)) (v : Value) (w : World) (hl : xs.length ≤ 1000000) (h : Moves 0 w v xs) :
    Calls Try.prog 130 #[v] w fun e w' => ∃ a c, e = .returned (.slice a xs.length c) ∧ St w w' [Ent.row 124 3 (.slice a xs.length c) xs.length (xs.flatMap moveCells)] := by
  have hx := h
  obtain ⟨a, cap, rfl, hc1, hc2, hr⟩ := h.form
  obtain ⟨j0, hj, hy0, hy1, hy2⟩ := info_parts Try.infoMv
  cases a with
  | none =>
    have h0 : xs = [] := by
      rcases Nat.eq_zero_or_pos xs.length with h0 | h0
      · exact List.eq_nil_of_length_eq_zero h0
      · obtain ⟨b, off, hb, -⟩ := hr h0
        cases hb
    subst h0
    have qT := fun (w' : World) => Lib.run_eql_slice_nil (P := Try.prog) w' 47 124 none 0 cap 0 0 Try.underlying47
    simp only [Option.isNone] at qT
    go_enter Try.func130, Try.ntmps130
    go_wp2
    go_ret
    exact ⟨none, 0, rfl, (St.start w).nilRow 124 3⟩
  | some ad =>
    have hS0 := ((St.start w).alloc _ rfl #[] 124).boxrow 0 0 3 [] rfl rfl (Nat.zero_le _)
    have hRw := hS0.row 0 rfl
    have hX := hx.below hS0.bel
    have HhS0 := Lib.hid hS0; clear hS0
    have HhRw := Lib.hid hRw; clear hRw
    have HhX := Lib.hid hX; clear hX
    have Hhx := Lib.hid hx; clear hx
    clear hr
    have qT := fun (w' : World) => Lib.run_eql_slice_nil (P := Try.prog) w' 47 124 (some ad) xs.length cap 0 0 Try.underlying47
    simp only [Option.isNone] at qT
    go_enter Try.func130, Try.ntmps130
    go_wp2_with (at_builtin; refine wpList_append_sl _ rfl _ _ _ rfl _ 124 j0 (.agg #[.int .i64 0, .int .i64 0, .int .i64 0]) 3 24 Try.underlying47 hj hy0 hy1 hy2 rfl (by omega) _ 0 _ rfl HhRw.out _ xs.length (xs.flatMap moveCells) rfl HhX.out on_mvs (by unfold maxLen; omega) (by omega) HhS0.out.size ?_; intro a6 c6 w6 hown6 hgrow6 hat6; have HS6 := Lib.hid (HhS0.out.appS 0 rfl hown6 hgrow6 hat6); clear hown6 hgrow6 hat6)
    go_ret
    have hq : St w w6 [Ent.row 124 3 (.slice a6 (0 + xs.length) c6) (0 + xs.length) (xs.flatMap moveCells)] := HS6.out
    rw [Nat.zero_add] at hq
    exact ⟨a6, c6, rfl, hq⟩
set_option maxRecDepth 100000 in
set_option maxHeartbeats 8000000 in
theorem checked_any (n : NfaD) (v1 v2 v3 : Value) (w : World) (r : Bool) (hr : nfaOk n = r) (h : NfaR 0 w (.agg #[.int .i64 n.states, v1, v2, v3]) n) :
    Calls Try.prog 81 #[.agg #[.int .i64 n.states, v1, v2, v3]] w fun e w' => e = .returned (.tuple #[(if r = true then .agg #[.int .i64 n.states, v1, v2, v3] else .agg #[.int .i64 0, .slice none 0 0, .slice none 0 0, .slice none 0 0]), .bool r]) ∧ Below w.heap.size w w' := by
  have hf : (∃ x l c, v1 = .slice x l c) ∧ (∃ x l c, v2 = .slice x l c) ∧ ∃ x l c, v3 = .slice x l c := by
    obtain ⟨u1, u2, u3, hv, g1, g2, g3, -, -⟩ := h
    simp only [Value.agg.injEq, Array.mk.injEq, List.cons.injEq, true_and, and_true] at hv
    obtain ⟨rfl, rfl, rfl⟩ := hv
    obtain ⟨a1, c1, e1, -⟩ := g1.form
    obtain ⟨a2, c2, e2, -⟩ := g2.form
    obtain ⟨a3, c3, e3, -⟩ := g3.form
    exact ⟨⟨_, _, _, e1⟩, ⟨_, _, _, e2⟩, ⟨_, _, _, e3⟩⟩
  obtain ⟨⟨x1, l1, c1, rfl⟩, ⟨x2, l2, c2, rfl⟩, ⟨x3, l3, c3, rfl⟩⟩ := hf
  have hS0 := ((St.start w).alloc _ rfl #[.int .i64 n.states, .slice x1 l1 c1, .slice x2 l2 c2, .slice x3 l3 c3] 50).alloc (w.heap.size + 1) (by simp) #[.int .i64 0, .slice none 0 0, .slice none 0 0, .slice none 0 0] 50
  have H := Lib.hid h
  have Hr := Lib.hid hr
  have e0 := hS0.cell (v := .int .i64 n.states) 0 0 rfl rfl
  have e1 := hS0.cell (v := .slice x1 l1 c1) 0 1 rfl rfl
  have e2 := hS0.cell (v := .slice x2 l2 c2) 0 2 rfl rfl
  have e3 := hS0.cell (v := .slice x3 l3 c3) 0 3 rfl rfl
  have HhS0 := Lib.hid hS0; clear hS0
  clear h hr
  go_enter Try.func81, Try.ntmps81
  go_wp2_with fail
  refine (implNfaValid_any n _ _ (H.out.below HhS0.out.bel) r Hr.out).mono ?_
  rintro e w1 ⟨rfl, hb1⟩
  have hS1 := HhS0.out.call hb1
  have d0 := hS1.cell (v := .int .i64 n.states) 0 0 rfl rfl
  have d1 := hS1.cell (v := .slice x1 l1 c1) 0 1 rfl rfl
  have d2 := hS1.cell (v := .slice x2 l2 c2) 0 2 rfl rfl
  have d3 := hS1.cell (v := .slice x3 l3 c3) 0 3 rfl rfl
  have f0 := hS1.fr 1 0 rfl
  have f1 := hS1.fr 1 1 rfl
  have f2 := hS1.fr 1 2 rfl
  have f3 := hS1.fr 1 3 rfl
  have k0 := hS1.cell (v := .int .i64 0) 1 0 rfl rfl
  have k1 := hS1.cell (v := .slice none 0 0) 1 1 rfl rfl
  have k2 := hS1.cell (v := .slice none 0 0) 1 2 rfl rfl
  have k3 := hS1.cell (v := .slice none 0 0) 1 3 rfl rfl
  have HS1 := Lib.hid hS1
  clear hS1 hb1 e0 e1 e2 e3
  cases r
  · go_wp2
    have hq := (((HS1.out.set 1 rfl 0 (.int .i64 0)).set 1 rfl 1 (.slice none 0 0)).set 1 rfl 2 (.slice none 0 0)).set 1 rfl 3 (.slice none 0 0)
    have q0 := hq.cell (v := .int .i64 0) 1 0 rfl rfl
    have q1 := hq.cell (v := .slice none 0 0) 1 1 rfl rfl
    have q2 := hq.cell (v := .slice none 0 0) 1 2 rfl rfl
    have q3 := hq.cell (v := .slice none 0 0) 1 3 rfl rfl
    refine bodyPost_ret (v := .tuple #[.agg #[.int .i64 0, .slice none 0 0, .slice none 0 0, .slice none 0 0], .bool false]) (by simp [results, Try.results81, go_sem, q0, q1, q2, q3]) rfl ?_
    exact ⟨rfl, hq.bel⟩
  · go_wp2
    have hq := (((HS1.out.set 1 rfl 0 (.int .i64 n.states)).set 1 rfl 1 (.slice x1 l1 c1)).set 1 rfl 2 (.slice x2 l2 c2)).set 1 rfl 3 (.slice x3 l3 c3)
    have q0 := hq.cell (v := .int .i64 n.states) 1 0 rfl rfl
    have q1 := hq.cell (v := .slice x1 l1 c1) 1 1 rfl rfl
    have q2 := hq.cell (v := .slice x2 l2 c2) 1 2 rfl rfl
    have q3 := hq.cell (v := .slice x3 l3 c3) 1 3 rfl rfl
    refine bodyPost_ret (v := .tuple #[.agg #[.int .i64 n.states, .slice x1 l1 c1, .slice x2 l2 c2, .slice x3 l3 c3], .bool true]) (by simp [results, Try.results81, go_sem, q0, q1, q2, q3]) rfl ?_
    exact ⟨rfl, hq.bel⟩
set_option maxRecDepth 100000 in
set_option maxHeartbeats 8000000 in
theorem starNfa_any (n : NfaD) (m : Nat) (v1 v2 v3 : Value) (w : World) (hm : n.states = (m : Int)) (hm40 : m ≤ 1000) (hml : n.moves.length ≤ 1000) (hfl : n.firsts.length ≤ 1000) (hel : n.ends.length ≤ 1000) (h1 : Moves 0 w v1 n.moves) (h2 : Ints 0 w v2 n.firsts) (h3 : Ints 0 w v3 n.ends) :
    Calls Try.prog 82 #[.agg #[.int .i64 n.states, v1, v2, v3]] w fun e w' => RNfaS (starN n) w e w' := by
  have hcl := fun (u : World) (hu : Below w.heap.size w u) => cloneMv_any n.moves v1 u (by omega) (h1.below hu)
  obtain ⟨av, cv, rfl, hc1, hm1, hr1⟩ := h1.form
  obtain ⟨af, cf, rfl, hc2, hm2, hr2⟩ := h2.form
  obtain ⟨ae, ce, rfl, hc3, hm3, hr3⟩ := h3.form
  obtain ⟨i0, hi, hz0, hz1, hz2⟩ := info_parts Try.infoMv
  obtain ⟨L1, hL1⟩ : ∃ L, L = n.moves.length := ⟨_, rfl⟩
  obtain ⟨L2, hL2⟩ : ∃ L, L = n.firsts.length := ⟨_, rfl⟩
  obtain ⟨L3, hL3⟩ : ∃ L, L = n.ends.length := ⟨_, rfl⟩
  have hS0 := ((St.start w).alloc _ rfl #[.int .i64 n.states, .slice av n.moves.length cv, .slice af n.firsts.length cf, .slice ae n.ends.length ce] 50).alloc (w.heap.size + 1) (by simp) #[.int .i64 0, .slice none 0 0, .slice none 0 0, .slice none 0 0] 50
  rw [hm, ← hL1, ← hL2, ← hL3] at hS0
  rw [hm, ← hL1, ← hL2, ← hL3]
  rw [← hL1] at hml hc1 hcl
  rw [← hL2] at hfl hc2 hr2
  rw [← hL3] at hel hc3 hr3
  have hS1 := hS0.call (Below.refl _ _)
  have HS0 : Hid (St w _ [Ent.box w.heap.size #[.int .i64 (m : Int), .slice av L1 cv, .slice af L2 cf, .slice ae L3 ce] 50, Ent.box (w.heap.size + 1) #[.int .i64 0, .slice none 0 0, .slice none 0 0, .slice none 0 0] 50, Ent.nil, Ent.nil, Ent.nil, Ent.nil]) := Lib.hid (hS1.pick [0, 1, 2, 3, 4, 5] (by decide))
  have Hcl := Lib.hid hcl
  have Hr2 := Lib.hid hr2
  have Hr3 := Lib.hid hr3
  have HhL1 := Lib.hid hL1; clear hL1
  have HhL2 := Lib.hid hL2; clear hL2
  have HhL3 := Lib.hid hL3; clear hL3
  have Hhm := Lib.hid hm; clear hm
  have Hhi := Lib.hid hi; clear hi
  have Hhz0 := Lib.hid hz0; clear hz0
  have Hhz1 := Lib.hid hz1; clear hz1
  have Hhz2 := Lib.hid hz2; clear hz2
  clear h1 h2 h3 hr1 hr2 hr3 hcl hS0 hS1
  go_enter Try.func82, Try.ntmps82
  go_wp2_with fail
  refine wp_region_any (by kernel_rfl) ?_
  refine wpAny_invA (fun A listed a w' => ∃ (l0 l1 l2 l3 l4 l5 l6 l7 l8 l9 l10 l11 l12 l13 l14 : Bool) (am : Option Addr) (cm : Nat) (b5 : Nat) (b6 : Nat) (bo : Nat), listed = #[l0, l1, l2, l3, l4, l5, l6, l7, l8, l9, l10, l11, l12, l13, l14] ∧ (l12 = true → l2 = true ∧ l5 = true ∧ l8 = true ∧ l11 = true) ∧ (l14 = true → l13 = true ∧ l12 = true) ∧
      a = ⟨((((((((((((((A.tmps.setIfInBounds 8 (if l0 = true then .pointer (some ⟨w.heap.size, 0, none⟩) else A.tmps.getD 8 undef)).setIfInBounds 9 (if l1 = true then .int .i64 (m : Int) else A.tmps.getD 9 undef)).setIfInBounds 10 (if l2 = true then .int .i64 ((m : Int) + 1) else A.tmps.getD 10 undef)).setIfInBounds 11 (if l3 = true then .pointer (some ⟨w.heap.size, 1, none⟩) else A.tmps.getD 11 undef)).setIfInBounds 12 (if l4 = true then .slice av L1 cv else A.tmps.getD 12 undef)).setIfInBounds 13 (if l5 = true then .slice am L1 cm else A.tmps.getD 13 undef)).setIfInBounds 14 (if l6 = true then .pointer (some ⟨w.heap.size, 0, none⟩) else A.tmps.getD 14 undef)).setIfInBounds 15 (if l7 = true then .int .i64 (m : Int) else A.tmps.getD 15 undef)).setIfInBounds 16 (if l8 = true then .slice (some ⟨b5, 0, none⟩) 1 1 else A.tmps.getD 16 undef)).setIfInBounds 17 (if l9 = true then .pointer (some ⟨w.heap.size, 0, none⟩) else A.tmps.getD 17 undef)).setIfInBounds 18 (if l10 = true then .int .i64 (m : Int) else A.tmps.getD 18 undef)).setIfInBounds 19 (if l11 = true then .slice (some ⟨b6, 0, none⟩) 1 1 else A.tmps.getD 19 undef)).setIfInBounds 20 (if l12 = true then .agg #[.int .i64 ((m : Int) + 1), .slice am L1 cm, .slice (some ⟨b5, 0, none⟩) 1 1, .slice (some ⟨b6, 0, none⟩) 1 1] else A.tmps.getD 20 undef)).setIfInBounds 3 (if l13 = true then .pointer (some ⟨bo, 0, none⟩) else A.tmps.getD 3 undef)), A.defers⟩ ∧
      St w w' [Ent.box w.heap.size #[.int .i64 (m : Int), .slice av L1 cv, .slice af L2 cf, .slice ae L3 ce] 50, Ent.box (w.heap.size + 1) #[.int .i64 0, .slice none 0 0, .slice none 0 0, .slice none 0 0] 50, (if l13 = true then Ent.box bo #[(if l14 = true then .int .i64 ((m : Int) + 1) else .int .i64 0), (if l14 = true then .slice am L1 cm else .slice none 0 0), (if l14 = true then .slice (some ⟨b5, 0, none⟩) 1 1 else .slice none 0 0), (if l14 = true then .slice (some ⟨b6, 0, none⟩) 1 1 else .slice none 0 0)] 50 else Ent.nil), (if l5 = true then Ent.row 124 3 (.slice am L1 cm) L1 (n.moves.flatMap moveCells) else Ent.nil), (if l8 = true then Ent.row 3 1 (.slice (some ⟨b5, 0, none⟩) 1 1) 1 [.int .i64 (m : Int)] else Ent.nil), (if l11 = true then Ent.row 3 1 (.slice (some ⟨b6, 0, none⟩) 1 1) 1 [.int .i64 (m : Int)] else Ent.nil)]) ?_ ?_ ?_
  · rintro listed a w' ⟨l0, l1, l2, l3, l4, l5, l6, l7, l8, l9, l10, l11, l12, l13, l14, am, cm, b5, b6, bo, rfl, hd12, hd14, rfl, hS⟩ i hi
    obtain ⟨hun, o, ho, hall⟩ := mem_ready.1 hi
    have hlt := (Array.getElem?_eq_some_iff.1 ho).1
    refine wpOp_step ho (fun K hK => ?_)
    clear hi
    have HS := Lib.hid hS
    clear hS
    simp only [List.setIfInBounds_toArray, List.set_cons_zero, List.set_cons_succ, Array.getD_eq_getD_getElem?, List.getElem?_toArray, List.getElem?_cons_zero, List.getElem?_cons_succ, Option.getD_some]
    obtain h | h | h | h | h | h | h | h | h | h | h | h | h | h | h : i = 0 ∨ i = 1 ∨ i = 2 ∨ i = 3 ∨ i = 4 ∨ i = 5 ∨ i = 6 ∨ i = 7 ∨ i = 8 ∨ i = 9 ∨ i = 10 ∨ i = 11 ∨ i = 12 ∨ i = 13 ∨ i = 14 := by simp at hlt; omega
    all_goals subst h
    all_goals simp only [List.getElem?_toArray, List.getElem?_cons_zero, List.getElem?_cons_succ, Option.some.injEq] at ho
    all_goals subst ho
    all_goals simp [Region.binds] at hun hall
    · subst hun
      go_simp
      exact hK _ _ ⟨true, l1, l2, l3, l4, l5, l6, l7, l8, l9, l10, l11, l12, l13, l14, am, cm, b5, b6, bo, rfl, hd12, hd14, (by simp), HS.out⟩
    · obtain rfl := hall
      subst hun
      have e0 := HS.out.cell (v := .int .i64 (m : Int)) 0 0 rfl rfl
      go_simp
      exact hK _ _ ⟨true, true, l2, l3, l4, l5, l6, l7, l8, l9, l10, l11, l12, l13, l14, am, cm, b5, b6, bo, rfl, hd12, hd14, (by simp), HS.out⟩
    · obtain rfl := hall
      subst hun
      obtain rfl : l12 = false := by cases l12 with | false => rfl | true => simpa using hd12 rfl
      obtain rfl : l14 = false := offR hd14 rfl
      have hw : IntKind.i64.wrap ((m : Int) + 1) = (m : Int) + 1 := IntWalk.i64_in _ (by omega)
      go_simp
      exact hK _ _ ⟨l0, true, true, l3, l4, l5, l6, l7, l8, l9, l10, l11, false, l13, false, am, cm, b5, b6, bo, rfl, by simp, by simp, (by simp), HS.out⟩
    · subst hun
      go_simp
      exact hK _ _ ⟨l0, l1, l2, true, l4, l5, l6, l7, l8, l9, l10, l11, l12, l13, l14, am, cm, b5, b6, bo, rfl, hd12, hd14, (by simp), HS.out⟩
    · obtain rfl := hall
      subst hun
      have e1 := HS.out.cell (v := .slice av L1 cv) 0 1 rfl rfl
      go_simp
      exact hK _ _ ⟨l0, l1, l2, true, true, l5, l6, l7, l8, l9, l10, l11, l12, l13, l14, am, cm, b5, b6, bo, rfl, hd12, hd14, (by simp), HS.out⟩
    · obtain rfl := hall
      subst hun
      obtain rfl : l12 = false := by cases l12 with | false => rfl | true => simpa using hd12 rfl
      obtain rfl : l14 = false := offR hd14 rfl
      go_simp
      go_at_call 130
      refine (Hcl.out _ HS.out.bel).mono ?_
      rintro e u1 ⟨x1, d1, rfl, hb⟩
      have hS2 := (HS.out.cat hb).pick [0, 1, 2, 6, 4, 5] (by decide)
      have HhS2 := Lib.hid hS2; clear hS2
      go_simp
      exact hK _ _ ⟨l0, l1, l2, l3, true, true, l6, l7, l8, l9, l10, l11, false, l13, false, x1, d1, b5, b6, bo, rfl, by simp, by simp, (by simp), HhS2.out⟩
    · subst hun
      go_simp
      exact hK _ _ ⟨l0, l1, l2, l3, l4, l5, true, l7, l8, l9, l10, l11, l12, l13, l14, am, cm, b5, b6, bo, rfl, hd12, hd14, (by simp), HS.out⟩
    · obtain rfl := hall
      subst hun
      have e0 := HS.out.cell (v := .int .i64 (m : Int)) 0 0 rfl rfl
      go_simp
      exact hK _ _ ⟨l0, l1, l2, l3, l4, l5, true, true, l8, l9, l10, l11, l12, l13, l14, am, cm, b5, b6, bo, rfl, hd12, hd14, (by simp), HS.out⟩
    · obtain rfl := hall
      subst hun
      obtain rfl : l12 = false := by cases l12 with | false => rfl | true => simpa using hd12 rfl
      obtain rfl : l14 = false := offR hd14 rfl
      have hS2 := ((HS.out.alloc _ rfl #[.int .i64 (m : Int)] 3).boxrow 6 1 1 [.int .i64 (m : Int)] rfl rfl (by decide)).pick [0, 1, 2, 3, 6, 5] (by decide)
      have HhS2 := Lib.hid hS2; clear hS2
      go_simp
      exact hK _ _ ⟨l0, l1, l2, l3, l4, l5, l6, true, true, l9, l10, l11, false, l13, false, am, cm, w'.heap.size, b6, bo, rfl, by simp, by simp, (by simp), HhS2.out⟩
    · subst hun
      go_simp
      exact hK _ _ ⟨l0, l1, l2, l3, l4, l5, l6, l7, l8, true, l10, l11, l12, l13, l14, am, cm, b5, b6, bo, rfl, hd12, hd14, (by simp), HS.out⟩
    · obtain rfl := hall
      subst hun
      have e0 := HS.out.cell (v := .int .i64 (m : Int)) 0 0 rfl rfl
      go_simp
      exact hK _ _ ⟨l0, l1, l2, l3, l4, l5, l6, l7, l8, true, true, l11, l12, l13, l14, am, cm, b5, b6, bo, rfl, hd12, hd14, (by simp), HS.out⟩
    · obtain rfl := hall
      subst hun
      obtain rfl : l12 = false := by cases l12 with | false => rfl | true => simpa using hd12 rfl
      obtain rfl : l14 = false := offR hd14 rfl
      have hS2 := ((HS.out.alloc _ rfl #[.int .i64 (m : Int)] 3).boxrow 6 1 1 [.int .i64 (m : Int)] rfl rfl (by decide)).pick [0, 1, 2, 3, 4, 6] (by decide)
      have HhS2 := Lib.hid hS2; clear hS2
      go_simp
      exact hK _ _ ⟨l0, l1, l2, l3, l4, l5, l6, l7, l8, l9, true, true, false, l13, false, am, cm, b5, w'.heap.size, bo, rfl, by simp, by simp, (by simp), HhS2.out⟩
    · obtain ⟨rfl, rfl, rfl, rfl⟩ := hall
      subst hun
      obtain rfl : l14 = false := offR hd14 rfl
      go_simp
      exact hK _ _ ⟨l0, l1, true, l3, l4, true, l6, l7, true, l9, l10, true, true, l13, false, am, cm, b5, b6, bo, rfl, by simp, by simp, (by simp), HS.out⟩
    · subst hun
      obtain rfl : l14 = false := offL hd14 rfl
      have hS2 := (HS.out.alloc _ rfl #[.int .i64 0, .slice none 0 0, .slice none 0 0, .slice none 0 0] 50).pick [0, 1, 6, 3, 4, 5] (by decide)
      have HhS2 := Lib.hid hS2; clear hS2
      go_simp
      exact hK _ _ ⟨l0, l1, l2, l3, l4, l5, l6, l7, l8, l9, l10, l11, l12, true, false, am, cm, b5, b6, w'.heap.size, rfl, hd12, by simp, (by simp), HhS2.out⟩
    · obtain ⟨rfl, rfl, rfl, rfl, rfl, rfl, rfl, rfl, -, rfl, rfl, rfl, rfl, rfl, rfl, -, -⟩ := hall
      subst hun
      have f0 := HS.out.fr 2 0 rfl
      have k0 := HS.out.cell (v := .int .i64 0) 2 0 rfl rfl
      have f1 := HS.out.fr 2 1 rfl
      have k1 := HS.out.cell (v := .slice none 0 0) 2 1 rfl rfl
      have f2 := HS.out.fr 2 2 rfl
      have k2 := HS.out.cell (v := .slice none 0 0) 2 2 rfl rfl
      have f3 := HS.out.fr 2 3 rfl
      have k3 := HS.out.cell (v := .slice none 0 0) 2 3 rfl rfl
      go_simp
      exact hK _ _ ⟨true, true, true, true, true, true, true, true, true, true, true, true, true, true, true, am, cm, b5, b6, bo, rfl, by simp, by simp, (by simp only [↓reduceIte, List.setIfInBounds_toArray, List.set_cons_zero, List.set_cons_succ]), ((((HS.out.set 2 rfl 0 (.int .i64 ((m : Int) + 1))).set 2 rfl 1 (.slice am L1 cm)).set 2 rfl 2 (.slice (some ⟨b5, 0, none⟩) 1 1)).set 2 rfl 3 (.slice (some ⟨b6, 0, none⟩) 1 1))⟩
  · rintro listed a w' ⟨l0, l1, l2, l3, l4, l5, l6, l7, l8, l9, l10, l11, l12, l13, l14, am, cm, b5, b6, bo, rfl, hd12, hd14, rfl, hS⟩ hr
    have hall := ready_nilM (by kernel_rfl) rfl hr
    obtain rfl : l0 = true := by simpa using hall 0 (by simp)
    obtain rfl : l1 = true := by simpa using hall 1 (by simp)
    obtain rfl : l2 = true := by simpa using hall 2 (by simp)
    obtain rfl : l3 = true := by simpa using hall 3 (by simp)
    obtain rfl : l4 = true := by simpa using hall 4 (by simp)
    obtain rfl : l5 = true := by simpa using hall 5 (by simp)
    obtain rfl : l6 = true := by simpa using hall 6 (by simp)
    obtain rfl : l7 = true := by simpa using hall 7 (by simp)
    obtain rfl : l8 = true := by simpa using hall 8 (by simp)
    obtain rfl : l9 = true := by simpa using hall 9 (by simp)
    obtain rfl : l10 = true := by simpa using hall 10 (by simp)
    obtain rfl : l11 = true := by simpa using hall 11 (by simp)
    obtain rfl : l12 = true := by simpa using hall 12 (by simp)
    obtain rfl : l13 = true := by simpa using hall 13 (by simp)
    obtain rfl : l14 = true := by simpa using hall 14 (by simp)
    clear hall hr hd12 hd14
    simp only [↓reduceIte] at hS ⊢
    simp only [List.setIfInBounds_toArray, List.set_cons_zero, List.set_cons_succ]
    have HS1 := Lib.hid (hS.pick [0, 1, 2, 3, 4, 5] (by decide))
    clear hS
    have e9 := HS1.out.cell (v := .slice af L2 cf) 0 2 rfl rfl
    go_wp2
    go_loopw [24] (fun i wr => ∃ (k : Nat) (a1 : Option Addr) (c1 : Nat), i = .int .i64 k ∧ k ≤ L2 ∧ St w wr [Ent.box w.heap.size #[.int .i64 (m : Int), .slice av L1 cv, .slice af L2 cf, .slice ae L3 ce] 50, Ent.box (w.heap.size + 1) #[.int .i64 0, .slice none 0 0, .slice none 0 0, .slice none 0 0] 50, Ent.box bo #[.int .i64 ((m : Int) + 1), .slice a1 (L1 + k) c1, .slice (some ⟨b5, 0, none⟩) 1 1, .slice (some ⟨b6, 0, none⟩) 1 1] 50, Ent.row 124 3 (.slice a1 (L1 + k) c1) (L1 + k) ((n.moves ++ (n.firsts.take k).map fun t => ((m : Int), (-1 : Int), t)).flatMap moveCells), Ent.row 3 1 (.slice (some ⟨b5, 0, none⟩) 1 1) 1 [.int .i64 (m : Int)], Ent.row 3 1 (.slice (some ⟨b6, 0, none⟩) 1 1) 1 [.int .i64 (m : Int)]]) (fun i _ => L2 - (intOf i).toNat)
    case atStart =>
      refine ⟨0, am, cm, rfl, Nat.zero_le _, ?_⟩
      have h := HS1.out
      rw [List.take_zero, List.map_nil, List.append_nil]
      exact h
    case round =>
      obtain ⟨k, a1, c1, rfl, hk, hS⟩ := hrel
      by_cases hlt : k < L2
      · have hlt2 : (k : Int) < L2 := by omega
        have hkn : k < n.firsts.length := by have := HhL2.out; omega
        obtain ⟨b1, o1, rfl, -, hb1, hcs⟩ := Hr2.out (by omega)
        have m0 := hcs k hlt
        have hsn := take_map_snoc (fun t => ((m : Int), (-1 : Int), t)) (d := 0) hkn rfl
        obtain ⟨p0, hp⟩ : ∃ p, p = n.firsts.getD k 0 := ⟨_, rfl⟩
        rw [← hp] at m0 hsn
        have m1 := (bcell hS.bel b1 _ hb1).trans m0
        have e0 := hS.cell (v := .int .i64 (m : Int)) 0 0 rfl rfl
        have y0 := hS.cell (v := .slice a1 (L1 + k) c1) 2 1 rfl rfl
        have hSa := hS.alloc_ (.cells #[.int .i64 (m : Int), .int .i64 (-1), .int .i64 p0] 124)
        have HSa := Lib.hid hSa
        have HRa := Lib.hid (hSa.row 3 rfl)
        have Hhp := Lib.hid hp; clear hp
        have Hhsn := Lib.hid hsn; clear hsn
        clear hS hSa hcs m0
        go_wp2_with (at_builtin; refine wpList_append_lies _ rfl _ _ _ rfl _ 124 i0 (.agg #[.int .i64 0, .int .i64 0, .int .i64 0]) 3 24 Try.underlying47 Hhi.out Hhz0.out Hhz1.out Hhz2.out rfl (by omega) _ (L1 + k) _ rfl HRa.out ⟨wr.heap.size, 0, none⟩ 1 1 [.int .i64 (m : Int), .int .i64 (-1), .int .i64 p0] rfl rfl (World.news_of_block (heap_alloc_new wr _)) one_mv (by omega) (by unfold maxLen; omega) (by omega) HSa.out.size _ rfl ?_; intro g6 c6 w6 hown6 hgrow6 hat6 hlt6; have HS6 := Lib.hid (HSa.out.app 3 rfl hown6 hgrow6 hat6); have y1 := HS6.out.cell (v := .slice a1 (L1 + k) c1) 2 1 rfl rfl; have y2 := HS6.out.fr 2 1 rfl; clear hown6 hgrow6 hat6 hlt6)
        go_roundw
        case rel =>
          refine ⟨k + 1, some ⟨g6, 0, none⟩, c6, by go_num, by omega, ?_⟩
          rw [Hhsn.out, ← List.append_assoc, List.flatMap_append (xs := _ ++ _)]
          exact HS6.out.set 2 rfl 1 (.slice (some ⟨g6, 0, none⟩) (L1 + k + 1) c6)
        case measure => simp [intOf]; omega
      · obtain rfl : L2 = k := by omega
        rw [show (n.firsts.take L2) = n.firsts from List.take_of_length_le (by have := HhL2.out; omega)] at hS
        have HSe := Lib.hid hS
        clear hS
        have e9 := HSe.out.cell (v := .slice ae L3 ce) 0 3 rfl rfl
        have HSe1 := HSe
        clear HSe
        go_wp2
        go_loopw [41] (fun i wr => ∃ (k : Nat) (a1 : Option Addr) (c1 : Nat), i = .int .i64 k ∧ k ≤ L3 ∧ St w wr [Ent.box w.heap.size #[.int .i64 (m : Int), .slice av L1 cv, .slice af L2 cf, .slice ae L3 ce] 50, Ent.box (w.heap.size + 1) #[.int .i64 0, .slice none 0 0, .slice none 0 0, .slice none 0 0] 50, Ent.box bo #[.int .i64 ((m : Int) + 1), .slice a1 (L1 + L2 + k) c1, .slice (some ⟨b5, 0, none⟩) 1 1, .slice (some ⟨b6, 0, none⟩) 1 1] 50, Ent.row 124 3 (.slice a1 (L1 + L2 + k) c1) (L1 + L2 + k) ((n.moves ++ (n.firsts.map fun t => ((m : Int), (-1 : Int), t)) ++ (n.ends.take k).map fun s => (s, (-1 : Int), (m : Int))).flatMap moveCells), Ent.row 3 1 (.slice (some ⟨b5, 0, none⟩) 1 1) 1 [.int .i64 (m : Int)], Ent.row 3 1 (.slice (some ⟨b6, 0, none⟩) 1 1) 1 [.int .i64 (m : Int)]]) (fun i _ => L3 - (intOf i).toNat)
        case atStart =>
          refine ⟨0, a1, c1, rfl, Nat.zero_le _, ?_⟩
          have h := HSe1.out
          rw [List.take_zero, List.map_nil, List.append_nil]
          exact h
        case round =>
          obtain ⟨k, a1, c1, rfl, hk, hS⟩ := hrel
          by_cases hlt : k < L3
          · have hlt2 : (k : Int) < L3 := by omega
            have hkn : k < n.ends.length := by have := HhL3.out; omega
            obtain ⟨b1, o1, rfl, -, hb1, hcs⟩ := Hr3.out (by omega)
            have m0 := hcs k hlt
            have hsn := take_map_snoc (fun s => (s, (-1 : Int), (m : Int))) (d := 0) hkn rfl
            obtain ⟨p0, hp⟩ : ∃ p, p = n.ends.getD k 0 := ⟨_, rfl⟩
            rw [← hp] at m0 hsn
            have m1 := (bcell hS.bel b1 _ hb1).trans m0
            have e0 := hS.cell (v := .int .i64 (m : Int)) 0 0 rfl rfl
            have y0 := hS.cell (v := .slice a1 (L1 + L2 + k) c1) 2 1 rfl rfl
            have hSa := hS.alloc_ (.cells #[.int .i64 p0, .int .i64 (-1), .int .i64 (m : Int)] 124)
            have HSa := Lib.hid hSa
            have HRa := Lib.hid (hSa.row 3 rfl)
            have Hhp := Lib.hid hp; clear hp
            have Hhsn := Lib.hid hsn; clear hsn
            clear hS hSa hcs m0
            go_wp2_with (at_builtin; refine wpList_append_lies _ rfl _ _ _ rfl _ 124 i0 (.agg #[.int .i64 0, .int .i64 0, .int .i64 0]) 3 24 Try.underlying47 Hhi.out Hhz0.out Hhz1.out Hhz2.out rfl (by omega) _ (L1 + L2 + k) _ rfl HRa.out ⟨wr.heap.size, 0, none⟩ 1 1 [.int .i64 p0, .int .i64 (-1), .int .i64 (m : Int)] rfl rfl (World.news_of_block (heap_alloc_new wr _)) one_mv (by omega) (by unfold maxLen; omega) (by omega) HSa.out.size _ rfl ?_; intro g6 c6 w6 hown6 hgrow6 hat6 hlt6; have HS6 := Lib.hid (HSa.out.app 3 rfl hown6 hgrow6 hat6); have y1 := HS6.out.cell (v := .slice a1 (L1 + L2 + k) c1) 2 1 rfl rfl; have y2 := HS6.out.fr 2 1 rfl; clear hown6 hgrow6 hat6 hlt6)
            go_roundw
            case rel =>
              refine ⟨k + 1, some ⟨g6, 0, none⟩, c6, by go_num, by omega, ?_⟩
              rw [Hhsn.out, ← List.append_assoc, List.flatMap_append (xs := _ ++ _)]
              exact HS6.out.set 2 rfl 1 (.slice (some ⟨g6, 0, none⟩) (L1 + L2 + k + 1) c6)
            case measure => simp [intOf]; omega
          · obtain rfl : L3 = k := by omega
            rw [show (n.ends.take L3) = n.ends from List.take_of_length_le (by have := HhL3.out; omega)] at hS
            have HSe := Lib.hid hS
            clear hS
            have e0 := HSe.out.cell (v := .int .i64 ((m : Int) + 1)) 2 0 rfl rfl
            have e1 := HSe.out.cell (v := .slice a1 (L1 + L2 + L3) c1) 2 1 rfl rfl
            have e2 := HSe.out.cell (v := .slice (some ⟨b5, 0, none⟩) 1 1) 2 2 rfl rfl
            have e3 := HSe.out.cell (v := .slice (some ⟨b6, 0, none⟩) 1 1) 2 3 rfl rfl
            have f0 := HSe.out.fr 1 0 rfl
            have k0 := HSe.out.cell (v := .int .i64 0) 1 0 rfl rfl
            have f1 := HSe.out.fr 1 1 rfl
            have k1 := HSe.out.cell (v := .slice none 0 0) 1 1 rfl rfl
            have f2 := HSe.out.fr 1 2 rfl
            have k2 := HSe.out.cell (v := .slice none 0 0) 1 2 rfl rfl
            have f3 := HSe.out.fr 1 3 rfl
            have k3 := HSe.out.cell (v := .slice none 0 0) 1 3 rfl rfl
            have HSr := Lib.hid ((((HSe.out.set 1 rfl 0 (.int .i64 ((m : Int) + 1))).set 1 rfl 1 (.slice a1 (L1 + L2 + L3) c1)).set 1 rfl 2 (.slice (some ⟨b5, 0, none⟩) 1 1)).set 1 rfl 3 (.slice (some ⟨b6, 0, none⟩) 1 1))
            have q0 := HSr.out.cell (v := .int .i64 ((m : Int) + 1)) 1 0 rfl rfl
            have q1 := HSr.out.cell (v := .slice a1 (L1 + L2 + L3) c1) 1 1 rfl rfl
            have q2 := HSr.out.cell (v := .slice (some ⟨b5, 0, none⟩) 1 1) 1 2 rfl rfl
            have q3 := HSr.out.cell (v := .slice (some ⟨b6, 0, none⟩) 1 1) 1 3 rfl rfl
            go_wp2
            refine bodyPost_ret (v := .agg #[.int .i64 ((m : Int) + 1), .slice a1 (L1 + L2 + L3) c1, .slice (some ⟨b5, 0, none⟩) 1 1, .slice (some ⟨b6, 0, none⟩) 1 1]) (by simp [results, Try.results82, go_sem, q0, q1, q2, q3]) rfl ?_
            have hNm : n.moves.length + n.firsts.length + n.ends.length = L1 + L2 + L3 := by rw [HhL1.out, HhL2.out, HhL3.out]
            have hst : starN n = ⟨(m : Int) + 1, n.moves ++ (n.firsts.map fun t => ((m : Int), -1, t)) ++ (n.ends.map fun s => (s, -1, (m : Int))), [(m : Int)], [(m : Int)]⟩ := by unfold starN; rw [Hhm.out]
            rw [hst]
            refine ⟨a1, c1, some ⟨b5, 0, none⟩, 1, some ⟨b6, 0, none⟩, 1, ?_, ?_⟩
            · simp only [List.length_append, List.length_map, hNm]
              rfl
            · simp only [List.length_append, List.length_map, hNm]
              exact HSr.out.pick [3, 4, 5] (by decide)
  · refine ⟨false, false, false, false, false, false, false, false, false, false, false, false, false, false, false, none, 0, 0, 0, 0, rfl, by simp, by simp, (by simp), ?_⟩
    exact HS0.out.drew.pick [0, 1, 2, 3, 4, 5] (by decide)
set_option maxRecDepth 100000 in
set_option maxHeartbeats 8000000 in
theorem implStar_any (n : NfaD) (v1 v2 v3 : Value) (w : World) (h1 : Moves 0 w v1 n.moves) (h2 : Ints 0 w v2 n.firsts) (h3 : Ints 0 w v3 n.ends) (hs0 : -9223372036854775808 ≤ n.states) (hs1 : n.states ≤ 9223372036854775807) :
    Calls Try.prog 37 #[.agg #[.int .i64 n.states, v1, v2, v3]] w fun e w' => RNt (starL n).1 (starL n).2 w e w' := by
  have H := Lib.hid (nfaR_of h1 h2 h3 hs0 hs1)
  have hS0 := ((St.start w).alloc _ rfl #[.int .i64 n.states, v1, v2, v3] 50).alloc (w.heap.size + 1) (by simp) #[.int .i64 0, .slice none 0 0, .slice none 0 0, .slice none 0 0] 50
  have e0 := hS0.cell (v := .int .i64 n.states) 0 0 rfl rfl
  have e1 := hS0.cell (v := v1) 0 1 rfl rfl
  have e2 := hS0.cell (v := v2) 0 2 rfl rfl
  have e3 := hS0.cell (v := v3) 0 3 rfl rfl
  cases hok : nfaOk n
  · have hst : starL n = (zeN, false) := if_neg (by rw [hok]; simp)
    rw [hst]
    have Hhok := Lib.hid hok; clear hok
    have HhS0 := Lib.hid hS0; clear hS0
    clear h1 h2 h3 hst
    go_enter Try.func37, Try.ntmps37
    go_wp2_with fail
    refine (implNfaValid_any n _ _ (H.out.below HhS0.out.bel) false Hhok.out).mono ?_
    rintro e w1 ⟨rfl, hb1⟩
    have hS1 := HhS0.out.call hb1
    have f0 := hS1.fr 1 0 rfl
    have f1 := hS1.fr 1 1 rfl
    have f2 := hS1.fr 1 2 rfl
    have f3 := hS1.fr 1 3 rfl
    have k0 := hS1.cell (v := .int .i64 0) 1 0 rfl rfl
    have k1 := hS1.cell (v := .slice none 0 0) 1 1 rfl rfl
    have k2 := hS1.cell (v := .slice none 0 0) 1 2 rfl rfl
    have k3 := hS1.cell (v := .slice none 0 0) 1 3 rfl rfl
    have HS1 := Lib.hid hS1
    clear hS1 hb1 e0 e1 e2 e3
    go_wp2
    have hq := (((HS1.out.set 1 rfl 0 (.int .i64 0)).set 1 rfl 1 (.slice none 0 0)).set 1 rfl 2 (.slice none 0 0)).set 1 rfl 3 (.slice none 0 0)
    have q0 := hq.cell (v := .int .i64 0) 1 0 rfl rfl
    have q1 := hq.cell (v := .slice none 0 0) 1 1 rfl rfl
    have q2 := hq.cell (v := .slice none 0 0) 1 2 rfl rfl
    have q3 := hq.cell (v := .slice none 0 0) 1 3 rfl rfl
    refine bodyPost_ret (v := .tuple #[.agg #[.int .i64 0, .slice none 0 0, .slice none 0 0, .slice none 0 0], .bool false]) (by simp [results, Try.results37, go_sem, q0, q1, q2, q3]) rfl ?_
    exact rnt_zero hq.bel
  · have hst : starL n = limN (starN n) := if_pos hok
    rw [hst]
    obtain ⟨m, hstm, hm40, hmv, hml, hf, hfl, he, hel⟩ := nfaOk_facts hok
    have Hst := Lib.hid (fun (u : World) (hu : Below w.heap.size w u) => starNfa_any n m v1 v2 v3 u hstm (by omega) (by omega) (by omega) (by omega) (h1.below hu) (h2.below hu) (h3.below hu))
    obtain ⟨N, hN⟩ : ∃ N, N = starN n := ⟨_, rfl⟩
    have hNs : -9223372036854775808 ≤ N.states ∧ N.states ≤ 9223372036854775807 := by rw [hN]; simp only [starN]; omega
    obtain ⟨hNs0, hNs1⟩ := hNs
    rw [← hN] at Hst
    rw [← hN]
    have Hhok := Lib.hid hok; clear hok
    have HhS0 := Lib.hid hS0; clear hS0
    have HhN := Lib.hid hN; clear hN
    clear h1 h2 h3 hst hstm hmv hf he
    cases hNk : nfaOk N
    · have hlm : limN N = (zeN, false) := if_neg (by rw [hNk]; simp)
      rw [hlm]
      clear hlm
      have HhNk := Lib.hid hNk; clear hNk
      go_enter Try.func37, Try.ntmps37
      go_wp2_with fail
      refine (implNfaValid_any n _ _ (H.out.below HhS0.out.bel) true Hhok.out).mono ?_
      rintro e w1 ⟨rfl, hb1⟩
      have HS1 := Lib.hid (HhS0.out.call hb1)
      clear hb1 e0 e1 e2 e3
      have e0 := HS1.out.cell (v := .int .i64 n.states) 0 0 rfl rfl
      have e1 := HS1.out.cell (v := v1) 0 1 rfl rfl
      have e2 := HS1.out.cell (v := v2) 0 2 rfl rfl
      have e3 := HS1.out.cell (v := v3) 0 3 rfl rfl
      go_wp2_with fail
      refine (Hst.out _ HS1.out.bel).mono ?_
      rintro e w2 ⟨a1, c1, a2, c2, a3, c3, rfl, hS'⟩
      have HS2 := Lib.hid (HS1.out.cat hS')
      clear hS' e0 e1 e2 e3
      have HN := Lib.hid (nfaR_of (moves_of_row (HS2.out.row 2 rfl)) (ints_of_row' (HS2.out.row 3 rfl)) (ints_of_row' (HS2.out.row 4 rfl)) hNs0 hNs1)
      go_wp2_with fail
      refine (checked_any N _ _ _ _ false HhNk.out HN.out).mono ?_
      rintro e w3 ⟨rfl, hb3⟩
      have HS3 := Lib.hid (HS2.out.call hb3)
      clear hb3
      have f0 := HS3.out.fr 1 0 rfl
      have k0 := HS3.out.cell (v := .int .i64 0) 1 0 rfl rfl
      have f1 := HS3.out.fr 1 1 rfl
      have k1 := HS3.out.cell (v := .slice none 0 0) 1 1 rfl rfl
      have f2 := HS3.out.fr 1 2 rfl
      have k2 := HS3.out.cell (v := .slice none 0 0) 1 2 rfl rfl
      have f3 := HS3.out.fr 1 3 rfl
      have k3 := HS3.out.cell (v := .slice none 0 0) 1 3 rfl rfl
      have hq := (((HS3.out.set 1 rfl 0 (.int .i64 0)).set 1 rfl 1 (.slice none 0 0)).set 1 rfl 2 (.slice none 0 0)).set 1 rfl 3 (.slice none 0 0)
      have Hq := Lib.hid hq
      have q0 := hq.cell (v := .int .i64 0) 1 0 rfl rfl
      have q1 := hq.cell (v := .slice none 0 0) 1 1 rfl rfl
      have q2 := hq.cell (v := .slice none 0 0) 1 2 rfl rfl
      have q3 := hq.cell (v := .slice none 0 0) 1 3 rfl rfl
      clear hq
      simp only [↓reduceIte, Bool.false_eq_true]
      go_wp2
      refine bodyPost_ret (v := .tuple #[.agg #[.int .i64 0, .slice none 0 0, .slice none 0 0, .slice none 0 0], .bool false]) (by simp [results, Try.results37, go_sem, q0, q1, q2, q3]) rfl ?_
      exact rnt_zero Hq.out.bel
    · have hlm : limN N = (N, true) := if_pos hNk
      rw [hlm]
      clear hlm
      have HhNk := Lib.hid hNk; clear hNk
      go_enter Try.func37, Try.ntmps37
      go_wp2_with fail
      refine (implNfaValid_any n _ _ (H.out.below HhS0.out.bel) true Hhok.out).mono ?_
      rintro e w1 ⟨rfl, hb1⟩
      have HS1 := Lib.hid (HhS0.out.call hb1)
      clear hb1 e0 e1 e2 e3
      have e0 := HS1.out.cell (v := .int .i64 n.states) 0 0 rfl rfl
      have e1 := HS1.out.cell (v := v1) 0 1 rfl rfl
      have e2 := HS1.out.cell (v := v2) 0 2 rfl rfl
      have e3 := HS1.out.cell (v := v3) 0 3 rfl rfl
      go_wp2_with fail
      refine (Hst.out _ HS1.out.bel).mono ?_
      rintro e w2 ⟨a1, c1, a2, c2, a3, c3, rfl, hS'⟩
      have HS2 := Lib.hid (HS1.out.cat hS')
      clear hS' e0 e1 e2 e3
      have HN := Lib.hid (nfaR_of (moves_of_row (HS2.out.row 2 rfl)) (ints_of_row' (HS2.out.row 3 rfl)) (ints_of_row' (HS2.out.row 4 rfl)) hNs0 hNs1)
      go_wp2_with fail
      refine (checked_any N _ _ _ _ true HhNk.out HN.out).mono ?_
      rintro e w3 ⟨rfl, hb3⟩
      have HS3 := Lib.hid (HS2.out.call hb3)
      clear hb3
      have f0 := HS3.out.fr 1 0 rfl
      have k0 := HS3.out.cell (v := .int .i64 0) 1 0 rfl rfl
      have f1 := HS3.out.fr 1 1 rfl
      have k1 := HS3.out.cell (v := .slice none 0 0) 1 1 rfl rfl
      have f2 := HS3.out.fr 1 2 rfl
      have k2 := HS3.out.cell (v := .slice none 0 0) 1 2 rfl rfl
      have f3 := HS3.out.fr 1 3 rfl
      have k3 := HS3.out.cell (v := .slice none 0 0) 1 3 rfl rfl
      have hq := (((HS3.out.set 1 rfl 0 (.int .i64 N.states)).set 1 rfl 1 (.slice a1 N.moves.length c1)).set 1 rfl 2 (.slice a2 N.firsts.length c2)).set 1 rfl 3 (.slice a3 N.ends.length c3)
      have Hq := Lib.hid hq
      have q0 := hq.cell (v := .int .i64 N.states) 1 0 rfl rfl
      have q1 := hq.cell (v := .slice a1 N.moves.length c1) 1 1 rfl rfl
      have q2 := hq.cell (v := .slice a2 N.firsts.length c2) 1 2 rfl rfl
      have q3 := hq.cell (v := .slice a3 N.ends.length c3) 1 3 rfl rfl
      clear hq
      simp only [↓reduceIte]
      go_wp2
      refine bodyPost_ret (v := .tuple #[.agg #[.int .i64 N.states, .slice a1 N.moves.length c1, .slice a2 N.firsts.length c2, .slice a3 N.ends.length c3], .bool true]) (by simp [results, Try.results37, go_sem, q0, q1, q2, q3]) rfl ?_
      exact ⟨a1, c1, a2, c2, a3, c3, rfl, Hq.out.pick [2, 3, 4] (by decide)⟩
theorem implStarR_any (n X : NfaD) (ok : Bool) (v : Value) (w : World) (hX : starL n = (X, ok)) (h : NfaR 0 w v n) :
    Calls Try.prog 37 #[v] w fun e w' => RNt X ok w e w' := by
  obtain ⟨v1, v2, v3, rfl, h1, h2, h3, hs0, hs1⟩ := h
  have := implStar_any n v1 v2 v3 w h1 h2 h3 hs0 hs1
  rwa [hX] at this
theorem starL_cases (n : NfaD) : starL n = (zeN, false) ∨ (nfaOk n = true ∧ nfaOk (starN n) = true ∧ starL n = (starN n, true)) := by
  unfold starL limN
  cases h1 : nfaOk n
  · exact .inl (if_neg (by simp))
  · rw [if_pos rfl]
    cases h2 : nfaOk (starN n)
    · exact .inl (if_neg (by simp))
    · exact .inr ⟨rfl, rfl, if_pos rfl⟩
theorem limN_bound {n X : NfaD} {ok : Bool} (h : starL n = (X, ok)) (h0 : -1000 ≤ n.states) (h1 : n.states ≤ 1000) : -9223372036854775808 ≤ X.states ∧ X.states ≤ 9223372036854775807 := by
  rcases starL_cases n with h2 | ⟨-, -, h2⟩ <;> rw [h2] at h <;> injection h with h3 h4 <;> subst h3
  · simp [zeN]
  · simp only [starN]; omega
def txM (m : Nat) (l : List Nat) : Bool := okT l l.length && decide (l.length ≤ m)
theorem txM_iff {m : Nat} {l : List Nat} : txM m l = true ↔ (∀ b ∈ l, 97 ≤ b ∧ b ≤ 99) ∧ l.length ≤ m := by
  unfold txM okT
  simp only [Bool.and_eq_true, List.all_eq_true, List.mem_range, decide_eq_true_eq]
  refine and_congr_left fun _ => ⟨fun h b hb => ?_, fun h i hi => ?_⟩
  · obtain ⟨i, hi, rfl⟩ := List.getElem_of_mem hb
    have h2 := h i hi
    rw [List.getD_eq_getElem?_getD, List.getElem?_eq_getElem hi] at h2
    unfold inB at h2
    simp at h2
    omega
  · have h2 := h _ (getD_memT hi)
    obtain ⟨c, hc⟩ : ∃ c, c = l.getD i 0 := ⟨_, rfl⟩
    rw [← hc] at h2 ⊢
    unfold inB
    simp
    omega
theorem txM_wd {l : List Nat} (m : Nat) (hm : 8 ≤ m) (h : wdOk l = true) : txM m l = true := by
  rw [wdOk_iff] at h
  exact txM_iff.2 ⟨h.1, by omega⟩
theorem letsM_isW {m : Nat} {l : List Nat} (h : txM m l = true) : isW (lets l) := fun c hc => by
  obtain ⟨b, hb, rfl⟩ := List.mem_map.1 hc
  have := (txM_iff.1 h).1 b hb
  omega
theorem txB_letsM {m : Nat} {l : List Nat} (h : txM m l = true) : txB l = wdB (lets l) := by
  unfold txB wdB lets
  rw [List.map_map]
  congr 2
  apply List.map_congr_left
  intro b hb
  have := (txM_iff.1 h).1 b hb
  show UInt8.ofNat b = UInt8.ofNat (97 + (b - 97))
  congr 1
  omega
theorem lets_len (l : List Nat) : (lets l).length = l.length := by
  unfold lets
  rw [List.length_map]
theorem okTM_bad {m : Nat} {l : List Nat} {k : Nat} (hk : k < l.length) (h1 : inB ((l.getD k 0 : Nat) : Int) 97 99 = false) : txM m l = false := by
  unfold txM okT
  have : ((List.range l.length).all fun i => inB ((l.getD i 0 : Nat) : Int) 97 99) = false := by
    rw [List.all_eq_false]
    exact ⟨k, List.mem_range.2 hk, by rw [h1]; simp⟩
  rw [this]
  rfl
def pcE (L : List Nat) (i j : Nat) : List Nat := (L.take j).drop i
theorem pcE_isW {L : List Nat} (h : isW L) (i j : Nat) : isW (pcE L i j) := fun c hc => h c (List.mem_of_mem_take (List.mem_of_mem_drop hc))
theorem pcE_len (L : List Nat) (i j : Nat) : (pcE L i j).length ≤ L.length := by
  unfold pcE
  rw [List.length_drop, List.length_take]
  omega
theorem wdB_piece (L : List Nat) (i j : Nat) : (wdB L).extract i j = wdB (pcE L i j) := by
  apply ByteArray.ext
  unfold pcE
  simp only [wdB, ByteArray.data_extract, List.map_drop, List.map_take, List.extract_toArray, List.extract_eq_take_drop, List.drop_take]
def cnd (d : DfaD) (L : List Nat) (F : List Int) (j i : Nat) (m : Int) : Int :=
  if 0 ≤ F.getD i 0 ∧ accD d (pcE L i j) = true ∧ (m < 0 ∨ F.getD i 0 + 1 < m) then F.getD i 0 + 1 else m
def rndB (d : DfaD) (L : List Nat) (F : List Int) (j : Nat) : Nat → Int
  | 0 => -1
  | i + 1 => cnd d L F j i (rndB d L F j i)
def bestF (d : DfaD) (L : List Nat) : Nat → List Int
  | 0 => [0]
  | j + 1 => bestF d L j ++ [rndB d L (bestF d L j) (j + 1) (j + 1)]
theorem bestF_len (d : DfaD) (L : List Nat) : ∀ j, (bestF d L j).length = j + 1
  | 0 => rfl
  | j + 1 => by
    show (bestF d L j ++ [_]).length = _
    rw [List.length_append, bestF_len d L j]
    rfl
theorem rndB_in (d : DfaD) (L : List Nat) (F : List Int) (j : Nat) : ∀ i, (∀ k, k < i → F.getD k 0 ≤ k) → -1 ≤ rndB d L F j i ∧ rndB d L F j i ≤ i
  | 0, _ => by
    show (-1 : Int) ≤ -1 ∧ (-1 : Int) ≤ ((0 : Nat) : Int)
    omega
  | i + 1, h => by
    obtain ⟨h1, h2⟩ := rndB_in d L F j i fun k hk => h k (by omega)
    have h3 := h i (by omega)
    show -1 ≤ cnd d L F j i _ ∧ cnd d L F j i _ ≤ _
    unfold cnd
    split <;> omega
theorem bestD_last {F : List Int} {x : Int} {k : Nat} (h : F.length = k) : (F ++ [x]).getD k 0 = x := by
  subst h
  simp
theorem bestD_left {F G : List Int} {i : Nat} (h : i < F.length) : (F ++ G).getD i 0 = F.getD i 0 := by
  simp only [List.getD_eq_getElem?_getD]
  rw [List.getElem?_append_left h]
theorem bestF_in (d : DfaD) (L : List Nat) : ∀ j i, i ≤ j → -1 ≤ (bestF d L j).getD i 0 ∧ (bestF d L j).getD i 0 ≤ i
  | 0, i, h => by
    obtain rfl : i = 0 := by omega
    show (-1 : Int) ≤ 0 ∧ (0 : Int) ≤ ((0 : Nat) : Int)
    omega
  | j + 1, i, h => by
    by_cases hi : i = j + 1
    · subst hi
      show -1 ≤ (bestF d L j ++ [_]).getD (j + 1) 0 ∧ (bestF d L j ++ [_]).getD (j + 1) 0 ≤ _
      rw [bestD_last (bestF_len d L j)]
      exact rndB_in d L _ _ _ fun k hk => (bestF_in d L j k (by omega)).2
    · show -1 ≤ (bestF d L j ++ [_]).getD i 0 ∧ (bestF d L j ++ [_]).getD i 0 ≤ _
      rw [bestD_left (by rw [bestF_len]; omega)]
      exact bestF_in d L j i (by omega)
theorem rndB_nn (d : DfaD) (L : List Nat) (F : List Int) (j : Nat) : ∀ i, (0 ≤ rndB d L F j i ↔ ∃ k, k < i ∧ 0 ≤ F.getD k 0 ∧ accD d (pcE L k j) = true)
  | 0 => ⟨fun h => absurd (show (0 : Int) ≤ -1 from h) (by omega), fun ⟨k, hk, _⟩ => absurd hk (by omega)⟩
  | i + 1 => by
    have ih := rndB_nn d L F j i
    show 0 ≤ cnd d L F j i _ ↔ _
    unfold cnd
    split
    · rename_i h
      exact ⟨fun _ => ⟨i, by omega, h.1, h.2.1⟩, fun _ => by omega⟩
    · rename_i h
      rw [ih]
      constructor
      · rintro ⟨k, hk, hr⟩
        exact ⟨k, by omega, hr⟩
      · rintro ⟨k, hk, hr⟩
        by_cases hki : k = i
        · subst hki
          refine ih.1 ?_
          by_cases hm : rndB d L F j k < 0
          · exact absurd ⟨hr.1, hr.2, .inl hm⟩ h
          · omega
        · exact ⟨k, by omega, hr⟩
theorem starL_cut {P : List Nat → Prop} : ∀ (ws : List (List Nat)), (∀ u ∈ ws, P u) → ws.flatten ≠ [] → ∃ i, i < ws.flatten.length ∧ StarL P (ws.flatten.take i) ∧ P (ws.flatten.drop i)
  | [], _, h => absurd rfl h
  | u :: ws, hp, h => by
    rw [List.flatten_cons] at h ⊢
    by_cases he : ws.flatten = []
    · rw [he, List.append_nil] at h ⊢
      exact ⟨0, List.length_pos_iff.2 h, by rw [List.take_zero]; exact .nil, by rw [List.drop_zero]; exact hp u (by simp)⟩
    · obtain ⟨i, hi, h1, h2⟩ := starL_cut ws (fun v hv => hp v (by simp [hv])) he
      refine ⟨u.length + i, by rw [List.length_append]; omega, ?_, ?_⟩
      · rw [List.take_append, List.take_of_length_le (by omega), Nat.add_sub_cancel_left]
        exact .cons (hp u (by simp)) h1
      · rw [List.drop_append, List.drop_eq_nil_of_le (by omega), Nat.add_sub_cancel_left]
        exact h2
theorem starL_last {P : List Nat → Prop} {w : List Nat} (hw : w ≠ []) : StarL P w ↔ ∃ i, i < w.length ∧ StarL P (w.take i) ∧ P (w.drop i) := by
  constructor
  · rintro ⟨ws, rfl, hp⟩
    exact starL_cut ws hp hw
  · rintro ⟨i, -, ⟨ws, he, hp⟩, h⟩
    refine ⟨ws ++ [w.drop i], ?_, fun u hu => ?_⟩
    · rw [List.flatten_append, ← he]
      simp
    · rcases List.mem_append.1 hu with hu | hu
      · exact hp u hu
      · obtain rfl := List.mem_singleton.1 hu
        exact h
theorem bestF_star (d : DfaD) (L : List Nat) : ∀ j, j ≤ L.length → ∀ i, i ≤ j → (0 ≤ (bestF d L j).getD i 0 ↔ StarL (fun u => accD d u = true) (L.take i))
  | 0, _, i, h => by
    obtain rfl : i = 0 := by omega
    exact ⟨fun _ => by rw [List.take_zero]; exact .nil, fun _ => Int.le_refl 0⟩
  | j + 1, hj, i, h => by
    have ih := bestF_star d L j (by omega)
    by_cases hi : i = j + 1
    · subst hi
      show 0 ≤ (bestF d L j ++ [_]).getD (j + 1) 0 ↔ _
      have hl : (L.take (j + 1)).length = j + 1 := by rw [List.length_take]; omega
      rw [bestD_last (bestF_len d L j), rndB_nn, starL_last (fun h => by rw [h] at hl; cases hl), hl]
      refine exists_congr fun k => and_congr_right fun hk => ?_
      rw [ih k (by omega), List.take_take, Nat.min_eq_left (by omega)]
      rfl
    · show 0 ≤ (bestF d L j ++ [_]).getD i 0 ↔ _
      rw [bestD_left (by rw [bestF_len]; omega)]
      exact ih i (by omega)
theorem starL_yes {n X : NfaD} (h : starL n = (X, true)) : nfaOk n = true ∧ nfaOk X = true ∧ X = starN n := by
  rcases starL_cases n with h2 | ⟨a1, a2, h2⟩ <;> rw [h2] at h <;> injection h with h3 h4
  · cases h4
  · subst h3
    exact ⟨a1, a2, rfl⟩
def fewQ (d : DfaD) (l : List Nat) : Int := if dfaOk d.next d.ends = true ∧ txM 30 l = true then (bestF d (lets l) l.length).getD l.length 0 else -1
theorem fewQ_star {d : DfaD} {l : List Nat} {X : NfaD} (hd : dfaOk d.next d.ends = true) (hw : wdOk l = true) (hX : starL (nfaOf d) = (X, true)) : (decide (0 ≤ fewQ d l)) = accT X l := by
  obtain ⟨h0, h3, rfl⟩ := starL_yes hX
  unfold fewQ accT
  rw [if_pos ⟨hd, txM_wd 30 (by omega) hw⟩, h3, hw, Bool.true_and, Bool.true_and, Bool.eq_iff_iff, decide_eq_true_eq, bestF_star d (lets l) l.length (by rw [lets_len]; exact Nat.le_refl _) l.length (Nat.le_refl _), accS_pth h3]
  have hl : (lets l).take l.length = lets l := List.take_of_length_le (by rw [lets_len]; exact Nat.le_refl _)
  rw [hl]
  obtain ⟨m, hs, hm40, hmv, -, hfi, -, hei, -⟩ := nfaOk_facts h0
  have hsl := star_lang (p := nfaOf d) (a := m) hs hmv hfi hei (lets l)
  unfold accP at hsl
  rw [hsl]
  exact StarL.congr (fun u hu => (nfaOf_accP hd hu).symm) (lets_isW hw)
theorem index_word {l : List Nat} {k : Nat} (hk : k < l.length) (hw : isW l) : (∀ w' : World, (Instr.index 9 (.string (wdB l)) (.int .i64 (k : Int))).run Try.prog w' = .ok (.int .u8 (97 + (l.getD k 0 : Nat))) w') ∧ IntKind.u8.wrap (97 + ((l.getD k 0 : Nat) : Int) - 97) = (l.getD k 0 : Nat) ∧ IntKind.i64.wrap ((l.getD k 0 : Nat) : Int) = (l.getD k 0 : Nat) := by
  have hc : l.getD k 0 < 3 := hw _ (memD hk)
  have hs : (wdB l).size = l.length := wdB_size l
  refine ⟨fun w' => ?_, ?_, IntWalk.i64_in _ (by omega)⟩
  · rw [run_index_string w' 9 (wdB l) .i64 k Try.underlying9, dif_pos (by omega)]
    congr 2
    exact wdB_at hk hw _
  · obtain h | h | h : l.getD k 0 = 0 ∨ l.getD k 0 = 1 ∨ l.getD k 0 = 2 := by omega
    all_goals (rw [h]; rfl)
set_option maxHeartbeats 1600000 in
theorem l7Run_any (d : DfaD) (q : Nat) (l : List Nat) (v : Value) (w : World) (hd : dfaOk d.next d.ends = true) (hq : q < d.next.length) (hw : isW l) (hl : l.length ≤ 1000000) (h : DfaR 0 w v d) :
    Calls Try.prog 80 #[v, .int .i64 q, .string (wdB l)] w fun e w' => e = .returned (.int .i64 (runD d q l)) ∧ Below w.heap.size w w' := by
  obtain ⟨v1, v2, rfl, g1, g2⟩ := h
  have hlen := dfaOk_len hd
  have hS0 := (St.start w).alloc _ rfl #[v1, v2] 27
  have hs : (wdB l).size = l.length := wdB_size l
  have G1 := Lib.hid g1
  have Hhd := Lib.hid hd; clear hd
  have Hhw := Lib.hid hw; clear hw
  have HhS0 := Lib.hid hS0; clear hS0
  clear g1 g2
  go_enter Try.func80, Try.ntmps80
  go_wp2
  go_loopw [1, 7] (fun fr i wr => ∃ k p : Nat, fr = .int .i64 p ∧ i = .int .i64 k ∧ k ≤ l.length ∧ p < d.next.length ∧ (p : Int) = runD d q (l.take k) ∧ St w wr [Ent.box w.heap.size #[v1, v2] 27]) (fun _ i _ => l.length - (intOf i).toNat)
  case atStart => exact ⟨0, q, rfl, rfl, Nat.zero_le _, hq, rfl, HhS0.out⟩
  case round =>
    obtain ⟨k, p, rfl, rfl, hk, hp, hrun, hS⟩ := hrel
    by_cases hlt : k < l.length
    · have hc : l.getD k 0 < 3 := Hhw.out _ (memD hlt)
      obtain ⟨b1, o1, cap1, z, t, s, rfl, hc1, hc2, k1, hs1, hs2, k2, hb1, hb2⟩ := dfa_cell (G1.out.below hS.bel) Hhd.out hp hc
      have e0 := hS.cell (v := .slice (some ⟨b1, o1, none⟩) d.next.length cap1) 0 0 rfl rfl
      have hnx := (dfaOk_row Hhd.out hp).2 _ hc
      have hsn := runD_snoc d q hlt
      rw [← hrun] at hsn
      obtain ⟨x, hx⟩ : ∃ x, x = (d.next.getD p []).getD (l.getD k 0) 0 := ⟨_, rfl⟩
      have hdx : dnx d (p : Int) (l.getD k 0) = x := by rw [hx]; rfl
      rw [hdx] at hsn
      rw [← hx] at k2 hnx
      obtain ⟨x0, x1⟩ := hnx
      obtain ⟨x, rfl⟩ := Int.eq_ofNat_of_zero_le x0
      obtain ⟨hidx, hw8, hw9⟩ := index_word hlt Hhw.out
      obtain ⟨c, hcc⟩ : ∃ c, c = l.getD k 0 := ⟨_, rfl⟩
      rw [← hcc] at hc k2 hidx hw8 hw9
      have hp2 : (p : Int) < d.next.length := by omega
      have hc3 : (c : Int) < 3 := by omega
      have hkl : (k : Int) < l.length := by omega
      have HhS := Lib.hid hS; clear hS
      have Hhx := Lib.hid hx; clear hx
      have Hhdx := Lib.hid hdx; clear hdx
      have Hhsn := Lib.hid hsn; clear hsn
      have Hhcc := Lib.hid hcc; clear hcc
      have Hhrun := Lib.hid hrun; clear hrun
      go_wp2
      go_quiet (fail)
      go_wp2
      go_roundw
      case rel => exact ⟨k + 1, x, rfl, by go_num, by omega, by omega, Hhsn.out.symm, HhS.out.drewN _⟩
      case measure => simp [intOf]; omega
    · obtain rfl : k = l.length := by omega
      rw [List.take_length] at hrun
      have HhS := Lib.hid hS; clear hS
      have Hhrun := Lib.hid hrun; clear hrun
      go_wp2
      go_ret
      exact ⟨ret_int Hhrun.out, HhS.out.bel⟩
end Go.Proofs.Ytalbofnhcpjilaa
