/-
  The walk over the law FnStartsRests.
  Conditions: the arguments read as bytes.
-/
import Derived.Test.YtalbofnhcpjilaaPk33Bq
namespace Go.Proofs.Ytalbofnhcpjilaa
open Go.RowKit
theorem rs_yesS {d X : DfaD} (hX : (rs d).getD zeD = X) (hfb : (rs d).isSome = true) : rs d = some X := by
 cases h : rs d with
 | none => rw [h] at hfb; cases hfb
 | some x => rw [h] at hX; exact congrArg some hX
theorem det_yesS {n : NfaD} {X : DfaD} (hX : (det n).getD zeroD = X) (hfb : (det n).isSome = true) : det n = some X := by
 cases h : det n with
 | none => rw [h] at hfb; cases hfb
 | some x => rw [h] at hX; exact congrArg some hX
theorem starts_rests {d X T : DfaD} (h : rs d = some X) (ht : det (turnL (nfaQ d)) = some T) : dfaOk T.next T.ends = true ∧ ∀ F, LdE T F → ∀ w, isW w → accD (minD ⟨T.next, F⟩) w.reverse = accD X w := by
 have hd := (rs_acc h).1
 have e1 : nfaQ d = nfaOf d := if_pos hd
 rw [e1, turnL_ok (nfaOf_ok hd)] at ht
 have ht2 : tdK forty d = some T := by
  rw [tdK_det hd]
  exact ht
 have hT := td_ok rfl ht2
 refine ⟨hT, fun F hF w hw => Bool.eq_iff_iff.2 ?_⟩
 rw [starts_acc hT hF (isW_rev hw), rs_iff h hw]
 constructor
 ·rintro ⟨u, hu, he⟩
  refine ⟨u.reverse, isW_rev hu, ?_⟩
  rw [td_acc hd ht2 (isW_append (isW_rev hw) hu), List.reverse_append, List.reverse_reverse] at he
  exact he
 ·rintro ⟨u, hu, he⟩
  refine ⟨u.reverse, isW_rev hu, ?_⟩
  rw [td_acc hd ht2 (isW_append (isW_rev hw) (isW_rev hu)), List.reverse_append, List.reverse_reverse, List.reverse_reverse]
  exact he
theorem wdOk_rev {l : List Nat} (h : wdOk l = true) : wdOk l.reverse = true := by
 rw [wdOk_iff] at h ⊢
 exact ⟨fun b hb => h.1 b (by simpa using hb), by rw [List.length_reverse]; exact h.2⟩
theorem lets_rev (l : List Nat) : lets l.reverse = (lets l).reverse := by
 unfold lets
 rw [List.map_reverse]
theorem nfaQ_bound (d : DfaD) : (-9223372036854775808 ≤ (nfaQ d).states ∧ (nfaQ d).states ≤ 9223372036854775807) := by
 unfold nfaQ
 split
 ·rename_i h
  have hl := dfaOk_len h
  show -9223372036854775808 ≤ (d.next.length : Int) ∧ (d.next.length : Int) ≤ 9223372036854775807
  omega
 ·decide
theorem turnL_bound {n : NfaD} (h : -9223372036854775808 ≤ n.states ∧ n.states ≤ 9223372036854775807) : (-9223372036854775808 ≤ (turnL n).states ∧ (turnL n).states ≤ 9223372036854775807) := by
 unfold turnL
 split
 ·exact h
 ·decide
set_option maxRecDepth 100000 in
set_option maxHeartbeats 16000000 in
theorem startsRests_walk (bs cs : List Nat) (v u : Value) (w : World) (hb : Bytes 0 w v bs) (hc : Bytes 0 w u cs) :
  Calls Try.prog 6 #[v, u] w fun e w' => e = .returned (.bool true) ∧ Below w.heap.size w w' := by
 have HB := Lib.hid hb
 have HC := Lib.hid hc
 obtain ⟨av, cv, rfl, hcv1, hcv2, -⟩ := hb.form
 obtain ⟨au, cu, rfl, hcu1, hcu2, -⟩ := hc.form
 clear hb hc
 by_cases hlen : 1048576 < bs.length
 ·have hl2 : (1048576 : Int) < bs.length := by omega
  go_enter Try.func6, Try.ntmps6
  go_wp2
  go_ret
  exact ⟨rfl, Below.refl _ _⟩
 have hl2 : ¬ (1048576 : Int) < bs.length := by omega
 by_cases hlen2 : 1048576 < cs.length
 ·have hl3 : (1048576 : Int) < cs.length := by omega
  go_enter Try.func6, Try.ntmps6
  go_wp2
  go_ret
  exact ⟨rfl, Below.refl _ _⟩
 have hl3 : ¬ (1048576 : Int) < cs.length := by omega
 go_enter Try.func6, Try.ntmps6
 go_wp2_with fail
 refine (drawDfaRestsD_any bs _ _ HB.out (by omega)).mono ?_
 rintro e w1 ⟨d, a1, a2, c1, c2, hsm, rfl, hd, hb1⟩
 have HS1 := Lib.hid (((St.start w).call hb1).alloc _ rfl #[.slice a1 d.next.length c1, .slice a2 d.ends.length c2] 27)
 have HR := Lib.hid (hd.below ((Below.refl w1.heap.size w1).alloc (Nat.le_refl _) (.cells #[.slice a1 d.next.length c1, .slice a2 d.ends.length c2] 27)))
 clear hb1 hd
 obtain ⟨X, hX⟩ : ∃ X, (rs d).getD zeD = X := ⟨_, rfl⟩
 obtain ⟨N, hN⟩ : ∃ N, nfaQ d = N := ⟨_, rfl⟩
 obtain ⟨U, hU⟩ : ∃ U, turnL N = U := ⟨_, rfl⟩
 obtain ⟨T, hT⟩ : ∃ T, (det U).getD zeroD = T := ⟨_, rfl⟩
 have hNs := nfaQ_bound d
 rw [hN] at hNs
 have hUs := turnL_bound hNs
 rw [hU] at hUs
 obtain ⟨fb, hfb⟩ : ∃ fb, (rs d).isSome = fb := ⟨_, rfl⟩
 obtain ⟨gb, hgb⟩ : ∃ gb, (det U).isSome = gb := ⟨_, rfl⟩
 have HhN := Lib.hid hN; clear hN
 have HhU := Lib.hid hU; clear hU
 have HhNs := Lib.hid hNs; clear hNs
 have HhUs := Lib.hid hUs; clear hUs
 have HhX := Lib.hid hX; clear hX
 have HhT := Lib.hid hT; clear hT
 have Hhfb := Lib.hid hfb; clear hfb
 have Hhgb := Lib.hid hgb; clear hgb
 have e0 := HS1.out.cell (v := .slice a1 d.next.length c1) 0 0 rfl rfl
 have e1 := HS1.out.cell (v := .slice a2 d.ends.length c2) 0 1 rfl rfl
 go_wp2_with fail
 refine (implRs_any d X _ HhX.out Hhfb.out _ _ HR.out).mono ?_
 rintro e w2 ⟨⟨x1, y1, x2, y2, rfl, hx⟩, hb⟩
 have HS2 := Lib.hid ((HS1.out.call hb).alloc _ rfl #[.slice x1 X.next.length y1, .slice x2 X.ends.length y2] 27)
 have HX := Lib.hid (((hx.r).mono (Nat.zero_le _)).below ((Below.refl w2.heap.size w2).alloc (Nat.le_refl _) (.cells #[.slice x1 X.next.length y1, .slice x2 X.ends.length y2] 27)))
 have HR2 := Lib.hid ((HR.out.below hb).below ((Below.refl w2.heap.size w2).alloc (Nat.le_refl _) (.cells #[.slice x1 X.next.length y1, .slice x2 X.ends.length y2] 27)))
 clear HR hb hx e0 e1
 have HR := HR2
 have e0 := HS2.out.cell (v := .slice a1 d.next.length c1) 0 0 rfl rfl
 have e1 := HS2.out.cell (v := .slice a2 d.ends.length c2) 0 1 rfl rfl
 go_wp2_with fail
 refine (specRs_any d X _ HhX.out Hhfb.out _ _ HR.out).mono ?_
 rintro e w3 ⟨⟨z1, u1, z2, u2, rfl, hx⟩, hb⟩
 have HS3 := Lib.hid ((HS2.out.call hb).alloc _ rfl #[.slice z1 X.next.length u1, .slice z2 X.ends.length u2] 27)
 have HY := Lib.hid (hx.below ((Below.refl w3.heap.size w3).alloc (Nat.le_refl _) (.cells #[.slice z1 X.next.length u1, .slice z2 X.ends.length u2] 27)))
 have HX3 := Lib.hid ((HX.out.below hb).below ((Below.refl w3.heap.size w3).alloc (Nat.le_refl _) (.cells #[.slice z1 X.next.length u1, .slice z2 X.ends.length u2] 27)))
 have HR3 := Lib.hid ((HR.out.below hb).below ((Below.refl w3.heap.size w3).alloc (Nat.le_refl _) (.cells #[.slice z1 X.next.length u1, .slice z2 X.ends.length u2] 27)))
 clear HR hb hx e0 e1
 have e0 := HS3.out.cell (v := .slice x1 X.next.length y1) 1 0 rfl rfl
 have e1 := HS3.out.cell (v := .slice x2 X.ends.length y2) 1 1 rfl rfl
 have f0 := HS3.out.cell (v := .slice z1 X.next.length u1) 2 0 rfl rfl
 have f1 := HS3.out.cell (v := .slice z2 X.ends.length u2) 2 1 rfl rfl
 go_wp2_with fail
 refine (sameDfa_any X _ _ _ HX3.out HY.out).mono ?_
 rintro e w4 ⟨rfl, hb⟩
 have HS4 := Lib.hid (HS3.out.call hb)
 have HX4 := Lib.hid (HX3.out.below hb)
 have HR4 := Lib.hid (HR3.out.below hb)
 clear hb e0 e1 f0 f1
 have e0 := HS4.out.cell (v := .slice a1 d.next.length c1) 0 0 rfl rfl
 have e1 := HS4.out.cell (v := .slice a2 d.ends.length c2) 0 1 rfl rfl
 go_wp2_with fail
 refine (implNfaOfQ_any d N HhN.out _ _ HR4.out).mono ?_
 rintro e w5 ⟨n1, m1, n2, m2, n3, m3, rfl, hSx⟩
 have HS5 := Lib.hid (HS4.out.call hSx.bel)
 have HX5 := Lib.hid (HX4.out.below hSx.bel)
 have HN := Lib.hid (nfaR_of (moves_of_row (hSx.row 0 rfl)) (ints_of_row' (hSx.row 1 rfl)) (ints_of_row' (hSx.row 2 rfl)) HhNs.out.1 HhNs.out.2)
 clear hSx e0 e1
 go_wp2_with fail
 refine (implTurnNfa_any N _ _ HN.out).mono ?_
 rintro e w6 hr6
 rw [HhU.out] at hr6
 obtain ⟨n1, m1, n2, m2, n3, m3, rfl, hSx⟩ := hr6
 have HS6 := Lib.hid (HS5.out.call hSx.bel)
 have HX6 := Lib.hid (HX5.out.below hSx.bel)
 have HU := Lib.hid (nfaR_of (moves_of_row (hSx.row 0 rfl)) (ints_of_row' (hSx.row 1 rfl)) (ints_of_row' (hSx.row 2 rfl)) HhUs.out.1 HhUs.out.2)
 clear hSx HN
 go_wp2_with fail
 refine (implDet_any U T gb HhT.out Hhgb.out _ _ HU.out).mono ?_
 rintro e w7 ⟨⟨r1, s1, r2, s2, rfl, hx⟩, hb⟩
 have HS7 := Lib.hid ((HS6.out.call hb).alloc _ rfl #[.slice r1 T.next.length s1, .slice r2 T.ends.length s2] 27)
 have HX7 := Lib.hid ((HX6.out.below hb).below ((Below.refl w7.heap.size w7).alloc (Nat.le_refl _) (.cells #[.slice r1 T.next.length s1, .slice r2 T.ends.length s2] 27)))
 have HT7 := Lib.hid (((hx.r).mono (Nat.zero_le _)).below ((Below.refl w7.heap.size w7).alloc (Nat.le_refl _) (.cells #[.slice r1 T.next.length s1, .slice r2 T.ends.length s2] 27)))
 clear hx hb HU
 go_wp2_with fail
 refine (drawWord_any cs _ _ (HC.out.below HS7.out.bel) (by omega)).mono ?_
 rintro e w8 ⟨l, ht, hl, rfl, hb⟩
 have HS8 := Lib.hid (HS7.out.call hb)
 have HX8 := Lib.hid (HX7.out.below hb)
 have HT8 := Lib.hid (HT7.out.below hb)
 have Hht := Lib.hid ht; clear ht
 clear hb HS1 HS2 HS3 HS4 HS5 HS6 HS7 HX HX3 HX4 HX5 HX6 HX7 HT7 HY HR3 HR4 HR2
 go_wp2
 cases fb
 ·have C0 := Lib.hid (HS8.out.cell (v := .slice x1 X.next.length y1) 1 0 rfl rfl)
  have C1 := Lib.hid (HS8.out.cell (v := .slice x2 X.ends.length y2) 1 1 rfl rfl)
  have HltC := Lib.hid (HS8.out.boxlt 1 rfl).2
  have D0 := Lib.hid (HS8.out.cell (v := .slice r1 T.next.length s1) 3 0 rfl rfl)
  have D1 := Lib.hid (HS8.out.cell (v := .slice r2 T.ends.length s2) 3 1 rfl rfl)
  have HltD := Lib.hid (HS8.out.boxlt 3 rfl).2
  refine wp_region_any (by kernel_rfl) ?_
  refine wpAny_invA (fun A listed a w' => ∃ (flg : Bs40) , listed = #[flg.b0, flg.b1, flg.b2, flg.b3, flg.b4, flg.b5, flg.b6, flg.b7, flg.b8, flg.b9, flg.b10, flg.b11, flg.b12, flg.b13, flg.b14, flg.b15, flg.b16, flg.b17, flg.b18, flg.b19, flg.b20, flg.b21, flg.b22, flg.b23, flg.b24, flg.b25] ∧
    a = ⟨#[A.tmps.getD 0 undef, A.tmps.getD 1 undef, A.tmps.getD 2 undef, A.tmps.getD 3 undef, .bool flg.b25, A.tmps.getD 5 undef, A.tmps.getD 6 undef, A.tmps.getD 7 undef, A.tmps.getD 8 undef, A.tmps.getD 9 undef, A.tmps.getD 10 undef, A.tmps.getD 11 undef, A.tmps.getD 12 undef, A.tmps.getD 13 undef, A.tmps.getD 14 undef, A.tmps.getD 15 undef, A.tmps.getD 16 undef, A.tmps.getD 17 undef, A.tmps.getD 18 undef, A.tmps.getD 19 undef, A.tmps.getD 20 undef, A.tmps.getD 21 undef, A.tmps.getD 22 undef, A.tmps.getD 23 undef, A.tmps.getD 24 undef, A.tmps.getD 25 undef, A.tmps.getD 26 undef, A.tmps.getD 27 undef, A.tmps.getD 28 undef, A.tmps.getD 29 undef, A.tmps.getD 30 undef, A.tmps.getD 31 undef, A.tmps.getD 32 undef, A.tmps.getD 33 undef, A.tmps.getD 34 undef, A.tmps.getD 35 undef, A.tmps.getD 36 undef, A.tmps.getD 37 undef, A.tmps.getD 38 undef, A.tmps.getD 39 undef, A.tmps.getD 40 undef, A.tmps.getD 41 undef, A.tmps.getD 42 undef, A.tmps.getD 43 undef, A.tmps.getD 44 undef, A.tmps.getD 45 undef, A.tmps.getD 46 undef, A.tmps.getD 47 undef, A.tmps.getD 48 undef, A.tmps.getD 49 undef, A.tmps.getD 50 undef, (if flg.b0 = true then .bool false else A.tmps.getD 51 undef), (if flg.b1 = true then .bool true else A.tmps.getD 52 undef), (if flg.b2 = true then .bool true else A.tmps.getD 53 undef), A.tmps.getD 54 undef, A.tmps.getD 55 undef, (if flg.b5 = true then .bool true else A.tmps.getD 56 undef), (if flg.b6 = true then .bool true else A.tmps.getD 57 undef), A.tmps.getD 58 undef, A.tmps.getD 59 undef, A.tmps.getD 60 undef, (if flg.b10 = true then .bool true else A.tmps.getD 61 undef), (if flg.b11 = true then .bool true else A.tmps.getD 62 undef), A.tmps.getD 63 undef, A.tmps.getD 64 undef, A.tmps.getD 65 undef, A.tmps.getD 66 undef, A.tmps.getD 67 undef, A.tmps.getD 68 undef, A.tmps.getD 69 undef, A.tmps.getD 70 undef, A.tmps.getD 71 undef, (if flg.b21 = true then .bool true else A.tmps.getD 72 undef), (if flg.b22 = true then .bool true else A.tmps.getD 73 undef), (if flg.b23 = true then .bool true else A.tmps.getD 74 undef), (if flg.b24 = true then .bool true else A.tmps.getD 75 undef)], A.defers⟩ ∧
    St w8 w' []) ?_ ?_ ?_
  ·rintro listed a w' ⟨⟨l0, l1, l2, l3, l4, l5, l6, l7, l8, l9, l10, l11, l12, l13, l14, l15, l16, l17, l18, l19, l20, l21, l22, l23, l24, l25, _, _, _, _, _, _, _, _, _, _, _, _, _, _⟩, rfl, rfl, hS⟩ i hi
   obtain ⟨hun, o, ho, hall⟩ := mem_ready.1 hi
   have hlt := (Array.getElem?_eq_some_iff.1 ho).1
   refine wpOp_step ho (fun K hK => ?_)
   clear hi
   have HS := Lib.hid hS
   clear hS
   simp only [List.setIfInBounds_toArray, Array.getD_eq_getD_getElem?, List.getElem?_toArray, List.getElem?_cons_zero, List.getElem?_cons_succ, Option.getD_some] at hK ⊢
   obtain h | h | h | h | h | h | h | h | h | h | h | h | h | h | h | h | h | h | h | h | h | h | h | h | h | h : i = 0 ∨ i = 1 ∨ i = 2 ∨ i = 3 ∨ i = 4 ∨ i = 5 ∨ i = 6 ∨ i = 7 ∨ i = 8 ∨ i = 9 ∨ i = 10 ∨ i = 11 ∨ i = 12 ∨ i = 13 ∨ i = 14 ∨ i = 15 ∨ i = 16 ∨ i = 17 ∨ i = 18 ∨ i = 19 ∨ i = 20 ∨ i = 21 ∨ i = 22 ∨ i = 23 ∨ i = 24 ∨ i = 25 := by simp at hlt; omega
   all_goals subst h
   all_goals simp only [List.getElem?_toArray, List.getElem?_cons_zero, List.getElem?_cons_succ, Option.some.injEq] at ho
   all_goals subst ho
   all_goals simp [Region.binds] at hun hall
   ·subst hun
    go_simp
    exact hK _ _ ⟨⟨true, l1, l2, l3, l4, l5, l6, l7, l8, l9, l10, l11, l12, l13, l14, l15, l16, l17, l18, l19, l20, l21, l22, l23, l24, l25, false, false, false, false, false, false, false, false, false, false, false, false, false, false⟩, rfl, rfl, HS.out⟩
   ·obtain rfl := hall
    subst hun
    go_simp
    exact hK _ _ ⟨⟨true, true, l2, l3, l4, l5, l6, l7, l8, l9, l10, l11, l12, l13, l14, l15, l16, l17, l18, l19, l20, l21, l22, l23, l24, l25, false, false, false, false, false, false, false, false, false, false, false, false, false, false⟩, rfl, rfl, HS.out⟩
   ·obtain rfl := hall
    subst hun
    go_simp
    exact hK _ _ ⟨⟨l0, true, true, l3, l4, l5, l6, l7, l8, l9, l10, l11, l12, l13, l14, l15, l16, l17, l18, l19, l20, l21, l22, l23, l24, l25, false, false, false, false, false, false, false, false, false, false, false, false, false, false⟩, rfl, rfl, HS.out⟩
   ·obtain rfl := hall
    subst hun
    go_simp
    exact hK _ _ ⟨⟨l0, l1, true, true, l4, l5, l6, l7, l8, l9, l10, l11, l12, l13, l14, l15, l16, l17, l18, l19, l20, l21, l22, l23, l24, l25, false, false, false, false, false, false, false, false, false, false, false, false, false, false⟩, rfl, rfl, HS.out⟩
   ·obtain ⟨rfl, rfl⟩ := hall
    subst hun
    go_simp
    exact hK _ _ ⟨⟨l0, l1, true, true, true, l5, l6, l7, l8, l9, l10, l11, l12, l13, l14, l15, l16, l17, l18, l19, l20, l21, l22, l23, l24, l25, false, false, false, false, false, false, false, false, false, false, false, false, false, false⟩, rfl, rfl, HS.out⟩
   ·obtain ⟨rfl, rfl⟩ := hall
    subst hun
    go_simp
    exact hK _ _ ⟨⟨l0, l1, true, l3, true, true, l6, l7, l8, l9, l10, l11, l12, l13, l14, l15, l16, l17, l18, l19, l20, l21, l22, l23, l24, l25, false, false, false, false, false, false, false, false, false, false, false, false, false, false⟩, rfl, rfl, HS.out⟩
   ·obtain ⟨rfl, rfl⟩ := hall
    subst hun
    go_simp
    exact hK _ _ ⟨⟨l0, l1, true, l3, l4, true, true, l7, l8, l9, l10, l11, l12, l13, l14, l15, l16, l17, l18, l19, l20, l21, l22, l23, l24, l25, false, false, false, false, false, false, false, false, false, false, false, false, false, false⟩, rfl, rfl, HS.out⟩
   ·obtain rfl := hall
    subst hun
    go_simp
    exact hK _ _ ⟨⟨l0, l1, l2, l3, l4, l5, true, true, l8, l9, l10, l11, l12, l13, l14, l15, l16, l17, l18, l19, l20, l21, l22, l23, l24, l25, false, false, false, false, false, false, false, false, false, false, false, false, false, false⟩, rfl, rfl, HS.out⟩
   ·obtain ⟨rfl, rfl⟩ := hall
    subst hun
    go_simp
    exact hK _ _ ⟨⟨l0, l1, l2, l3, l4, l5, true, true, true, l9, l10, l11, l12, l13, l14, l15, l16, l17, l18, l19, l20, l21, l22, l23, l24, l25, false, false, false, false, false, false, false, false, false, false, false, false, false, false⟩, rfl, rfl, HS.out⟩
   ·obtain ⟨rfl, rfl⟩ := hall
    subst hun
    go_simp
    exact hK _ _ ⟨⟨l0, l1, l2, l3, l4, l5, true, l7, true, true, l10, l11, l12, l13, l14, l15, l16, l17, l18, l19, l20, l21, l22, l23, l24, l25, false, false, false, false, false, false, false, false, false, false, false, false, false, false⟩, rfl, rfl, HS.out⟩
   ·obtain ⟨rfl, rfl⟩ := hall
    subst hun
    go_simp
    exact hK _ _ ⟨⟨l0, l1, l2, l3, l4, l5, true, l7, l8, true, true, l11, l12, l13, l14, l15, l16, l17, l18, l19, l20, l21, l22, l23, l24, l25, false, false, false, false, false, false, false, false, false, false, false, false, false, false⟩, rfl, rfl, HS.out⟩
   ·obtain ⟨rfl, rfl⟩ := hall
    subst hun
    go_simp
    exact hK _ _ ⟨⟨l0, l1, l2, l3, l4, l5, l6, l7, true, l9, true, true, l12, l13, l14, l15, l16, l17, l18, l19, l20, l21, l22, l23, l24, l25, false, false, false, false, false, false, false, false, false, false, false, false, false, false⟩, rfl, rfl, HS.out⟩
   ·obtain rfl := hall
    subst hun
    go_simp
    exact hK _ _ ⟨⟨l0, l1, l2, l3, l4, l5, l6, l7, l8, l9, l10, true, true, l13, l14, l15, l16, l17, l18, l19, l20, l21, l22, l23, l24, l25, false, false, false, false, false, false, false, false, false, false, false, false, false, false⟩, rfl, rfl, HS.out⟩
   ·obtain rfl := hall
    subst hun
    go_simp
    exact hK _ _ ⟨⟨l0, l1, l2, l3, l4, l5, l6, l7, l8, l9, l10, true, l12, true, l14, l15, l16, l17, l18, l19, l20, l21, l22, l23, l24, l25, false, false, false, false, false, false, false, false, false, false, false, false, false, false⟩, rfl, rfl, HS.out⟩
   ·obtain ⟨rfl, rfl, rfl⟩ := hall
    subst hun
    go_simp
    exact hK _ _ ⟨⟨l0, l1, l2, l3, l4, l5, l6, l7, l8, l9, l10, true, true, true, true, l15, l16, l17, l18, l19, l20, l21, l22, l23, l24, l25, false, false, false, false, false, false, false, false, false, false, false, false, false, false⟩, rfl, rfl, HS.out⟩
   ·obtain rfl := hall
    subst hun
    go_simp
    exact hK _ _ ⟨⟨l0, l1, l2, l3, l4, l5, l6, l7, l8, l9, l10, true, l12, l13, l14, true, l16, l17, l18, l19, l20, l21, l22, l23, l24, l25, false, false, false, false, false, false, false, false, false, false, false, false, false, false⟩, rfl, rfl, HS.out⟩
   ·obtain ⟨rfl, rfl, rfl⟩ := hall
    subst hun
    go_simp
    exact hK _ _ ⟨⟨l0, l1, l2, l3, l4, l5, l6, l7, l8, l9, l10, true, l12, l13, true, true, true, l17, l18, l19, l20, l21, l22, l23, l24, l25, false, false, false, false, false, false, false, false, false, false, false, false, false, false⟩, rfl, rfl, HS.out⟩
   ·obtain rfl := hall
    subst hun
    go_simp
    exact hK _ _ ⟨⟨l0, l1, l2, l3, l4, l5, l6, l7, l8, l9, l10, true, l12, l13, l14, l15, l16, true, l18, l19, l20, l21, l22, l23, l24, l25, false, false, false, false, false, false, false, false, false, false, false, false, false, false⟩, rfl, rfl, HS.out⟩
   ·obtain ⟨rfl, rfl, rfl⟩ := hall
    subst hun
    go_simp
    exact hK _ _ ⟨⟨l0, l1, l2, l3, l4, l5, l6, l7, l8, l9, l10, true, l12, l13, l14, l15, true, true, true, l19, l20, l21, l22, l23, l24, l25, false, false, false, false, false, false, false, false, false, false, false, false, false, false⟩, rfl, rfl, HS.out⟩
   ·obtain ⟨rfl, rfl, rfl⟩ := hall
    subst hun
    go_simp
    exact hK _ _ ⟨⟨l0, l1, l2, l3, l4, l5, l6, l7, l8, l9, l10, true, l12, l13, l14, l15, true, l17, true, true, l20, l21, l22, l23, l24, l25, false, false, false, false, false, false, false, false, false, false, false, false, false, false⟩, rfl, rfl, HS.out⟩
   ·obtain ⟨rfl, rfl, rfl⟩ := hall
    subst hun
    go_simp
    exact hK _ _ ⟨⟨l0, l1, l2, l3, l4, l5, l6, l7, l8, l9, l10, true, l12, l13, true, l15, l16, l17, l18, true, true, l21, l22, l23, l24, l25, false, false, false, false, false, false, false, false, false, false, false, false, false, false⟩, rfl, rfl, HS.out⟩
   ·obtain ⟨rfl, rfl⟩ := hall
    subst hun
    go_simp
    exact hK _ _ ⟨⟨l0, l1, l2, l3, l4, l5, l6, l7, l8, l9, l10, true, l12, l13, l14, l15, l16, l17, l18, l19, true, true, l22, l23, l24, l25, false, false, false, false, false, false, false, false, false, false, false, false, false, false⟩, rfl, rfl, HS.out⟩
   ·obtain ⟨rfl, rfl⟩ := hall
    subst hun
    go_simp
    exact hK _ _ ⟨⟨l0, l1, l2, l3, l4, l5, l6, l7, l8, l9, l10, l11, l12, l13, l14, l15, l16, l17, l18, true, l20, true, true, l23, l24, l25, false, false, false, false, false, false, false, false, false, false, false, false, false, false⟩, rfl, rfl, HS.out⟩
   ·obtain rfl := hall
    subst hun
    go_simp
    go_at_call 21
    refine (alive_any _).mono ?_
    rintro e u1 ⟨rfl, rfl⟩
    go_simp
    exact hK _ _ ⟨⟨l0, l1, l2, l3, l4, l5, l6, l7, l8, l9, l10, l11, l12, l13, l14, l15, l16, l17, l18, l19, l20, l21, true, true, l24, l25, false, false, false, false, false, false, false, false, false, false, false, false, false, false⟩, rfl, rfl, HS.out⟩
   ·obtain ⟨rfl, rfl⟩ := hall
    subst hun
    go_simp
    exact hK _ _ ⟨⟨l0, l1, l2, l3, l4, l5, l6, l7, l8, l9, l10, l11, l12, l13, l14, l15, l16, l17, l18, l19, l20, l21, true, true, true, l25, false, false, false, false, false, false, false, false, false, false, false, false, false, false⟩, rfl, rfl, HS.out⟩
   ·obtain ⟨rfl, rfl, rfl, rfl, rfl, rfl, rfl, rfl, rfl, rfl, rfl, rfl, rfl, rfl, rfl, rfl, rfl, rfl, rfl, rfl, rfl, rfl, rfl, rfl, rfl, -⟩ := hall
    subst hun
    go_simp
    exact hK _ _ ⟨⟨true, true, true, true, true, true, true, true, true, true, true, true, true, true, true, true, true, true, true, true, true, true, true, true, true, true, false, false, false, false, false, false, false, false, false, false, false, false, false, false⟩, rfl, rfl, HS.out⟩
  ·rintro listed a w' ⟨⟨l0, l1, l2, l3, l4, l5, l6, l7, l8, l9, l10, l11, l12, l13, l14, l15, l16, l17, l18, l19, l20, l21, l22, l23, l24, l25, _, _, _, _, _, _, _, _, _, _, _, _, _, _⟩, rfl, rfl, hS⟩ hr
   have hall := ready_nilM (by kernel_rfl) rfl hr
   obtain rfl : l0 = true := by simpa using hall 0 (by simp)
   obtain rfl : l1 = true := by simpa using hall 1 (by simp)
   obtain rfl : l2 = true := by simpa using hall 2 (by simp)
   obtain rfl : l3 = true := by simpa using hall 3 (by simp)
   obtain rfl : l4 = true := by simpa using hall 4 (by simp)
   obtain rfl : l5 = true := by simpa using hall 5 (by simp)
   obtain rfl : l6 = true := by simpa using hall 6 (by simp)
   obtain rfl : l7 = true := by simpa using hall 7 (by simp)
   obtain rfl : l8 = true := by simpa using hall 8 (by simp)
   obtain rfl : l9 = true := by simpa using hall 9 (by simp)
   obtain rfl : l10 = true := by simpa using hall 10 (by simp)
   obtain rfl : l11 = true := by simpa using hall 11 (by simp)
   obtain rfl : l12 = true := by simpa using hall 12 (by simp)
   obtain rfl : l13 = true := by simpa using hall 13 (by simp)
   obtain rfl : l14 = true := by simpa using hall 14 (by simp)
   obtain rfl : l15 = true := by simpa using hall 15 (by simp)
   obtain rfl : l16 = true := by simpa using hall 16 (by simp)
   obtain rfl : l17 = true := by simpa using hall 17 (by simp)
   obtain rfl : l18 = true := by simpa using hall 18 (by simp)
   obtain rfl : l19 = true := by simpa using hall 19 (by simp)
   obtain rfl : l20 = true := by simpa using hall 20 (by simp)
   obtain rfl : l21 = true := by simpa using hall 21 (by simp)
   obtain rfl : l22 = true := by simpa using hall 22 (by simp)
   obtain rfl : l23 = true := by simpa using hall 23 (by simp)
   obtain rfl : l24 = true := by simpa using hall 24 (by simp)
   obtain rfl : l25 = true := by simpa using hall 25 (by simp)
   clear hall hr 
   simp only [↓reduceIte] at hS ⊢
   simp only [Array.getD_eq_getD_getElem?, List.getElem?_toArray, List.getElem?_cons_zero, List.getElem?_cons_succ, Option.getD_some]
   have HSf := Lib.hid hS
   clear hS
   go_wp2
   go_ret
   exact ⟨rfl, HS8.out.bel.trans (HSf.out.bel.mono HS8.out.bel.size)⟩
  ·refine ⟨⟨false, false, false, false, false, false, false, false, false, false, false, false, false, false, false, false, false, false, false, false, false, false, false, false, false, false, false, false, false, false, false, false, false, false, false, false, false, false, false, false⟩, rfl, (by simp), ?_⟩
   exact (St.start w8).drew.pick [] (by decide)
 ·cases gb
  ·have C0 := Lib.hid (HS8.out.cell (v := .slice x1 X.next.length y1) 1 0 rfl rfl)
   have C1 := Lib.hid (HS8.out.cell (v := .slice x2 X.ends.length y2) 1 1 rfl rfl)
   have HltC := Lib.hid (HS8.out.boxlt 1 rfl).2
   have D0 := Lib.hid (HS8.out.cell (v := .slice r1 T.next.length s1) 3 0 rfl rfl)
   have D1 := Lib.hid (HS8.out.cell (v := .slice r2 T.ends.length s2) 3 1 rfl rfl)
   have HltD := Lib.hid (HS8.out.boxlt 3 rfl).2
   refine wp_region_any (by kernel_rfl) ?_
   refine wpAny_invA (fun A listed a w' => ∃ (flg : Bs40) , listed = #[flg.b0, flg.b1, flg.b2, flg.b3, flg.b4, flg.b5, flg.b6, flg.b7, flg.b8, flg.b9, flg.b10, flg.b11, flg.b12, flg.b13, flg.b14, flg.b15, flg.b16, flg.b17, flg.b18, flg.b19, flg.b20, flg.b21, flg.b22, flg.b23, flg.b24, flg.b25] ∧
     a = ⟨#[A.tmps.getD 0 undef, A.tmps.getD 1 undef, A.tmps.getD 2 undef, A.tmps.getD 3 undef, .bool flg.b25, A.tmps.getD 5 undef, A.tmps.getD 6 undef, A.tmps.getD 7 undef, A.tmps.getD 8 undef, A.tmps.getD 9 undef, A.tmps.getD 10 undef, A.tmps.getD 11 undef, A.tmps.getD 12 undef, A.tmps.getD 13 undef, A.tmps.getD 14 undef, A.tmps.getD 15 undef, A.tmps.getD 16 undef, A.tmps.getD 17 undef, A.tmps.getD 18 undef, A.tmps.getD 19 undef, A.tmps.getD 20 undef, A.tmps.getD 21 undef, A.tmps.getD 22 undef, A.tmps.getD 23 undef, A.tmps.getD 24 undef, A.tmps.getD 25 undef, A.tmps.getD 26 undef, A.tmps.getD 27 undef, A.tmps.getD 28 undef, A.tmps.getD 29 undef, A.tmps.getD 30 undef, A.tmps.getD 31 undef, A.tmps.getD 32 undef, A.tmps.getD 33 undef, A.tmps.getD 34 undef, A.tmps.getD 35 undef, A.tmps.getD 36 undef, A.tmps.getD 37 undef, A.tmps.getD 38 undef, A.tmps.getD 39 undef, A.tmps.getD 40 undef, A.tmps.getD 41 undef, A.tmps.getD 42 undef, A.tmps.getD 43 undef, A.tmps.getD 44 undef, A.tmps.getD 45 undef, A.tmps.getD 46 undef, A.tmps.getD 47 undef, A.tmps.getD 48 undef, A.tmps.getD 49 undef, A.tmps.getD 50 undef, (if flg.b0 = true then .bool true else A.tmps.getD 51 undef), (if flg.b1 = true then .bool false else A.tmps.getD 52 undef), (if flg.b2 = true then .bool false else A.tmps.getD 53 undef), (if flg.b3 = true then .bool false else A.tmps.getD 54 undef), (if flg.b4 = true then .bool true else A.tmps.getD 55 undef), (if flg.b5 = true then .bool true else A.tmps.getD 56 undef), (if flg.b6 = true then .bool true else A.tmps.getD 57 undef), A.tmps.getD 58 undef, A.tmps.getD 59 undef, A.tmps.getD 60 undef, (if flg.b10 = true then .bool true else A.tmps.getD 61 undef), (if flg.b11 = true then .bool true else A.tmps.getD 62 undef), A.tmps.getD 63 undef, A.tmps.getD 64 undef, A.tmps.getD 65 undef, A.tmps.getD 66 undef, A.tmps.getD 67 undef, A.tmps.getD 68 undef, A.tmps.getD 69 undef, A.tmps.getD 70 undef, A.tmps.getD 71 undef, (if flg.b21 = true then .bool true else A.tmps.getD 72 undef), (if flg.b22 = true then .bool true else A.tmps.getD 73 undef), (if flg.b23 = true then .bool true else A.tmps.getD 74 undef), (if flg.b24 = true then .bool true else A.tmps.getD 75 undef)], A.defers⟩ ∧
     St w8 w' []) ?_ ?_ ?_
   ·rintro listed a w' ⟨⟨l0, l1, l2, l3, l4, l5, l6, l7, l8, l9, l10, l11, l12, l13, l14, l15, l16, l17, l18, l19, l20, l21, l22, l23, l24, l25, _, _, _, _, _, _, _, _, _, _, _, _, _, _⟩, rfl, rfl, hS⟩ i hi
    obtain ⟨hun, o, ho, hall⟩ := mem_ready.1 hi
    have hlt := (Array.getElem?_eq_some_iff.1 ho).1
    refine wpOp_step ho (fun K hK => ?_)
    clear hi
    have HS := Lib.hid hS
    clear hS
    simp only [List.setIfInBounds_toArray, Array.getD_eq_getD_getElem?, List.getElem?_toArray, List.getElem?_cons_zero, List.getElem?_cons_succ, Option.getD_some] at hK ⊢
    obtain h | h | h | h | h | h | h | h | h | h | h | h | h | h | h | h | h | h | h | h | h | h | h | h | h | h : i = 0 ∨ i = 1 ∨ i = 2 ∨ i = 3 ∨ i = 4 ∨ i = 5 ∨ i = 6 ∨ i = 7 ∨ i = 8 ∨ i = 9 ∨ i = 10 ∨ i = 11 ∨ i = 12 ∨ i = 13 ∨ i = 14 ∨ i = 15 ∨ i = 16 ∨ i = 17 ∨ i = 18 ∨ i = 19 ∨ i = 20 ∨ i = 21 ∨ i = 22 ∨ i = 23 ∨ i = 24 ∨ i = 25 := by simp at hlt; omega
    all_goals subst h
    all_goals simp only [List.getElem?_toArray, List.getElem?_cons_zero, List.getElem?_cons_succ, Option.some.injEq] at ho
    all_goals subst ho
    all_goals simp [Region.binds] at hun hall
    ·subst hun
     go_simp
     exact hK _ _ ⟨⟨true, l1, l2, l3, l4, l5, l6, l7, l8, l9, l10, l11, l12, l13, l14, l15, l16, l17, l18, l19, l20, l21, l22, l23, l24, l25, false, false, false, false, false, false, false, false, false, false, false, false, false, false⟩, rfl, rfl, HS.out⟩
    ·obtain rfl := hall
     subst hun
     go_simp
     exact hK _ _ ⟨⟨true, true, l2, l3, l4, l5, l6, l7, l8, l9, l10, l11, l12, l13, l14, l15, l16, l17, l18, l19, l20, l21, l22, l23, l24, l25, false, false, false, false, false, false, false, false, false, false, false, false, false, false⟩, rfl, rfl, HS.out⟩
    ·obtain rfl := hall
     subst hun
     go_simp
     exact hK _ _ ⟨⟨l0, true, true, l3, l4, l5, l6, l7, l8, l9, l10, l11, l12, l13, l14, l15, l16, l17, l18, l19, l20, l21, l22, l23, l24, l25, false, false, false, false, false, false, false, false, false, false, false, false, false, false⟩, rfl, rfl, HS.out⟩
    ·obtain rfl := hall
     subst hun
     go_simp
     exact hK _ _ ⟨⟨l0, l1, true, true, l4, l5, l6, l7, l8, l9, l10, l11, l12, l13, l14, l15, l16, l17, l18, l19, l20, l21, l22, l23, l24, l25, false, false, false, false, false, false, false, false, false, false, false, false, false, false⟩, rfl, rfl, HS.out⟩
    ·obtain ⟨rfl, rfl⟩ := hall
     subst hun
     go_simp
     exact hK _ _ ⟨⟨l0, l1, true, true, true, l5, l6, l7, l8, l9, l10, l11, l12, l13, l14, l15, l16, l17, l18, l19, l20, l21, l22, l23, l24, l25, false, false, false, false, false, false, false, false, false, false, false, false, false, false⟩, rfl, rfl, HS.out⟩
    ·obtain ⟨rfl, rfl⟩ := hall
     subst hun
     go_simp
     exact hK _ _ ⟨⟨l0, l1, true, l3, true, true, l6, l7, l8, l9, l10, l11, l12, l13, l14, l15, l16, l17, l18, l19, l20, l21, l22, l23, l24, l25, false, false, false, false, false, false, false, false, false, false, false, false, false, false⟩, rfl, rfl, HS.out⟩
    ·obtain ⟨rfl, rfl⟩ := hall
     subst hun
     go_simp
     exact hK _ _ ⟨⟨l0, l1, true, l3, l4, true, true, l7, l8, l9, l10, l11, l12, l13, l14, l15, l16, l17, l18, l19, l20, l21, l22, l23, l24, l25, false, false, false, false, false, false, false, false, false, false, false, false, false, false⟩, rfl, rfl, HS.out⟩
    ·obtain rfl := hall
     subst hun
     go_simp
     exact hK _ _ ⟨⟨l0, l1, l2, l3, l4, l5, true, true, l8, l9, l10, l11, l12, l13, l14, l15, l16, l17, l18, l19, l20, l21, l22, l23, l24, l25, false, false, false, false, false, false, false, false, false, false, false, false, false, false⟩, rfl, rfl, HS.out⟩
    ·obtain ⟨rfl, rfl⟩ := hall
     subst hun
     go_simp
     exact hK _ _ ⟨⟨l0, l1, l2, l3, l4, l5, true, true, true, l9, l10, l11, l12, l13, l14, l15, l16, l17, l18, l19, l20, l21, l22, l23, l24, l25, false, false, false, false, false, false, false, false, false, false, false, false, false, false⟩, rfl, rfl, HS.out⟩
    ·obtain ⟨rfl, rfl⟩ := hall
     subst hun
     go_simp
     exact hK _ _ ⟨⟨l0, l1, l2, l3, l4, l5, true, l7, true, true, l10, l11, l12, l13, l14, l15, l16, l17, l18, l19, l20, l21, l22, l23, l24, l25, false, false, false, false, false, false, false, false, false, false, false, false, false, false⟩, rfl, rfl, HS.out⟩
    ·obtain ⟨rfl, rfl⟩ := hall
     subst hun
     go_simp
     exact hK _ _ ⟨⟨l0, l1, l2, l3, l4, l5, true, l7, l8, true, true, l11, l12, l13, l14, l15, l16, l17, l18, l19, l20, l21, l22, l23, l24, l25, false, false, false, false, false, false, false, false, false, false, false, false, false, false⟩, rfl, rfl, HS.out⟩
    ·obtain ⟨rfl, rfl⟩ := hall
     subst hun
     go_simp
     exact hK _ _ ⟨⟨l0, l1, l2, l3, l4, l5, l6, l7, true, l9, true, true, l12, l13, l14, l15, l16, l17, l18, l19, l20, l21, l22, l23, l24, l25, false, false, false, false, false, false, false, false, false, false, false, false, false, false⟩, rfl, rfl, HS.out⟩
    ·obtain rfl := hall
     subst hun
     go_simp
     exact hK _ _ ⟨⟨l0, l1, l2, l3, l4, l5, l6, l7, l8, l9, l10, true, true, l13, l14, l15, l16, l17, l18, l19, l20, l21, l22, l23, l24, l25, false, false, false, false, false, false, false, false, false, false, false, false, false, false⟩, rfl, rfl, HS.out⟩
    ·obtain rfl := hall
     subst hun
     go_simp
     exact hK _ _ ⟨⟨l0, l1, l2, l3, l4, l5, l6, l7, l8, l9, l10, true, l12, true, l14, l15, l16, l17, l18, l19, l20, l21, l22, l23, l24, l25, false, false, false, false, false, false, false, false, false, false, false, false, false, false⟩, rfl, rfl, HS.out⟩
    ·obtain ⟨rfl, rfl, rfl⟩ := hall
     subst hun
     go_simp
     exact hK _ _ ⟨⟨l0, l1, l2, l3, l4, l5, l6, l7, l8, l9, l10, true, true, true, true, l15, l16, l17, l18, l19, l20, l21, l22, l23, l24, l25, false, false, false, false, false, false, false, false, false, false, false, false, false, false⟩, rfl, rfl, HS.out⟩
    ·obtain rfl := hall
     subst hun
     go_simp
     exact hK _ _ ⟨⟨l0, l1, l2, l3, l4, l5, l6, l7, l8, l9, l10, true, l12, l13, l14, true, l16, l17, l18, l19, l20, l21, l22, l23, l24, l25, false, false, false, false, false, false, false, false, false, false, false, false, false, false⟩, rfl, rfl, HS.out⟩
    ·obtain ⟨rfl, rfl, rfl⟩ := hall
     subst hun
     go_simp
     exact hK _ _ ⟨⟨l0, l1, l2, l3, l4, l5, l6, l7, l8, l9, l10, true, l12, l13, true, true, true, l17, l18, l19, l20, l21, l22, l23, l24, l25, false, false, false, false, false, false, false, false, false, false, false, false, false, false⟩, rfl, rfl, HS.out⟩
    ·obtain rfl := hall
     subst hun
     go_simp
     exact hK _ _ ⟨⟨l0, l1, l2, l3, l4, l5, l6, l7, l8, l9, l10, true, l12, l13, l14, l15, l16, true, l18, l19, l20, l21, l22, l23, l24, l25, false, false, false, false, false, false, false, false, false, false, false, false, false, false⟩, rfl, rfl, HS.out⟩
    ·obtain ⟨rfl, rfl, rfl⟩ := hall
     subst hun
     go_simp
     exact hK _ _ ⟨⟨l0, l1, l2, l3, l4, l5, l6, l7, l8, l9, l10, true, l12, l13, l14, l15, true, true, true, l19, l20, l21, l22, l23, l24, l25, false, false, false, false, false, false, false, false, false, false, false, false, false, false⟩, rfl, rfl, HS.out⟩
    ·obtain ⟨rfl, rfl, rfl⟩ := hall
     subst hun
     go_simp
     exact hK _ _ ⟨⟨l0, l1, l2, l3, l4, l5, l6, l7, l8, l9, l10, true, l12, l13, l14, l15, true, l17, true, true, l20, l21, l22, l23, l24, l25, false, false, false, false, false, false, false, false, false, false, false, false, false, false⟩, rfl, rfl, HS.out⟩
    ·obtain ⟨rfl, rfl, rfl⟩ := hall
     subst hun
     go_simp
     exact hK _ _ ⟨⟨l0, l1, l2, l3, l4, l5, l6, l7, l8, l9, l10, true, l12, l13, true, l15, l16, l17, l18, true, true, l21, l22, l23, l24, l25, false, false, false, false, false, false, false, false, false, false, false, false, false, false⟩, rfl, rfl, HS.out⟩
    ·obtain ⟨rfl, rfl⟩ := hall
     subst hun
     go_simp
     exact hK _ _ ⟨⟨l0, l1, l2, l3, l4, l5, l6, l7, l8, l9, l10, true, l12, l13, l14, l15, l16, l17, l18, l19, true, true, l22, l23, l24, l25, false, false, false, false, false, false, false, false, false, false, false, false, false, false⟩, rfl, rfl, HS.out⟩
    ·obtain ⟨rfl, rfl⟩ := hall
     subst hun
     go_simp
     exact hK _ _ ⟨⟨l0, l1, l2, l3, l4, l5, l6, l7, l8, l9, l10, l11, l12, l13, l14, l15, l16, l17, l18, true, l20, true, true, l23, l24, l25, false, false, false, false, false, false, false, false, false, false, false, false, false, false⟩, rfl, rfl, HS.out⟩
    ·obtain rfl := hall
     subst hun
     go_simp
     go_at_call 21
     refine (alive_any _).mono ?_
     rintro e u1 ⟨rfl, rfl⟩
     go_simp
     exact hK _ _ ⟨⟨l0, l1, l2, l3, l4, l5, l6, l7, l8, l9, l10, l11, l12, l13, l14, l15, l16, l17, l18, l19, l20, l21, true, true, l24, l25, false, false, false, false, false, false, false, false, false, false, false, false, false, false⟩, rfl, rfl, HS.out⟩
    ·obtain ⟨rfl, rfl⟩ := hall
     subst hun
     go_simp
     exact hK _ _ ⟨⟨l0, l1, l2, l3, l4, l5, l6, l7, l8, l9, l10, l11, l12, l13, l14, l15, l16, l17, l18, l19, l20, l21, true, true, true, l25, false, false, false, false, false, false, false, false, false, false, false, false, false, false⟩, rfl, rfl, HS.out⟩
    ·obtain ⟨rfl, rfl, rfl, rfl, rfl, rfl, rfl, rfl, rfl, rfl, rfl, rfl, rfl, rfl, rfl, rfl, rfl, rfl, rfl, rfl, rfl, rfl, rfl, rfl, rfl, -⟩ := hall
     subst hun
     go_simp
     exact hK _ _ ⟨⟨true, true, true, true, true, true, true, true, true, true, true, true, true, true, true, true, true, true, true, true, true, true, true, true, true, true, false, false, false, false, false, false, false, false, false, false, false, false, false, false⟩, rfl, rfl, HS.out⟩
   ·rintro listed a w' ⟨⟨l0, l1, l2, l3, l4, l5, l6, l7, l8, l9, l10, l11, l12, l13, l14, l15, l16, l17, l18, l19, l20, l21, l22, l23, l24, l25, _, _, _, _, _, _, _, _, _, _, _, _, _, _⟩, rfl, rfl, hS⟩ hr
    have hall := ready_nilM (by kernel_rfl) rfl hr
    obtain rfl : l0 = true := by simpa using hall 0 (by simp)
    obtain rfl : l1 = true := by simpa using hall 1 (by simp)
    obtain rfl : l2 = true := by simpa using hall 2 (by simp)
    obtain rfl : l3 = true := by simpa using hall 3 (by simp)
    obtain rfl : l4 = true := by simpa using hall 4 (by simp)
    obtain rfl : l5 = true := by simpa using hall 5 (by simp)
    obtain rfl : l6 = true := by simpa using hall 6 (by simp)
    obtain rfl : l7 = true := by simpa using hall 7 (by simp)
    obtain rfl : l8 = true := by simpa using hall 8 (by simp)
    obtain rfl : l9 = true := by simpa using hall 9 (by simp)
    obtain rfl : l10 = true := by simpa using hall 10 (by simp)
    obtain rfl : l11 = true := by simpa using hall 11 (by simp)
    obtain rfl : l12 = true := by simpa using hall 12 (by simp)
    obtain rfl : l13 = true := by simpa using hall 13 (by simp)
    obtain rfl : l14 = true := by simpa using hall 14 (by simp)
    obtain rfl : l15 = true := by simpa using hall 15 (by simp)
    obtain rfl : l16 = true := by simpa using hall 16 (by simp)
    obtain rfl : l17 = true := by simpa using hall 17 (by simp)
    obtain rfl : l18 = true := by simpa using hall 18 (by simp)
    obtain rfl : l19 = true := by simpa using hall 19 (by simp)
    obtain rfl : l20 = true := by simpa using hall 20 (by simp)
    obtain rfl : l21 = true := by simpa using hall 21 (by simp)
    obtain rfl : l22 = true := by simpa using hall 22 (by simp)
    obtain rfl : l23 = true := by simpa using hall 23 (by simp)
    obtain rfl : l24 = true := by simpa using hall 24 (by simp)
    obtain rfl : l25 = true := by simpa using hall 25 (by simp)
    clear hall hr 
    simp only [↓reduceIte] at hS ⊢
    simp only [Array.getD_eq_getD_getElem?, List.getElem?_toArray, List.getElem?_cons_zero, List.getElem?_cons_succ, Option.getD_some]
    have HSf := Lib.hid hS
    clear hS
    go_wp2
    go_ret
    exact ⟨rfl, HS8.out.bel.trans (HSf.out.bel.mono HS8.out.bel.size)⟩
   ·refine ⟨⟨false, false, false, false, false, false, false, false, false, false, false, false, false, false, false, false, false, false, false, false, false, false, false, false, false, false, false, false, false, false, false, false, false, false, false, false, false, false, false, false⟩, rfl, (by simp), ?_⟩
    exact (St.start w8).drew.pick [] (by decide)
  ·have hrs := rs_yesS HhX.out Hhfb.out
   have hdt := det_yesS HhT.out Hhgb.out
   rw [← HhU.out, ← HhN.out] at hdt
   obtain ⟨htok, hall⟩ := starts_rests hrs hdt
   have hxok := (rs_acc hrs).2.1
   obtain ⟨F, hF⟩ := LdE.ex T
   have hall := hall F hF
   have hmok : dfaOk (minD ⟨T.next, F⟩).next (minD ⟨T.next, F⟩).ends = true := min_dfaOk (flags_ok htok hF.len)
   obtain ⟨M, hM⟩ : ∃ M, minD ⟨T.next, F⟩ = M := ⟨_, rfl⟩
   rw [hM] at hall hmok
   have Hhrs := Lib.hid hrs; clear hrs
   have Hhdt := Lib.hid hdt; clear hdt
   have Hhtok := Lib.hid htok; clear htok
   have Hhxok := Lib.hid hxok; clear hxok
   have HhF := Lib.hid hF; clear hF
   have Hhall := Lib.hid hall; clear hall
   have Hhmok := Lib.hid hmok; clear hmok
   have HhM := Lib.hid hM; clear hM
   have C0 := Lib.hid (HS8.out.cell (v := .slice x1 X.next.length y1) 1 0 rfl rfl)
   have C1 := Lib.hid (HS8.out.cell (v := .slice x2 X.ends.length y2) 1 1 rfl rfl)
   have HltC := Lib.hid (HS8.out.boxlt 1 rfl).2
   have D0 := Lib.hid (HS8.out.cell (v := .slice r1 T.next.length s1) 3 0 rfl rfl)
   have D1 := Lib.hid (HS8.out.cell (v := .slice r2 T.ends.length s2) 3 1 rfl rfl)
   have HltD := Lib.hid (HS8.out.boxlt 3 rfl).2
   cases hwd : wdOk l
   ·have Hhwd := Lib.hid hwd; clear hwd
    refine wp_region_any (by kernel_rfl) ?_
    refine wpAny_invA (fun A listed a w' => ∃ (flg : Bs40) , listed = #[flg.b0, flg.b1, flg.b2, flg.b3, flg.b4, flg.b5, flg.b6, flg.b7, flg.b8, flg.b9, flg.b10, flg.b11, flg.b12, flg.b13, flg.b14, flg.b15, flg.b16, flg.b17, flg.b18, flg.b19, flg.b20, flg.b21, flg.b22, flg.b23, flg.b24, flg.b25] ∧
      a = ⟨#[A.tmps.getD 0 undef, A.tmps.getD 1 undef, A.tmps.getD 2 undef, A.tmps.getD 3 undef, .bool flg.b25, A.tmps.getD 5 undef, A.tmps.getD 6 undef, A.tmps.getD 7 undef, A.tmps.getD 8 undef, A.tmps.getD 9 undef, A.tmps.getD 10 undef, A.tmps.getD 11 undef, A.tmps.getD 12 undef, A.tmps.getD 13 undef, A.tmps.getD 14 undef, A.tmps.getD 15 undef, A.tmps.getD 16 undef, A.tmps.getD 17 undef, A.tmps.getD 18 undef, A.tmps.getD 19 undef, A.tmps.getD 20 undef, A.tmps.getD 21 undef, A.tmps.getD 22 undef, A.tmps.getD 23 undef, A.tmps.getD 24 undef, A.tmps.getD 25 undef, A.tmps.getD 26 undef, A.tmps.getD 27 undef, A.tmps.getD 28 undef, A.tmps.getD 29 undef, A.tmps.getD 30 undef, A.tmps.getD 31 undef, A.tmps.getD 32 undef, A.tmps.getD 33 undef, A.tmps.getD 34 undef, A.tmps.getD 35 undef, A.tmps.getD 36 undef, A.tmps.getD 37 undef, A.tmps.getD 38 undef, A.tmps.getD 39 undef, A.tmps.getD 40 undef, A.tmps.getD 41 undef, A.tmps.getD 42 undef, A.tmps.getD 43 undef, A.tmps.getD 44 undef, A.tmps.getD 45 undef, A.tmps.getD 46 undef, A.tmps.getD 47 undef, A.tmps.getD 48 undef, A.tmps.getD 49 undef, A.tmps.getD 50 undef, (if flg.b0 = true then .bool true else A.tmps.getD 51 undef), (if flg.b1 = true then .bool false else A.tmps.getD 52 undef), (if flg.b2 = true then .bool false else A.tmps.getD 53 undef), (if flg.b3 = true then .bool true else A.tmps.getD 54 undef), (if flg.b4 = true then .bool false else A.tmps.getD 55 undef), (if flg.b5 = true then .bool false else A.tmps.getD 56 undef), (if flg.b6 = true then .bool false else A.tmps.getD 57 undef), (if flg.b7 = true then .string (txB l) else A.tmps.getD 58 undef), (if flg.b8 = true then .bool false else A.tmps.getD 59 undef), (if flg.b9 = true then .bool true else A.tmps.getD 60 undef), (if flg.b10 = true then .bool true else A.tmps.getD 61 undef), (if flg.b11 = true then .bool true else A.tmps.getD 62 undef), A.tmps.getD 63 undef, A.tmps.getD 64 undef, A.tmps.getD 65 undef, A.tmps.getD 66 undef, A.tmps.getD 67 undef, A.tmps.getD 68 undef, A.tmps.getD 69 undef, A.tmps.getD 70 undef, A.tmps.getD 71 undef, (if flg.b21 = true then .bool true else A.tmps.getD 72 undef), (if flg.b22 = true then .bool true else A.tmps.getD 73 undef), (if flg.b23 = true then .bool true else A.tmps.getD 74 undef), (if flg.b24 = true then .bool true else A.tmps.getD 75 undef)], A.defers⟩ ∧
      St w8 w' []) ?_ ?_ ?_
    ·rintro listed a w' ⟨⟨l0, l1, l2, l3, l4, l5, l6, l7, l8, l9, l10, l11, l12, l13, l14, l15, l16, l17, l18, l19, l20, l21, l22, l23, l24, l25, _, _, _, _, _, _, _, _, _, _, _, _, _, _⟩, rfl, rfl, hS⟩ i hi
     obtain ⟨hun, o, ho, hall⟩ := mem_ready.1 hi
     have hlt := (Array.getElem?_eq_some_iff.1 ho).1
     refine wpOp_step ho (fun K hK => ?_)
     clear hi
     have HS := Lib.hid hS
     clear hS
     simp only [List.setIfInBounds_toArray, Array.getD_eq_getD_getElem?, List.getElem?_toArray, List.getElem?_cons_zero, List.getElem?_cons_succ, Option.getD_some] at hK ⊢
     obtain h | h | h | h | h | h | h | h | h | h | h | h | h | h | h | h | h | h | h | h | h | h | h | h | h | h : i = 0 ∨ i = 1 ∨ i = 2 ∨ i = 3 ∨ i = 4 ∨ i = 5 ∨ i = 6 ∨ i = 7 ∨ i = 8 ∨ i = 9 ∨ i = 10 ∨ i = 11 ∨ i = 12 ∨ i = 13 ∨ i = 14 ∨ i = 15 ∨ i = 16 ∨ i = 17 ∨ i = 18 ∨ i = 19 ∨ i = 20 ∨ i = 21 ∨ i = 22 ∨ i = 23 ∨ i = 24 ∨ i = 25 := by simp at hlt; omega
     all_goals subst h
     all_goals simp only [List.getElem?_toArray, List.getElem?_cons_zero, List.getElem?_cons_succ, Option.some.injEq] at ho
     all_goals subst ho
     all_goals simp [Region.binds] at hun hall
     ·subst hun
      go_simp
      exact hK _ _ ⟨⟨true, l1, l2, l3, l4, l5, l6, l7, l8, l9, l10, l11, l12, l13, l14, l15, l16, l17, l18, l19, l20, l21, l22, l23, l24, l25, false, false, false, false, false, false, false, false, false, false, false, false, false, false⟩, rfl, rfl, HS.out⟩
     ·obtain rfl := hall
      subst hun
      go_simp
      exact hK _ _ ⟨⟨true, true, l2, l3, l4, l5, l6, l7, l8, l9, l10, l11, l12, l13, l14, l15, l16, l17, l18, l19, l20, l21, l22, l23, l24, l25, false, false, false, false, false, false, false, false, false, false, false, false, false, false⟩, rfl, rfl, HS.out⟩
     ·obtain rfl := hall
      subst hun
      go_simp
      exact hK _ _ ⟨⟨l0, true, true, l3, l4, l5, l6, l7, l8, l9, l10, l11, l12, l13, l14, l15, l16, l17, l18, l19, l20, l21, l22, l23, l24, l25, false, false, false, false, false, false, false, false, false, false, false, false, false, false⟩, rfl, rfl, HS.out⟩
     ·obtain rfl := hall
      subst hun
      go_simp
      exact hK _ _ ⟨⟨l0, l1, true, true, l4, l5, l6, l7, l8, l9, l10, l11, l12, l13, l14, l15, l16, l17, l18, l19, l20, l21, l22, l23, l24, l25, false, false, false, false, false, false, false, false, false, false, false, false, false, false⟩, rfl, rfl, HS.out⟩
     ·obtain ⟨rfl, rfl⟩ := hall
      subst hun
      go_simp
      exact hK _ _ ⟨⟨l0, l1, true, true, true, l5, l6, l7, l8, l9, l10, l11, l12, l13, l14, l15, l16, l17, l18, l19, l20, l21, l22, l23, l24, l25, false, false, false, false, false, false, false, false, false, false, false, false, false, false⟩, rfl, rfl, HS.out⟩
     ·obtain ⟨rfl, rfl⟩ := hall
      subst hun
      go_simp
      exact hK _ _ ⟨⟨l0, l1, true, l3, true, true, l6, l7, l8, l9, l10, l11, l12, l13, l14, l15, l16, l17, l18, l19, l20, l21, l22, l23, l24, l25, false, false, false, false, false, false, false, false, false, false, false, false, false, false⟩, rfl, rfl, HS.out⟩
     ·obtain ⟨rfl, rfl⟩ := hall
      subst hun
      go_simp
      exact hK _ _ ⟨⟨l0, l1, true, l3, l4, true, true, l7, l8, l9, l10, l11, l12, l13, l14, l15, l16, l17, l18, l19, l20, l21, l22, l23, l24, l25, false, false, false, false, false, false, false, false, false, false, false, false, false, false⟩, rfl, rfl, HS.out⟩
     ·obtain rfl := hall
      subst hun
      go_simp
      exact hK _ _ ⟨⟨l0, l1, l2, l3, l4, l5, true, true, l8, l9, l10, l11, l12, l13, l14, l15, l16, l17, l18, l19, l20, l21, l22, l23, l24, l25, false, false, false, false, false, false, false, false, false, false, false, false, false, false⟩, rfl, rfl, HS.out⟩
     ·obtain ⟨rfl, rfl⟩ := hall
      subst hun
      go_simp
      go_at_call 30
      refine (specWordValid_any l _ Hht.out (by omega) _ Hhwd.out).mono ?_
      rintro e u1 ⟨rfl, rfl⟩
      go_simp
      exact hK _ _ ⟨⟨l0, l1, l2, l3, l4, l5, true, true, true, l9, l10, l11, l12, l13, l14, l15, l16, l17, l18, l19, l20, l21, l22, l23, l24, l25, false, false, false, false, false, false, false, false, false, false, false, false, false, false⟩, rfl, rfl, HS.out⟩
     ·obtain ⟨rfl, rfl⟩ := hall
      subst hun
      go_simp
      exact hK _ _ ⟨⟨l0, l1, l2, l3, l4, l5, true, l7, true, true, l10, l11, l12, l13, l14, l15, l16, l17, l18, l19, l20, l21, l22, l23, l24, l25, false, false, false, false, false, false, false, false, false, false, false, false, false, false⟩, rfl, rfl, HS.out⟩
     ·obtain ⟨rfl, rfl⟩ := hall
      subst hun
      go_simp
      exact hK _ _ ⟨⟨l0, l1, l2, l3, l4, l5, true, l7, l8, true, true, l11, l12, l13, l14, l15, l16, l17, l18, l19, l20, l21, l22, l23, l24, l25, false, false, false, false, false, false, false, false, false, false, false, false, false, false⟩, rfl, rfl, HS.out⟩
     ·obtain ⟨rfl, rfl⟩ := hall
      subst hun
      go_simp
      exact hK _ _ ⟨⟨l0, l1, l2, l3, l4, l5, l6, l7, true, l9, true, true, l12, l13, l14, l15, l16, l17, l18, l19, l20, l21, l22, l23, l24, l25, false, false, false, false, false, false, false, false, false, false, false, false, false, false⟩, rfl, rfl, HS.out⟩
     ·obtain rfl := hall
      subst hun
      go_simp
      exact hK _ _ ⟨⟨l0, l1, l2, l3, l4, l5, l6, l7, l8, l9, l10, true, true, l13, l14, l15, l16, l17, l18, l19, l20, l21, l22, l23, l24, l25, false, false, false, false, false, false, false, false, false, false, false, false, false, false⟩, rfl, rfl, HS.out⟩
     ·obtain rfl := hall
      subst hun
      go_simp
      exact hK _ _ ⟨⟨l0, l1, l2, l3, l4, l5, l6, l7, l8, l9, l10, true, l12, true, l14, l15, l16, l17, l18, l19, l20, l21, l22, l23, l24, l25, false, false, false, false, false, false, false, false, false, false, false, false, false, false⟩, rfl, rfl, HS.out⟩
     ·obtain ⟨rfl, rfl, rfl⟩ := hall
      subst hun
      go_simp
      exact hK _ _ ⟨⟨l0, l1, l2, l3, l4, l5, l6, l7, l8, l9, l10, true, true, true, true, l15, l16, l17, l18, l19, l20, l21, l22, l23, l24, l25, false, false, false, false, false, false, false, false, false, false, false, false, false, false⟩, rfl, rfl, HS.out⟩
     ·obtain rfl := hall
      subst hun
      go_simp
      exact hK _ _ ⟨⟨l0, l1, l2, l3, l4, l5, l6, l7, l8, l9, l10, true, l12, l13, l14, true, l16, l17, l18, l19, l20, l21, l22, l23, l24, l25, false, false, false, false, false, false, false, false, false, false, false, false, false, false⟩, rfl, rfl, HS.out⟩
     ·obtain ⟨rfl, rfl, rfl⟩ := hall
      subst hun
      go_simp
      exact hK _ _ ⟨⟨l0, l1, l2, l3, l4, l5, l6, l7, l8, l9, l10, true, l12, l13, true, true, true, l17, l18, l19, l20, l21, l22, l23, l24, l25, false, false, false, false, false, false, false, false, false, false, false, false, false, false⟩, rfl, rfl, HS.out⟩
     ·obtain rfl := hall
      subst hun
      go_simp
      exact hK _ _ ⟨⟨l0, l1, l2, l3, l4, l5, l6, l7, l8, l9, l10, true, l12, l13, l14, l15, l16, true, l18, l19, l20, l21, l22, l23, l24, l25, false, false, false, false, false, false, false, false, false, false, false, false, false, false⟩, rfl, rfl, HS.out⟩
     ·obtain ⟨rfl, rfl, rfl⟩ := hall
      subst hun
      go_simp
      exact hK _ _ ⟨⟨l0, l1, l2, l3, l4, l5, l6, l7, l8, l9, l10, true, l12, l13, l14, l15, true, true, true, l19, l20, l21, l22, l23, l24, l25, false, false, false, false, false, false, false, false, false, false, false, false, false, false⟩, rfl, rfl, HS.out⟩
     ·obtain ⟨rfl, rfl, rfl⟩ := hall
      subst hun
      go_simp
      exact hK _ _ ⟨⟨l0, l1, l2, l3, l4, l5, l6, l7, l8, l9, l10, true, l12, l13, l14, l15, true, l17, true, true, l20, l21, l22, l23, l24, l25, false, false, false, false, false, false, false, false, false, false, false, false, false, false⟩, rfl, rfl, HS.out⟩
     ·obtain ⟨rfl, rfl, rfl⟩ := hall
      subst hun
      go_simp
      exact hK _ _ ⟨⟨l0, l1, l2, l3, l4, l5, l6, l7, l8, l9, l10, true, l12, l13, true, l15, l16, l17, l18, true, true, l21, l22, l23, l24, l25, false, false, false, false, false, false, false, false, false, false, false, false, false, false⟩, rfl, rfl, HS.out⟩
     ·obtain ⟨rfl, rfl⟩ := hall
      subst hun
      go_simp
      exact hK _ _ ⟨⟨l0, l1, l2, l3, l4, l5, l6, l7, l8, l9, l10, true, l12, l13, l14, l15, l16, l17, l18, l19, true, true, l22, l23, l24, l25, false, false, false, false, false, false, false, false, false, false, false, false, false, false⟩, rfl, rfl, HS.out⟩
     ·obtain ⟨rfl, rfl⟩ := hall
      subst hun
      go_simp
      exact hK _ _ ⟨⟨l0, l1, l2, l3, l4, l5, l6, l7, l8, l9, l10, l11, l12, l13, l14, l15, l16, l17, l18, true, l20, true, true, l23, l24, l25, false, false, false, false, false, false, false, false, false, false, false, false, false, false⟩, rfl, rfl, HS.out⟩
     ·obtain rfl := hall
      subst hun
      go_simp
      go_at_call 21
      refine (alive_any _).mono ?_
      rintro e u1 ⟨rfl, rfl⟩
      go_simp
      exact hK _ _ ⟨⟨l0, l1, l2, l3, l4, l5, l6, l7, l8, l9, l10, l11, l12, l13, l14, l15, l16, l17, l18, l19, l20, l21, true, true, l24, l25, false, false, false, false, false, false, false, false, false, false, false, false, false, false⟩, rfl, rfl, HS.out⟩
     ·obtain ⟨rfl, rfl⟩ := hall
      subst hun
      go_simp
      exact hK _ _ ⟨⟨l0, l1, l2, l3, l4, l5, l6, l7, l8, l9, l10, l11, l12, l13, l14, l15, l16, l17, l18, l19, l20, l21, true, true, true, l25, false, false, false, false, false, false, false, false, false, false, false, false, false, false⟩, rfl, rfl, HS.out⟩
     ·obtain ⟨rfl, rfl, rfl, rfl, rfl, rfl, rfl, rfl, rfl, rfl, rfl, rfl, rfl, rfl, rfl, rfl, rfl, rfl, rfl, rfl, rfl, rfl, rfl, rfl, rfl, -⟩ := hall
      subst hun
      go_simp
      exact hK _ _ ⟨⟨true, true, true, true, true, true, true, true, true, true, true, true, true, true, true, true, true, true, true, true, true, true, true, true, true, true, false, false, false, false, false, false, false, false, false, false, false, false, false, false⟩, rfl, rfl, HS.out⟩
    ·rintro listed a w' ⟨⟨l0, l1, l2, l3, l4, l5, l6, l7, l8, l9, l10, l11, l12, l13, l14, l15, l16, l17, l18, l19, l20, l21, l22, l23, l24, l25, _, _, _, _, _, _, _, _, _, _, _, _, _, _⟩, rfl, rfl, hS⟩ hr
     have hall := ready_nilM (by kernel_rfl) rfl hr
     obtain rfl : l0 = true := by simpa using hall 0 (by simp)
     obtain rfl : l1 = true := by simpa using hall 1 (by simp)
     obtain rfl : l2 = true := by simpa using hall 2 (by simp)
     obtain rfl : l3 = true := by simpa using hall 3 (by simp)
     obtain rfl : l4 = true := by simpa using hall 4 (by simp)
     obtain rfl : l5 = true := by simpa using hall 5 (by simp)
     obtain rfl : l6 = true := by simpa using hall 6 (by simp)
     obtain rfl : l7 = true := by simpa using hall 7 (by simp)
     obtain rfl : l8 = true := by simpa using hall 8 (by simp)
     obtain rfl : l9 = true := by simpa using hall 9 (by simp)
     obtain rfl : l10 = true := by simpa using hall 10 (by simp)
     obtain rfl : l11 = true := by simpa using hall 11 (by simp)
     obtain rfl : l12 = true := by simpa using hall 12 (by simp)
     obtain rfl : l13 = true := by simpa using hall 13 (by simp)
     obtain rfl : l14 = true := by simpa using hall 14 (by simp)
     obtain rfl : l15 = true := by simpa using hall 15 (by simp)
     obtain rfl : l16 = true := by simpa using hall 16 (by simp)
     obtain rfl : l17 = true := by simpa using hall 17 (by simp)
     obtain rfl : l18 = true := by simpa using hall 18 (by simp)
     obtain rfl : l19 = true := by simpa using hall 19 (by simp)
     obtain rfl : l20 = true := by simpa using hall 20 (by simp)
     obtain rfl : l21 = true := by simpa using hall 21 (by simp)
     obtain rfl : l22 = true := by simpa using hall 22 (by simp)
     obtain rfl : l23 = true := by simpa using hall 23 (by simp)
     obtain rfl : l24 = true := by simpa using hall 24 (by simp)
     obtain rfl : l25 = true := by simpa using hall 25 (by simp)
     clear hall hr 
     simp only [↓reduceIte] at hS ⊢
     simp only [Array.getD_eq_getD_getElem?, List.getElem?_toArray, List.getElem?_cons_zero, List.getElem?_cons_succ, Option.getD_some]
     have HSf := Lib.hid hS
     clear hS
     go_wp2
     go_ret
     exact ⟨rfl, HS8.out.bel.trans (HSf.out.bel.mono HS8.out.bel.size)⟩
    ·refine ⟨⟨false, false, false, false, false, false, false, false, false, false, false, false, false, false, false, false, false, false, false, false, false, false, false, false, false, false, false, false, false, false, false, false, false, false, false, false, false, false, false, false⟩, rfl, (by simp), ?_⟩
     exact (St.start w8).drew.pick [] (by decide)
   ·have htr : isT l.reverse := fun b hb => Hht.out b (by simpa using hb)
    have hqr : (wdOk l.reverse && accD M (lets l.reverse)) = (wdOk l && accD X (lets l)) := by
     rw [wdOk_rev hwd, hwd, lets_rev, Hhall.out _ (lets_isW hwd)]
    have Hhwd := Lib.hid hwd; clear hwd
    have Hhtr := Lib.hid htr; clear htr
    cases hq : (wdOk l && accD X (lets l))
    ·have hq2 := hqr.trans hq
     have Hhq := Lib.hid hq; clear hq
     have Hhq2 := Lib.hid hq2; clear hq2
     clear hqr
     refine wp_region_any (by kernel_rfl) ?_
     refine wpAny_invA (fun A listed a w' => ∃ (flg : Bs40) (ax1 : Option Addr) (cx1 : Nat) (ax2 : Option Addr) (cx2 : Nat) (vb : Nat) (vh : Nat), listed = #[flg.b0, flg.b1, flg.b2, flg.b3, flg.b4, flg.b5, flg.b6, flg.b7, flg.b8, flg.b9, flg.b10, flg.b11, flg.b12, flg.b13, flg.b14, flg.b15, flg.b16, flg.b17, flg.b18, flg.b19, flg.b20, flg.b21, flg.b22, flg.b23, flg.b24, flg.b25] ∧
       a = ⟨#[A.tmps.getD 0 undef, A.tmps.getD 1 undef, A.tmps.getD 2 undef, A.tmps.getD 3 undef, .bool flg.b25, A.tmps.getD 5 undef, A.tmps.getD 6 undef, A.tmps.getD 7 undef, A.tmps.getD 8 undef, A.tmps.getD 9 undef, A.tmps.getD 10 undef, A.tmps.getD 11 undef, A.tmps.getD 12 undef, A.tmps.getD 13 undef, A.tmps.getD 14 undef, A.tmps.getD 15 undef, A.tmps.getD 16 undef, A.tmps.getD 17 undef, A.tmps.getD 18 undef, A.tmps.getD 19 undef, A.tmps.getD 20 undef, A.tmps.getD 21 undef, A.tmps.getD 22 undef, A.tmps.getD 23 undef, A.tmps.getD 24 undef, A.tmps.getD 25 undef, A.tmps.getD 26 undef, A.tmps.getD 27 undef, A.tmps.getD 28 undef, A.tmps.getD 29 undef, A.tmps.getD 30 undef, A.tmps.getD 31 undef, A.tmps.getD 32 undef, A.tmps.getD 33 undef, A.tmps.getD 34 undef, A.tmps.getD 35 undef, A.tmps.getD 36 undef, A.tmps.getD 37 undef, A.tmps.getD 38 undef, A.tmps.getD 39 undef, A.tmps.getD 40 undef, A.tmps.getD 41 undef, A.tmps.getD 42 undef, A.tmps.getD 43 undef, A.tmps.getD 44 undef, A.tmps.getD 45 undef, A.tmps.getD 46 undef, A.tmps.getD 47 undef, A.tmps.getD 48 undef, A.tmps.getD 49 undef, A.tmps.getD 50 undef, (if flg.b0 = true then .bool true else A.tmps.getD 51 undef), (if flg.b1 = true then .bool false else A.tmps.getD 52 undef), (if flg.b2 = true then .bool false else A.tmps.getD 53 undef), (if flg.b3 = true then .bool true else A.tmps.getD 54 undef), (if flg.b4 = true then .bool false else A.tmps.getD 55 undef), (if flg.b5 = true then .bool false else A.tmps.getD 56 undef), (if flg.b6 = true then .bool false else A.tmps.getD 57 undef), (if flg.b7 = true then .string (txB l) else A.tmps.getD 58 undef), (if flg.b8 = true then .bool true else A.tmps.getD 59 undef), (if flg.b9 = true then .bool false else A.tmps.getD 60 undef), (if flg.b10 = true then .bool false else A.tmps.getD 61 undef), (if flg.b11 = true then .bool false else A.tmps.getD 62 undef), (if flg.b12 = true then .agg #[.slice x1 X.next.length y1, .slice x2 X.ends.length y2] else A.tmps.getD 63 undef), (if flg.b13 = true then .string (txB l) else A.tmps.getD 64 undef), (if flg.b14 = true then .bool false else A.tmps.getD 65 undef), (if flg.b15 = true then .agg #[.slice r1 T.next.length s1, .slice r2 T.ends.length s2] else A.tmps.getD 66 undef), (if flg.b16 = true then .agg #[.slice ax1 M.next.length cx1, .slice ax2 M.ends.length cx2] else A.tmps.getD 67 undef), (if flg.b17 = true then .string (txB l) else A.tmps.getD 68 undef), (if flg.b18 = true then .string (txB l.reverse) else A.tmps.getD 69 undef), (if flg.b19 = true then .bool false else A.tmps.getD 70 undef), (if flg.b20 = true then .bool true else A.tmps.getD 71 undef), (if flg.b21 = true then .bool true else A.tmps.getD 72 undef), (if flg.b22 = true then .bool true else A.tmps.getD 73 undef), (if flg.b23 = true then .bool true else A.tmps.getD 74 undef), (if flg.b24 = true then .bool true else A.tmps.getD 75 undef)], A.defers⟩ ∧
       St w8 w' [(if flg.b16 = true then DfaV vb vh (.slice ax1 M.next.length cx1) (.slice ax2 M.ends.length cx2) M else Ent.nil)]) ?_ ?_ ?_
     ·rintro listed a w' ⟨⟨l0, l1, l2, l3, l4, l5, l6, l7, l8, l9, l10, l11, l12, l13, l14, l15, l16, l17, l18, l19, l20, l21, l22, l23, l24, l25, _, _, _, _, _, _, _, _, _, _, _, _, _, _⟩, ax1, cx1, ax2, cx2, vb, vh, rfl, rfl, hS⟩ i hi
      obtain ⟨hun, o, ho, hall⟩ := mem_ready.1 hi
      have hlt := (Array.getElem?_eq_some_iff.1 ho).1
      refine wpOp_step ho (fun K hK => ?_)
      clear hi
      have HS := Lib.hid hS
      clear hS
      simp only [List.setIfInBounds_toArray, Array.getD_eq_getD_getElem?, List.getElem?_toArray, List.getElem?_cons_zero, List.getElem?_cons_succ, Option.getD_some] at hK ⊢
      obtain h | h | h | h | h | h | h | h | h | h | h | h | h | h | h | h | h | h | h | h | h | h | h | h | h | h : i = 0 ∨ i = 1 ∨ i = 2 ∨ i = 3 ∨ i = 4 ∨ i = 5 ∨ i = 6 ∨ i = 7 ∨ i = 8 ∨ i = 9 ∨ i = 10 ∨ i = 11 ∨ i = 12 ∨ i = 13 ∨ i = 14 ∨ i = 15 ∨ i = 16 ∨ i = 17 ∨ i = 18 ∨ i = 19 ∨ i = 20 ∨ i = 21 ∨ i = 22 ∨ i = 23 ∨ i = 24 ∨ i = 25 := by simp at hlt; omega
      all_goals subst h
      all_goals simp only [List.getElem?_toArray, List.getElem?_cons_zero, List.getElem?_cons_succ, Option.some.injEq] at ho
      all_goals subst ho
      all_goals simp [Region.binds] at hun hall
      ·subst hun
       go_simp
       exact hK _ _ ⟨⟨true, l1, l2, l3, l4, l5, l6, l7, l8, l9, l10, l11, l12, l13, l14, l15, l16, l17, l18, l19, l20, l21, l22, l23, l24, l25, false, false, false, false, false, false, false, false, false, false, false, false, false, false⟩, ax1, cx1, ax2, cx2, vb, vh, rfl, rfl, HS.out⟩
      ·obtain rfl := hall
       subst hun
       go_simp
       exact hK _ _ ⟨⟨true, true, l2, l3, l4, l5, l6, l7, l8, l9, l10, l11, l12, l13, l14, l15, l16, l17, l18, l19, l20, l21, l22, l23, l24, l25, false, false, false, false, false, false, false, false, false, false, false, false, false, false⟩, ax1, cx1, ax2, cx2, vb, vh, rfl, rfl, HS.out⟩
      ·obtain rfl := hall
       subst hun
       go_simp
       exact hK _ _ ⟨⟨l0, true, true, l3, l4, l5, l6, l7, l8, l9, l10, l11, l12, l13, l14, l15, l16, l17, l18, l19, l20, l21, l22, l23, l24, l25, false, false, false, false, false, false, false, false, false, false, false, false, false, false⟩, ax1, cx1, ax2, cx2, vb, vh, rfl, rfl, HS.out⟩
      ·obtain rfl := hall
       subst hun
       go_simp
       exact hK _ _ ⟨⟨l0, l1, true, true, l4, l5, l6, l7, l8, l9, l10, l11, l12, l13, l14, l15, l16, l17, l18, l19, l20, l21, l22, l23, l24, l25, false, false, false, false, false, false, false, false, false, false, false, false, false, false⟩, ax1, cx1, ax2, cx2, vb, vh, rfl, rfl, HS.out⟩
      ·obtain ⟨rfl, rfl⟩ := hall
       subst hun
       go_simp
       exact hK _ _ ⟨⟨l0, l1, true, true, true, l5, l6, l7, l8, l9, l10, l11, l12, l13, l14, l15, l16, l17, l18, l19, l20, l21, l22, l23, l24, l25, false, false, false, false, false, false, false, false, false, false, false, false, false, false⟩, ax1, cx1, ax2, cx2, vb, vh, rfl, rfl, HS.out⟩
      ·obtain ⟨rfl, rfl⟩ := hall
       subst hun
       go_simp
       exact hK _ _ ⟨⟨l0, l1, true, l3, true, true, l6, l7, l8, l9, l10, l11, l12, l13, l14, l15, l16, l17, l18, l19, l20, l21, l22, l23, l24, l25, false, false, false, false, false, false, false, false, false, false, false, false, false, false⟩, ax1, cx1, ax2, cx2, vb, vh, rfl, rfl, HS.out⟩
      ·obtain ⟨rfl, rfl⟩ := hall
       subst hun
       go_simp
       exact hK _ _ ⟨⟨l0, l1, true, l3, l4, true, true, l7, l8, l9, l10, l11, l12, l13, l14, l15, l16, l17, l18, l19, l20, l21, l22, l23, l24, l25, false, false, false, false, false, false, false, false, false, false, false, false, false, false⟩, ax1, cx1, ax2, cx2, vb, vh, rfl, rfl, HS.out⟩
      ·obtain rfl := hall
       subst hun
       go_simp
       exact hK _ _ ⟨⟨l0, l1, l2, l3, l4, l5, true, true, l8, l9, l10, l11, l12, l13, l14, l15, l16, l17, l18, l19, l20, l21, l22, l23, l24, l25, false, false, false, false, false, false, false, false, false, false, false, false, false, false⟩, ax1, cx1, ax2, cx2, vb, vh, rfl, rfl, HS.out⟩
      ·obtain ⟨rfl, rfl⟩ := hall
       subst hun
       go_simp
       go_at_call 30
       refine (specWordValid_any l _ Hht.out (by omega) _ Hhwd.out).mono ?_
       rintro e u1 ⟨rfl, rfl⟩
       go_simp
       exact hK _ _ ⟨⟨l0, l1, l2, l3, l4, l5, true, true, true, l9, l10, l11, l12, l13, l14, l15, l16, l17, l18, l19, l20, l21, l22, l23, l24, l25, false, false, false, false, false, false, false, false, false, false, false, false, false, false⟩, ax1, cx1, ax2, cx2, vb, vh, rfl, rfl, HS.out⟩
      ·obtain ⟨rfl, rfl⟩ := hall
       subst hun
       go_simp
       exact hK _ _ ⟨⟨l0, l1, l2, l3, l4, l5, true, l7, true, true, l10, l11, l12, l13, l14, l15, l16, l17, l18, l19, l20, l21, l22, l23, l24, l25, false, false, false, false, false, false, false, false, false, false, false, false, false, false⟩, ax1, cx1, ax2, cx2, vb, vh, rfl, rfl, HS.out⟩
      ·obtain ⟨rfl, rfl⟩ := hall
       subst hun
       go_simp
       exact hK _ _ ⟨⟨l0, l1, l2, l3, l4, l5, true, l7, l8, true, true, l11, l12, l13, l14, l15, l16, l17, l18, l19, l20, l21, l22, l23, l24, l25, false, false, false, false, false, false, false, false, false, false, false, false, false, false⟩, ax1, cx1, ax2, cx2, vb, vh, rfl, rfl, HS.out⟩
      ·obtain ⟨rfl, rfl⟩ := hall
       subst hun
       go_simp
       exact hK _ _ ⟨⟨l0, l1, l2, l3, l4, l5, l6, l7, true, l9, true, true, l12, l13, l14, l15, l16, l17, l18, l19, l20, l21, l22, l23, l24, l25, false, false, false, false, false, false, false, false, false, false, false, false, false, false⟩, ax1, cx1, ax2, cx2, vb, vh, rfl, rfl, HS.out⟩
      ·obtain rfl := hall
       subst hun
       have e0 := (bcell HS.out.bel (w2.heap.size) (0) HltC.out).trans C0.out
       have e1 := (bcell HS.out.bel (w2.heap.size) (1) HltC.out).trans C1.out
       go_simp
       exact hK _ _ ⟨⟨l0, l1, l2, l3, l4, l5, l6, l7, l8, l9, l10, true, true, l13, l14, l15, l16, l17, l18, l19, l20, l21, l22, l23, l24, l25, false, false, false, false, false, false, false, false, false, false, false, false, false, false⟩, ax1, cx1, ax2, cx2, vb, vh, rfl, rfl, HS.out⟩
      ·obtain rfl := hall
       subst hun
       go_simp
       exact hK _ _ ⟨⟨l0, l1, l2, l3, l4, l5, l6, l7, l8, l9, l10, true, l12, true, l14, l15, l16, l17, l18, l19, l20, l21, l22, l23, l24, l25, false, false, false, false, false, false, false, false, false, false, false, false, false, false⟩, ax1, cx1, ax2, cx2, vb, vh, rfl, rfl, HS.out⟩
      ·obtain ⟨rfl, rfl, rfl⟩ := hall
       subst hun
       go_simp
       go_at_call 31
       refine (dfaAccT_any X l _ _ Hht.out (by omega) (HX8.out.below HS.out.bel) Hhxok.out _ Hhq.out).mono ?_
       rintro e u1 ⟨rfl, hb⟩
       have hS2 := HS.out.call hb
       have HhS2 := Lib.hid hS2; clear hS2
       go_simp
       exact hK _ _ ⟨⟨l0, l1, l2, l3, l4, l5, l6, l7, l8, l9, l10, true, true, true, true, l15, l16, l17, l18, l19, l20, l21, l22, l23, l24, l25, false, false, false, false, false, false, false, false, false, false, false, false, false, false⟩, ax1, cx1, ax2, cx2, vb, vh, rfl, rfl, HhS2.out⟩
      ·obtain rfl := hall
       subst hun
       have e0 := (bcell HS.out.bel (w7.heap.size) (0) HltD.out).trans D0.out
       have e1 := (bcell HS.out.bel (w7.heap.size) (1) HltD.out).trans D1.out
       go_simp
       exact hK _ _ ⟨⟨l0, l1, l2, l3, l4, l5, l6, l7, l8, l9, l10, true, l12, l13, l14, true, l16, l17, l18, l19, l20, l21, l22, l23, l24, l25, false, false, false, false, false, false, false, false, false, false, false, false, false, false⟩, ax1, cx1, ax2, cx2, vb, vh, rfl, rfl, HS.out⟩
      ·obtain ⟨rfl, rfl, rfl⟩ := hall
       subst hun
       go_simp
       go_at_call 32
       refine (implStartsF_any T F HhF.out M HhM.out _ _ Hhtok.out (HT8.out.below HS.out.bel)).mono ?_
       rintro e u1 ⟨z1, z2, z3, z4, rfl, hr, hb⟩
       have hS2 := (HS.out.dfaV hb hr).pick [1] (by decide)
       have HhS2 := Lib.hid hS2; clear hS2
       go_simp
       exact hK _ _ ⟨⟨l0, l1, l2, l3, l4, l5, l6, l7, l8, l9, l10, true, l12, l13, true, true, true, l17, l18, l19, l20, l21, l22, l23, l24, l25, false, false, false, false, false, false, false, false, false, false, false, false, false, false⟩, z1, z2, z3, z4, w'.heap.size, u1.heap.size, rfl, rfl, HhS2.out⟩
      ·obtain rfl := hall
       subst hun
       go_simp
       exact hK _ _ ⟨⟨l0, l1, l2, l3, l4, l5, l6, l7, l8, l9, l10, true, l12, l13, l14, l15, l16, true, l18, l19, l20, l21, l22, l23, l24, l25, false, false, false, false, false, false, false, false, false, false, false, false, false, false⟩, ax1, cx1, ax2, cx2, vb, vh, rfl, rfl, HS.out⟩
      ·obtain ⟨rfl, rfl, rfl⟩ := hall
       subst hun
       go_simp
       go_at_call 33
       refine (turnWord_any l _ Hht.out Hhwd.out).mono ?_
       rintro e u1 ⟨rfl, rfl⟩
       go_simp
       exact hK _ _ ⟨⟨l0, l1, l2, l3, l4, l5, l6, l7, l8, l9, l10, true, l12, l13, l14, l15, true, true, true, l19, l20, l21, l22, l23, l24, l25, false, false, false, false, false, false, false, false, false, false, false, false, false, false⟩, ax1, cx1, ax2, cx2, vb, vh, rfl, rfl, HS.out⟩
      ·obtain ⟨rfl, rfl, rfl⟩ := hall
       subst hun
       go_simp
       go_at_call 31
       refine (dfaAccT_any M l.reverse _ _ Hhtr.out (by rw [List.length_reverse]; omega) (HS.out.dfaVr 0 rfl) Hhmok.out _ Hhq2.out).mono ?_
       rintro e u1 ⟨rfl, hb⟩
       have hS2 := HS.out.call hb
       have HhS2 := Lib.hid hS2; clear hS2
       go_simp
       exact hK _ _ ⟨⟨l0, l1, l2, l3, l4, l5, l6, l7, l8, l9, l10, true, l12, l13, l14, l15, true, l17, true, true, l20, l21, l22, l23, l24, l25, false, false, false, false, false, false, false, false, false, false, false, false, false, false⟩, ax1, cx1, ax2, cx2, vb, vh, rfl, rfl, HhS2.out⟩
      ·obtain ⟨rfl, rfl, rfl⟩ := hall
       subst hun
       go_simp
       exact hK _ _ ⟨⟨l0, l1, l2, l3, l4, l5, l6, l7, l8, l9, l10, true, l12, l13, true, l15, l16, l17, l18, true, true, l21, l22, l23, l24, l25, false, false, false, false, false, false, false, false, false, false, false, false, false, false⟩, ax1, cx1, ax2, cx2, vb, vh, rfl, rfl, HS.out⟩
      ·obtain ⟨rfl, rfl⟩ := hall
       subst hun
       go_simp
       exact hK _ _ ⟨⟨l0, l1, l2, l3, l4, l5, l6, l7, l8, l9, l10, true, l12, l13, l14, l15, l16, l17, l18, l19, true, true, l22, l23, l24, l25, false, false, false, false, false, false, false, false, false, false, false, false, false, false⟩, ax1, cx1, ax2, cx2, vb, vh, rfl, rfl, HS.out⟩
      ·obtain ⟨rfl, rfl⟩ := hall
       subst hun
       go_simp
       exact hK _ _ ⟨⟨l0, l1, l2, l3, l4, l5, l6, l7, l8, l9, l10, l11, l12, l13, l14, l15, l16, l17, l18, true, l20, true, true, l23, l24, l25, false, false, false, false, false, false, false, false, false, false, false, false, false, false⟩, ax1, cx1, ax2, cx2, vb, vh, rfl, rfl, HS.out⟩
      ·obtain rfl := hall
       subst hun
       go_simp
       go_at_call 21
       refine (alive_any _).mono ?_
       rintro e u1 ⟨rfl, rfl⟩
       go_simp
       exact hK _ _ ⟨⟨l0, l1, l2, l3, l4, l5, l6, l7, l8, l9, l10, l11, l12, l13, l14, l15, l16, l17, l18, l19, l20, l21, true, true, l24, l25, false, false, false, false, false, false, false, false, false, false, false, false, false, false⟩, ax1, cx1, ax2, cx2, vb, vh, rfl, rfl, HS.out⟩
      ·obtain ⟨rfl, rfl⟩ := hall
       subst hun
       go_simp
       exact hK _ _ ⟨⟨l0, l1, l2, l3, l4, l5, l6, l7, l8, l9, l10, l11, l12, l13, l14, l15, l16, l17, l18, l19, l20, l21, true, true, true, l25, false, false, false, false, false, false, false, false, false, false, false, false, false, false⟩, ax1, cx1, ax2, cx2, vb, vh, rfl, rfl, HS.out⟩
      ·obtain ⟨rfl, rfl, rfl, rfl, rfl, rfl, rfl, rfl, rfl, rfl, rfl, rfl, rfl, rfl, rfl, rfl, rfl, rfl, rfl, rfl, rfl, rfl, rfl, rfl, rfl, -⟩ := hall
       subst hun
       go_simp
       exact hK _ _ ⟨⟨true, true, true, true, true, true, true, true, true, true, true, true, true, true, true, true, true, true, true, true, true, true, true, true, true, true, false, false, false, false, false, false, false, false, false, false, false, false, false, false⟩, ax1, cx1, ax2, cx2, vb, vh, rfl, rfl, HS.out⟩
     ·rintro listed a w' ⟨⟨l0, l1, l2, l3, l4, l5, l6, l7, l8, l9, l10, l11, l12, l13, l14, l15, l16, l17, l18, l19, l20, l21, l22, l23, l24, l25, _, _, _, _, _, _, _, _, _, _, _, _, _, _⟩, ax1, cx1, ax2, cx2, vb, vh, rfl, rfl, hS⟩ hr
      have hall := ready_nilM (by kernel_rfl) rfl hr
      obtain rfl : l0 = true := by simpa using hall 0 (by simp)
      obtain rfl : l1 = true := by simpa using hall 1 (by simp)
      obtain rfl : l2 = true := by simpa using hall 2 (by simp)
      obtain rfl : l3 = true := by simpa using hall 3 (by simp)
      obtain rfl : l4 = true := by simpa using hall 4 (by simp)
      obtain rfl : l5 = true := by simpa using hall 5 (by simp)
      obtain rfl : l6 = true := by simpa using hall 6 (by simp)
      obtain rfl : l7 = true := by simpa using hall 7 (by simp)
      obtain rfl : l8 = true := by simpa using hall 8 (by simp)
      obtain rfl : l9 = true := by simpa using hall 9 (by simp)
      obtain rfl : l10 = true := by simpa using hall 10 (by simp)
      obtain rfl : l11 = true := by simpa using hall 11 (by simp)
      obtain rfl : l12 = true := by simpa using hall 12 (by simp)
      obtain rfl : l13 = true := by simpa using hall 13 (by simp)
      obtain rfl : l14 = true := by simpa using hall 14 (by simp)
      obtain rfl : l15 = true := by simpa using hall 15 (by simp)
      obtain rfl : l16 = true := by simpa using hall 16 (by simp)
      obtain rfl : l17 = true := by simpa using hall 17 (by simp)
      obtain rfl : l18 = true := by simpa using hall 18 (by simp)
      obtain rfl : l19 = true := by simpa using hall 19 (by simp)
      obtain rfl : l20 = true := by simpa using hall 20 (by simp)
      obtain rfl : l21 = true := by simpa using hall 21 (by simp)
      obtain rfl : l22 = true := by simpa using hall 22 (by simp)
      obtain rfl : l23 = true := by simpa using hall 23 (by simp)
      obtain rfl : l24 = true := by simpa using hall 24 (by simp)
      obtain rfl : l25 = true := by simpa using hall 25 (by simp)
      clear hall hr 
      simp only [↓reduceIte] at hS ⊢
      simp only [Array.getD_eq_getD_getElem?, List.getElem?_toArray, List.getElem?_cons_zero, List.getElem?_cons_succ, Option.getD_some]
      have HSf := Lib.hid hS
      clear hS
      go_wp2
      go_ret
      exact ⟨rfl, HS8.out.bel.trans (HSf.out.bel.mono HS8.out.bel.size)⟩
     ·refine ⟨⟨false, false, false, false, false, false, false, false, false, false, false, false, false, false, false, false, false, false, false, false, false, false, false, false, false, false, false, false, false, false, false, false, false, false, false, false, false, false, false, false⟩, none, 0, none, 0, 0, 0, rfl, (by simp), ?_⟩
      exact (St.start w8).drew.pick [0] (by decide)
    ·have hq2 := hqr.trans hq
     have Hhq := Lib.hid hq; clear hq
     have Hhq2 := Lib.hid hq2; clear hq2
     clear hqr
     refine wp_region_any (by kernel_rfl) ?_
     refine wpAny_invA (fun A listed a w' => ∃ (flg : Bs40) (ax1 : Option Addr) (cx1 : Nat) (ax2 : Option Addr) (cx2 : Nat) (vb : Nat) (vh : Nat), listed = #[flg.b0, flg.b1, flg.b2, flg.b3, flg.b4, flg.b5, flg.b6, flg.b7, flg.b8, flg.b9, flg.b10, flg.b11, flg.b12, flg.b13, flg.b14, flg.b15, flg.b16, flg.b17, flg.b18, flg.b19, flg.b20, flg.b21, flg.b22, flg.b23, flg.b24, flg.b25] ∧
       a = ⟨#[A.tmps.getD 0 undef, A.tmps.getD 1 undef, A.tmps.getD 2 undef, A.tmps.getD 3 undef, .bool flg.b25, A.tmps.getD 5 undef, A.tmps.getD 6 undef, A.tmps.getD 7 undef, A.tmps.getD 8 undef, A.tmps.getD 9 undef, A.tmps.getD 10 undef, A.tmps.getD 11 undef, A.tmps.getD 12 undef, A.tmps.getD 13 undef, A.tmps.getD 14 undef, A.tmps.getD 15 undef, A.tmps.getD 16 undef, A.tmps.getD 17 undef, A.tmps.getD 18 undef, A.tmps.getD 19 undef, A.tmps.getD 20 undef, A.tmps.getD 21 undef, A.tmps.getD 22 undef, A.tmps.getD 23 undef, A.tmps.getD 24 undef, A.tmps.getD 25 undef, A.tmps.getD 26 undef, A.tmps.getD 27 undef, A.tmps.getD 28 undef, A.tmps.getD 29 undef, A.tmps.getD 30 undef, A.tmps.getD 31 undef, A.tmps.getD 32 undef, A.tmps.getD 33 undef, A.tmps.getD 34 undef, A.tmps.getD 35 undef, A.tmps.getD 36 undef, A.tmps.getD 37 undef, A.tmps.getD 38 undef, A.tmps.getD 39 undef, A.tmps.getD 40 undef, A.tmps.getD 41 undef, A.tmps.getD 42 undef, A.tmps.getD 43 undef, A.tmps.getD 44 undef, A.tmps.getD 45 undef, A.tmps.getD 46 undef, A.tmps.getD 47 undef, A.tmps.getD 48 undef, A.tmps.getD 49 undef, A.tmps.getD 50 undef, (if flg.b0 = true then .bool true else A.tmps.getD 51 undef), (if flg.b1 = true then .bool false else A.tmps.getD 52 undef), (if flg.b2 = true then .bool false else A.tmps.getD 53 undef), (if flg.b3 = true then .bool true else A.tmps.getD 54 undef), (if flg.b4 = true then .bool false else A.tmps.getD 55 undef), (if flg.b5 = true then .bool false else A.tmps.getD 56 undef), (if flg.b6 = true then .bool false else A.tmps.getD 57 undef), (if flg.b7 = true then .string (txB l) else A.tmps.getD 58 undef), (if flg.b8 = true then .bool true else A.tmps.getD 59 undef), (if flg.b9 = true then .bool false else A.tmps.getD 60 undef), (if flg.b10 = true then .bool false else A.tmps.getD 61 undef), (if flg.b11 = true then .bool false else A.tmps.getD 62 undef), (if flg.b12 = true then .agg #[.slice x1 X.next.length y1, .slice x2 X.ends.length y2] else A.tmps.getD 63 undef), (if flg.b13 = true then .string (txB l) else A.tmps.getD 64 undef), (if flg.b14 = true then .bool true else A.tmps.getD 65 undef), (if flg.b15 = true then .agg #[.slice r1 T.next.length s1, .slice r2 T.ends.length s2] else A.tmps.getD 66 undef), (if flg.b16 = true then .agg #[.slice ax1 M.next.length cx1, .slice ax2 M.ends.length cx2] else A.tmps.getD 67 undef), (if flg.b17 = true then .string (txB l) else A.tmps.getD 68 undef), (if flg.b18 = true then .string (txB l.reverse) else A.tmps.getD 69 undef), (if flg.b19 = true then .bool true else A.tmps.getD 70 undef), (if flg.b20 = true then .bool true else A.tmps.getD 71 undef), (if flg.b21 = true then .bool true else A.tmps.getD 72 undef), (if flg.b22 = true then .bool true else A.tmps.getD 73 undef), (if flg.b23 = true then .bool true else A.tmps.getD 74 undef), (if flg.b24 = true then .bool true else A.tmps.getD 75 undef)], A.defers⟩ ∧
       St w8 w' [(if flg.b16 = true then DfaV vb vh (.slice ax1 M.next.length cx1) (.slice ax2 M.ends.length cx2) M else Ent.nil)]) ?_ ?_ ?_
     ·rintro listed a w' ⟨⟨l0, l1, l2, l3, l4, l5, l6, l7, l8, l9, l10, l11, l12, l13, l14, l15, l16, l17, l18, l19, l20, l21, l22, l23, l24, l25, _, _, _, _, _, _, _, _, _, _, _, _, _, _⟩, ax1, cx1, ax2, cx2, vb, vh, rfl, rfl, hS⟩ i hi
      obtain ⟨hun, o, ho, hall⟩ := mem_ready.1 hi
      have hlt := (Array.getElem?_eq_some_iff.1 ho).1
      refine wpOp_step ho (fun K hK => ?_)
      clear hi
      have HS := Lib.hid hS
      clear hS
      simp only [List.setIfInBounds_toArray, Array.getD_eq_getD_getElem?, List.getElem?_toArray, List.getElem?_cons_zero, List.getElem?_cons_succ, Option.getD_some] at hK ⊢
      obtain h | h | h | h | h | h | h | h | h | h | h | h | h | h | h | h | h | h | h | h | h | h | h | h | h | h : i = 0 ∨ i = 1 ∨ i = 2 ∨ i = 3 ∨ i = 4 ∨ i = 5 ∨ i = 6 ∨ i = 7 ∨ i = 8 ∨ i = 9 ∨ i = 10 ∨ i = 11 ∨ i = 12 ∨ i = 13 ∨ i = 14 ∨ i = 15 ∨ i = 16 ∨ i = 17 ∨ i = 18 ∨ i = 19 ∨ i = 20 ∨ i = 21 ∨ i = 22 ∨ i = 23 ∨ i = 24 ∨ i = 25 := by simp at hlt; omega
      all_goals subst h
      all_goals simp only [List.getElem?_toArray, List.getElem?_cons_zero, List.getElem?_cons_succ, Option.some.injEq] at ho
      all_goals subst ho
      all_goals simp [Region.binds] at hun hall
      ·subst hun
       go_simp
       exact hK _ _ ⟨⟨true, l1, l2, l3, l4, l5, l6, l7, l8, l9, l10, l11, l12, l13, l14, l15, l16, l17, l18, l19, l20, l21, l22, l23, l24, l25, false, false, false, false, false, false, false, false, false, false, false, false, false, false⟩, ax1, cx1, ax2, cx2, vb, vh, rfl, rfl, HS.out⟩
      ·obtain rfl := hall
       subst hun
       go_simp
       exact hK _ _ ⟨⟨true, true, l2, l3, l4, l5, l6, l7, l8, l9, l10, l11, l12, l13, l14, l15, l16, l17, l18, l19, l20, l21, l22, l23, l24, l25, false, false, false, false, false, false, false, false, false, false, false, false, false, false⟩, ax1, cx1, ax2, cx2, vb, vh, rfl, rfl, HS.out⟩
      ·obtain rfl := hall
       subst hun
       go_simp
       exact hK _ _ ⟨⟨l0, true, true, l3, l4, l5, l6, l7, l8, l9, l10, l11, l12, l13, l14, l15, l16, l17, l18, l19, l20, l21, l22, l23, l24, l25, false, false, false, false, false, false, false, false, false, false, false, false, false, false⟩, ax1, cx1, ax2, cx2, vb, vh, rfl, rfl, HS.out⟩
      ·obtain rfl := hall
       subst hun
       go_simp
       exact hK _ _ ⟨⟨l0, l1, true, true, l4, l5, l6, l7, l8, l9, l10, l11, l12, l13, l14, l15, l16, l17, l18, l19, l20, l21, l22, l23, l24, l25, false, false, false, false, false, false, false, false, false, false, false, false, false, false⟩, ax1, cx1, ax2, cx2, vb, vh, rfl, rfl, HS.out⟩
      ·obtain ⟨rfl, rfl⟩ := hall
       subst hun
       go_simp
       exact hK _ _ ⟨⟨l0, l1, true, true, true, l5, l6, l7, l8, l9, l10, l11, l12, l13, l14, l15, l16, l17, l18, l19, l20, l21, l22, l23, l24, l25, false, false, false, false, false, false, false, false, false, false, false, false, false, false⟩, ax1, cx1, ax2, cx2, vb, vh, rfl, rfl, HS.out⟩
      ·obtain ⟨rfl, rfl⟩ := hall
       subst hun
       go_simp
       exact hK _ _ ⟨⟨l0, l1, true, l3, true, true, l6, l7, l8, l9, l10, l11, l12, l13, l14, l15, l16, l17, l18, l19, l20, l21, l22, l23, l24, l25, false, false, false, false, false, false, false, false, false, false, false, false, false, false⟩, ax1, cx1, ax2, cx2, vb, vh, rfl, rfl, HS.out⟩
      ·obtain ⟨rfl, rfl⟩ := hall
       subst hun
       go_simp
       exact hK _ _ ⟨⟨l0, l1, true, l3, l4, true, true, l7, l8, l9, l10, l11, l12, l13, l14, l15, l16, l17, l18, l19, l20, l21, l22, l23, l24, l25, false, false, false, false, false, false, false, false, false, false, false, false, false, false⟩, ax1, cx1, ax2, cx2, vb, vh, rfl, rfl, HS.out⟩
      ·obtain rfl := hall
       subst hun
       go_simp
       exact hK _ _ ⟨⟨l0, l1, l2, l3, l4, l5, true, true, l8, l9, l10, l11, l12, l13, l14, l15, l16, l17, l18, l19, l20, l21, l22, l23, l24, l25, false, false, false, false, false, false, false, false, false, false, false, false, false, false⟩, ax1, cx1, ax2, cx2, vb, vh, rfl, rfl, HS.out⟩
      ·obtain ⟨rfl, rfl⟩ := hall
       subst hun
       go_simp
       go_at_call 30
       refine (specWordValid_any l _ Hht.out (by omega) _ Hhwd.out).mono ?_
       rintro e u1 ⟨rfl, rfl⟩
       go_simp
       exact hK _ _ ⟨⟨l0, l1, l2, l3, l4, l5, true, true, true, l9, l10, l11, l12, l13, l14, l15, l16, l17, l18, l19, l20, l21, l22, l23, l24, l25, false, false, false, false, false, false, false, false, false, false, false, false, false, false⟩, ax1, cx1, ax2, cx2, vb, vh, rfl, rfl, HS.out⟩
      ·obtain ⟨rfl, rfl⟩ := hall
       subst hun
       go_simp
       exact hK _ _ ⟨⟨l0, l1, l2, l3, l4, l5, true, l7, true, true, l10, l11, l12, l13, l14, l15, l16, l17, l18, l19, l20, l21, l22, l23, l24, l25, false, false, false, false, false, false, false, false, false, false, false, false, false, false⟩, ax1, cx1, ax2, cx2, vb, vh, rfl, rfl, HS.out⟩
      ·obtain ⟨rfl, rfl⟩ := hall
       subst hun
       go_simp
       exact hK _ _ ⟨⟨l0, l1, l2, l3, l4, l5, true, l7, l8, true, true, l11, l12, l13, l14, l15, l16, l17, l18, l19, l20, l21, l22, l23, l24, l25, false, false, false, false, false, false, false, false, false, false, false, false, false, false⟩, ax1, cx1, ax2, cx2, vb, vh, rfl, rfl, HS.out⟩
      ·obtain ⟨rfl, rfl⟩ := hall
       subst hun
       go_simp
       exact hK _ _ ⟨⟨l0, l1, l2, l3, l4, l5, l6, l7, true, l9, true, true, l12, l13, l14, l15, l16, l17, l18, l19, l20, l21, l22, l23, l24, l25, false, false, false, false, false, false, false, false, false, false, false, false, false, false⟩, ax1, cx1, ax2, cx2, vb, vh, rfl, rfl, HS.out⟩
      ·obtain rfl := hall
       subst hun
       have e0 := (bcell HS.out.bel (w2.heap.size) (0) HltC.out).trans C0.out
       have e1 := (bcell HS.out.bel (w2.heap.size) (1) HltC.out).trans C1.out
       go_simp
       exact hK _ _ ⟨⟨l0, l1, l2, l3, l4, l5, l6, l7, l8, l9, l10, true, true, l13, l14, l15, l16, l17, l18, l19, l20, l21, l22, l23, l24, l25, false, false, false, false, false, false, false, false, false, false, false, false, false, false⟩, ax1, cx1, ax2, cx2, vb, vh, rfl, rfl, HS.out⟩
      ·obtain rfl := hall
       subst hun
       go_simp
       exact hK _ _ ⟨⟨l0, l1, l2, l3, l4, l5, l6, l7, l8, l9, l10, true, l12, true, l14, l15, l16, l17, l18, l19, l20, l21, l22, l23, l24, l25, false, false, false, false, false, false, false, false, false, false, false, false, false, false⟩, ax1, cx1, ax2, cx2, vb, vh, rfl, rfl, HS.out⟩
      ·obtain ⟨rfl, rfl, rfl⟩ := hall
       subst hun
       go_simp
       go_at_call 31
       refine (dfaAccT_any X l _ _ Hht.out (by omega) (HX8.out.below HS.out.bel) Hhxok.out _ Hhq.out).mono ?_
       rintro e u1 ⟨rfl, hb⟩
       have hS2 := HS.out.call hb
       have HhS2 := Lib.hid hS2; clear hS2
       go_simp
       exact hK _ _ ⟨⟨l0, l1, l2, l3, l4, l5, l6, l7, l8, l9, l10, true, true, true, true, l15, l16, l17, l18, l19, l20, l21, l22, l23, l24, l25, false, false, false, false, false, false, false, false, false, false, false, false, false, false⟩, ax1, cx1, ax2, cx2, vb, vh, rfl, rfl, HhS2.out⟩
      ·obtain rfl := hall
       subst hun
       have e0 := (bcell HS.out.bel (w7.heap.size) (0) HltD.out).trans D0.out
       have e1 := (bcell HS.out.bel (w7.heap.size) (1) HltD.out).trans D1.out
       go_simp
       exact hK _ _ ⟨⟨l0, l1, l2, l3, l4, l5, l6, l7, l8, l9, l10, true, l12, l13, l14, true, l16, l17, l18, l19, l20, l21, l22, l23, l24, l25, false, false, false, false, false, false, false, false, false, false, false, false, false, false⟩, ax1, cx1, ax2, cx2, vb, vh, rfl, rfl, HS.out⟩
      ·obtain ⟨rfl, rfl, rfl⟩ := hall
       subst hun
       go_simp
       go_at_call 32
       refine (implStartsF_any T F HhF.out M HhM.out _ _ Hhtok.out (HT8.out.below HS.out.bel)).mono ?_
       rintro e u1 ⟨z1, z2, z3, z4, rfl, hr, hb⟩
       have hS2 := (HS.out.dfaV hb hr).pick [1] (by decide)
       have HhS2 := Lib.hid hS2; clear hS2
       go_simp
       exact hK _ _ ⟨⟨l0, l1, l2, l3, l4, l5, l6, l7, l8, l9, l10, true, l12, l13, true, true, true, l17, l18, l19, l20, l21, l22, l23, l24, l25, false, false, false, false, false, false, false, false, false, false, false, false, false, false⟩, z1, z2, z3, z4, w'.heap.size, u1.heap.size, rfl, rfl, HhS2.out⟩
      ·obtain rfl := hall
       subst hun
       go_simp
       exact hK _ _ ⟨⟨l0, l1, l2, l3, l4, l5, l6, l7, l8, l9, l10, true, l12, l13, l14, l15, l16, true, l18, l19, l20, l21, l22, l23, l24, l25, false, false, false, false, false, false, false, false, false, false, false, false, false, false⟩, ax1, cx1, ax2, cx2, vb, vh, rfl, rfl, HS.out⟩
      ·obtain ⟨rfl, rfl, rfl⟩ := hall
       subst hun
       go_simp
       go_at_call 33
       refine (turnWord_any l _ Hht.out Hhwd.out).mono ?_
       rintro e u1 ⟨rfl, rfl⟩
       go_simp
       exact hK _ _ ⟨⟨l0, l1, l2, l3, l4, l5, l6, l7, l8, l9, l10, true, l12, l13, l14, l15, true, true, true, l19, l20, l21, l22, l23, l24, l25, false, false, false, false, false, false, false, false, false, false, false, false, false, false⟩, ax1, cx1, ax2, cx2, vb, vh, rfl, rfl, HS.out⟩
      ·obtain ⟨rfl, rfl, rfl⟩ := hall
       subst hun
       go_simp
       go_at_call 31
       refine (dfaAccT_any M l.reverse _ _ Hhtr.out (by rw [List.length_reverse]; omega) (HS.out.dfaVr 0 rfl) Hhmok.out _ Hhq2.out).mono ?_
       rintro e u1 ⟨rfl, hb⟩
       have hS2 := HS.out.call hb
       have HhS2 := Lib.hid hS2; clear hS2
       go_simp
       exact hK _ _ ⟨⟨l0, l1, l2, l3, l4, l5, l6, l7, l8, l9, l10, true, l12, l13, l14, l15, true, l17, true, true, l20, l21, l22, l23, l24, l25, false, false, false, false, false, false, false, false, false, false, false, false, false, false⟩, ax1, cx1, ax2, cx2, vb, vh, rfl, rfl, HhS2.out⟩
      ·obtain ⟨rfl, rfl, rfl⟩ := hall
       subst hun
       go_simp
       exact hK _ _ ⟨⟨l0, l1, l2, l3, l4, l5, l6, l7, l8, l9, l10, true, l12, l13, true, l15, l16, l17, l18, true, true, l21, l22, l23, l24, l25, false, false, false, false, false, false, false, false, false, false, false, false, false, false⟩, ax1, cx1, ax2, cx2, vb, vh, rfl, rfl, HS.out⟩
      ·obtain ⟨rfl, rfl⟩ := hall
       subst hun
       go_simp
       exact hK _ _ ⟨⟨l0, l1, l2, l3, l4, l5, l6, l7, l8, l9, l10, true, l12, l13, l14, l15, l16, l17, l18, l19, true, true, l22, l23, l24, l25, false, false, false, false, false, false, false, false, false, false, false, false, false, false⟩, ax1, cx1, ax2, cx2, vb, vh, rfl, rfl, HS.out⟩
      ·obtain ⟨rfl, rfl⟩ := hall
       subst hun
       go_simp
       exact hK _ _ ⟨⟨l0, l1, l2, l3, l4, l5, l6, l7, l8, l9, l10, l11, l12, l13, l14, l15, l16, l17, l18, true, l20, true, true, l23, l24, l25, false, false, false, false, false, false, false, false, false, false, false, false, false, false⟩, ax1, cx1, ax2, cx2, vb, vh, rfl, rfl, HS.out⟩
      ·obtain rfl := hall
       subst hun
       go_simp
       go_at_call 21
       refine (alive_any _).mono ?_
       rintro e u1 ⟨rfl, rfl⟩
       go_simp
       exact hK _ _ ⟨⟨l0, l1, l2, l3, l4, l5, l6, l7, l8, l9, l10, l11, l12, l13, l14, l15, l16, l17, l18, l19, l20, l21, true, true, l24, l25, false, false, false, false, false, false, false, false, false, false, false, false, false, false⟩, ax1, cx1, ax2, cx2, vb, vh, rfl, rfl, HS.out⟩
      ·obtain ⟨rfl, rfl⟩ := hall
       subst hun
       go_simp
       exact hK _ _ ⟨⟨l0, l1, l2, l3, l4, l5, l6, l7, l8, l9, l10, l11, l12, l13, l14, l15, l16, l17, l18, l19, l20, l21, true, true, true, l25, false, false, false, false, false, false, false, false, false, false, false, false, false, false⟩, ax1, cx1, ax2, cx2, vb, vh, rfl, rfl, HS.out⟩
      ·obtain ⟨rfl, rfl, rfl, rfl, rfl, rfl, rfl, rfl, rfl, rfl, rfl, rfl, rfl, rfl, rfl, rfl, rfl, rfl, rfl, rfl, rfl, rfl, rfl, rfl, rfl, -⟩ := hall
       subst hun
       go_simp
       exact hK _ _ ⟨⟨true, true, true, true, true, true, true, true, true, true, true, true, true, true, true, true, true, true, true, true, true, true, true, true, true, true, false, false, false, false, false, false, false, false, false, false, false, false, false, false⟩, ax1, cx1, ax2, cx2, vb, vh, rfl, rfl, HS.out⟩
     ·rintro listed a w' ⟨⟨l0, l1, l2, l3, l4, l5, l6, l7, l8, l9, l10, l11, l12, l13, l14, l15, l16, l17, l18, l19, l20, l21, l22, l23, l24, l25, _, _, _, _, _, _, _, _, _, _, _, _, _, _⟩, ax1, cx1, ax2, cx2, vb, vh, rfl, rfl, hS⟩ hr
      have hall := ready_nilM (by kernel_rfl) rfl hr
      obtain rfl : l0 = true := by simpa using hall 0 (by simp)
      obtain rfl : l1 = true := by simpa using hall 1 (by simp)
      obtain rfl : l2 = true := by simpa using hall 2 (by simp)
      obtain rfl : l3 = true := by simpa using hall 3 (by simp)
      obtain rfl : l4 = true := by simpa using hall 4 (by simp)
      obtain rfl : l5 = true := by simpa using hall 5 (by simp)
      obtain rfl : l6 = true := by simpa using hall 6 (by simp)
      obtain rfl : l7 = true := by simpa using hall 7 (by simp)
      obtain rfl : l8 = true := by simpa using hall 8 (by simp)
      obtain rfl : l9 = true := by simpa using hall 9 (by simp)
      obtain rfl : l10 = true := by simpa using hall 10 (by simp)
      obtain rfl : l11 = true := by simpa using hall 11 (by simp)
      obtain rfl : l12 = true := by simpa using hall 12 (by simp)
      obtain rfl : l13 = true := by simpa using hall 13 (by simp)
      obtain rfl : l14 = true := by simpa using hall 14 (by simp)
      obtain rfl : l15 = true := by simpa using hall 15 (by simp)
      obtain rfl : l16 = true := by simpa using hall 16 (by simp)
      obtain rfl : l17 = true := by simpa using hall 17 (by simp)
      obtain rfl : l18 = true := by simpa using hall 18 (by simp)
      obtain rfl : l19 = true := by simpa using hall 19 (by simp)
      obtain rfl : l20 = true := by simpa using hall 20 (by simp)
      obtain rfl : l21 = true := by simpa using hall 21 (by simp)
      obtain rfl : l22 = true := by simpa using hall 22 (by simp)
      obtain rfl : l23 = true := by simpa using hall 23 (by simp)
      obtain rfl : l24 = true := by simpa using hall 24 (by simp)
      obtain rfl : l25 = true := by simpa using hall 25 (by simp)
      clear hall hr 
      simp only [↓reduceIte] at hS ⊢
      simp only [Array.getD_eq_getD_getElem?, List.getElem?_toArray, List.getElem?_cons_zero, List.getElem?_cons_succ, Option.getD_some]
      have HSf := Lib.hid hS
      clear hS
      go_wp2
      go_ret
      exact ⟨rfl, HS8.out.bel.trans (HSf.out.bel.mono HS8.out.bel.size)⟩
     ·refine ⟨⟨false, false, false, false, false, false, false, false, false, false, false, false, false, false, false, false, false, false, false, false, false, false, false, false, false, false, false, false, false, false, false, false, false, false, false, false, false, false, false, false⟩, none, 0, none, 0, 0, 0, rfl, (by simp), ?_⟩
      exact (St.start w8).drew.pick [0] (by decide)
end Go.Proofs.Ytalbofnhcpjilaa
