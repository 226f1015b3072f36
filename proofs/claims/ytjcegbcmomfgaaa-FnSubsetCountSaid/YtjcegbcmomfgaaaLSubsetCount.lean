/-
  The walk over the law FnSubsetCount.
  Condition: the argument reads as bytes.
-/
import Derived.Test.YtjcegbcmomfgaaaSu
import Derived.Test.YtjcegbcmomfgaaaLNfaAccepts
namespace Go.Proofs.Ytjcegbcmomfgaaa
open Go.RowKit

set_option maxRecDepth 100000 in
set_option maxHeartbeats 8000000 in
theorem drawSubset_any (bs : List Nat) (v : Value) (w : World) (hb : Bytes 0 w v bs) (hlen : bs.length ≤ 100000000) :
    Calls Try.prog 13 #[v] w fun e w' => ∃ (n : NfaD) (a1 a2 a3 : Option Addr) (c1 c2 c3 : Nat), -1 ≤ n.states ∧ n.states ≤ 41 ∧ n.moves.length ≤ 401 ∧ n.firsts.length ≤ 41 ∧ n.ends.length ≤ 41 ∧
      e = .returned (.agg #[.int .i64 n.states, .slice a1 n.moves.length c1, .slice a2 n.firsts.length c2, .slice a3 n.ends.length c3]) ∧ St w w' [Ent.row 76 3 (.slice a1 n.moves.length c1) n.moves.length (n.moves.flatMap moveCells), Ent.row 3 1 (.slice a2 n.firsts.length c2) n.firsts.length (intCells n.firsts), Ent.row 3 1 (.slice a3 n.ends.length c3) n.ends.length (intCells n.ends)] := by
  have hS0 := (St.start w).alloc _ rfl #[.int .i64 0, .slice none 0 0, .slice none 0 0, .slice none 0 0] 26
  have Hb := Lib.hid hb
  have HhS0 := Lib.hid hS0; clear hS0
  clear hb
  go_enter Try.func13, Try.ntmps13
  go_wp2_with fail
  refine (open2_any bs v _ (Hb.out.below HhS0.out.bel) hlen).mono ?_
  rintro e w1 ⟨vb, bs', hl', hB, rfl, hS'⟩
  obtain ⟨b, hbb⟩ : ∃ b, b = (w.alloc (.cells #[.int .i64 0, .slice none 0 0, .slice none 0 0, .slice none 0 0] 26)).heap.size := ⟨_, rfl⟩
  rw [← hbb] at hS'
  rw [← hbb]
  have hB1 := hB w Hb.out
  have HB := Lib.hid hB1
  have HS1 := Lib.hid ((HhS0.out.cat hS').pick [1, 0] (by decide))
  have Hhbb := Lib.hid hbb; clear hbb
  clear hS' hB hB1
  go_wp2_with fail
  refine (l20Nfa_any bs' vb b 0 12 w w1 _ HB.out hl' (by omega) (by omega) HS1.out).mono ?_
  rintro e w2 ⟨n, pn, a1, a2, a3, c1, c2, c3, hpn, hs0, hs1, hm, hf, he, rfl, hS2⟩
  have HS := Lib.hid hS2
  clear hS2
  have f0 := HS.out.fr 1 0 rfl
  have k0 := HS.out.cell (v := .int .i64 0) 1 0 rfl rfl
  have f1 := HS.out.fr 1 1 rfl
  have k1 := HS.out.cell (v := .slice none 0 0) 1 1 rfl rfl
  have f2 := HS.out.fr 1 2 rfl
  have k2 := HS.out.cell (v := .slice none 0 0) 1 2 rfl rfl
  have f3 := HS.out.fr 1 3 rfl
  have k3 := HS.out.cell (v := .slice none 0 0) 1 3 rfl rfl
  have HS3 := Lib.hid ((((HS.out.set 1 rfl 0 (.int .i64 n.states)).set 1 rfl 1 (.slice a1 n.moves.length c1)).set 1 rfl 2 (.slice a2 n.firsts.length c2)).set 1 rfl 3 (.slice a3 n.ends.length c3))
  have q0 := HS3.out.cell (v := .int .i64 n.states) 1 0 rfl rfl
  have q1 := HS3.out.cell (v := .slice a1 n.moves.length c1) 1 1 rfl rfl
  have q2 := HS3.out.cell (v := .slice a2 n.firsts.length c2) 1 2 rfl rfl
  have q3 := HS3.out.cell (v := .slice a3 n.ends.length c3) 1 3 rfl rfl
  go_wp2
  refine bodyPost_ret (v := .agg #[.int .i64 n.states, .slice a1 n.moves.length c1, .slice a2 n.firsts.length c2, .slice a3 n.ends.length c3]) (by simp [results, Try.results13, go_sem, q0, q1, q2, q3]) rfl ?_
  exact ⟨n, a1, a2, a3, c1, c2, c3, hs0, hs1, hm, hf, he, rfl, HS3.out.pick [2, 3, 4] (by decide)⟩
set_option maxRecDepth 100000 in
set_option maxHeartbeats 4000000 in
theorem nfaOfI_any (d : DfaD) (v : Value) (w : World) (hd : dfaOk d.next d.ends = true) (h : DfaR 0 w v d) :
    Calls Try.prog 16 #[v] w fun e w' => RNfaS (nfaOf d) w e w' := by
  have H := Lib.hid h
  obtain ⟨v1, v2, rfl, g1, g2⟩ := h
  have hS0 := ((St.start w).alloc _ rfl #[v1, v2] 33).alloc (w.heap.size + 1) (by simp) #[.int .i64 0, .slice none 0 0, .slice none 0 0, .slice none 0 0] 26
  have e0 := hS0.cell (v := v1) 0 0 rfl rfl
  have e1 := hS0.cell (v := v2) 0 1 rfl rfl
  have hno := fun (u : World) (hu : Below w.heap.size w u) => implNfa_any d (.agg #[v1, v2]) u hd (H.out.below hu)
  obtain ⟨N, hN⟩ : ∃ N, nfaOf d = N := ⟨_, rfl⟩
  rw [hN] at hno
  rw [hN]
  have Hno := Lib.hid hno
  have Hhd := Lib.hid hd; clear hd
  have HhN := Lib.hid hN; clear hN
  have HhS0 := Lib.hid hS0; clear hS0
  clear g1 g2 hno
  go_enter Try.func16, Try.ntmps16
  go_wp2_with fail
  refine (implDfaValid_any d _ _ (H.out.below HhS0.out.bel) _ Hhd.out).mono ?_
  rintro e w1 ⟨rfl, hb1⟩
  have HS1 := Lib.hid (HhS0.out.call hb1)
  clear hb1 e0 e1
  have e0 := HS1.out.cell (v := v1) 0 0 rfl rfl
  have e1 := HS1.out.cell (v := v2) 0 1 rfl rfl
  go_wp2_with fail
  refine (Hno.out _ HS1.out.bel).mono ?_
  rintro e w2 ⟨a1, c1, a2, c2, a3, c3, rfl, hS'⟩
  have HS2 := Lib.hid (HS1.out.cat hS')
  clear hS' e0 e1
  have f0 := HS2.out.fr 1 0 rfl
  have k0 := HS2.out.cell (v := .int .i64 0) 1 0 rfl rfl
  have f1 := HS2.out.fr 1 1 rfl
  have k1 := HS2.out.cell (v := .slice none 0 0) 1 1 rfl rfl
  have f2 := HS2.out.fr 1 2 rfl
  have k2 := HS2.out.cell (v := .slice none 0 0) 1 2 rfl rfl
  have f3 := HS2.out.fr 1 3 rfl
  have k3 := HS2.out.cell (v := .slice none 0 0) 1 3 rfl rfl
  have HS3 := Lib.hid ((((HS2.out.set 1 rfl 0 (.int .i64 N.states)).set 1 rfl 1 (.slice a1 N.moves.length c1)).set 1 rfl 2 (.slice a2 N.firsts.length c2)).set 1 rfl 3 (.slice a3 N.ends.length c3))
  have q0 := HS3.out.cell (v := .int .i64 N.states) 1 0 rfl rfl
  have q1 := HS3.out.cell (v := .slice a1 N.moves.length c1) 1 1 rfl rfl
  have q2 := HS3.out.cell (v := .slice a2 N.firsts.length c2) 1 2 rfl rfl
  have q3 := HS3.out.cell (v := .slice a3 N.ends.length c3) 1 3 rfl rfl
  go_wp2
  refine bodyPost_ret (v := .agg #[.int .i64 N.states, .slice a1 N.moves.length c1, .slice a2 N.firsts.length c2, .slice a3 N.ends.length c3]) (by simp [results, Try.results16, go_sem, q0, q1, q2, q3]) rfl ?_
  exact ⟨a1, c1, a2, c2, a3, c3, rfl, HS3.out.pick [2, 3, 4] (by decide)⟩
theorem cnt_good {n : NfaD} (hn : nfaOk n = true) : 1 ≤ cntK forty n ∧ cntK forty n ≤ 41 ∧ ((det n).isSome = true → cntK forty n ≤ 40) ∧ ((det n).isSome = false → ¬ cntK forty n ≤ 40) := by
  have hp := bat_pos (nx := nxS n) (a := (((fstV n : Nat) : Int), 0)) forty
  have h40 : forty = 40 := rfl
  unfold det detK cntK
  rw [if_pos hn]
  by_cases hle : (metS n forty).length ≤ forty
  · rw [if_pos hle, if_pos ⟨hn, hle⟩]
    refine ⟨?_, ?_, fun _ => ?_, fun h => by cases h⟩
    · show (1 : Int) ≤ ((metS n forty).length : Int)
      have : 0 < (metS n forty).length := hp
      omega
    · omega
    · omega
  · rw [if_neg hle, if_neg (fun h => hle h.2)]
    exact ⟨by omega, by omega, (fun h => by cases h), (fun _ => by omega)⟩
theorem cnt_back {D : DfaD} (hD : dfaOk D.next D.ends = true) : cntK forty (nfaOf D) ≤ (D.next.length : Int) := by
  have h1 := met_one hD forty
  have h2 := dfaOk_len hD
  have h40 : forty = 40 := rfl
  unfold cntK
  rw [if_pos (nfaOf_ok hD), if_pos (by omega)]
  omega
set_option maxRecDepth 100000 in
set_option maxHeartbeats 16000000 in
theorem subsetCount_walk (bs : List Nat) (v : Value) (w : World) (hb : Bytes 0 w v bs) :
    Calls Try.prog 4 #[v] w fun e w' => e = .returned (.bool true) ∧ Below w.heap.size w w' := by
  have HB := Lib.hid hb
  obtain ⟨av, cv, rfl, hcv1, hcv2, -⟩ := hb.form
  clear hb
  by_cases hlen : 1048576 < bs.length
  · have hl2 : (1048576 : Int) < bs.length := by omega
    go_enter Try.func4, Try.ntmps4
    go_wp2
    go_ret
    exact ⟨rfl, Below.refl _ _⟩
  have hl2 : ¬ (1048576 : Int) < bs.length := by omega
  go_enter Try.func4, Try.ntmps4
  go_wp2_with fail
  refine (drawSubset_any bs _ _ HB.out (by omega)).mono ?_
  rintro e w1 ⟨n, a1, a2, a3, c1, c2, c3, hs0, hs1, hm, hf, he, rfl, hS⟩
  have HS := Lib.hid (hS.alloc _ rfl #[.int .i64 n.states, .slice a1 n.moves.length c1, .slice a2 n.firsts.length c2, .slice a3 n.ends.length c3] 26)
  have e0 := HS.out.cell (v := .int .i64 n.states) 3 0 rfl rfl
  have e1 := HS.out.cell (v := .slice a1 n.moves.length c1) 3 1 rfl rfl
  have e2 := HS.out.cell (v := .slice a2 n.firsts.length c2) 3 2 rfl rfl
  have e3 := HS.out.cell (v := .slice a3 n.ends.length c3) 3 3 rfl rfl
  obtain ⟨c, hc⟩ : ∃ c, cntK forty n = c := ⟨_, rfl⟩
  have hcc : (c != c) = false := by simp
  have Hhc := Lib.hid hc; clear hc
  clear hS
  go_wp2_with fail
  refine (implCountK_any forty rfl n _ _ (nfaR_rows HS.out 0 1 2 rfl rfl rfl (by omega) (by omega)) c Hhc.out).mono ?_
  rintro e w2 ⟨rfl, hb2⟩
  have HS2 := Lib.hid (HS.out.call hb2)
  clear hb2 e0 e1 e2 e3
  have e0 := HS2.out.cell (v := .int .i64 n.states) 3 0 rfl rfl
  have e1 := HS2.out.cell (v := .slice a1 n.moves.length c1) 3 1 rfl rfl
  have e2 := HS2.out.cell (v := .slice a2 n.firsts.length c2) 3 2 rfl rfl
  have e3 := HS2.out.cell (v := .slice a3 n.ends.length c3) 3 3 rfl rfl
  go_wp2_with fail
  refine (specCountK_any forty rfl n _ _ (nfaR_rows HS2.out 0 1 2 rfl rfl rfl (by omega) (by omega)) c Hhc.out).mono ?_
  rintro e w3 ⟨rfl, hb3⟩
  have HS3 := Lib.hid (HS2.out.call hb3)
  clear hb3 e0 e1 e2 e3
  cases hok : nfaOk n
  · obtain rfl : c = -1 := by rw [← Hhc.out]; unfold cntK; rw [if_neg (by rw [hok]; simp)]
    have Hhok := Lib.hid hok; clear hok
    go_wp2_with (go_at_call 12; refine (alive_any _).mono ?_; rintro e w' ⟨rfl, rfl⟩)
    go_ret
    exact ⟨rfl, HS3.out.bel⟩
  · obtain ⟨g1, g2, g3, g4⟩ := cnt_good hok
    rw [Hhc.out] at g1 g2 g3 g4
    have hneg : decide (c < 0) = false := decide_eq_false (by omega)
    have e0 := HS3.out.cell (v := .int .i64 n.states) 3 0 rfl rfl
    have e1 := HS3.out.cell (v := .slice a1 n.moves.length c1) 3 1 rfl rfl
    have e2 := HS3.out.cell (v := .slice a2 n.firsts.length c2) 3 2 rfl rfl
    have e3 := HS3.out.cell (v := .slice a3 n.ends.length c3) 3 3 rfl rfl
    obtain ⟨D, hD⟩ : ∃ D, (det n).getD zeroD = D := ⟨_, rfl⟩
    cases hfb : (det n).isSome
    · have hc40 : decide (c ≤ 40) = false := decide_eq_false (g4 hfb)
      have HhD := Lib.hid hD; clear hD
      have Hhfb := Lib.hid hfb; clear hfb
      have Hhok := Lib.hid hok; clear hok
      clear g3 g4
      go_wp2_with fail
      refine (implDet_any n D _ HhD.out Hhfb.out _ _ (nfaR_rows HS3.out 0 1 2 rfl rfl rfl (by omega) (by omega))).mono ?_
      rintro e w4 ⟨⟨b1, d1, b2, d2, rfl, -⟩, hb4⟩
      have HS5 := Lib.hid ((HS3.out.call hb4).alloc _ rfl #[.slice b1 D.next.length d1, .slice b2 D.ends.length d2] 33)
      clear hb4 e0 e1 e2 e3
      go_wp2
      refine wp_region_any (by kernel_rfl) ?_
      refine wpAny_invA (fun A listed a w' => ∃ (l0 l1 l2 l3 l4 l5 l6 l7 l8 l9 l10 l11 l12 l13 l14 l15 l16 l17 l18 l19 l20 l21 l22 l23 l24 l25 : Bool) , listed = #[l0, l1, l2, l3, l4, l5, l6, l7, l8, l9, l10, l11, l12, l13, l14, l15, l16, l17, l18, l19, l20, l21, l22, l23, l24, l25] ∧
          a = ⟨(((((((((((((((((((A.tmps.setIfInBounds 30 (if l0 = true then .int .i64 c else A.tmps.getD 30 undef)).setIfInBounds 31 (if l1 = true then .bool true else A.tmps.getD 31 undef)).setIfInBounds 32 (if l2 = true then .bool true else A.tmps.getD 32 undef)).setIfInBounds 33 (if l3 = true then .int .i64 c else A.tmps.getD 33 undef)).setIfInBounds 34 (if l4 = true then .bool true else A.tmps.getD 34 undef)).setIfInBounds 35 (if l5 = true then .bool true else A.tmps.getD 35 undef)).setIfInBounds 36 (if l6 = true then .bool true else A.tmps.getD 36 undef)).setIfInBounds 37 (if l7 = true then .bool false else A.tmps.getD 37 undef)).setIfInBounds 38 (if l8 = true then .int .i64 c else A.tmps.getD 38 undef)).setIfInBounds 39 (if l9 = true then .bool false else A.tmps.getD 39 undef)).setIfInBounds 40 (if l10 = true then .bool true else A.tmps.getD 40 undef)).setIfInBounds 41 (if l11 = true then .bool true else A.tmps.getD 41 undef)).setIfInBounds 42 (if l12 = true then .bool true else A.tmps.getD 42 undef)).setIfInBounds 43 (if l13 = true then .bool false else A.tmps.getD 43 undef)).setIfInBounds 44 (if l14 = true then .bool true else A.tmps.getD 44 undef)).setIfInBounds 45 (if l15 = true then .bool true else A.tmps.getD 45 undef)).setIfInBounds 53 (if l23 = true then .bool true else A.tmps.getD 53 undef)).setIfInBounds 54 (if l24 = true then .bool true else A.tmps.getD 54 undef)).setIfInBounds 2 (.bool l25)), A.defers⟩ ∧
          St (w4.alloc (.cells #[.slice b1 D.next.length d1, .slice b2 D.ends.length d2] 33)) w' []) ?_ ?_ ?_
      · rintro listed a w' ⟨l0, l1, l2, l3, l4, l5, l6, l7, l8, l9, l10, l11, l12, l13, l14, l15, l16, l17, l18, l19, l20, l21, l22, l23, l24, l25, rfl, rfl, hS⟩ i hi
        obtain ⟨hun, o, ho, hall⟩ := mem_ready.1 hi
        have hlt := (Array.getElem?_eq_some_iff.1 ho).1
        refine wpOp_step ho (fun K hK => ?_)
        clear hi
        have HS := Lib.hid hS
        clear hS
        simp only [List.setIfInBounds_toArray, List.set_cons_zero, List.set_cons_succ, Array.getD_eq_getD_getElem?, List.getElem?_toArray, List.getElem?_cons_zero, List.getElem?_cons_succ, Option.getD_some]
        obtain h | h | h | h | h | h | h | h | h | h | h | h | h | h | h | h | h | h | h | h | h | h | h | h | h | h : i = 0 ∨ i = 1 ∨ i = 2 ∨ i = 3 ∨ i = 4 ∨ i = 5 ∨ i = 6 ∨ i = 7 ∨ i = 8 ∨ i = 9 ∨ i = 10 ∨ i = 11 ∨ i = 12 ∨ i = 13 ∨ i = 14 ∨ i = 15 ∨ i = 16 ∨ i = 17 ∨ i = 18 ∨ i = 19 ∨ i = 20 ∨ i = 21 ∨ i = 22 ∨ i = 23 ∨ i = 24 ∨ i = 25 := by simp at hlt; omega
        all_goals subst h
        all_goals simp only [List.getElem?_toArray, List.getElem?_cons_zero, List.getElem?_cons_succ, Option.some.injEq] at ho
        all_goals subst ho
        all_goals simp [Region.binds] at hun hall
        · subst hun
          go_simp
          exact hK _ _ ⟨true, l1, l2, l3, l4, l5, l6, l7, l8, l9, l10, l11, l12, l13, l14, l15, l16, l17, l18, l19, l20, l21, l22, l23, l24, l25, rfl, (by simp only [↓reduceIte, List.setIfInBounds_toArray, List.set_cons_zero, List.set_cons_succ, Array.getD_eq_getD_getElem?, List.getElem?_toArray, List.getElem?_cons_zero, List.getElem?_cons_succ, Option.getD_some]), HS.out⟩
        · obtain rfl := hall
          subst hun
          go_simp
          exact hK _ _ ⟨true, true, l2, l3, l4, l5, l6, l7, l8, l9, l10, l11, l12, l13, l14, l15, l16, l17, l18, l19, l20, l21, l22, l23, l24, l25, rfl, (by simp only [↓reduceIte, List.setIfInBounds_toArray, List.set_cons_zero, List.set_cons_succ, Array.getD_eq_getD_getElem?, List.getElem?_toArray, List.getElem?_cons_zero, List.getElem?_cons_succ, Option.getD_some]), HS.out⟩
        · obtain rfl := hall
          subst hun
          go_simp
          exact hK _ _ ⟨l0, true, true, l3, l4, l5, l6, l7, l8, l9, l10, l11, l12, l13, l14, l15, l16, l17, l18, l19, l20, l21, l22, l23, l24, l25, rfl, (by simp only [↓reduceIte, List.setIfInBounds_toArray, List.set_cons_zero, List.set_cons_succ, Array.getD_eq_getD_getElem?, List.getElem?_toArray, List.getElem?_cons_zero, List.getElem?_cons_succ, Option.getD_some]), HS.out⟩
        · obtain rfl := hall
          subst hun
          go_simp
          exact hK _ _ ⟨l0, l1, true, true, l4, l5, l6, l7, l8, l9, l10, l11, l12, l13, l14, l15, l16, l17, l18, l19, l20, l21, l22, l23, l24, l25, rfl, (by simp only [↓reduceIte, List.setIfInBounds_toArray, List.set_cons_zero, List.set_cons_succ, Array.getD_eq_getD_getElem?, List.getElem?_toArray, List.getElem?_cons_zero, List.getElem?_cons_succ, Option.getD_some]), HS.out⟩
        · obtain ⟨rfl, rfl⟩ := hall
          subst hun
          go_simp
          exact hK _ _ ⟨l0, l1, true, true, true, l5, l6, l7, l8, l9, l10, l11, l12, l13, l14, l15, l16, l17, l18, l19, l20, l21, l22, l23, l24, l25, rfl, (by simp only [↓reduceIte, List.setIfInBounds_toArray, List.set_cons_zero, List.set_cons_succ, Array.getD_eq_getD_getElem?, List.getElem?_toArray, List.getElem?_cons_zero, List.getElem?_cons_succ, Option.getD_some]), HS.out⟩
        · obtain ⟨rfl, rfl⟩ := hall
          subst hun
          go_simp
          exact hK _ _ ⟨l0, l1, true, l3, true, true, l6, l7, l8, l9, l10, l11, l12, l13, l14, l15, l16, l17, l18, l19, l20, l21, l22, l23, l24, l25, rfl, (by simp only [↓reduceIte, List.setIfInBounds_toArray, List.set_cons_zero, List.set_cons_succ, Array.getD_eq_getD_getElem?, List.getElem?_toArray, List.getElem?_cons_zero, List.getElem?_cons_succ, Option.getD_some]), HS.out⟩
        · obtain ⟨rfl, rfl⟩ := hall
          subst hun
          go_simp
          exact hK _ _ ⟨l0, l1, true, l3, l4, true, true, l7, l8, l9, l10, l11, l12, l13, l14, l15, l16, l17, l18, l19, l20, l21, l22, l23, l24, l25, rfl, (by simp only [↓reduceIte, List.setIfInBounds_toArray, List.set_cons_zero, List.set_cons_succ, Array.getD_eq_getD_getElem?, List.getElem?_toArray, List.getElem?_cons_zero, List.getElem?_cons_succ, Option.getD_some]), HS.out⟩
        · obtain rfl := hall
          subst hun
          go_simp
          exact hK _ _ ⟨l0, l1, l2, l3, l4, l5, true, true, l8, l9, l10, l11, l12, l13, l14, l15, l16, l17, l18, l19, l20, l21, l22, l23, l24, l25, rfl, (by simp only [↓reduceIte, List.setIfInBounds_toArray, List.set_cons_zero, List.set_cons_succ, Array.getD_eq_getD_getElem?, List.getElem?_toArray, List.getElem?_cons_zero, List.getElem?_cons_succ, Option.getD_some]), HS.out⟩
        · obtain rfl := hall
          subst hun
          go_simp
          exact hK _ _ ⟨l0, l1, l2, l3, l4, l5, true, l7, true, l9, l10, l11, l12, l13, l14, l15, l16, l17, l18, l19, l20, l21, l22, l23, l24, l25, rfl, (by simp only [↓reduceIte, List.setIfInBounds_toArray, List.set_cons_zero, List.set_cons_succ, Array.getD_eq_getD_getElem?, List.getElem?_toArray, List.getElem?_cons_zero, List.getElem?_cons_succ, Option.getD_some]), HS.out⟩
        · obtain ⟨rfl, rfl⟩ := hall
          subst hun
          go_simp
          exact hK _ _ ⟨l0, l1, l2, l3, l4, l5, true, l7, true, true, l10, l11, l12, l13, l14, l15, l16, l17, l18, l19, l20, l21, l22, l23, l24, l25, rfl, (by simp only [↓reduceIte, List.setIfInBounds_toArray, List.set_cons_zero, List.set_cons_succ, Array.getD_eq_getD_getElem?, List.getElem?_toArray, List.getElem?_cons_zero, List.getElem?_cons_succ, Option.getD_some]), HS.out⟩
        · obtain ⟨rfl, rfl, rfl⟩ := hall
          subst hun
          go_simp
          exact hK _ _ ⟨l0, l1, l2, l3, l4, l5, true, true, l8, true, true, l11, l12, l13, l14, l15, l16, l17, l18, l19, l20, l21, l22, l23, l24, l25, rfl, (by simp only [↓reduceIte, List.setIfInBounds_toArray, List.set_cons_zero, List.set_cons_succ, Array.getD_eq_getD_getElem?, List.getElem?_toArray, List.getElem?_cons_zero, List.getElem?_cons_succ, Option.getD_some]), HS.out⟩
        · obtain ⟨rfl, rfl⟩ := hall
          subst hun
          go_simp
          exact hK _ _ ⟨l0, l1, l2, l3, l4, l5, true, l7, l8, l9, true, true, l12, l13, l14, l15, l16, l17, l18, l19, l20, l21, l22, l23, l24, l25, rfl, (by simp only [↓reduceIte, List.setIfInBounds_toArray, List.set_cons_zero, List.set_cons_succ, Array.getD_eq_getD_getElem?, List.getElem?_toArray, List.getElem?_cons_zero, List.getElem?_cons_succ, Option.getD_some]), HS.out⟩
        · obtain ⟨rfl, rfl⟩ := hall
          subst hun
          go_simp
          exact hK _ _ ⟨l0, l1, l2, l3, l4, l5, true, l7, l8, l9, l10, true, true, l13, l14, l15, l16, l17, l18, l19, l20, l21, l22, l23, l24, l25, rfl, (by simp only [↓reduceIte, List.setIfInBounds_toArray, List.set_cons_zero, List.set_cons_succ, Array.getD_eq_getD_getElem?, List.getElem?_toArray, List.getElem?_cons_zero, List.getElem?_cons_succ, Option.getD_some]), HS.out⟩
        · obtain rfl := hall
          subst hun
          go_simp
          exact hK _ _ ⟨l0, l1, l2, l3, l4, l5, l6, l7, l8, l9, l10, l11, true, true, l14, l15, l16, l17, l18, l19, l20, l21, l22, l23, l24, l25, rfl, (by simp only [↓reduceIte, List.setIfInBounds_toArray, List.set_cons_zero, List.set_cons_succ, Array.getD_eq_getD_getElem?, List.getElem?_toArray, List.getElem?_cons_zero, List.getElem?_cons_succ, Option.getD_some]), HS.out⟩
        · obtain ⟨rfl, rfl⟩ := hall
          subst hun
          go_simp
          exact hK _ _ ⟨l0, l1, l2, l3, l4, l5, l6, l7, l8, l9, l10, l11, true, true, true, l15, l16, l17, l18, l19, l20, l21, l22, l23, l24, l25, rfl, (by simp only [↓reduceIte, List.setIfInBounds_toArray, List.set_cons_zero, List.set_cons_succ, Array.getD_eq_getD_getElem?, List.getElem?_toArray, List.getElem?_cons_zero, List.getElem?_cons_succ, Option.getD_some]), HS.out⟩
        · obtain ⟨rfl, rfl⟩ := hall
          subst hun
          go_simp
          exact hK _ _ ⟨l0, l1, l2, l3, l4, l5, l6, l7, l8, l9, l10, l11, true, l13, true, true, l16, l17, l18, l19, l20, l21, l22, l23, l24, l25, rfl, (by simp only [↓reduceIte, List.setIfInBounds_toArray, List.set_cons_zero, List.set_cons_succ, Array.getD_eq_getD_getElem?, List.getElem?_toArray, List.getElem?_cons_zero, List.getElem?_cons_succ, Option.getD_some]), HS.out⟩
        · obtain rfl := hall
          subst hun
          go_simp
          exact hK _ _ ⟨l0, l1, l2, l3, l4, l5, l6, l7, l8, l9, l10, l11, l12, l13, l14, true, true, l17, l18, l19, l20, l21, l22, l23, l24, l25, rfl, (by simp only [↓reduceIte, List.setIfInBounds_toArray, List.set_cons_zero, List.set_cons_succ, Array.getD_eq_getD_getElem?, List.getElem?_toArray, List.getElem?_cons_zero, List.getElem?_cons_succ, Option.getD_some]), HS.out⟩
        · obtain ⟨rfl, rfl⟩ := hall
          subst hun
          go_simp
          exact hK _ _ ⟨l0, l1, l2, l3, l4, l5, l6, l7, l8, l9, l10, l11, l12, l13, l14, true, true, true, l18, l19, l20, l21, l22, l23, l24, l25, rfl, (by simp only [↓reduceIte, List.setIfInBounds_toArray, List.set_cons_zero, List.set_cons_succ, Array.getD_eq_getD_getElem?, List.getElem?_toArray, List.getElem?_cons_zero, List.getElem?_cons_succ, Option.getD_some]), HS.out⟩
        · obtain ⟨rfl, rfl⟩ := hall
          subst hun
          go_simp
          exact hK _ _ ⟨l0, l1, l2, l3, l4, l5, l6, l7, l8, l9, l10, l11, l12, l13, l14, true, l16, true, true, l19, l20, l21, l22, l23, l24, l25, rfl, (by simp only [↓reduceIte, List.setIfInBounds_toArray, List.set_cons_zero, List.set_cons_succ, Array.getD_eq_getD_getElem?, List.getElem?_toArray, List.getElem?_cons_zero, List.getElem?_cons_succ, Option.getD_some]), HS.out⟩
        · obtain rfl := hall
          subst hun
          go_simp
          exact hK _ _ ⟨l0, l1, l2, l3, l4, l5, l6, l7, l8, l9, l10, l11, l12, l13, l14, true, l16, l17, l18, true, l20, l21, l22, l23, l24, l25, rfl, (by simp only [↓reduceIte, List.setIfInBounds_toArray, List.set_cons_zero, List.set_cons_succ, Array.getD_eq_getD_getElem?, List.getElem?_toArray, List.getElem?_cons_zero, List.getElem?_cons_succ, Option.getD_some]), HS.out⟩
        · obtain ⟨rfl, rfl⟩ := hall
          subst hun
          go_simp
          exact hK _ _ ⟨l0, l1, l2, l3, l4, l5, l6, l7, l8, l9, l10, l11, l12, l13, l14, true, l16, l17, l18, true, true, l21, l22, l23, l24, l25, rfl, (by simp only [↓reduceIte, List.setIfInBounds_toArray, List.set_cons_zero, List.set_cons_succ, Array.getD_eq_getD_getElem?, List.getElem?_toArray, List.getElem?_cons_zero, List.getElem?_cons_succ, Option.getD_some]), HS.out⟩
        · obtain ⟨rfl, rfl⟩ := hall
          subst hun
          go_simp
          exact hK _ _ ⟨l0, l1, l2, l3, l4, l5, l6, l7, l8, l9, l10, l11, l12, l13, l14, true, l16, l17, l18, l19, true, true, l22, l23, l24, l25, rfl, (by simp only [↓reduceIte, List.setIfInBounds_toArray, List.set_cons_zero, List.set_cons_succ, Array.getD_eq_getD_getElem?, List.getElem?_toArray, List.getElem?_cons_zero, List.getElem?_cons_succ, Option.getD_some]), HS.out⟩
        · obtain ⟨rfl, rfl, rfl⟩ := hall
          subst hun
          go_simp
          exact hK _ _ ⟨l0, l1, l2, l3, l4, l5, l6, l7, l8, l9, l10, l11, l12, l13, l14, true, l16, l17, true, l19, l20, true, true, l23, l24, l25, rfl, (by simp only [↓reduceIte, List.setIfInBounds_toArray, List.set_cons_zero, List.set_cons_succ, Array.getD_eq_getD_getElem?, List.getElem?_toArray, List.getElem?_cons_zero, List.getElem?_cons_succ, Option.getD_some]), HS.out⟩
        · obtain ⟨rfl, rfl, rfl⟩ := hall
          subst hun
          go_simp
          exact hK _ _ ⟨l0, l1, l2, l3, l4, l5, l6, l7, l8, l9, l10, l11, true, l13, l14, true, l16, l17, l18, l19, l20, l21, true, true, l24, l25, rfl, (by simp only [↓reduceIte, List.setIfInBounds_toArray, List.set_cons_zero, List.set_cons_succ, Array.getD_eq_getD_getElem?, List.getElem?_toArray, List.getElem?_cons_zero, List.getElem?_cons_succ, Option.getD_some]), HS.out⟩
        · obtain ⟨rfl, rfl⟩ := hall
          subst hun
          go_simp
          exact hK _ _ ⟨l0, l1, l2, l3, l4, l5, l6, l7, l8, l9, l10, l11, true, l13, l14, l15, l16, l17, l18, l19, l20, l21, l22, true, true, l25, rfl, (by simp only [↓reduceIte, List.setIfInBounds_toArray, List.set_cons_zero, List.set_cons_succ, Array.getD_eq_getD_getElem?, List.getElem?_toArray, List.getElem?_cons_zero, List.getElem?_cons_succ, Option.getD_some]), HS.out⟩
        · obtain ⟨rfl, rfl, rfl, rfl, rfl, rfl, rfl, rfl, rfl, rfl, rfl, rfl, rfl, rfl, rfl, rfl, rfl, rfl, rfl, rfl, -, rfl, rfl, rfl, rfl, rfl, -⟩ := hall
          subst hun
          go_simp
          exact hK _ _ ⟨true, true, true, true, true, true, true, true, true, true, true, true, true, true, true, true, true, true, true, true, true, true, true, true, true, true, rfl, (by simp only [↓reduceIte, List.setIfInBounds_toArray, List.set_cons_zero, List.set_cons_succ]), HS.out⟩
      · rintro listed a w' ⟨l0, l1, l2, l3, l4, l5, l6, l7, l8, l9, l10, l11, l12, l13, l14, l15, l16, l17, l18, l19, l20, l21, l22, l23, l24, l25, rfl, rfl, hS⟩ hr
        have hall := ready_nilM (by kernel_rfl) rfl hr
        obtain rfl : l0 = true := by simpa using hall 0 (by simp)
        obtain rfl : l1 = true := by simpa using hall 1 (by simp)
        obtain rfl : l2 = true := by simpa using hall 2 (by simp)
        obtain rfl : l3 = true := by simpa using hall 3 (by simp)
        obtain rfl : l4 = true := by simpa using hall 4 (by simp)
        obtain rfl : l5 = true := by simpa using hall 5 (by simp)
        obtain rfl : l6 = true := by simpa using hall 6 (by simp)
        obtain rfl : l7 = true := by simpa using hall 7 (by simp)
        obtain rfl : l8 = true := by simpa using hall 8 (by simp)
        obtain rfl : l9 = true := by simpa using hall 9 (by simp)
        obtain rfl : l10 = true := by simpa using hall 10 (by simp)
        obtain rfl : l11 = true := by simpa using hall 11 (by simp)
        obtain rfl : l12 = true := by simpa using hall 12 (by simp)
        obtain rfl : l13 = true := by simpa using hall 13 (by simp)
        obtain rfl : l14 = true := by simpa using hall 14 (by simp)
        obtain rfl : l15 = true := by simpa using hall 15 (by simp)
        obtain rfl : l16 = true := by simpa using hall 16 (by simp)
        obtain rfl : l17 = true := by simpa using hall 17 (by simp)
        obtain rfl : l18 = true := by simpa using hall 18 (by simp)
        obtain rfl : l19 = true := by simpa using hall 19 (by simp)
        obtain rfl : l20 = true := by simpa using hall 20 (by simp)
        obtain rfl : l21 = true := by simpa using hall 21 (by simp)
        obtain rfl : l22 = true := by simpa using hall 22 (by simp)
        obtain rfl : l23 = true := by simpa using hall 23 (by simp)
        obtain rfl : l24 = true := by simpa using hall 24 (by simp)
        obtain rfl : l25 = true := by simpa using hall 25 (by simp)
        clear hall hr 
        simp only [↓reduceIte] at hS ⊢
        simp only [List.setIfInBounds_toArray, List.set_cons_zero, List.set_cons_succ]
        have HSf := Lib.hid hS
        clear hS
        go_wp2
        go_ret
        exact ⟨rfl, HS5.out.bel.trans (HSf.out.bel.mono HS5.out.bel.size)⟩
      · refine ⟨false, false, false, false, false, false, false, false, false, false, false, false, false, false, false, false, false, false, false, false, false, false, false, false, false, false, rfl, (by simp only [↓reduceIte, Bool.false_eq_true, List.setIfInBounds_toArray, List.set_cons_zero, List.set_cons_succ, Array.getD_eq_getD_getElem?, List.getElem?_toArray, List.getElem?_cons_zero, List.getElem?_cons_succ, Option.getD_some]), ?_⟩
        exact (St.start (w4.alloc (.cells #[.slice b1 D.next.length d1, .slice b2 D.ends.length d2] 33))).drew.pick [] (by decide)
    · have hdet := det_some hD hfb
      have hdok := det_dfaOk hdet
      have hc40 := g3 hfb
      obtain ⟨N, hN⟩ : ∃ N, nfaOf D = N := ⟨_, rfl⟩
      have hno := fun (u : World) (hu : DfaR 0 u (.agg #[.slice none 0 0, .slice none 0 0]) D) => hu
      have hl := dfaOk_len hdok
      have hNs : N.states = (D.next.length : Int) := by rw [← hN]; rfl
      have Ns0 : -9223372036854775808 ≤ N.states := by omega
      have Ns1 : N.states ≤ 9223372036854775807 := by omega
      obtain ⟨c2', hc2⟩ : ∃ c2', cntK forty N = c2' := ⟨_, rfl⟩
      have hc2l : c2' ≤ (D.next.length : Int) := by rw [← hc2, ← hN]; exact cnt_back hdok
      have hct := fun (u : World) (x : Value) (hu : NfaR 0 u x N) => implCountK_any forty rfl N x u hu c2' hc2
      have hno2 := fun (x : Value) (u : World) (hu : DfaR 0 u x D) => nfaOfI_any D x u hdok hu
      rw [hN] at hno2
      have Hct := Lib.hid hct
      have Hno2 := Lib.hid hno2
      have HhD := Lib.hid hD; clear hD
      have Hhfb := Lib.hid hfb; clear hfb
      have Hhok := Lib.hid hok; clear hok
      have Hhdet := Lib.hid hdet; clear hdet
      have Hhdok := Lib.hid hdok; clear hdok
      have HhN := Lib.hid hN; clear hN
      have HhNs := Lib.hid hNs; clear hNs
      have Hhl := Lib.hid hl; clear hl
      have Hhc2 := Lib.hid hc2; clear hc2
      clear g3 g4 hno hct hno2
      go_wp2_with fail
      refine (implDet_any n D _ HhD.out Hhfb.out _ _ (nfaR_rows HS3.out 0 1 2 rfl rfl rfl (by omega) (by omega))).mono ?_
      rintro e w4 ⟨⟨b1, d1, b2, d2, rfl, hdo⟩, hb4⟩
      have HS5 := Lib.hid ((HS3.out.call hb4).alloc _ rfl #[.slice b1 D.next.length d1, .slice b2 D.ends.length d2] 33)
      have hdr := ((hdo.r).mono (Nat.zero_le _)).below ((Below.refl w4.heap.size w4).alloc (Nat.le_refl _) (.cells #[.slice b1 D.next.length d1, .slice b2 D.ends.length d2] 33))
      have HDr := Lib.hid hdr
      have Hno := Lib.hid (fun (u : World) (hu : DfaR 0 u (.agg #[.slice b1 D.next.length d1, .slice b2 D.ends.length d2]) D) => Hno2.out _ u hu)
      have C0 := Lib.hid (HS5.out.cell (v := .slice b1 D.next.length d1) 4 0 rfl rfl)
      have C1 := Lib.hid (HS5.out.cell (v := .slice b2 D.ends.length d2) 4 1 rfl rfl)
      have Hlt := Lib.hid (HS5.out.boxlt 4 rfl).2
      clear hb4 hdo hdr e0 e1 e2 e3
      go_wp2
      refine wp_region_any (by kernel_rfl) ?_
      refine wpAny_invA (fun A listed a w' => ∃ (l0 l1 l2 l3 l4 l5 l6 l7 l8 l9 l10 l11 l12 l13 l14 l15 l16 l17 l18 l19 l20 l21 l22 l23 l24 l25 : Bool) (ay1 : Option Addr) (ay2 : Option Addr) (ay3 : Option Addr) (cy1 : Nat) (cy2 : Nat) (cy3 : Nat), listed = #[l0, l1, l2, l3, l4, l5, l6, l7, l8, l9, l10, l11, l12, l13, l14, l15, l16, l17, l18, l19, l20, l21, l22, l23, l24, l25] ∧
          a = ⟨((((((((((((((((((((((((((A.tmps.setIfInBounds 30 (if l0 = true then .int .i64 c else A.tmps.getD 30 undef)).setIfInBounds 31 (if l1 = true then .bool true else A.tmps.getD 31 undef)).setIfInBounds 32 (if l2 = true then .bool true else A.tmps.getD 32 undef)).setIfInBounds 33 (if l3 = true then .int .i64 c else A.tmps.getD 33 undef)).setIfInBounds 34 (if l4 = true then .bool true else A.tmps.getD 34 undef)).setIfInBounds 35 (if l5 = true then .bool true else A.tmps.getD 35 undef)).setIfInBounds 36 (if l6 = true then .bool true else A.tmps.getD 36 undef)).setIfInBounds 37 (if l7 = true then .bool true else A.tmps.getD 37 undef)).setIfInBounds 38 (if l8 = true then .int .i64 c else A.tmps.getD 38 undef)).setIfInBounds 39 (if l9 = true then .bool true else A.tmps.getD 39 undef)).setIfInBounds 40 (if l10 = true then .bool true else A.tmps.getD 40 undef)).setIfInBounds 41 (if l11 = true then .bool true else A.tmps.getD 41 undef)).setIfInBounds 42 (if l12 = true then .bool true else A.tmps.getD 42 undef)).setIfInBounds 43 (if l13 = true then .bool true else A.tmps.getD 43 undef)).setIfInBounds 44 (if l14 = true then .bool false else A.tmps.getD 44 undef)).setIfInBounds 45 (if l15 = true then .bool false else A.tmps.getD 45 undef)).setIfInBounds 46 (if l16 = true then .agg #[.slice b1 D.next.length d1, .slice b2 D.ends.length d2] else A.tmps.getD 46 undef)).setIfInBounds 47 (if l17 = true then .agg #[.int .i64 N.states, .slice ay1 N.moves.length cy1, .slice ay2 N.firsts.length cy2, .slice ay3 N.ends.length cy3] else A.tmps.getD 47 undef)).setIfInBounds 48 (if l18 = true then .int .i64 c2' else A.tmps.getD 48 undef)).setIfInBounds 49 (if l19 = true then .pointer (some ⟨w4.heap.size, 0, none⟩) else A.tmps.getD 49 undef)).setIfInBounds 50 (if l20 = true then .slice b1 D.next.length d1 else A.tmps.getD 50 undef)).setIfInBounds 51 (if l21 = true then .int .i64 (D.next.length : Int) else A.tmps.getD 51 undef)).setIfInBounds 52 (if l22 = true then .bool true else A.tmps.getD 52 undef)).setIfInBounds 53 (if l23 = true then .bool true else A.tmps.getD 53 undef)).setIfInBounds 54 (if l24 = true then .bool true else A.tmps.getD 54 undef)).setIfInBounds 2 (.bool l25)), A.defers⟩ ∧
          St (w4.alloc (.cells #[.slice b1 D.next.length d1, .slice b2 D.ends.length d2] 33)) w' [(if l17 = true then Ent.row 76 3 (.slice ay1 N.moves.length cy1) N.moves.length (N.moves.flatMap moveCells) else Ent.nil), (if l17 = true then Ent.row 3 1 (.slice ay2 N.firsts.length cy2) N.firsts.length (intCells N.firsts) else Ent.nil), (if l17 = true then Ent.row 3 1 (.slice ay3 N.ends.length cy3) N.ends.length (intCells N.ends) else Ent.nil)]) ?_ ?_ ?_
      · rintro listed a w' ⟨l0, l1, l2, l3, l4, l5, l6, l7, l8, l9, l10, l11, l12, l13, l14, l15, l16, l17, l18, l19, l20, l21, l22, l23, l24, l25, ay1, ay2, ay3, cy1, cy2, cy3, rfl, rfl, hS⟩ i hi
        obtain ⟨hun, o, ho, hall⟩ := mem_ready.1 hi
        have hlt := (Array.getElem?_eq_some_iff.1 ho).1
        refine wpOp_step ho (fun K hK => ?_)
        clear hi
        have HS := Lib.hid hS
        clear hS
        simp only [List.setIfInBounds_toArray, List.set_cons_zero, List.set_cons_succ, Array.getD_eq_getD_getElem?, List.getElem?_toArray, List.getElem?_cons_zero, List.getElem?_cons_succ, Option.getD_some]
        obtain h | h | h | h | h | h | h | h | h | h | h | h | h | h | h | h | h | h | h | h | h | h | h | h | h | h : i = 0 ∨ i = 1 ∨ i = 2 ∨ i = 3 ∨ i = 4 ∨ i = 5 ∨ i = 6 ∨ i = 7 ∨ i = 8 ∨ i = 9 ∨ i = 10 ∨ i = 11 ∨ i = 12 ∨ i = 13 ∨ i = 14 ∨ i = 15 ∨ i = 16 ∨ i = 17 ∨ i = 18 ∨ i = 19 ∨ i = 20 ∨ i = 21 ∨ i = 22 ∨ i = 23 ∨ i = 24 ∨ i = 25 := by simp at hlt; omega
        all_goals subst h
        all_goals simp only [List.getElem?_toArray, List.getElem?_cons_zero, List.getElem?_cons_succ, Option.some.injEq] at ho
        all_goals subst ho
        all_goals simp [Region.binds] at hun hall
        · subst hun
          go_simp
          exact hK _ _ ⟨true, l1, l2, l3, l4, l5, l6, l7, l8, l9, l10, l11, l12, l13, l14, l15, l16, l17, l18, l19, l20, l21, l22, l23, l24, l25, ay1, ay2, ay3, cy1, cy2, cy3, rfl, (by simp only [↓reduceIte, List.setIfInBounds_toArray, List.set_cons_zero, List.set_cons_succ, Array.getD_eq_getD_getElem?, List.getElem?_toArray, List.getElem?_cons_zero, List.getElem?_cons_succ, Option.getD_some]), HS.out⟩
        · obtain rfl := hall
          subst hun
          go_simp
          exact hK _ _ ⟨true, true, l2, l3, l4, l5, l6, l7, l8, l9, l10, l11, l12, l13, l14, l15, l16, l17, l18, l19, l20, l21, l22, l23, l24, l25, ay1, ay2, ay3, cy1, cy2, cy3, rfl, (by simp only [↓reduceIte, List.setIfInBounds_toArray, List.set_cons_zero, List.set_cons_succ, Array.getD_eq_getD_getElem?, List.getElem?_toArray, List.getElem?_cons_zero, List.getElem?_cons_succ, Option.getD_some]), HS.out⟩
        · obtain rfl := hall
          subst hun
          go_simp
          exact hK _ _ ⟨l0, true, true, l3, l4, l5, l6, l7, l8, l9, l10, l11, l12, l13, l14, l15, l16, l17, l18, l19, l20, l21, l22, l23, l24, l25, ay1, ay2, ay3, cy1, cy2, cy3, rfl, (by simp only [↓reduceIte, List.setIfInBounds_toArray, List.set_cons_zero, List.set_cons_succ, Array.getD_eq_getD_getElem?, List.getElem?_toArray, List.getElem?_cons_zero, List.getElem?_cons_succ, Option.getD_some]), HS.out⟩
        · obtain rfl := hall
          subst hun
          go_simp
          exact hK _ _ ⟨l0, l1, true, true, l4, l5, l6, l7, l8, l9, l10, l11, l12, l13, l14, l15, l16, l17, l18, l19, l20, l21, l22, l23, l24, l25, ay1, ay2, ay3, cy1, cy2, cy3, rfl, (by simp only [↓reduceIte, List.setIfInBounds_toArray, List.set_cons_zero, List.set_cons_succ, Array.getD_eq_getD_getElem?, List.getElem?_toArray, List.getElem?_cons_zero, List.getElem?_cons_succ, Option.getD_some]), HS.out⟩
        · obtain ⟨rfl, rfl⟩ := hall
          subst hun
          go_simp
          exact hK _ _ ⟨l0, l1, true, true, true, l5, l6, l7, l8, l9, l10, l11, l12, l13, l14, l15, l16, l17, l18, l19, l20, l21, l22, l23, l24, l25, ay1, ay2, ay3, cy1, cy2, cy3, rfl, (by simp only [↓reduceIte, List.setIfInBounds_toArray, List.set_cons_zero, List.set_cons_succ, Array.getD_eq_getD_getElem?, List.getElem?_toArray, List.getElem?_cons_zero, List.getElem?_cons_succ, Option.getD_some]), HS.out⟩
        · obtain ⟨rfl, rfl⟩ := hall
          subst hun
          go_simp
          exact hK _ _ ⟨l0, l1, true, l3, true, true, l6, l7, l8, l9, l10, l11, l12, l13, l14, l15, l16, l17, l18, l19, l20, l21, l22, l23, l24, l25, ay1, ay2, ay3, cy1, cy2, cy3, rfl, (by simp only [↓reduceIte, List.setIfInBounds_toArray, List.set_cons_zero, List.set_cons_succ, Array.getD_eq_getD_getElem?, List.getElem?_toArray, List.getElem?_cons_zero, List.getElem?_cons_succ, Option.getD_some]), HS.out⟩
        · obtain ⟨rfl, rfl⟩ := hall
          subst hun
          go_simp
          exact hK _ _ ⟨l0, l1, true, l3, l4, true, true, l7, l8, l9, l10, l11, l12, l13, l14, l15, l16, l17, l18, l19, l20, l21, l22, l23, l24, l25, ay1, ay2, ay3, cy1, cy2, cy3, rfl, (by simp only [↓reduceIte, List.setIfInBounds_toArray, List.set_cons_zero, List.set_cons_succ, Array.getD_eq_getD_getElem?, List.getElem?_toArray, List.getElem?_cons_zero, List.getElem?_cons_succ, Option.getD_some]), HS.out⟩
        · obtain rfl := hall
          subst hun
          go_simp
          exact hK _ _ ⟨l0, l1, l2, l3, l4, l5, true, true, l8, l9, l10, l11, l12, l13, l14, l15, l16, l17, l18, l19, l20, l21, l22, l23, l24, l25, ay1, ay2, ay3, cy1, cy2, cy3, rfl, (by simp only [↓reduceIte, List.setIfInBounds_toArray, List.set_cons_zero, List.set_cons_succ, Array.getD_eq_getD_getElem?, List.getElem?_toArray, List.getElem?_cons_zero, List.getElem?_cons_succ, Option.getD_some]), HS.out⟩
        · obtain rfl := hall
          subst hun
          go_simp
          exact hK _ _ ⟨l0, l1, l2, l3, l4, l5, true, l7, true, l9, l10, l11, l12, l13, l14, l15, l16, l17, l18, l19, l20, l21, l22, l23, l24, l25, ay1, ay2, ay3, cy1, cy2, cy3, rfl, (by simp only [↓reduceIte, List.setIfInBounds_toArray, List.set_cons_zero, List.set_cons_succ, Array.getD_eq_getD_getElem?, List.getElem?_toArray, List.getElem?_cons_zero, List.getElem?_cons_succ, Option.getD_some]), HS.out⟩
        · obtain ⟨rfl, rfl⟩ := hall
          subst hun
          go_simp
          exact hK _ _ ⟨l0, l1, l2, l3, l4, l5, true, l7, true, true, l10, l11, l12, l13, l14, l15, l16, l17, l18, l19, l20, l21, l22, l23, l24, l25, ay1, ay2, ay3, cy1, cy2, cy3, rfl, (by simp only [↓reduceIte, List.setIfInBounds_toArray, List.set_cons_zero, List.set_cons_succ, Array.getD_eq_getD_getElem?, List.getElem?_toArray, List.getElem?_cons_zero, List.getElem?_cons_succ, Option.getD_some]), HS.out⟩
        · obtain ⟨rfl, rfl, rfl⟩ := hall
          subst hun
          go_simp
          exact hK _ _ ⟨l0, l1, l2, l3, l4, l5, true, true, l8, true, true, l11, l12, l13, l14, l15, l16, l17, l18, l19, l20, l21, l22, l23, l24, l25, ay1, ay2, ay3, cy1, cy2, cy3, rfl, (by simp only [↓reduceIte, List.setIfInBounds_toArray, List.set_cons_zero, List.set_cons_succ, Array.getD_eq_getD_getElem?, List.getElem?_toArray, List.getElem?_cons_zero, List.getElem?_cons_succ, Option.getD_some]), HS.out⟩
        · obtain ⟨rfl, rfl⟩ := hall
          subst hun
          go_simp
          exact hK _ _ ⟨l0, l1, l2, l3, l4, l5, true, l7, l8, l9, true, true, l12, l13, l14, l15, l16, l17, l18, l19, l20, l21, l22, l23, l24, l25, ay1, ay2, ay3, cy1, cy2, cy3, rfl, (by simp only [↓reduceIte, List.setIfInBounds_toArray, List.set_cons_zero, List.set_cons_succ, Array.getD_eq_getD_getElem?, List.getElem?_toArray, List.getElem?_cons_zero, List.getElem?_cons_succ, Option.getD_some]), HS.out⟩
        · obtain ⟨rfl, rfl⟩ := hall
          subst hun
          go_simp
          exact hK _ _ ⟨l0, l1, l2, l3, l4, l5, true, l7, l8, l9, l10, true, true, l13, l14, l15, l16, l17, l18, l19, l20, l21, l22, l23, l24, l25, ay1, ay2, ay3, cy1, cy2, cy3, rfl, (by simp only [↓reduceIte, List.setIfInBounds_toArray, List.set_cons_zero, List.set_cons_succ, Array.getD_eq_getD_getElem?, List.getElem?_toArray, List.getElem?_cons_zero, List.getElem?_cons_succ, Option.getD_some]), HS.out⟩
        · obtain rfl := hall
          subst hun
          go_simp
          exact hK _ _ ⟨l0, l1, l2, l3, l4, l5, l6, l7, l8, l9, l10, l11, true, true, l14, l15, l16, l17, l18, l19, l20, l21, l22, l23, l24, l25, ay1, ay2, ay3, cy1, cy2, cy3, rfl, (by simp only [↓reduceIte, List.setIfInBounds_toArray, List.set_cons_zero, List.set_cons_succ, Array.getD_eq_getD_getElem?, List.getElem?_toArray, List.getElem?_cons_zero, List.getElem?_cons_succ, Option.getD_some]), HS.out⟩
        · obtain ⟨rfl, rfl⟩ := hall
          subst hun
          go_simp
          exact hK _ _ ⟨l0, l1, l2, l3, l4, l5, l6, l7, l8, l9, l10, l11, true, true, true, l15, l16, l17, l18, l19, l20, l21, l22, l23, l24, l25, ay1, ay2, ay3, cy1, cy2, cy3, rfl, (by simp only [↓reduceIte, List.setIfInBounds_toArray, List.set_cons_zero, List.set_cons_succ, Array.getD_eq_getD_getElem?, List.getElem?_toArray, List.getElem?_cons_zero, List.getElem?_cons_succ, Option.getD_some]), HS.out⟩
        · obtain ⟨rfl, rfl⟩ := hall
          subst hun
          go_simp
          exact hK _ _ ⟨l0, l1, l2, l3, l4, l5, l6, l7, l8, l9, l10, l11, true, l13, true, true, l16, l17, l18, l19, l20, l21, l22, l23, l24, l25, ay1, ay2, ay3, cy1, cy2, cy3, rfl, (by simp only [↓reduceIte, List.setIfInBounds_toArray, List.set_cons_zero, List.set_cons_succ, Array.getD_eq_getD_getElem?, List.getElem?_toArray, List.getElem?_cons_zero, List.getElem?_cons_succ, Option.getD_some]), HS.out⟩
        · obtain rfl := hall
          subst hun
          have e0 := (bcell HS.out.bel w4.heap.size 0 Hlt.out).trans C0.out
          have e1 := (bcell HS.out.bel w4.heap.size 1 Hlt.out).trans C1.out
          go_simp
          exact hK _ _ ⟨l0, l1, l2, l3, l4, l5, l6, l7, l8, l9, l10, l11, l12, l13, l14, true, true, l17, l18, l19, l20, l21, l22, l23, l24, l25, ay1, ay2, ay3, cy1, cy2, cy3, rfl, (by simp only [↓reduceIte, List.setIfInBounds_toArray, List.set_cons_zero, List.set_cons_succ, Array.getD_eq_getD_getElem?, List.getElem?_toArray, List.getElem?_cons_zero, List.getElem?_cons_succ, Option.getD_some]), HS.out⟩
        · obtain ⟨rfl, rfl⟩ := hall
          subst hun
          go_simp
          go_at_call 16
          refine (Hno.out _ (HDr.out.below HS.out.bel)).mono ?_
          rintro e u1 ⟨x1, z1, x2, z2, x3, z3, rfl, hb⟩
          have hS2 := (HS.out.cat hb).pick [3, 4, 5] (by decide)
          have HhS2 := Lib.hid hS2; clear hS2
          go_simp
          exact hK _ _ ⟨l0, l1, l2, l3, l4, l5, l6, l7, l8, l9, l10, l11, l12, l13, l14, true, true, true, l18, l19, l20, l21, l22, l23, l24, l25, x1, x2, x3, z1, z2, z3, rfl, (by simp only [↓reduceIte, List.setIfInBounds_toArray, List.set_cons_zero, List.set_cons_succ, Array.getD_eq_getD_getElem?, List.getElem?_toArray, List.getElem?_cons_zero, List.getElem?_cons_succ, Option.getD_some]), HhS2.out⟩
        · obtain ⟨rfl, rfl⟩ := hall
          subst hun
          go_simp
          go_at_call 14
          refine (Hct.out _ _ (nfaR_rows HS.out 0 1 2 rfl rfl rfl Ns0 Ns1)).mono ?_
          rintro e u1 ⟨rfl, hb⟩
          have hS2 := HS.out.call hb
          have HhS2 := Lib.hid hS2; clear hS2
          go_simp
          exact hK _ _ ⟨l0, l1, l2, l3, l4, l5, l6, l7, l8, l9, l10, l11, l12, l13, l14, true, l16, true, true, l19, l20, l21, l22, l23, l24, l25, ay1, ay2, ay3, cy1, cy2, cy3, rfl, (by simp only [↓reduceIte, List.setIfInBounds_toArray, List.set_cons_zero, List.set_cons_succ, Array.getD_eq_getD_getElem?, List.getElem?_toArray, List.getElem?_cons_zero, List.getElem?_cons_succ, Option.getD_some]), HhS2.out⟩
        · obtain rfl := hall
          subst hun
          go_simp
          exact hK _ _ ⟨l0, l1, l2, l3, l4, l5, l6, l7, l8, l9, l10, l11, l12, l13, l14, true, l16, l17, l18, true, l20, l21, l22, l23, l24, l25, ay1, ay2, ay3, cy1, cy2, cy3, rfl, (by simp only [↓reduceIte, List.setIfInBounds_toArray, List.set_cons_zero, List.set_cons_succ, Array.getD_eq_getD_getElem?, List.getElem?_toArray, List.getElem?_cons_zero, List.getElem?_cons_succ, Option.getD_some]), HS.out⟩
        · obtain ⟨rfl, rfl⟩ := hall
          subst hun
          have e0 := (bcell HS.out.bel w4.heap.size 0 Hlt.out).trans C0.out
          go_simp
          exact hK _ _ ⟨l0, l1, l2, l3, l4, l5, l6, l7, l8, l9, l10, l11, l12, l13, l14, true, l16, l17, l18, true, true, l21, l22, l23, l24, l25, ay1, ay2, ay3, cy1, cy2, cy3, rfl, (by simp only [↓reduceIte, List.setIfInBounds_toArray, List.set_cons_zero, List.set_cons_succ, Array.getD_eq_getD_getElem?, List.getElem?_toArray, List.getElem?_cons_zero, List.getElem?_cons_succ, Option.getD_some]), HS.out⟩
        · obtain ⟨rfl, rfl⟩ := hall
          subst hun
          go_simp
          exact hK _ _ ⟨l0, l1, l2, l3, l4, l5, l6, l7, l8, l9, l10, l11, l12, l13, l14, true, l16, l17, l18, l19, true, true, l22, l23, l24, l25, ay1, ay2, ay3, cy1, cy2, cy3, rfl, (by simp only [↓reduceIte, List.setIfInBounds_toArray, List.set_cons_zero, List.set_cons_succ, Array.getD_eq_getD_getElem?, List.getElem?_toArray, List.getElem?_cons_zero, List.getElem?_cons_succ, Option.getD_some]), HS.out⟩
        · obtain ⟨rfl, rfl, rfl⟩ := hall
          subst hun
          go_simp
          exact hK _ _ ⟨l0, l1, l2, l3, l4, l5, l6, l7, l8, l9, l10, l11, l12, l13, l14, true, l16, l17, true, l19, l20, true, true, l23, l24, l25, ay1, ay2, ay3, cy1, cy2, cy3, rfl, (by simp only [↓reduceIte, List.setIfInBounds_toArray, List.set_cons_zero, List.set_cons_succ, Array.getD_eq_getD_getElem?, List.getElem?_toArray, List.getElem?_cons_zero, List.getElem?_cons_succ, Option.getD_some]), HS.out⟩
        · obtain ⟨rfl, rfl, rfl⟩ := hall
          subst hun
          go_simp
          exact hK _ _ ⟨l0, l1, l2, l3, l4, l5, l6, l7, l8, l9, l10, l11, true, l13, l14, true, l16, l17, l18, l19, l20, l21, true, true, l24, l25, ay1, ay2, ay3, cy1, cy2, cy3, rfl, (by simp only [↓reduceIte, List.setIfInBounds_toArray, List.set_cons_zero, List.set_cons_succ, Array.getD_eq_getD_getElem?, List.getElem?_toArray, List.getElem?_cons_zero, List.getElem?_cons_succ, Option.getD_some]), HS.out⟩
        · obtain ⟨rfl, rfl⟩ := hall
          subst hun
          go_simp
          exact hK _ _ ⟨l0, l1, l2, l3, l4, l5, l6, l7, l8, l9, l10, l11, true, l13, l14, l15, l16, l17, l18, l19, l20, l21, l22, true, true, l25, ay1, ay2, ay3, cy1, cy2, cy3, rfl, (by simp only [↓reduceIte, List.setIfInBounds_toArray, List.set_cons_zero, List.set_cons_succ, Array.getD_eq_getD_getElem?, List.getElem?_toArray, List.getElem?_cons_zero, List.getElem?_cons_succ, Option.getD_some]), HS.out⟩
        · obtain ⟨rfl, rfl, rfl, rfl, rfl, rfl, rfl, rfl, rfl, rfl, rfl, rfl, rfl, rfl, rfl, rfl, rfl, rfl, rfl, rfl, -, rfl, rfl, rfl, rfl, rfl, -⟩ := hall
          subst hun
          go_simp
          exact hK _ _ ⟨true, true, true, true, true, true, true, true, true, true, true, true, true, true, true, true, true, true, true, true, true, true, true, true, true, true, ay1, ay2, ay3, cy1, cy2, cy3, rfl, (by simp only [↓reduceIte, List.setIfInBounds_toArray, List.set_cons_zero, List.set_cons_succ]), HS.out⟩
      · rintro listed a w' ⟨l0, l1, l2, l3, l4, l5, l6, l7, l8, l9, l10, l11, l12, l13, l14, l15, l16, l17, l18, l19, l20, l21, l22, l23, l24, l25, ay1, ay2, ay3, cy1, cy2, cy3, rfl, rfl, hS⟩ hr
        have hall := ready_nilM (by kernel_rfl) rfl hr
        obtain rfl : l0 = true := by simpa using hall 0 (by simp)
        obtain rfl : l1 = true := by simpa using hall 1 (by simp)
        obtain rfl : l2 = true := by simpa using hall 2 (by simp)
        obtain rfl : l3 = true := by simpa using hall 3 (by simp)
        obtain rfl : l4 = true := by simpa using hall 4 (by simp)
        obtain rfl : l5 = true := by simpa using hall 5 (by simp)
        obtain rfl : l6 = true := by simpa using hall 6 (by simp)
        obtain rfl : l7 = true := by simpa using hall 7 (by simp)
        obtain rfl : l8 = true := by simpa using hall 8 (by simp)
        obtain rfl : l9 = true := by simpa using hall 9 (by simp)
        obtain rfl : l10 = true := by simpa using hall 10 (by simp)
        obtain rfl : l11 = true := by simpa using hall 11 (by simp)
        obtain rfl : l12 = true := by simpa using hall 12 (by simp)
        obtain rfl : l13 = true := by simpa using hall 13 (by simp)
        obtain rfl : l14 = true := by simpa using hall 14 (by simp)
        obtain rfl : l15 = true := by simpa using hall 15 (by simp)
        obtain rfl : l16 = true := by simpa using hall 16 (by simp)
        obtain rfl : l17 = true := by simpa using hall 17 (by simp)
        obtain rfl : l18 = true := by simpa using hall 18 (by simp)
        obtain rfl : l19 = true := by simpa using hall 19 (by simp)
        obtain rfl : l20 = true := by simpa using hall 20 (by simp)
        obtain rfl : l21 = true := by simpa using hall 21 (by simp)
        obtain rfl : l22 = true := by simpa using hall 22 (by simp)
        obtain rfl : l23 = true := by simpa using hall 23 (by simp)
        obtain rfl : l24 = true := by simpa using hall 24 (by simp)
        obtain rfl : l25 = true := by simpa using hall 25 (by simp)
        clear hall hr 
        simp only [↓reduceIte] at hS ⊢
        simp only [List.setIfInBounds_toArray, List.set_cons_zero, List.set_cons_succ]
        have HSf := Lib.hid hS
        clear hS
        go_wp2
        go_ret
        exact ⟨rfl, HS5.out.bel.trans (HSf.out.bel.mono HS5.out.bel.size)⟩
      · refine ⟨false, false, false, false, false, false, false, false, false, false, false, false, false, false, false, false, false, false, false, false, false, false, false, false, false, false, none, none, none, 0, 0, 0, rfl, (by simp only [↓reduceIte, Bool.false_eq_true, List.setIfInBounds_toArray, List.set_cons_zero, List.set_cons_succ, Array.getD_eq_getD_getElem?, List.getElem?_toArray, List.getElem?_cons_zero, List.getElem?_cons_succ, Option.getD_some]), ?_⟩
        exact (St.start (w4.alloc (.cells #[.slice b1 D.next.length d1, .slice b2 D.ends.length d2] 33))).drew.pick [0, 1, 2] (by decide)
end Go.Proofs.Ytjcegbcmomfgaaa
