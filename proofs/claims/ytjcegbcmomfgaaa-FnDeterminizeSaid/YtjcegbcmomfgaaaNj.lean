/-
  The walk over the reference's NfaJoin.
  Conditions: the arguments read as such.
-/
import Derived.Test.YtjcegbcmomfgaaaNd
namespace Go.Proofs.Ytjcegbcmomfgaaa
open Go.RowKit

theorem sl_row {w : World} {B e size n : Nat} {v : Value} {cs : List Value} (hr : w.ownsRow B e size v n cs) (hs : 0 < size) : Sl 0 w v n size cs := ((own_of_row hr).sl hs).mono (Nat.zero_le _)
set_option maxRecDepth 100000 in
set_option maxHeartbeats 16000000 in
theorem join_any (p q : NfaD) (v1 v2 v3 u1 u2 u3 : Value) (w : World) (h1 : Moves 0 w v1 p.moves) (h2 : Ints 0 w v2 p.firsts) (h3 : Ints 0 w v3 p.ends) (g1 : Moves 0 w u1 q.moves) (g2 : Ints 0 w u2 q.firsts) (g3 : Ints 0 w u3 q.ends)
    (hs0 : -9223372036854775808 ≤ p.states) (hs1 : p.states ≤ 9223372036854775807) (gs0 : -9223372036854775808 ≤ q.states) (gs1 : q.states ≤ 9223372036854775807) :
    Calls Try.prog 82 #[.agg #[.int .i64 p.states, v1, v2, v3], .agg #[.int .i64 q.states, u1, u2, u3]] w fun e w' => RNt (joinL p q).1 (joinL p q).2 w e w' := by
  have H := Lib.hid (nfaR_of h1 h2 h3 hs0 hs1)
  have G := Lib.hid (nfaR_of g1 g2 g3 gs0 gs1)
  have hS0 := (((St.start w).alloc _ rfl #[.int .i64 p.states, v1, v2, v3] 26).alloc (w.heap.size + 1) (by simp) #[.int .i64 q.states, u1, u2, u3] 26).alloc (w.heap.size + 1 + 1) (by simp) #[.int .i64 0, .slice none 0 0, .slice none 0 0, .slice none 0 0] 26
  have e0 := hS0.cell (v := .int .i64 p.states) 0 0 rfl rfl
  have e1 := hS0.cell (v := v1) 0 1 rfl rfl
  have e2 := hS0.cell (v := v2) 0 2 rfl rfl
  have e3 := hS0.cell (v := v3) 0 3 rfl rfl
  by_cases hok : nfaOk p = true ∧ nfaOk q = true
  · obtain ⟨oka, okb⟩ := hok
    have hst : joinL p q = limN (joinN p q) := if_pos ⟨oka, okb⟩
    rw [hst]
    obtain ⟨N, hN⟩ : ∃ N, N = joinN p q := ⟨_, rfl⟩
    rw [← hN]
    obtain ⟨ma, hma, hma40, hmva, hmla, hfa, hfla, hea, hela⟩ := nfaOk_facts oka
    obtain ⟨mb, hmb, hmb40, hmvb, hmlb, hfb, hflb, heb, helb⟩ := nfaOk_facts okb
    obtain ⟨av, cv, rfl, hc1, hm1, -⟩ := h1.form
    obtain ⟨af, cf, rfl, hc2, hm2, -⟩ := h2.form
    obtain ⟨ae, ce, rfl, hc3, hm3, hr3⟩ := h3.form
    obtain ⟨i0, hi, hz0, hz1, hz2⟩ := info_parts Try.infoMv
    obtain ⟨j0, hj, hy0, hy1, hy2⟩ := info_parts Try.infoInt
    have hMA := fun (w' : World) (hb : Below w.heap.size w w') => h1.below hb
    have hFA := fun (w' : World) (hb : Below w.heap.size w w') => h2.below hb
    have hEA := fun (w' : World) (hb : Below w.heap.size w w') => h3.below hb
    have hsh := fun (w' : World) (hb : Below w.heap.size w w') => shift_any q ma u1 u2 u3 w' okb hma40 (g1.below hb) (g2.below hb) (g3.below hb)
    have hva := fun (w' : World) (hb : Below w.heap.size w w') => specNfaValid_any p _ w' (H.out.below hb) true oka
    have hvb := fun (w' : World) (hb : Below w.heap.size w w') => specNfaValid_any q _ w' (G.out.below hb) true okb
    unfold Moves at hMA
    unfold Ints at hFA hEA
    obtain ⟨A1, hA1⟩ : ∃ L, L = p.moves.length := ⟨_, rfl⟩
    obtain ⟨A2, hA2⟩ : ∃ L, L = p.firsts.length := ⟨_, rfl⟩
    obtain ⟨A3, hA3⟩ : ∃ L, L = p.ends.length := ⟨_, rfl⟩
    obtain ⟨X, hX⟩ : ∃ X, X = shN q (ma : Int) := ⟨_, rfl⟩
    obtain ⟨xs, hxs⟩ : ∃ xs, xs = X.states := ⟨_, rfl⟩
    obtain ⟨B1, hB1⟩ : ∃ L, L = X.moves.length := ⟨_, rfl⟩
    obtain ⟨B2, hB2⟩ : ∃ L, L = X.firsts.length := ⟨_, rfl⟩
    obtain ⟨B3, hB3⟩ : ∃ L, L = X.ends.length := ⟨_, rfl⟩
    have hxl : xs = (mb : Int) + ma := by rw [hxs, hX]; show q.states + (ma : Int) = _; rw [hmb]
    have hl1 : B1 ≤ 400 := by rw [hB1, hX]; show (q.moves.map _).length ≤ 400; rw [List.length_map]; exact hmlb
    have hl2 : B2 ≤ 40 := by rw [hB2, hX]; show (q.firsts.map _).length ≤ 40; rw [List.length_map]; exact hflb
    have hl3 : B3 ≤ 40 := by rw [hB3, hX]; show (q.ends.map _).length ≤ 40; rw [List.length_map]; exact helb
    have hNs : N.states = xs := by rw [hN, hxs, hX]; show (shN q p.states).states = _; rw [hma]
    have hNm : N.moves = p.moves ++ X.moves ++ (p.ends.flatMap fun s => X.firsts.map fun t => (s, -1, t)) := by rw [hN, hX]; show p.moves ++ (shN q p.states).moves ++ (p.ends.flatMap fun s => (shN q p.states).firsts.map fun t => (s, -1, t)) = _; rw [hma]
    have hNf : N.firsts = p.firsts := by rw [hN]; rfl
    have hNe : N.ends = X.ends := by rw [hN, hX]; show (shN q p.states).ends = _; rw [hma]
    rw [← hX] at hsh
    unfold RNfaS at hsh
    rw [← hxs, ← hB1, ← hB2, ← hB3] at hsh
    rw [hma, ← hA1, ← hA2, ← hA3] at hva
    rw [hma, ← hA1, ← hA2, ← hA3] at hS0 e0
    rw [hma, ← hA1, ← hA2, ← hA3]
    rw [← hA1] at hmla hc1 hMA e1
    rw [← hA2] at hfla hc2 hFA e2
    rw [← hA3] at hela hc3 hr3 hEA e3
    have Hva := Lib.hid hva
    have Hvb := Lib.hid hvb
    have Hsh := Lib.hid hsh
    have HMA := Lib.hid hMA
    have HFA := Lib.hid hFA
    have HEA := Lib.hid hEA
    have Hr3 := Lib.hid hr3
    have HhS0 := Lib.hid hS0; clear hS0
    have Hoka := Lib.hid oka; clear oka
    have Hokb := Lib.hid okb; clear okb
    have HhA1 := Lib.hid hA1; clear hA1
    have HhA2 := Lib.hid hA2; clear hA2
    have HhA3 := Lib.hid hA3; clear hA3
    have HhB1 := Lib.hid hB1; clear hB1
    have HhB2 := Lib.hid hB2; clear hB2
    have HhB3 := Lib.hid hB3; clear hB3
    have HhX := Lib.hid hX; clear hX
    have Hhxs := Lib.hid hxs; clear hxs
    have Hhxl := Lib.hid hxl; clear hxl
    have Hhma := Lib.hid hma; clear hma
    have Hhmb := Lib.hid hmb; clear hmb
    have HhN := Lib.hid hN; clear hN
    have HhNs := Lib.hid hNs; clear hNs
    have HhNm := Lib.hid hNm; clear hNm
    have HhNf := Lib.hid hNf; clear hNf
    have HhNe := Lib.hid hNe; clear hNe
    have Hhi := Lib.hid hi; clear hi
    have Hhz0 := Lib.hid hz0; clear hz0
    have Hhz1 := Lib.hid hz1; clear hz1
    have Hhz2 := Lib.hid hz2; clear hz2
    have Hhj := Lib.hid hj; clear hj
    have Hhy0 := Lib.hid hy0; clear hy0
    have Hhy1 := Lib.hid hy1; clear hy1
    have Hhy2 := Lib.hid hy2; clear hy2
    clear h1 h2 h3 g1 g2 g3 hmva hmvb hfa hfb hea heb hva hvb hsh hMA hFA hEA hr3 hst hmlb hflb helb
    go_enter Try.func82, Try.ntmps82
    go_wp2_with fail
    refine (Hva.out _ HhS0.out.bel).mono ?_
    rintro e w1 ⟨rfl, hb1⟩
    have hS1 := HhS0.out.call hb1
    have x0 := hS1.cell (v := .int .i64 q.states) 1 0 rfl rfl
    have x1 := hS1.cell (v := u1) 1 1 rfl rfl
    have x2 := hS1.cell (v := u2) 1 2 rfl rfl
    have x3 := hS1.cell (v := u3) 1 3 rfl rfl
    have HS1 := Lib.hid hS1
    clear hS1 hb1 e0 e1 e2 e3
    go_wp2_with fail
    refine (Hvb.out _ HS1.out.bel).mono ?_
    rintro e w2 ⟨rfl, hb2⟩
    have hS2 := HS1.out.call hb2
    have y0 := hS2.cell (v := .int .i64 q.states) 1 0 rfl rfl
    have y1 := hS2.cell (v := u1) 1 1 rfl rfl
    have y2 := hS2.cell (v := u2) 1 2 rfl rfl
    have y3 := hS2.cell (v := u3) 1 3 rfl rfl
    have z0 := hS2.cell (v := .int .i64 (ma : Int)) 0 0 rfl rfl
    have HS2 := Lib.hid hS2
    clear hS2 hb2 x0 x1 x2 x3
    go_wp2_with fail
    refine (Hsh.out _ HS2.out.bel).mono ?_
    rintro e w3 ⟨xa, xc, xf, yf, xe, ye, rfl, hS'⟩
    have hS3 := ((HS2.out.cat hS').alloc _ rfl #[.int .i64 xs, .slice xa B1 xc, .slice xf B2 yf, .slice xe B3 ye] 26).pick [0, 1, 2, 6, 3, 4, 5] (by decide)
    have HS := Lib.hid hS3
    clear hS3 hS' y0 y1 y2 y3 z0
    go_wp2
    refine wp_region_any (by kernel_rfl) ?_
    refine wpAny_invA (fun A listed a w' => ∃ (l0 l1 l2 l3 l4 l5 l6 l7 l8 l9 l10 l11 l12 l13 l14 l15 l16 l17 : Bool) (b7 : Nat) (a5 : Option Addr) (c5 : Nat) (a8 : Option Addr) (c8 : Nat) (b8 : Nat) (a12 : Option Addr) (c12 : Nat) (bo : Nat), listed = #[l0, l1, l2, l3, l4, l5, l6, l7, l8, l9, l10, l11, l12, l13, l14, l15, l16, l17] ∧ (l5 = true → l2 = true ∧ l4 = true) ∧ (l8 = true → l5 = true ∧ l7 = true) ∧ (l12 = true → l9 = true ∧ l11 = true ∧ l8 = true) ∧ (l15 = true → l8 = true ∧ l12 = true) ∧ (l17 = true → l15 = true ∧ l16 = true) ∧
        a = ⟨(((((((((((((((((A.tmps.setIfInBounds 23 (if l0 = true then .pointer (some ⟨w3.heap.size, 0, none⟩) else A.tmps.getD 23 undef)).setIfInBounds 24 (if l1 = true then .int .i64 xs else A.tmps.getD 24 undef)).setIfInBounds 25 (if l2 = true then .slice (some ⟨b7, 0, none⟩) 0 0 else A.tmps.getD 25 undef)).setIfInBounds 26 (if l3 = true then .pointer (some ⟨w.heap.size, 1, none⟩) else A.tmps.getD 26 undef)).setIfInBounds 27 (if l4 = true then .slice av A1 cv else A.tmps.getD 27 undef)).setIfInBounds 28 (if l5 = true then .slice a5 A1 c5 else A.tmps.getD 28 undef)).setIfInBounds 29 (if l6 = true then .pointer (some ⟨w3.heap.size, 1, none⟩) else A.tmps.getD 29 undef)).setIfInBounds 30 (if l7 = true then .slice xa B1 xc else A.tmps.getD 30 undef)).setIfInBounds 31 (if l8 = true then .slice a8 (A1 + B1) c8 else A.tmps.getD 31 undef)).setIfInBounds 32 (if l9 = true then .slice (some ⟨b8, 0, none⟩) 0 0 else A.tmps.getD 32 undef)).setIfInBounds 33 (if l10 = true then .pointer (some ⟨w.heap.size, 2, none⟩) else A.tmps.getD 33 undef)).setIfInBounds 34 (if l11 = true then .slice af A2 cf else A.tmps.getD 34 undef)).setIfInBounds 35 (if l12 = true then .slice a12 A2 c12 else A.tmps.getD 35 undef)).setIfInBounds 36 (if l13 = true then .pointer (some ⟨w3.heap.size, 3, none⟩) else A.tmps.getD 36 undef)).setIfInBounds 37 (if l14 = true then .slice xe B3 ye else A.tmps.getD 37 undef)).setIfInBounds 38 (if l15 = true then .agg #[.int .i64 xs, .slice a8 (A1 + B1) c8, .slice a12 A2 c12, .slice xe B3 ye] else A.tmps.getD 38 undef)).setIfInBounds 7 (if l16 = true then .pointer (some ⟨bo, 0, none⟩) else A.tmps.getD 7 undef)), A.defers⟩ ∧
        St w w' [Ent.box w.heap.size #[.int .i64 (ma : Int), .slice av A1 cv, .slice af A2 cf, .slice ae A3 ce] 26, Ent.box (w.heap.size + 1) #[.int .i64 q.states, u1, u2, u3] 26, Ent.box (w.heap.size + 1 + 1) #[.int .i64 0, .slice none 0 0, .slice none 0 0, .slice none 0 0] 26, Ent.box w3.heap.size #[.int .i64 xs, .slice xa B1 xc, .slice xf B2 yf, .slice xe B3 ye] 26, Ent.row 76 3 (.slice xa B1 xc) B1 (X.moves.flatMap moveCells), Ent.row 3 1 (.slice xf B2 yf) B2 (intCells X.firsts), Ent.row 3 1 (.slice xe B3 ye) B3 (intCells X.ends), (if l2 = true then (if l5 = true then (if l8 = true then Ent.row 76 3 (.slice a8 (A1 + B1) c8) (A1 + B1) ((p.moves.flatMap moveCells) ++ (X.moves.flatMap moveCells)) else Ent.row 76 3 (.slice a5 A1 c5) A1 (p.moves.flatMap moveCells)) else Ent.row 76 3 (.slice (some ⟨b7, 0, none⟩) 0 0) 0 []) else Ent.nil), (if l9 = true then (if l12 = true then Ent.row 3 1 (.slice a12 A2 c12) A2 (intCells p.firsts) else Ent.row 3 1 (.slice (some ⟨b8, 0, none⟩) 0 0) 0 []) else Ent.nil), (if l16 = true then Ent.box bo (if l17 = true then #[.int .i64 xs, .slice a8 (A1 + B1) c8, .slice a12 A2 c12, .slice xe B3 ye] else #[.int .i64 0, .slice none 0 0, .slice none 0 0, .slice none 0 0]) 26 else Ent.nil)]) ?_ ?_ ?_
    · rintro listed a w' ⟨l0, l1, l2, l3, l4, l5, l6, l7, l8, l9, l10, l11, l12, l13, l14, l15, l16, l17, b7, a5, c5, a8, c8, b8, a12, c12, bo, rfl, hd5, hd8, hd12, hd15, hd17, rfl, hS⟩ i hi
      obtain ⟨hun, o, ho, hall⟩ := mem_ready.1 hi
      have hlt := (Array.getElem?_eq_some_iff.1 ho).1
      refine wpOp_step ho (fun K hK => ?_)
      clear hi
      have HS := Lib.hid hS
      clear hS
      simp only [List.setIfInBounds_toArray, List.set_cons_zero, List.set_cons_succ, Array.getD_eq_getD_getElem?, List.getElem?_toArray, List.getElem?_cons_zero, List.getElem?_cons_succ, Option.getD_some]
      obtain h | h | h | h | h | h | h | h | h | h | h | h | h | h | h | h | h | h : i = 0 ∨ i = 1 ∨ i = 2 ∨ i = 3 ∨ i = 4 ∨ i = 5 ∨ i = 6 ∨ i = 7 ∨ i = 8 ∨ i = 9 ∨ i = 10 ∨ i = 11 ∨ i = 12 ∨ i = 13 ∨ i = 14 ∨ i = 15 ∨ i = 16 ∨ i = 17 := by simp at hlt; omega
      all_goals subst h
      all_goals simp only [List.getElem?_toArray, List.getElem?_cons_zero, List.getElem?_cons_succ, Option.some.injEq] at ho
      all_goals subst ho
      all_goals simp [Region.binds] at hun hall
      · subst hun
        go_simp
        exact hK _ _ ⟨true, l1, l2, l3, l4, l5, l6, l7, l8, l9, l10, l11, l12, l13, l14, l15, l16, l17, b7, a5, c5, a8, c8, b8, a12, c12, bo, rfl, hd5, hd8, hd12, hd15, hd17, (by simp only [↓reduceIte, List.setIfInBounds_toArray, List.set_cons_zero, List.set_cons_succ, Array.getD_eq_getD_getElem?, List.getElem?_toArray, List.getElem?_cons_zero, List.getElem?_cons_succ, Option.getD_some]), HS.out⟩
      · obtain rfl := hall
        subst hun
        have e0 := HS.out.cell (v := .int .i64 xs) 3 0 rfl rfl
        go_simp
        exact hK _ _ ⟨true, true, l2, l3, l4, l5, l6, l7, l8, l9, l10, l11, l12, l13, l14, l15, l16, l17, b7, a5, c5, a8, c8, b8, a12, c12, bo, rfl, hd5, hd8, hd12, hd15, hd17, (by simp only [↓reduceIte, List.setIfInBounds_toArray, List.set_cons_zero, List.set_cons_succ, Array.getD_eq_getD_getElem?, List.getElem?_toArray, List.getElem?_cons_zero, List.getElem?_cons_succ, Option.getD_some]), HS.out⟩
      · subst hun
        obtain rfl : l5 = false := offL hd5 rfl
        obtain rfl : l8 = false := offL hd8 rfl
        obtain rfl : l12 = false := by cases l12 with | false => rfl | true => simpa using hd12 rfl
        obtain rfl : l15 = false := offL hd15 rfl
        obtain rfl : l17 = false := offL hd17 rfl
        have hS2 := ((HS.out.alloc _ rfl #[] 76).boxrow 10 0 3 [] rfl rfl (Nat.zero_le _)).pick [0, 1, 2, 3, 4, 5, 6, 10, 8, 9] (by decide)
        have HhS2 := Lib.hid hS2; clear hS2
        go_simp
        exact hK _ _ ⟨l0, l1, true, l3, l4, false, l6, l7, false, l9, l10, l11, false, l13, l14, false, l16, false, _, a5, c5, a8, c8, b8, a12, c12, bo, rfl, by simp, by simp, by simp, by simp, by simp, (by simp only [↓reduceIte, Bool.false_eq_true, List.setIfInBounds_toArray, List.set_cons_zero, List.set_cons_succ, Array.getD_eq_getD_getElem?, List.getElem?_toArray, List.getElem?_cons_zero, List.getElem?_cons_succ, Option.getD_some]), HhS2.out⟩
      · subst hun
        go_simp
        exact hK _ _ ⟨l0, l1, l2, true, l4, l5, l6, l7, l8, l9, l10, l11, l12, l13, l14, l15, l16, l17, b7, a5, c5, a8, c8, b8, a12, c12, bo, rfl, hd5, hd8, hd12, hd15, hd17, (by simp only [↓reduceIte, List.setIfInBounds_toArray, List.set_cons_zero, List.set_cons_succ, Array.getD_eq_getD_getElem?, List.getElem?_toArray, List.getElem?_cons_zero, List.getElem?_cons_succ, Option.getD_some]), HS.out⟩
      · obtain rfl := hall
        subst hun
        obtain rfl : l5 = false := offR hd5 rfl
        obtain rfl : l8 = false := offL hd8 rfl
        obtain rfl : l12 = false := by cases l12 with | false => rfl | true => simpa using hd12 rfl
        obtain rfl : l15 = false := offL hd15 rfl
        obtain rfl : l17 = false := offL hd17 rfl
        have e0 := HS.out.cell (v := .slice av A1 cv) 0 1 rfl rfl
        go_simp
        exact hK _ _ ⟨l0, l1, l2, true, true, false, l6, l7, false, l9, l10, l11, false, l13, l14, false, l16, false, b7, a5, c5, a8, c8, b8, a12, c12, bo, rfl, by simp, by simp, by simp, by simp, by simp, (by simp only [↓reduceIte, Bool.false_eq_true, List.setIfInBounds_toArray, List.set_cons_zero, List.set_cons_succ, Array.getD_eq_getD_getElem?, List.getElem?_toArray, List.getElem?_cons_zero, List.getElem?_cons_succ, Option.getD_some]), HS.out⟩
      · obtain ⟨rfl, rfl⟩ := hall
        subst hun
        obtain rfl : l8 = false := offL hd8 rfl
        obtain rfl : l12 = false := by cases l12 with | false => rfl | true => simpa using hd12 rfl
        obtain rfl : l15 = false := offL hd15 rfl
        obtain rfl : l17 = false := offL hd17 rfl
        refine step_append_sl (a := ⟨_, _⟩) _ (by rfl) _ _ _ (by rfl) w.heap.size 76 i0 (.agg #[.int .i64 0, .int .i64 0, .int .i64 0]) 3 24 Try.underlying23 Hhi.out Hhz0.out Hhz1.out Hhz2.out (by rfl) (by omega) _ 0 [] (by rfl) (HS.out.row 7 rfl) (.slice av A1 cv) A1 (p.moves.flatMap moveCells) (by rfl) (HMA.out _ HS.out.bel) on_mvs (by unfold maxLen; omega) (by omega) HS.out.size ?_
        intro a9 c9 w6 hown6 hgrow6 hat6
        have hS6 := HS.out.appS 7 rfl hown6 hgrow6 hat6
        rw [Nat.zero_add] at hS6
        rw [Nat.zero_add]
        have HS6 := Lib.hid hS6
        clear hown6 hgrow6 hat6 hS6
        go_simp
        exact hK _ _ ⟨l0, l1, true, l3, true, true, l6, l7, false, l9, l10, l11, false, l13, l14, false, l16, false, b7, a9, c9, a8, c8, b8, a12, c12, bo, rfl, by simp, by simp, by simp, by simp, by simp, (by simp only [↓reduceIte, Bool.false_eq_true, List.setIfInBounds_toArray, List.set_cons_zero, List.set_cons_succ, Array.getD_eq_getD_getElem?, List.getElem?_toArray, List.getElem?_cons_zero, List.getElem?_cons_succ, Option.getD_some]), HS6.out⟩
      · subst hun
        go_simp
        exact hK _ _ ⟨l0, l1, l2, l3, l4, l5, true, l7, l8, l9, l10, l11, l12, l13, l14, l15, l16, l17, b7, a5, c5, a8, c8, b8, a12, c12, bo, rfl, hd5, hd8, hd12, hd15, hd17, (by simp only [↓reduceIte, List.setIfInBounds_toArray, List.set_cons_zero, List.set_cons_succ, Array.getD_eq_getD_getElem?, List.getElem?_toArray, List.getElem?_cons_zero, List.getElem?_cons_succ, Option.getD_some]), HS.out⟩
      · obtain rfl := hall
        subst hun
        obtain rfl : l8 = false := offR hd8 rfl
        obtain rfl : l12 = false := by cases l12 with | false => rfl | true => simpa using hd12 rfl
        obtain rfl : l15 = false := offL hd15 rfl
        obtain rfl : l17 = false := offL hd17 rfl
        have e0 := HS.out.cell (v := .slice xa B1 xc) 3 1 rfl rfl
        go_simp
        exact hK _ _ ⟨l0, l1, l2, l3, l4, l5, true, true, false, l9, l10, l11, false, l13, l14, false, l16, false, b7, a5, c5, a8, c8, b8, a12, c12, bo, rfl, hd5, by simp, by simp, by simp, by simp, (by simp only [↓reduceIte, Bool.false_eq_true, List.setIfInBounds_toArray, List.set_cons_zero, List.set_cons_succ, Array.getD_eq_getD_getElem?, List.getElem?_toArray, List.getElem?_cons_zero, List.getElem?_cons_succ, Option.getD_some]), HS.out⟩
      · obtain ⟨rfl, rfl, -⟩ := hall
        subst hun
        obtain ⟨rfl, rfl⟩ := hd5 rfl
        obtain rfl : l12 = false := by cases l12 with | false => rfl | true => simpa using hd12 rfl
        obtain rfl : l15 = false := offL hd15 rfl
        obtain rfl : l17 = false := offL hd17 rfl
        refine step_append_sl (a := ⟨_, _⟩) _ (by rfl) _ _ _ (by rfl) w.heap.size 76 i0 (.agg #[.int .i64 0, .int .i64 0, .int .i64 0]) 3 24 Try.underlying23 Hhi.out Hhz0.out Hhz1.out Hhz2.out (by rfl) (by omega) (.slice a5 A1 c5) A1 (p.moves.flatMap moveCells) (by rfl) (HS.out.row 7 rfl) (.slice xa B1 xc) B1 (X.moves.flatMap moveCells) (by rfl) (sl_row (HS.out.row 4 rfl) (by omega)) on_mvs (by unfold maxLen; omega) (by omega) HS.out.size ?_
        intro a9 c9 w6 hown6 hgrow6 hat6
        have HS6 := Lib.hid (HS.out.appS 7 rfl hown6 hgrow6 hat6)
        clear hown6 hgrow6 hat6
        go_simp
        exact hK _ _ ⟨l0, l1, true, l3, true, true, l6, true, true, l9, l10, l11, false, l13, l14, false, l16, false, b7, a5, c5, a9, c9, b8, a12, c12, bo, rfl, by simp, by simp, by simp, by simp, by simp, (by simp only [↓reduceIte, Bool.false_eq_true, List.setIfInBounds_toArray, List.set_cons_zero, List.set_cons_succ, Array.getD_eq_getD_getElem?, List.getElem?_toArray, List.getElem?_cons_zero, List.getElem?_cons_succ, Option.getD_some]), HS6.out⟩
      · subst hun
        obtain rfl : l12 = false := by cases l12 with | false => rfl | true => simpa using hd12 rfl
        obtain rfl : l15 = false := offR hd15 rfl
        obtain rfl : l17 = false := offL hd17 rfl
        have hS2 := ((HS.out.alloc _ rfl #[] 3).boxrow 10 0 1 [] rfl rfl (Nat.zero_le _)).pick [0, 1, 2, 3, 4, 5, 6, 7, 10, 9] (by decide)
        have HhS2 := Lib.hid hS2; clear hS2
        go_simp
        exact hK _ _ ⟨l0, l1, l2, l3, l4, l5, l6, l7, l8, true, l10, l11, false, l13, l14, false, l16, false, b7, a5, c5, a8, c8, _, a12, c12, bo, rfl, hd5, hd8, by simp, by simp, by simp, (by simp only [↓reduceIte, Bool.false_eq_true, List.setIfInBounds_toArray, List.set_cons_zero, List.set_cons_succ, Array.getD_eq_getD_getElem?, List.getElem?_toArray, List.getElem?_cons_zero, List.getElem?_cons_succ, Option.getD_some]), HhS2.out⟩
      · subst hun
        go_simp
        exact hK _ _ ⟨l0, l1, l2, l3, l4, l5, l6, l7, l8, l9, true, l11, l12, l13, l14, l15, l16, l17, b7, a5, c5, a8, c8, b8, a12, c12, bo, rfl, hd5, hd8, hd12, hd15, hd17, (by simp only [↓reduceIte, List.setIfInBounds_toArray, List.set_cons_zero, List.set_cons_succ, Array.getD_eq_getD_getElem?, List.getElem?_toArray, List.getElem?_cons_zero, List.getElem?_cons_succ, Option.getD_some]), HS.out⟩
      · obtain rfl := hall
        subst hun
        obtain rfl : l12 = false := by cases l12 with | false => rfl | true => simpa using hd12 rfl
        obtain rfl : l15 = false := offR hd15 rfl
        obtain rfl : l17 = false := offL hd17 rfl
        have e0 := HS.out.cell (v := .slice af A2 cf) 0 2 rfl rfl
        go_simp
        exact hK _ _ ⟨l0, l1, l2, l3, l4, l5, l6, l7, l8, l9, true, true, false, l13, l14, false, l16, false, b7, a5, c5, a8, c8, b8, a12, c12, bo, rfl, hd5, hd8, by simp, by simp, by simp, (by simp only [↓reduceIte, Bool.false_eq_true, List.setIfInBounds_toArray, List.set_cons_zero, List.set_cons_succ, Array.getD_eq_getD_getElem?, List.getElem?_toArray, List.getElem?_cons_zero, List.getElem?_cons_succ, Option.getD_some]), HS.out⟩
      · obtain ⟨rfl, rfl, rfl⟩ := hall
        subst hun
        obtain ⟨rfl, rfl⟩ := hd8 rfl
        obtain ⟨rfl, rfl⟩ := hd5 rfl
        obtain rfl : l15 = false := offR hd15 rfl
        obtain rfl : l17 = false := offL hd17 rfl
        refine step_append_sl (a := ⟨_, _⟩) _ (by rfl) _ _ _ (by rfl) w.heap.size 3 j0 (.int .i64 0) 1 8 Try.underlying24 Hhj.out Hhy0.out Hhy1.out Hhy2.out (by rfl) (by omega) _ 0 [] (by rfl) (HS.out.row 8 rfl) (.slice af A2 cf) A2 (intCells p.firsts) (by rfl) (HFA.out _ HS.out.bel) on_is (by unfold maxLen; omega) (by omega) HS.out.size ?_
        intro a9 c9 w6 hown6 hgrow6 hat6
        have hS6 := HS.out.appS 8 rfl hown6 hgrow6 hat6
        rw [Nat.zero_add] at hS6
        rw [Nat.zero_add]
        have HS6 := Lib.hid hS6
        clear hown6 hgrow6 hat6 hS6
        go_simp
        exact hK _ _ ⟨l0, l1, true, l3, true, true, l6, true, true, true, l10, true, true, l13, l14, false, l16, false, b7, a5, c5, a8, c8, b8, a9, c9, bo, rfl, by simp, by simp, by simp, by simp, by simp, (by simp only [↓reduceIte, Bool.false_eq_true, List.setIfInBounds_toArray, List.set_cons_zero, List.set_cons_succ, Array.getD_eq_getD_getElem?, List.getElem?_toArray, List.getElem?_cons_zero, List.getElem?_cons_succ, Option.getD_some]), HS6.out⟩
      · subst hun
        go_simp
        exact hK _ _ ⟨l0, l1, l2, l3, l4, l5, l6, l7, l8, l9, l10, l11, l12, true, l14, l15, l16, l17, b7, a5, c5, a8, c8, b8, a12, c12, bo, rfl, hd5, hd8, hd12, hd15, hd17, (by simp only [↓reduceIte, List.setIfInBounds_toArray, List.set_cons_zero, List.set_cons_succ, Array.getD_eq_getD_getElem?, List.getElem?_toArray, List.getElem?_cons_zero, List.getElem?_cons_succ, Option.getD_some]), HS.out⟩
      · obtain rfl := hall
        subst hun
        have e0 := HS.out.cell (v := .slice xe B3 ye) 3 3 rfl rfl
        go_simp
        exact hK _ _ ⟨l0, l1, l2, l3, l4, l5, l6, l7, l8, l9, l10, l11, l12, true, true, l15, l16, l17, b7, a5, c5, a8, c8, b8, a12, c12, bo, rfl, hd5, hd8, hd12, hd15, hd17, (by simp only [↓reduceIte, List.setIfInBounds_toArray, List.set_cons_zero, List.set_cons_succ, Array.getD_eq_getD_getElem?, List.getElem?_toArray, List.getElem?_cons_zero, List.getElem?_cons_succ, Option.getD_some]), HS.out⟩
      · obtain ⟨rfl, rfl, rfl, rfl⟩ := hall
        subst hun
        obtain ⟨rfl, rfl⟩ := hd8 rfl
        obtain ⟨rfl, rfl, -⟩ := hd12 rfl
        obtain ⟨rfl, rfl⟩ := hd5 rfl
        obtain rfl : l17 = false := offL hd17 rfl
        go_simp
        exact hK _ _ ⟨l0, true, true, l3, true, true, l6, true, true, true, l10, true, true, l13, true, true, l16, false, b7, a5, c5, a8, c8, b8, a12, c12, bo, rfl, by simp, by simp, by simp, by simp, by simp, (by simp only [↓reduceIte, List.setIfInBounds_toArray, List.set_cons_zero, List.set_cons_succ, Array.getD_eq_getD_getElem?, List.getElem?_toArray, List.getElem?_cons_zero, List.getElem?_cons_succ, Option.getD_some]), HS.out⟩
      · subst hun
        obtain rfl : l17 = false := offR hd17 rfl
        have hS2 := (HS.out.alloc _ rfl #[.int .i64 0, .slice none 0 0, .slice none 0 0, .slice none 0 0] 26).pick [0, 1, 2, 3, 4, 5, 6, 7, 8, 10] (by decide)
        have HhS2 := Lib.hid hS2; clear hS2
        go_simp
        exact hK _ _ ⟨l0, l1, l2, l3, l4, l5, l6, l7, l8, l9, l10, l11, l12, l13, l14, l15, true, false, b7, a5, c5, a8, c8, b8, a12, c12, _, rfl, hd5, hd8, hd12, hd15, by simp, (by simp only [↓reduceIte, List.setIfInBounds_toArray, List.set_cons_zero, List.set_cons_succ, Array.getD_eq_getD_getElem?, List.getElem?_toArray, List.getElem?_cons_zero, List.getElem?_cons_succ, Option.getD_some]), HhS2.out⟩
      · obtain ⟨rfl, rfl, rfl, rfl, rfl, rfl, rfl, rfl, rfl, rfl, rfl, rfl, rfl, rfl, rfl, -, rfl, rfl, -⟩ := hall
        subst hun
        have f0 := HS.out.fr 9 0 rfl
        have k0 := HS.out.cell (v := .int .i64 0) 9 0 rfl rfl
        have f1 := HS.out.fr 9 1 rfl
        have k1 := HS.out.cell (v := .slice none 0 0) 9 1 rfl rfl
        have f2 := HS.out.fr 9 2 rfl
        have k2 := HS.out.cell (v := .slice none 0 0) 9 2 rfl rfl
        have f3 := HS.out.fr 9 3 rfl
        have k3 := HS.out.cell (v := .slice none 0 0) 9 3 rfl rfl
        go_simp
        exact hK _ _ ⟨true, true, true, true, true, true, true, true, true, true, true, true, true, true, true, true, true, true, b7, a5, c5, a8, c8, b8, a12, c12, bo, rfl, by simp, by simp, by simp, by simp, by simp, (by simp only [↓reduceIte, List.setIfInBounds_toArray, List.set_cons_zero, List.set_cons_succ]), ((((HS.out.set 9 rfl 0 (.int .i64 xs)).set 9 rfl 1 (.slice a8 (A1 + B1) c8)).set 9 rfl 2 (.slice a12 A2 c12)).set 9 rfl 3 (.slice xe B3 ye))⟩
    · rintro listed a w' ⟨l0, l1, l2, l3, l4, l5, l6, l7, l8, l9, l10, l11, l12, l13, l14, l15, l16, l17, b7, a5, c5, a8, c8, b8, a12, c12, bo, rfl, hd5, hd8, hd12, hd15, hd17, rfl, hS⟩ hr
      have hall := ready_nil (by kernel_rfl) rfl hr
      obtain rfl : l0 = true := by simpa using hall 0 (by simp)
      obtain rfl : l1 = true := by simpa using hall 1 (by simp)
      obtain rfl : l2 = true := by simpa using hall 2 (by simp)
      obtain rfl : l3 = true := by simpa using hall 3 (by simp)
      obtain rfl : l4 = true := by simpa using hall 4 (by simp)
      obtain rfl : l5 = true := by simpa using hall 5 (by simp)
      obtain rfl : l6 = true := by simpa using hall 6 (by simp)
      obtain rfl : l7 = true := by simpa using hall 7 (by simp)
      obtain rfl : l8 = true := by simpa using hall 8 (by simp)
      obtain rfl : l9 = true := by simpa using hall 9 (by simp)
      obtain rfl : l10 = true := by simpa using hall 10 (by simp)
      obtain rfl : l11 = true := by simpa using hall 11 (by simp)
      obtain rfl : l12 = true := by simpa using hall 12 (by simp)
      obtain rfl : l13 = true := by simpa using hall 13 (by simp)
      obtain rfl : l14 = true := by simpa using hall 14 (by simp)
      obtain rfl : l15 = true := by simpa using hall 15 (by simp)
      obtain rfl : l16 = true := by simpa using hall 16 (by simp)
      obtain rfl : l17 = true := by simpa using hall 17 (by simp)
      clear hall hr hd5 hd8 hd12 hd15 hd17
      simp only [↓reduceIte] at hS ⊢
      simp only [List.setIfInBounds_toArray, List.set_cons_zero, List.set_cons_succ]
      have HSo := Lib.hid (hS.pick [0, 1, 2, 3, 5, 6, 9, 7, 8] (by decide))
      clear hS
      go_wp2
      go_loopw [8] (fun vi wr => ∃ (k : Nat) (a1 : Option Addr) (c1 : Nat) (NN : List (Int × Int × Int)) (nl : Nat), vi = .int .i64 k ∧ k ≤ A3 ∧ NN = p.moves ++ X.moves ++ ((p.ends.take k).flatMap fun s => X.firsts.map fun t => (s, -1, t)) ∧ NN.length = nl ∧ nl ≤ 800 + 40 * k ∧ St w wr [Ent.box w.heap.size #[.int .i64 (ma : Int), .slice av A1 cv, .slice af A2 cf, .slice ae A3 ce] 26, Ent.box (w.heap.size + 1) #[.int .i64 q.states, u1, u2, u3] 26, Ent.box (w.heap.size + 1 + 1) #[.int .i64 0, .slice none 0 0, .slice none 0 0, .slice none 0 0] 26, Ent.box w3.heap.size #[.int .i64 xs, .slice xa B1 xc, .slice xf B2 yf, .slice xe B3 ye] 26, Ent.row 3 1 (.slice xf B2 yf) B2 (intCells X.firsts), Ent.row 3 1 (.slice xe B3 ye) B3 (intCells X.ends), Ent.box bo #[.int .i64 xs, .slice a1 nl c1, .slice a12 A2 c12, .slice xe B3 ye] 26, Ent.row 76 3 (.slice a1 nl c1) nl (NN.flatMap moveCells), Ent.row 3 1 (.slice a12 A2 c12) A2 (intCells p.firsts)]) (fun vi _ => A3 - (intOf vi).toNat)
      case atStart =>
        refine ⟨0, a8, c8, p.moves ++ X.moves, A1 + B1, rfl, Nat.zero_le _, by simp, by rw [List.length_append, HhA1.out, HhB1.out], by omega, ?_⟩
        rw [List.flatMap_append]
        exact HSo.out
      case round =>
        obtain ⟨k, a1, c1, Bs, nl, rfl, hk, hBs, hBl, hnl, hS⟩ := hrel
        have e9 := hS.cell (v := .slice ae A3 ce) 0 3 rfl rfl
        by_cases hlt : k < A3
        · have hlt2 : (k : Int) < A3 := by omega
          have hkn : k < p.ends.length := by have := HhA3.out; omega
          obtain ⟨b1, o1, rfl, -, hb1, hcs⟩ := Hr3.out (by omega)
          have m0 := hcs k hlt
          have hsk : p.ends.take (k + 1) = p.ends.take k ++ [p.ends.getD k 0] := by rw [List.take_succ_eq_append_getElem hkn]; simp [hkn]
          obtain ⟨s, hs⟩ : ∃ s, s = p.ends.getD k 0 := ⟨_, rfl⟩
          rw [← hs] at m0 hsk
          have M0 := Lib.hid m0
          have HS5 := Lib.hid hS
          have HBs := Lib.hid hBs
          have HBl := Lib.hid hBl
          have Hhs := Lib.hid hs; clear hs
          have Hhsk := Lib.hid hsk; clear hsk
          clear hS hcs m0 hBs hBl
          go_wp2
          go_loopw [9] (fun vj wr => ∃ (j : Nat) (a1 : Option Addr) (c1 : Nat) (NN : List (Int × Int × Int)) (nl : Nat), vj = .int .i64 j ∧ j ≤ B2 ∧ NN = Bs ++ (X.firsts.take j).map (fun t => (s, -1, t)) ∧ NN.length = nl ∧ nl ≤ 800 + 40 * k + j ∧ St w wr [Ent.box w.heap.size #[.int .i64 (ma : Int), .slice av A1 cv, .slice af A2 cf, .slice (some ⟨b1, o1, none⟩) A3 ce] 26, Ent.box (w.heap.size + 1) #[.int .i64 q.states, u1, u2, u3] 26, Ent.box (w.heap.size + 1 + 1) #[.int .i64 0, .slice none 0 0, .slice none 0 0, .slice none 0 0] 26, Ent.box w3.heap.size #[.int .i64 xs, .slice xa B1 xc, .slice xf B2 yf, .slice xe B3 ye] 26, Ent.row 3 1 (.slice xf B2 yf) B2 (intCells X.firsts), Ent.row 3 1 (.slice xe B3 ye) B3 (intCells X.ends), Ent.box bo #[.int .i64 xs, .slice a1 nl c1, .slice a12 A2 c12, .slice xe B3 ye] 26, Ent.row 76 3 (.slice a1 nl c1) nl (NN.flatMap moveCells), Ent.row 3 1 (.slice a12 A2 c12) A2 (intCells p.firsts)]) (fun vj _ => B2 - (intOf vj).toNat)
          case atStart => exact ⟨0, a1, c1, Bs, nl, rfl, Nat.zero_le _, by simp, HBl.out, by omega, HS5.out⟩
          case round =>
            obtain ⟨j, a1, c1, NN, nl, rfl, hj, hNN, hNl, hnl2, hS⟩ := hrel
            have e8 := hS.cell (v := .slice xf B2 yf) 3 2 rfl rfl
            by_cases hjl : j < B2
            · have hjI : (j : Int) < B2 := by omega
              obtain ⟨gx, yq, hxq⟩ := hS.rowform 4 rfl (show 0 < B2 by omega)
              simp only [Value.slice.injEq, true_and] at hxq
              obtain ⟨rfl, rfl⟩ := hxq
              have hjn : j < X.firsts.length := by have := HhB2.out; omega
              have hsn := take_map_snoc (fun t => (s, (-1 : Int), t)) (d := 0) hjn rfl
              have htc : (intCells X.firsts)[j]? = some (.int .i64 (X.firsts.getD j 0)) := by simp [intCells, hjn]
              obtain ⟨t, ht⟩ : ∃ t, t = X.firsts.getD j 0 := ⟨_, rfl⟩
              rw [← ht] at hsn htc
              have HSq := Lib.hid hS
              have HNN := Lib.hid hNN
              have HNl := Lib.hid hNl
              have Hht := Lib.hid ht; clear ht
              have Hhsn := Lib.hid hsn; clear hsn
              have Hhtc := Lib.hid htc; clear htc
              clear hS hNN hNl
              go_wp2
              refine wp_region_any (by kernel_rfl) ?_
              refine wpAny_invA (fun A listed a w' => ∃ (l0 l1 l2 l3 l4 l5 l6 l7 l8 l9 l10 l11 l12 l13 l14 l15 l16 : Bool) (g7 : Nat) (c7 : Nat) (bn : Nat), listed = #[l0, l1, l2, l3, l4, l5, l6, l7, l8, l9, l10, l11, l12, l13, l14, l15, l16] ∧ (l14 = true → l1 = true ∧ l13 = true) ∧ (l16 = true → l14 = true ∧ l1 = true) ∧
                  a = ⟨((((((((((((((((A.tmps.setIfInBounds 53 (if l0 = true then .pointer (some ⟨bo, 1, none⟩) else A.tmps.getD 53 undef)).setIfInBounds 54 (if l1 = true then .slice a1 nl c1 else A.tmps.getD 54 undef)).setIfInBounds 55 (if l2 = true then .pointer (some ⟨w.heap.size, 3, none⟩) else A.tmps.getD 55 undef)).setIfInBounds 56 (if l3 = true then .slice (some ⟨b1, o1, none⟩) A3 ce else A.tmps.getD 56 undef)).setIfInBounds 57 (if l4 = true then .int .i64 (k : Int) else A.tmps.getD 57 undef)).setIfInBounds 58 (if l5 = true then .pointer (some ⟨b1, o1 + k, none⟩) else A.tmps.getD 58 undef)).setIfInBounds 59 (if l6 = true then .int .i64 s else A.tmps.getD 59 undef)).setIfInBounds 60 (if l7 = true then .pointer (some ⟨w3.heap.size, 2, none⟩) else A.tmps.getD 60 undef)).setIfInBounds 61 (if l8 = true then .slice (some ⟨gx, 0, none⟩) B2 yf else A.tmps.getD 61 undef)).setIfInBounds 62 (if l9 = true then .int .i64 (j : Int) else A.tmps.getD 62 undef)).setIfInBounds 63 (if l10 = true then .pointer (some ⟨gx, j, none⟩) else A.tmps.getD 63 undef)).setIfInBounds 64 (if l11 = true then .int .i64 t else A.tmps.getD 64 undef)).setIfInBounds 65 (if l12 = true then .agg #[.int .i64 s, .int .i64 (-1), .int .i64 t] else A.tmps.getD 65 undef)).setIfInBounds 66 (if l13 = true then .slice (some ⟨bn, 0, none⟩) 1 1 else A.tmps.getD 66 undef)).setIfInBounds 67 (if l14 = true then .slice (some ⟨g7, 0, none⟩) (nl + 1) c7 else A.tmps.getD 67 undef)).setIfInBounds 68 (if l15 = true then .pointer (some ⟨bo, 1, none⟩) else A.tmps.getD 68 undef)), A.defers⟩ ∧
                  St w w' [Ent.box w.heap.size #[.int .i64 (ma : Int), .slice av A1 cv, .slice af A2 cf, .slice (some ⟨b1, o1, none⟩) A3 ce] 26, Ent.box (w.heap.size + 1) #[.int .i64 q.states, u1, u2, u3] 26, Ent.box (w.heap.size + 1 + 1) #[.int .i64 0, .slice none 0 0, .slice none 0 0, .slice none 0 0] 26, Ent.box w3.heap.size #[.int .i64 xs, .slice xa B1 xc, .slice (some ⟨gx, 0, none⟩) B2 yf, .slice xe B3 ye] 26, Ent.row 3 1 (.slice (some ⟨gx, 0, none⟩) B2 yf) B2 (intCells X.firsts), Ent.row 3 1 (.slice xe B3 ye) B3 (intCells X.ends), Ent.box bo #[.int .i64 xs, (if l16 = true then .slice (some ⟨g7, 0, none⟩) (nl + 1) c7 else .slice a1 nl c1), .slice a12 A2 c12, .slice xe B3 ye] 26, (if l14 = true then Ent.row 76 3 (.slice (some ⟨g7, 0, none⟩) (nl + 1) c7) (nl + 1) ((NN.flatMap moveCells) ++ [.int .i64 s, .int .i64 (-1), .int .i64 t]) else Ent.row 76 3 (.slice a1 nl c1) nl (NN.flatMap moveCells)), Ent.row 3 1 (.slice a12 A2 c12) A2 (intCells p.firsts), (if l13 = true then Ent.box bn #[.int .i64 s, .int .i64 (-1), .int .i64 t] 76 else Ent.nil)]) ?_ ?_ ?_
              · rintro listed a w' ⟨l0, l1, l2, l3, l4, l5, l6, l7, l8, l9, l10, l11, l12, l13, l14, l15, l16, g7, c7, bn, rfl, hd14, hd16, rfl, hS⟩ i hi
                obtain ⟨hun, o, ho, hall⟩ := mem_ready.1 hi
                have hlt := (Array.getElem?_eq_some_iff.1 ho).1
                refine wpOp_step ho (fun K hK => ?_)
                clear hi
                have HS := Lib.hid hS
                clear hS
                simp only [List.setIfInBounds_toArray, List.set_cons_zero, List.set_cons_succ, Array.getD_eq_getD_getElem?, List.getElem?_toArray, List.getElem?_cons_zero, List.getElem?_cons_succ, Option.getD_some]
                obtain h | h | h | h | h | h | h | h | h | h | h | h | h | h | h | h | h : i = 0 ∨ i = 1 ∨ i = 2 ∨ i = 3 ∨ i = 4 ∨ i = 5 ∨ i = 6 ∨ i = 7 ∨ i = 8 ∨ i = 9 ∨ i = 10 ∨ i = 11 ∨ i = 12 ∨ i = 13 ∨ i = 14 ∨ i = 15 ∨ i = 16 := by simp at hlt; omega
                all_goals subst h
                all_goals simp only [List.getElem?_toArray, List.getElem?_cons_zero, List.getElem?_cons_succ, Option.some.injEq] at ho
                all_goals subst ho
                all_goals simp [Region.binds] at hun hall
                · subst hun
                  go_simp
                  exact hK _ _ ⟨true, l1, l2, l3, l4, l5, l6, l7, l8, l9, l10, l11, l12, l13, l14, l15, l16, g7, c7, bn, rfl, hd14, hd16, (by simp only [↓reduceIte, List.setIfInBounds_toArray, List.set_cons_zero, List.set_cons_succ, Array.getD_eq_getD_getElem?, List.getElem?_toArray, List.getElem?_cons_zero, List.getElem?_cons_succ, Option.getD_some]), HS.out⟩
                · obtain rfl := hall
                  subst hun
                  obtain rfl : l14 = false := offL hd14 rfl
                  obtain rfl : l16 = false := offL hd16 rfl
                  have e0 := HS.out.cell (v := .slice a1 nl c1) 6 1 rfl rfl
                  go_simp
                  exact hK _ _ ⟨true, true, l2, l3, l4, l5, l6, l7, l8, l9, l10, l11, l12, l13, false, l15, false, g7, c7, bn, rfl, by simp, by simp, (by simp only [↓reduceIte, Bool.false_eq_true, List.setIfInBounds_toArray, List.set_cons_zero, List.set_cons_succ, Array.getD_eq_getD_getElem?, List.getElem?_toArray, List.getElem?_cons_zero, List.getElem?_cons_succ, Option.getD_some]), HS.out⟩
                · subst hun
                  go_simp
                  exact hK _ _ ⟨l0, l1, true, l3, l4, l5, l6, l7, l8, l9, l10, l11, l12, l13, l14, l15, l16, g7, c7, bn, rfl, hd14, hd16, (by simp only [↓reduceIte, List.setIfInBounds_toArray, List.set_cons_zero, List.set_cons_succ, Array.getD_eq_getD_getElem?, List.getElem?_toArray, List.getElem?_cons_zero, List.getElem?_cons_succ, Option.getD_some]), HS.out⟩
                · obtain rfl := hall
                  subst hun
                  have e0 := HS.out.cell (v := .slice (some ⟨b1, o1, none⟩) A3 ce) 0 3 rfl rfl
                  go_simp
                  exact hK _ _ ⟨l0, l1, true, true, l4, l5, l6, l7, l8, l9, l10, l11, l12, l13, l14, l15, l16, g7, c7, bn, rfl, hd14, hd16, (by simp only [↓reduceIte, List.setIfInBounds_toArray, List.set_cons_zero, List.set_cons_succ, Array.getD_eq_getD_getElem?, List.getElem?_toArray, List.getElem?_cons_zero, List.getElem?_cons_succ, Option.getD_some]), HS.out⟩
                · subst hun
                  go_simp
                  exact hK _ _ ⟨l0, l1, l2, l3, true, l5, l6, l7, l8, l9, l10, l11, l12, l13, l14, l15, l16, g7, c7, bn, rfl, hd14, hd16, (by simp only [↓reduceIte, List.setIfInBounds_toArray, List.set_cons_zero, List.set_cons_succ, Array.getD_eq_getD_getElem?, List.getElem?_toArray, List.getElem?_cons_zero, List.getElem?_cons_succ, Option.getD_some]), HS.out⟩
                · obtain ⟨rfl, rfl⟩ := hall
                  subst hun
                  go_simp
                  exact hK _ _ ⟨l0, l1, l2, true, true, true, l6, l7, l8, l9, l10, l11, l12, l13, l14, l15, l16, g7, c7, bn, rfl, hd14, hd16, (by simp only [↓reduceIte, List.setIfInBounds_toArray, List.set_cons_zero, List.set_cons_succ, Array.getD_eq_getD_getElem?, List.getElem?_toArray, List.getElem?_cons_zero, List.getElem?_cons_succ, Option.getD_some]), HS.out⟩
                · obtain rfl := hall
                  subst hun
                  have e0 := (bcell HS.out.bel b1 _ hb1).trans M0.out
                  go_simp
                  exact hK _ _ ⟨l0, l1, l2, l3, l4, true, true, l7, l8, l9, l10, l11, l12, l13, l14, l15, l16, g7, c7, bn, rfl, hd14, hd16, (by simp only [↓reduceIte, List.setIfInBounds_toArray, List.set_cons_zero, List.set_cons_succ, Array.getD_eq_getD_getElem?, List.getElem?_toArray, List.getElem?_cons_zero, List.getElem?_cons_succ, Option.getD_some]), HS.out⟩
                · subst hun
                  go_simp
                  exact hK _ _ ⟨l0, l1, l2, l3, l4, l5, l6, true, l8, l9, l10, l11, l12, l13, l14, l15, l16, g7, c7, bn, rfl, hd14, hd16, (by simp only [↓reduceIte, List.setIfInBounds_toArray, List.set_cons_zero, List.set_cons_succ, Array.getD_eq_getD_getElem?, List.getElem?_toArray, List.getElem?_cons_zero, List.getElem?_cons_succ, Option.getD_some]), HS.out⟩
                · obtain rfl := hall
                  subst hun
                  have e0 := HS.out.cell (v := .slice (some ⟨gx, 0, none⟩) B2 yf) 3 2 rfl rfl
                  go_simp
                  exact hK _ _ ⟨l0, l1, l2, l3, l4, l5, l6, true, true, l9, l10, l11, l12, l13, l14, l15, l16, g7, c7, bn, rfl, hd14, hd16, (by simp only [↓reduceIte, List.setIfInBounds_toArray, List.set_cons_zero, List.set_cons_succ, Array.getD_eq_getD_getElem?, List.getElem?_toArray, List.getElem?_cons_zero, List.getElem?_cons_succ, Option.getD_some]), HS.out⟩
                · subst hun
                  go_simp
                  exact hK _ _ ⟨l0, l1, l2, l3, l4, l5, l6, l7, l8, true, l10, l11, l12, l13, l14, l15, l16, g7, c7, bn, rfl, hd14, hd16, (by simp only [↓reduceIte, List.setIfInBounds_toArray, List.set_cons_zero, List.set_cons_succ, Array.getD_eq_getD_getElem?, List.getElem?_toArray, List.getElem?_cons_zero, List.getElem?_cons_succ, Option.getD_some]), HS.out⟩
                · obtain ⟨rfl, rfl⟩ := hall
                  subst hun
                  go_simp
                  exact hK _ _ ⟨l0, l1, l2, l3, l4, l5, l6, l7, true, true, true, l11, l12, l13, l14, l15, l16, g7, c7, bn, rfl, hd14, hd16, (by simp only [↓reduceIte, List.setIfInBounds_toArray, List.set_cons_zero, List.set_cons_succ, Array.getD_eq_getD_getElem?, List.getElem?_toArray, List.getElem?_cons_zero, List.getElem?_cons_succ, Option.getD_some]), HS.out⟩
                · obtain rfl := hall
                  subst hun
                  have e0 := HS.out.rcell (v := .int .i64 t) 4 j rfl (by omega) Hhtc.out
                  go_simp
                  exact hK _ _ ⟨l0, l1, l2, l3, l4, l5, l6, l7, l8, l9, true, true, l12, l13, l14, l15, l16, g7, c7, bn, rfl, hd14, hd16, (by simp only [↓reduceIte, List.setIfInBounds_toArray, List.set_cons_zero, List.set_cons_succ, Array.getD_eq_getD_getElem?, List.getElem?_toArray, List.getElem?_cons_zero, List.getElem?_cons_succ, Option.getD_some]), HS.out⟩
                · obtain ⟨rfl, rfl⟩ := hall
                  subst hun
                  go_simp
                  exact hK _ _ ⟨l0, l1, l2, l3, l4, l5, true, l7, l8, l9, l10, true, true, l13, l14, l15, l16, g7, c7, bn, rfl, hd14, hd16, (by simp only [↓reduceIte, List.setIfInBounds_toArray, List.set_cons_zero, List.set_cons_succ, Array.getD_eq_getD_getElem?, List.getElem?_toArray, List.getElem?_cons_zero, List.getElem?_cons_succ, Option.getD_some]), HS.out⟩
                · obtain rfl := hall
                  subst hun
                  obtain rfl : l14 = false := offR hd14 rfl
                  obtain rfl : l16 = false := offL hd16 rfl
                  have hS2 := (HS.out.alloc _ rfl #[.int .i64 s, .int .i64 (-1), .int .i64 t] 76).pick [0, 1, 2, 3, 4, 5, 6, 7, 8, 10] (by decide)
                  have HhS2 := Lib.hid hS2; clear hS2
                  go_simp
                  exact hK _ _ ⟨l0, l1, l2, l3, l4, l5, l6, l7, l8, l9, l10, l11, true, true, false, l15, false, g7, c7, _, rfl, by simp, by simp, (by simp only [↓reduceIte, Bool.false_eq_true, List.setIfInBounds_toArray, List.set_cons_zero, List.set_cons_succ, Array.getD_eq_getD_getElem?, List.getElem?_toArray, List.getElem?_cons_zero, List.getElem?_cons_succ, Option.getD_some]), HhS2.out⟩
                · obtain ⟨rfl, rfl⟩ := hall
                  subst hun
                  obtain rfl : l16 = false := offL hd16 rfl
                  refine step_append_lies (a := ⟨_, _⟩) _ (by rfl) _ _ _ (by rfl) w.heap.size 76 i0 (.agg #[.int .i64 0, .int .i64 0, .int .i64 0]) 3 24 Try.underlying23 Hhi.out Hhz0.out Hhz1.out Hhz2.out (by rfl) (by omega) (.slice a1 nl c1) nl (NN.flatMap moveCells) (by rfl) (HS.out.row 7 rfl) ⟨bn, 0, none⟩ 1 1 [.int .i64 s, .int .i64 (-1), .int .i64 t] (by rfl) (by rfl) (World.news_of_block (HS.out.box 9 rfl)) one_mv (by omega) (by unfold maxLen; omega) (by omega) HS.out.size _ rfl ?_
                  intro g8 c8 w8 hown8 hgrow8 hat8 hlt8
                  have HS8 := Lib.hid (HS.out.app 7 rfl hown8 hgrow8 hat8)
                  clear hown8 hgrow8 hat8
                  go_simp
                  exact hK _ _ ⟨l0, true, l2, l3, l4, l5, l6, l7, l8, l9, l10, l11, l12, true, true, l15, false, g8, c8, bn, rfl, by simp, by simp, (by simp only [↓reduceIte, List.setIfInBounds_toArray, List.set_cons_zero, List.set_cons_succ, Array.getD_eq_getD_getElem?, List.getElem?_toArray, List.getElem?_cons_zero, List.getElem?_cons_succ, Option.getD_some]), HS8.out⟩
                · obtain ⟨rfl, rfl, rfl, rfl, rfl, rfl, rfl, rfl, rfl, rfl, rfl, rfl, rfl, rfl, rfl⟩ := hall
                  subst hun
                  go_simp
                  exact hK _ _ ⟨true, true, true, true, true, true, true, true, true, true, true, true, true, true, true, true, l16, g7, c7, bn, rfl, by simp, hd16, (by simp only [↓reduceIte, List.setIfInBounds_toArray, List.set_cons_zero, List.set_cons_succ]), HS.out⟩
                · obtain ⟨rfl, rfl, rfl, rfl, rfl, rfl, rfl, rfl, rfl, rfl, rfl, rfl, rfl, rfl, rfl, rfl, -⟩ := hall
                  subst hun
                  have f0 := HS.out.fr 6 1 rfl
                  have k0 := HS.out.cell (v := .slice a1 nl c1) 6 1 rfl rfl
                  go_simp
                  exact hK _ _ ⟨true, true, true, true, true, true, true, true, true, true, true, true, true, true, true, true, true, g7, c7, bn, rfl, by simp, by simp, (by simp only [↓reduceIte, List.setIfInBounds_toArray, List.set_cons_zero, List.set_cons_succ]), (HS.out.set 6 rfl 1 (.slice (some ⟨g7, 0, none⟩) (nl + 1) c7))⟩
              · rintro listed a w' ⟨l0, l1, l2, l3, l4, l5, l6, l7, l8, l9, l10, l11, l12, l13, l14, l15, l16, g7, c7, bn, rfl, hd14, hd16, rfl, hS⟩ hr
                have hall := ready_nil (by kernel_rfl) rfl hr
                obtain rfl : l0 = true := by simpa using hall 0 (by simp)
                obtain rfl : l1 = true := by simpa using hall 1 (by simp)
                obtain rfl : l2 = true := by simpa using hall 2 (by simp)
                obtain rfl : l3 = true := by simpa using hall 3 (by simp)
                obtain rfl : l4 = true := by simpa using hall 4 (by simp)
                obtain rfl : l5 = true := by simpa using hall 5 (by simp)
                obtain rfl : l6 = true := by simpa using hall 6 (by simp)
                obtain rfl : l7 = true := by simpa using hall 7 (by simp)
                obtain rfl : l8 = true := by simpa using hall 8 (by simp)
                obtain rfl : l9 = true := by simpa using hall 9 (by simp)
                obtain rfl : l10 = true := by simpa using hall 10 (by simp)
                obtain rfl : l11 = true := by simpa using hall 11 (by simp)
                obtain rfl : l12 = true := by simpa using hall 12 (by simp)
                obtain rfl : l13 = true := by simpa using hall 13 (by simp)
                obtain rfl : l14 = true := by simpa using hall 14 (by simp)
                obtain rfl : l15 = true := by simpa using hall 15 (by simp)
                obtain rfl : l16 = true := by simpa using hall 16 (by simp)
                clear hall hr hd14 hd16
                simp only [↓reduceIte] at hS ⊢
                simp only [List.setIfInBounds_toArray, List.set_cons_zero, List.set_cons_succ]
                have hS9 := hS.pick [0, 1, 2, 3, 4, 5, 6, 7, 8] (by decide)
                have HhS9 := Lib.hid hS9; clear hS9
                clear hS
                go_wp2
                go_roundw
                case rel =>
                  refine ⟨j + 1, some ⟨g7, 0, none⟩, c7, NN ++ [(s, -1, t)], nl + 1, by go_num, by omega, by rw [Hhsn.out, ← List.append_assoc, ← HNN.out], by rw [List.length_append, HNl.out]; rfl, by omega, ?_⟩
                  rw [List.flatMap_append]
                  exact HhS9.out
                case measure => simp [intOf]; omega
              · refine ⟨false, false, false, false, false, false, false, false, false, false, false, false, false, false, false, false, false, 0, 0, 0, rfl, by simp, by simp, (by simp only [↓reduceIte, Bool.false_eq_true, List.setIfInBounds_toArray, List.set_cons_zero, List.set_cons_succ, Array.getD_eq_getD_getElem?, List.getElem?_toArray, List.getElem?_cons_zero, List.getElem?_cons_succ, Option.getD_some]), ?_⟩
                exact HSq.out.drew.pick [0, 1, 2, 3, 4, 5, 6, 7, 8, 9] (by decide)
            · obtain rfl : B2 = j := by omega
              rw [show X.firsts.take B2 = X.firsts from List.take_of_length_le (by have := HhB2.out; omega)] at hNN
              have HS6 := Lib.hid hS
              have HNN := Lib.hid hNN
              have HNl := Lib.hid hNl
              clear hS hNN hNl
              go_wp2
              go_roundw
              case rel => exact ⟨k + 1, a1, c1, NN, nl, by go_num, by omega, by rw [Hhsk.out, List.flatMap_append, ← List.append_assoc, ← HBs.out, HNN.out]; simp, HNl.out, by omega, HS6.out⟩
              case measure => simp [intOf]; omega
        · obtain rfl : A3 = k := by omega
          rw [show p.ends.take A3 = p.ends from List.take_of_length_le (by have := HhA3.out; omega), ← HhNm.out] at hBs
          subst hBs
          have r0 := hS.cell (v := .int .i64 xs) 6 0 rfl rfl
          have r1 := hS.cell (v := .slice a1 nl c1) 6 1 rfl rfl
          have r2 := hS.cell (v := .slice a12 A2 c12) 6 2 rfl rfl
          have r3 := hS.cell (v := .slice xe B3 ye) 6 3 rfl rfl
          have hMv : Moves 0 wr (.slice a1 nl c1) N.moves := by have h := hS.row 7 rfl; rw [← hBl] at h ⊢; exact moves_of_row h
          have hI5 : Ints 0 wr (.slice a12 A2 c12) N.firsts := by rw [HhNf.out]; exact hS.intsR 8 rfl
          have hI6 : Ints 0 wr (.slice xe B3 ye) N.ends := by rw [HhNe.out]; exact hS.intsR 5 rfl
          have hxb := HhNs.out
          have hxb2 := Hhxl.out
          have hlim := fun (r : Bool) (hr : nfaOk N = r) => limit_any N _ _ _ wr r hr (nfaR_of hMv hI5 hI6 (by omega) (by omega))
          rw [HhNs.out] at hlim
          have HS4 := Lib.hid hS
          have HBl := Lib.hid hBl
          clear hS hMv hI5 hI6 hxb hxb2 hBl
          cases hr : nfaOk N
          · have hl := hlim false hr
            simp only [Bool.false_eq_true, ↓reduceIte] at hl
            have hlm : limN N = (zeN, false) := if_neg (by rw [hr]; simp)
            have Hl := Lib.hid hl
            have Hlm := Lib.hid hlm
            have Hhr := Lib.hid hr; clear hr
            clear hl hlm hlim
            go_wp2_with fail
            refine Hl.out.mono ?_
            rintro e w9 ⟨rfl, hb9⟩
            have hS9 := HS4.out.call hb9
            have f0 := hS9.fr 2 0 rfl
            have f1 := hS9.fr 2 1 rfl
            have f2 := hS9.fr 2 2 rfl
            have f3 := hS9.fr 2 3 rfl
            have k0 := hS9.cell (v := .int .i64 0) 2 0 rfl rfl
            have k1 := hS9.cell (v := .slice none 0 0) 2 1 rfl rfl
            have k2 := hS9.cell (v := .slice none 0 0) 2 2 rfl rfl
            have k3 := hS9.cell (v := .slice none 0 0) 2 3 rfl rfl
            have HS9 := Lib.hid hS9
            clear hS9 hb9
            go_wp2
            have hq := ((((HS9.out.set 2 rfl 0 (.int .i64 0)).set 2 rfl 1 (.slice none 0 0)).set 2 rfl 2 (.slice none 0 0)).set 2 rfl 3 (.slice none 0 0))
            have q0 := hq.cell (v := .int .i64 0) 2 0 rfl rfl
            have q1 := hq.cell (v := .slice none 0 0) 2 1 rfl rfl
            have q2 := hq.cell (v := .slice none 0 0) 2 2 rfl rfl
            have q3 := hq.cell (v := .slice none 0 0) 2 3 rfl rfl
            refine bodyPost_ret (v := .tuple #[.agg #[.int .i64 0, .slice none 0 0, .slice none 0 0, .slice none 0 0], .bool false]) (by simp [results, Try.results82, go_sem, q0, q1, q2, q3]) rfl ?_
            rw [Hlm.out]
            exact rnt_zero hq.bel
          · have hl := hlim true hr
            simp only [↓reduceIte] at hl
            have hlm : limN N = (N, true) := if_pos hr
            have Hl := Lib.hid hl
            have Hlm := Lib.hid hlm
            have Hhr := Lib.hid hr; clear hr
            clear hl hlm hlim
            go_wp2_with fail
            refine Hl.out.mono ?_
            rintro e w9 ⟨rfl, hb9⟩
            have hS9 := HS4.out.call hb9
            have f0 := hS9.fr 2 0 rfl
            have f1 := hS9.fr 2 1 rfl
            have f2 := hS9.fr 2 2 rfl
            have f3 := hS9.fr 2 3 rfl
            have k0 := hS9.cell (v := .int .i64 0) 2 0 rfl rfl
            have k1 := hS9.cell (v := .slice none 0 0) 2 1 rfl rfl
            have k2 := hS9.cell (v := .slice none 0 0) 2 2 rfl rfl
            have k3 := hS9.cell (v := .slice none 0 0) 2 3 rfl rfl
            have HS9 := Lib.hid hS9
            clear hS9 hb9
            go_wp2
            have hq := ((((HS9.out.set 2 rfl 0 (.int .i64 xs)).set 2 rfl 1 (.slice a1 nl c1)).set 2 rfl 2 (.slice a12 A2 c12)).set 2 rfl 3 (.slice xe B3 ye))
            have q0 := hq.cell (v := .int .i64 xs) 2 0 rfl rfl
            have q1 := hq.cell (v := .slice a1 nl c1) 2 1 rfl rfl
            have q2 := hq.cell (v := .slice a12 A2 c12) 2 2 rfl rfl
            have q3 := hq.cell (v := .slice xe B3 ye) 2 3 rfl rfl
            refine bodyPost_ret (v := .tuple #[.agg #[.int .i64 xs, .slice a1 nl c1, .slice a12 A2 c12, .slice xe B3 ye], .bool true]) (by simp [results, Try.results82, go_sem, q0, q1, q2, q3]) rfl ?_
            rw [Hlm.out]
            unfold RNt
            simp only
            rw [HBl.out, HhNs.out, HhNf.out, HhNe.out, ← HhA2.out, ← HhB3.out]
            exact ⟨_, _, _, _, _, _, rfl, hq.pick [7, 8, 5] (by decide)⟩
    · refine ⟨false, false, false, false, false, false, false, false, false, false, false, false, false, false, false, false, false, false, 0, none, 0, none, 0, 0, none, 0, 0, rfl, by simp, by simp, by simp, by simp, by simp, (by simp only [↓reduceIte, Bool.false_eq_true, List.setIfInBounds_toArray, List.set_cons_zero, List.set_cons_succ, Array.getD_eq_getD_getElem?, List.getElem?_toArray, List.getElem?_cons_zero, List.getElem?_cons_succ, Option.getD_some]), ?_⟩
      exact HS.out.drew.pick [0, 1, 2, 3, 4, 5, 6, 7, 8, 9] (by decide)
  · have hst : joinL p q = (zeN, false) := if_neg hok
    rw [hst]
    have hva := fun (r : Bool) (hr : nfaOk p = r) (w' : World) (hb : Below w.heap.size w w') => specNfaValid_any p _ w' (H.out.below hb) r hr
    have hvb := fun (r : Bool) (hr : nfaOk q = r) (w' : World) (hb : Below w.heap.size w w') => specNfaValid_any q _ w' (G.out.below hb) r hr
    cases hr : nfaOk p
    · have hva := hva false hr
      have Hva := Lib.hid hva
      have Hhr := Lib.hid hr; clear hr
      have Hhok := Lib.hid hok; clear hok
      have HhS0 := Lib.hid hS0; clear hS0
      clear h1 h2 h3 g1 g2 g3 hst hva hvb
      go_enter Try.func82, Try.ntmps82
      go_wp2_with fail
      refine (Hva.out _ HhS0.out.bel).mono ?_
      rintro e w9 ⟨rfl, hb9⟩
      have HS4 := HhS0
      have hS9 := HS4.out.call hb9
      have f0 := hS9.fr 2 0 rfl
      have f1 := hS9.fr 2 1 rfl
      have f2 := hS9.fr 2 2 rfl
      have f3 := hS9.fr 2 3 rfl
      have k0 := hS9.cell (v := .int .i64 0) 2 0 rfl rfl
      have k1 := hS9.cell (v := .slice none 0 0) 2 1 rfl rfl
      have k2 := hS9.cell (v := .slice none 0 0) 2 2 rfl rfl
      have k3 := hS9.cell (v := .slice none 0 0) 2 3 rfl rfl
      have HS9 := Lib.hid hS9
      clear hS9 hb9
      go_wp2
      have hq := ((((HS9.out.set 2 rfl 0 (.int .i64 0)).set 2 rfl 1 (.slice none 0 0)).set 2 rfl 2 (.slice none 0 0)).set 2 rfl 3 (.slice none 0 0))
      have q0 := hq.cell (v := .int .i64 0) 2 0 rfl rfl
      have q1 := hq.cell (v := .slice none 0 0) 2 1 rfl rfl
      have q2 := hq.cell (v := .slice none 0 0) 2 2 rfl rfl
      have q3 := hq.cell (v := .slice none 0 0) 2 3 rfl rfl
      refine bodyPost_ret (v := .tuple #[.agg #[.int .i64 0, .slice none 0 0, .slice none 0 0, .slice none 0 0], .bool false]) (by simp [results, Try.results82, go_sem, q0, q1, q2, q3]) rfl ?_
      exact rnt_zero hq.bel
    · have hrb : nfaOk q = false := by
        cases hb : nfaOk q
        · rfl
        · exact absurd ⟨hr, hb⟩ hok
      have hva := hva true hr
      have hvb := hvb false hrb
      have Hva := Lib.hid hva
      have Hvb := Lib.hid hvb
      have Hhr := Lib.hid hr; clear hr
      have Hhrb := Lib.hid hrb; clear hrb
      have Hhok := Lib.hid hok; clear hok
      have HhS0 := Lib.hid hS0; clear hS0
      clear h1 h2 h3 g1 g2 g3 hst hva hvb
      go_enter Try.func82, Try.ntmps82
      go_wp2_with fail
      refine (Hva.out _ HhS0.out.bel).mono ?_
      rintro e w1 ⟨rfl, hb1⟩
      have hS1 := HhS0.out.call hb1
      have x0 := hS1.cell (v := .int .i64 q.states) 1 0 rfl rfl
      have x1 := hS1.cell (v := u1) 1 1 rfl rfl
      have x2 := hS1.cell (v := u2) 1 2 rfl rfl
      have x3 := hS1.cell (v := u3) 1 3 rfl rfl
      have HS4 := Lib.hid hS1
      clear hS1 hb1 e0 e1 e2 e3
      go_wp2_with fail
      refine (Hvb.out _ HS4.out.bel).mono ?_
      rintro e w9 ⟨rfl, hb9⟩
      have hS9 := HS4.out.call hb9
      have f0 := hS9.fr 2 0 rfl
      have f1 := hS9.fr 2 1 rfl
      have f2 := hS9.fr 2 2 rfl
      have f3 := hS9.fr 2 3 rfl
      have k0 := hS9.cell (v := .int .i64 0) 2 0 rfl rfl
      have k1 := hS9.cell (v := .slice none 0 0) 2 1 rfl rfl
      have k2 := hS9.cell (v := .slice none 0 0) 2 2 rfl rfl
      have k3 := hS9.cell (v := .slice none 0 0) 2 3 rfl rfl
      have HS9 := Lib.hid hS9
      clear hS9 hb9
      go_wp2
      have hq := ((((HS9.out.set 2 rfl 0 (.int .i64 0)).set 2 rfl 1 (.slice none 0 0)).set 2 rfl 2 (.slice none 0 0)).set 2 rfl 3 (.slice none 0 0))
      have q0 := hq.cell (v := .int .i64 0) 2 0 rfl rfl
      have q1 := hq.cell (v := .slice none 0 0) 2 1 rfl rfl
      have q2 := hq.cell (v := .slice none 0 0) 2 2 rfl rfl
      have q3 := hq.cell (v := .slice none 0 0) 2 3 rfl rfl
      refine bodyPost_ret (v := .tuple #[.agg #[.int .i64 0, .slice none 0 0, .slice none 0 0, .slice none 0 0], .bool false]) (by simp [results, Try.results82, go_sem, q0, q1, q2, q3]) rfl ?_
      exact rnt_zero hq.bel
end Go.Proofs.Ytjcegbcmomfgaaa
