/-
  The walk over the reference's BuildNfa: it answers some small automaton.
  Conditions: the list of parts reads as such.
-/
import Derived.Test.YtjcegbcmomfgaaaNe
import Derived.Test.YtjcegbcmomfgaaaLm
namespace Go.Proofs.Ytjcegbcmomfgaaa
open Go.RowKit

def smallN (n : NfaD) : Prop := 0 ≤ n.states ∧ n.states ≤ 40 ∧ n.moves.length ≤ 400 ∧ n.firsts.length ≤ 40 ∧ n.ends.length ≤ 40
theorem small_ze : smallN zeN := ⟨by decide, by decide, by decide, by decide, by decide⟩
theorem small_lim (n : NfaD) : smallN (limN n).1 := by
  unfold limN
  split
  · rename_i h
    obtain ⟨m, h1, h2, -, h3, -, h4, -, h5⟩ := nfaOk_facts h
    exact ⟨by rw [h1]; omega, by rw [h1]; omega, h3, h4, h5⟩
  · exact small_ze
theorem small_star (n : NfaD) : smallN (starL n).1 := by
  unfold starL
  split
  · exact small_lim _
  · exact small_ze
theorem small_join (a b : NfaD) : smallN (joinL a b).1 := by
  unfold joinL
  split
  · exact small_lim _
  · exact small_ze
theorem small_eith (a b : NfaD) : smallN (eithL a b).1 := by
  unfold eithL
  split
  · exact small_lim _
  · exact small_ze
set_option maxRecDepth 100000 in
set_option maxHeartbeats 16000000 in
theorem build_any : ∀ (L : Nat) (es : List (Int × Int)) (v : Value) (w : World), es.length ≤ L → es.length ≤ 1000000 → Pairs 0 w v es →
    Calls Try.prog 64 #[v] w fun e w' => ∃ n b, smallN n ∧ RNt n b w e w' := by
  intro L
  induction L with
  | zero =>
    intro es v w hL hlen hp
    have hok : exOk es = false := by
      cases h : exOk es
      · rfl
      · have := (exOk_facts h).2.2.1
        omega
    have hS0 := (St.start w).alloc _ rfl #[.int .i64 0, .slice none 0 0, .slice none 0 0, .slice none 0 0] 26
    have Hp := Lib.hid hp
    have Hhok := Lib.hid hok; clear hok
    have HhS0 := Lib.hid hS0; clear hS0
    clear hp hL
    go_enter Try.func64, Try.ntmps64
    go_wp2_with fail
    refine (exprValid_any es v _ hlen (Hp.out.below HhS0.out.bel) false Hhok.out).mono ?_
    rintro e w1 ⟨rfl, hb1⟩
    have hS9 := HhS0.out.call hb1
    have f0 := hS9.fr 0 0 rfl
    have f1 := hS9.fr 0 1 rfl
    have f2 := hS9.fr 0 2 rfl
    have f3 := hS9.fr 0 3 rfl
    have k0 := hS9.cell (v := .int .i64 0) 0 0 rfl rfl
    have k1 := hS9.cell (v := .slice none 0 0) 0 1 rfl rfl
    have k2 := hS9.cell (v := .slice none 0 0) 0 2 rfl rfl
    have k3 := hS9.cell (v := .slice none 0 0) 0 3 rfl rfl
    have HS9 := Lib.hid hS9
    clear hS9
    clear hb1
    go_wp2
    have hq := ((((HS9.out.set 0 rfl 0 (.int .i64 0)).set 0 rfl 1 (.slice none 0 0)).set 0 rfl 2 (.slice none 0 0)).set 0 rfl 3 (.slice none 0 0))
    have q0 := hq.cell (v := .int .i64 0) 0 0 rfl rfl
    have q1 := hq.cell (v := .slice none 0 0) 0 1 rfl rfl
    have q2 := hq.cell (v := .slice none 0 0) 0 2 rfl rfl
    have q3 := hq.cell (v := .slice none 0 0) 0 3 rfl rfl
    refine bodyPost_ret (v := .tuple #[.agg #[.int .i64 0, .slice none 0 0, .slice none 0 0, .slice none 0 0], .bool false]) (by simp [results, Try.results64, go_sem, q0, q1, q2, q3]) rfl ?_
    exact ⟨zeN, false, small_ze, rnt_zero hq.bel⟩
  | succ L ih =>
    intro es v w hL hlen hp
    have hS0 := (St.start w).alloc _ rfl #[.int .i64 0, .slice none 0 0, .slice none 0 0, .slice none 0 0] 26
    have Hp := Lib.hid hp
    have HhS0 := Lib.hid hS0; clear hS0
    cases hok : exOk es
    · have Hhok := Lib.hid hok; clear hok
      clear hp hL ih
      go_enter Try.func64, Try.ntmps64
      go_wp2_with fail
      refine (exprValid_any es v _ hlen (Hp.out.below HhS0.out.bel) false Hhok.out).mono ?_
      rintro e w1 ⟨rfl, hb1⟩
      have hS9 := HhS0.out.call hb1
      have f0 := hS9.fr 0 0 rfl
      have f1 := hS9.fr 0 1 rfl
      have f2 := hS9.fr 0 2 rfl
      have f3 := hS9.fr 0 3 rfl
      have k0 := hS9.cell (v := .int .i64 0) 0 0 rfl rfl
      have k1 := hS9.cell (v := .slice none 0 0) 0 1 rfl rfl
      have k2 := hS9.cell (v := .slice none 0 0) 0 2 rfl rfl
      have k3 := hS9.cell (v := .slice none 0 0) 0 3 rfl rfl
      have HS9 := Lib.hid hS9
      clear hS9
      clear hb1
      go_wp2
      have hq := ((((HS9.out.set 0 rfl 0 (.int .i64 0)).set 0 rfl 1 (.slice none 0 0)).set 0 rfl 2 (.slice none 0 0)).set 0 rfl 3 (.slice none 0 0))
      have q0 := hq.cell (v := .int .i64 0) 0 0 rfl rfl
      have q1 := hq.cell (v := .slice none 0 0) 0 1 rfl rfl
      have q2 := hq.cell (v := .slice none 0 0) 0 2 rfl rfl
      have q3 := hq.cell (v := .slice none 0 0) 0 3 rfl rfl
      refine bodyPost_ret (v := .tuple #[.agg #[.int .i64 0, .slice none 0 0, .slice none 0 0, .slice none 0 0], .bool false]) (by simp [results, Try.results64, go_sem, q0, q1, q2, q3]) rfl ?_
      exact ⟨zeN, false, small_ze, rnt_zero hq.bel⟩
    · cases hpl : plainOk es
      · have Hhok := Lib.hid hok; clear hok
        have Hhpl := Lib.hid hpl; clear hpl
        clear hp hL ih
        go_enter Try.func64, Try.ntmps64
        go_wp2_with fail
        refine (exprValid_any es v _ hlen (Hp.out.below HhS0.out.bel) true Hhok.out).mono ?_
        rintro e w1 ⟨rfl, hb1⟩
        have HS1 := Lib.hid (HhS0.out.call hb1)
        clear hb1
        go_wp2_with fail
        refine (l12Plain_any es v _ hlen (Hp.out.below HS1.out.bel) false Hhpl.out).mono ?_
        rintro e w2 ⟨rfl, hb2⟩
        have hS9 := HS1.out.call hb2
        have f0 := hS9.fr 0 0 rfl
        have f1 := hS9.fr 0 1 rfl
        have f2 := hS9.fr 0 2 rfl
        have f3 := hS9.fr 0 3 rfl
        have k0 := hS9.cell (v := .int .i64 0) 0 0 rfl rfl
        have k1 := hS9.cell (v := .slice none 0 0) 0 1 rfl rfl
        have k2 := hS9.cell (v := .slice none 0 0) 0 2 rfl rfl
        have k3 := hS9.cell (v := .slice none 0 0) 0 3 rfl rfl
        have HS9 := Lib.hid hS9
        clear hS9
        clear hb2
        go_wp2
        have hq := ((((HS9.out.set 0 rfl 0 (.int .i64 0)).set 0 rfl 1 (.slice none 0 0)).set 0 rfl 2 (.slice none 0 0)).set 0 rfl 3 (.slice none 0 0))
        have q0 := hq.cell (v := .int .i64 0) 0 0 rfl rfl
        have q1 := hq.cell (v := .slice none 0 0) 0 1 rfl rfl
        have q2 := hq.cell (v := .slice none 0 0) 0 2 rfl rfl
        have q3 := hq.cell (v := .slice none 0 0) 0 3 rfl rfl
        refine bodyPost_ret (v := .tuple #[.agg #[.int .i64 0, .slice none 0 0, .slice none 0 0, .slice none 0 0], .bool false]) (by simp [results, Try.results64, go_sem, q0, q1, q2, q3]) rfl ?_
        exact ⟨zeN, false, small_ze, rnt_zero hq.bel⟩
      · obtain ⟨hall, hd1, hl1, hl60⟩ := exOk_facts hok
        obtain ⟨a, c, rfl, hc1, hc2, hrd⟩ := hp.form
        obtain ⟨b, o, rfl, -, hbl, hcs⟩ := hrd (by omega)
        obtain ⟨m, hm⟩ : ∃ m, es.length = m + 1 := ⟨es.length - 1, by omega⟩
        obtain ⟨g1, g2⟩ := hcs m (by omega)
        have hpn := (hall m (by omega)).1
        have hlt := fun xs ys (h : splits es xs ys) => splits_lt h hl1 (by rw [show es.length - 1 = m by omega]; exact hpn)
        have hkk : (es.getD m (0, 0)).1 = 1 ∨ (es.getD m (0, 0)).1 = 2 ∨ (es.getD m (0, 0)).1 = 3 ∨ (es.getD m (0, 0)).1 = 4 ∨ (es.getD m (0, 0)).1 = 5 ∨ (es.getD m (0, 0)).1 = 8 := by
          have h1 := pNeeds_ok hpn
          unfold pOk at h1
          simp only [Bool.and_eq_true] at h1
          have h2 := inB_true h1.1
          have h3 := List.all_eq_true.1 hpl _ (mem_getD (d := (0, 0)) (show m < es.length by omega))
          simp only [Bool.not_eq_true', Bool.or_eq_false_iff, decide_eq_false_iff_not] at h3
          omega
        obtain ⟨p, hp'⟩ : ∃ p, p = es.getD m (0, 0) := ⟨_, rfl⟩
        rw [← hp'] at g1 g2 hkk
        obtain ⟨p1, p2⟩ := p
        simp only at g1 g2 hkk
        have hlI : (es.length : Int) - 1 = (m : Int) := by omega
        have hmI : (m : Int) < es.length := by omega
        have Hlt := Lib.hid hlt
        have Hg1 := Lib.hid g1
        have Hg2 := Lib.hid g2
        have hL' : es.length ≤ L + 1 := hL
        have Hhp' := Lib.hid hp'; clear hp'
        have Hhm := Lib.hid hm; clear hm
        have Hhok := Lib.hid hok; clear hok
        have Hhpl := Lib.hid hpl; clear hpl
        clear hall hd1 hcs hrd hpn hlt g1 g2 hp hL
        go_enter Try.func64, Try.ntmps64
        go_wp2_with fail
        refine (exprValid_any es _ _ hlen (Hp.out.below HhS0.out.bel) true Hhok.out).mono ?_
        rintro e w1 ⟨rfl, hb1⟩
        have HS1 := Lib.hid (HhS0.out.call hb1)
        clear hb1
        go_wp2_with fail
        refine (l12Plain_any es _ _ hlen (Hp.out.below HS1.out.bel) true Hhpl.out).mono ?_
        rintro e w2 ⟨rfl, hb2⟩
        have hS2 := HS1.out.call hb2
        have e1 := (bcell hS2.bel b _ hbl).trans Hg1.out
        have e2 := (bcell hS2.bel b _ hbl).trans Hg2.out
        have HS3 := Lib.hid (hS2.alloc _ rfl #[.int .i64 p1, .int .i64 p2] 111)
        clear hb2 hS2
        go_wp2_with fail
        refine (l2Split_any es _ _ Hhok.out (Hp.out.below HS3.out.bel)).mono ?_
        rintro e w3 ⟨vx, vy, xs, ys, hspl, rfl, hpx, hpy, hb3⟩
        have hlx := (Hlt.out xs ys hspl).1
        have hly := (Hlt.out xs ys hspl).2
        have hS4 := HS3.out.call hb3
        have d0 := hS4.cell (v := .int .i64 p1) 1 0 rfl rfl
        have d1 := hS4.cell (v := .int .i64 p2) 1 1 rfl rfl
        have HS4 := Lib.hid hS4
        have Hpx := Lib.hid hpx
        have Hpy := Lib.hid hpy
        clear hS4 hb3 e1 e2 hspl hpx hpy
        rcases hkk with rfl | rfl | rfl | rfl | rfl | rfl
        · have hS9 := HS4.out
          have f0 := hS9.fr 0 0 rfl
          have f1 := hS9.fr 0 1 rfl
          have f2 := hS9.fr 0 2 rfl
          have f3 := hS9.fr 0 3 rfl
          have k0 := hS9.cell (v := .int .i64 0) 0 0 rfl rfl
          have k1 := hS9.cell (v := .slice none 0 0) 0 1 rfl rfl
          have k2 := hS9.cell (v := .slice none 0 0) 0 2 rfl rfl
          have k3 := hS9.cell (v := .slice none 0 0) 0 3 rfl rfl
          have HS9 := Lib.hid hS9
          clear hS9
          go_wp2
          have hq := ((((HS9.out.set 0 rfl 0 (.int .i64 0)).set 0 rfl 1 (.slice none 0 0)).set 0 rfl 2 (.slice none 0 0)).set 0 rfl 3 (.slice none 0 0))
          have q0 := hq.cell (v := .int .i64 0) 0 0 rfl rfl
          have q1 := hq.cell (v := .slice none 0 0) 0 1 rfl rfl
          have q2 := hq.cell (v := .slice none 0 0) 0 2 rfl rfl
          have q3 := hq.cell (v := .slice none 0 0) 0 3 rfl rfl
          refine bodyPost_ret (v := .tuple #[.agg #[.int .i64 0, .slice none 0 0, .slice none 0 0, .slice none 0 0], .bool true]) (by simp [results, Try.results64, go_sem, q0, q1, q2, q3]) rfl ?_
          exact ⟨zeN, true, small_ze, none, 0, none, 0, none, 0, rfl, ((((St.start w).call hq.bel).nilRow 76 3).nilRow 3 1).nilRow 3 1⟩
        · have hA := (((HS4.out.alloc _ rfl #[.int .i64 0] 3).boxrow 2 1 1 [.int .i64 0] rfl rfl (by unfold maxLen; omega)).alloc (w3.heap.size + 1) (by simp) #[.int .i64 0] 3).boxrow 3 1 1 [.int .i64 0] rfl rfl (by unfold maxLen; omega)
          have hS9 := hA
          have f0 := hS9.fr 0 0 rfl
          have f1 := hS9.fr 0 1 rfl
          have f2 := hS9.fr 0 2 rfl
          have f3 := hS9.fr 0 3 rfl
          have k0 := hS9.cell (v := .int .i64 0) 0 0 rfl rfl
          have k1 := hS9.cell (v := .slice none 0 0) 0 1 rfl rfl
          have k2 := hS9.cell (v := .slice none 0 0) 0 2 rfl rfl
          have k3 := hS9.cell (v := .slice none 0 0) 0 3 rfl rfl
          have HS9 := Lib.hid hS9
          clear hS9
          clear hA
          go_wp2
          have hq := ((((HS9.out.set 0 rfl 0 (.int .i64 1)).set 0 rfl 1 (.slice none 0 0)).set 0 rfl 2 (.slice (some ⟨w3.heap.size, 0, none⟩) 1 1)).set 0 rfl 3 (.slice (some ⟨w3.heap.size + 1, 0, none⟩) 1 1))
          have q0 := hq.cell (v := .int .i64 1) 0 0 rfl rfl
          have q1 := hq.cell (v := .slice none 0 0) 0 1 rfl rfl
          have q2 := hq.cell (v := .slice (some ⟨w3.heap.size, 0, none⟩) 1 1) 0 2 rfl rfl
          have q3 := hq.cell (v := .slice (some ⟨w3.heap.size + 1, 0, none⟩) 1 1) 0 3 rfl rfl
          refine bodyPost_ret (v := .tuple #[.agg #[.int .i64 1, .slice none 0 0, .slice (some ⟨w3.heap.size, 0, none⟩) 1 1, .slice (some ⟨w3.heap.size + 1, 0, none⟩) 1 1], .bool true]) (by simp [results, Try.results64, go_sem, q0, q1, q2, q3]) rfl ?_
          exact ⟨⟨1, [], [0], [0]⟩, true, ⟨by decide, by decide, by decide, by decide, by decide⟩, _, _, _, _, _, _, rfl, (hq.nilRow 76 3).pick [4, 2, 3] (by decide)⟩
        · have hA := (((((HS4.out.alloc _ rfl #[.int .i64 0, .int .i64 p2, .int .i64 1] 76).boxrow 2 1 3 [.int .i64 0, .int .i64 p2, .int .i64 1] rfl rfl (by unfold maxLen; omega)).alloc (w3.heap.size + 1) (by simp) #[.int .i64 0] 3).boxrow 3 1 1 [.int .i64 0] rfl rfl (by unfold maxLen; omega)).alloc (w3.heap.size + 1 + 1) (by simp) #[.int .i64 1] 3).boxrow 4 1 1 [.int .i64 1] rfl rfl (by unfold maxLen; omega)
          have hS9 := hA
          have f0 := hS9.fr 0 0 rfl
          have f1 := hS9.fr 0 1 rfl
          have f2 := hS9.fr 0 2 rfl
          have f3 := hS9.fr 0 3 rfl
          have k0 := hS9.cell (v := .int .i64 0) 0 0 rfl rfl
          have k1 := hS9.cell (v := .slice none 0 0) 0 1 rfl rfl
          have k2 := hS9.cell (v := .slice none 0 0) 0 2 rfl rfl
          have k3 := hS9.cell (v := .slice none 0 0) 0 3 rfl rfl
          have HS9 := Lib.hid hS9
          clear hS9
          clear hA
          go_wp2
          have hq := ((((HS9.out.set 0 rfl 0 (.int .i64 2)).set 0 rfl 1 (.slice (some ⟨w3.heap.size, 0, none⟩) 1 1)).set 0 rfl 2 (.slice (some ⟨w3.heap.size + 1, 0, none⟩) 1 1)).set 0 rfl 3 (.slice (some ⟨w3.heap.size + 1 + 1, 0, none⟩) 1 1))
          have q0 := hq.cell (v := .int .i64 2) 0 0 rfl rfl
          have q1 := hq.cell (v := .slice (some ⟨w3.heap.size, 0, none⟩) 1 1) 0 1 rfl rfl
          have q2 := hq.cell (v := .slice (some ⟨w3.heap.size + 1, 0, none⟩) 1 1) 0 2 rfl rfl
          have q3 := hq.cell (v := .slice (some ⟨w3.heap.size + 1 + 1, 0, none⟩) 1 1) 0 3 rfl rfl
          refine bodyPost_ret (v := .tuple #[.agg #[.int .i64 2, .slice (some ⟨w3.heap.size, 0, none⟩) 1 1, .slice (some ⟨w3.heap.size + 1, 0, none⟩) 1 1, .slice (some ⟨w3.heap.size + 1 + 1, 0, none⟩) 1 1], .bool true]) (by simp [results, Try.results64, go_sem, q0, q1, q2, q3]) rfl ?_
          exact ⟨⟨2, [(0, p2, 1)], [0], [1]⟩, true, ⟨(by show (0 : Int) ≤ 2; omega), (by show (2 : Int) ≤ 40; omega), by simp, by simp, by simp⟩, _, _, _, _, _, _, rfl, hq.pick [2, 3, 4] (by decide)⟩
        · go_wp2_with fail
          refine (ih xs vx _ (by omega) (by omega) Hpx.out).mono ?_
          rintro e w4 ⟨A, ab, hsA, a1, c1, a2, c2, a3, c3, rfl, hS'⟩
          obtain ⟨sA0, sA1, sA2, sA3, sA4⟩ := hsA
          have hS5 := (HS4.out.cat hS').alloc _ rfl #[.int .i64 A.states, .slice a1 A.moves.length c1, .slice a2 A.firsts.length c2, .slice a3 A.ends.length c3] 26
          have d0' := hS5.cell (v := .int .i64 4) 1 0 rfl rfl
          have HS5 := Lib.hid hS5
          have Hb35 := Lib.hid (hS'.bel.alloc hS'.bel.size (.cells #[.int .i64 A.states, .slice a1 A.moves.length c1, .slice a2 A.firsts.length c2, .slice a3 A.ends.length c3] 26))
          clear hS5 hS' d0 d1
          cases ab
          · have hS9 := HS5.out
            have f0 := hS9.fr 0 0 rfl
            have f1 := hS9.fr 0 1 rfl
            have f2 := hS9.fr 0 2 rfl
            have f3 := hS9.fr 0 3 rfl
            have k0 := hS9.cell (v := .int .i64 0) 0 0 rfl rfl
            have k1 := hS9.cell (v := .slice none 0 0) 0 1 rfl rfl
            have k2 := hS9.cell (v := .slice none 0 0) 0 2 rfl rfl
            have k3 := hS9.cell (v := .slice none 0 0) 0 3 rfl rfl
            have HS9 := Lib.hid hS9
            clear hS9
            go_wp2
            have hq := ((((HS9.out.set 0 rfl 0 (.int .i64 0)).set 0 rfl 1 (.slice none 0 0)).set 0 rfl 2 (.slice none 0 0)).set 0 rfl 3 (.slice none 0 0))
            have q0 := hq.cell (v := .int .i64 0) 0 0 rfl rfl
            have q1 := hq.cell (v := .slice none 0 0) 0 1 rfl rfl
            have q2 := hq.cell (v := .slice none 0 0) 0 2 rfl rfl
            have q3 := hq.cell (v := .slice none 0 0) 0 3 rfl rfl
            refine bodyPost_ret (v := .tuple #[.agg #[.int .i64 0, .slice none 0 0, .slice none 0 0, .slice none 0 0], .bool false]) (by simp [results, Try.results64, go_sem, q0, q1, q2, q3]) rfl ?_
            exact ⟨zeN, false, small_ze, rnt_zero hq.bel⟩
          · go_wp2_with fail
            refine (ih ys vy _ (by omega) (by omega) (Hpy.out.below Hb35.out)).mono ?_
            rintro e w5 ⟨B, bb, hsB, a4, c4, a5, c5, a6, c6, rfl, hS'⟩
            obtain ⟨sB0, sB1, sB2, sB3, sB4⟩ := hsB
            have hS6 := (HS5.out.cat hS').alloc _ rfl #[.int .i64 B.states, .slice a4 B.moves.length c4, .slice a5 B.firsts.length c5, .slice a6 B.ends.length c6] 26
            have d0 := hS6.cell (v := .int .i64 4) 1 0 rfl rfl
            have HS7 := Lib.hid hS6
            clear hS6 hS' d0'
            cases bb
            · have hS9 := HS7.out
              have f0 := hS9.fr 0 0 rfl
              have f1 := hS9.fr 0 1 rfl
              have f2 := hS9.fr 0 2 rfl
              have f3 := hS9.fr 0 3 rfl
              have k0 := hS9.cell (v := .int .i64 0) 0 0 rfl rfl
              have k1 := hS9.cell (v := .slice none 0 0) 0 1 rfl rfl
              have k2 := hS9.cell (v := .slice none 0 0) 0 2 rfl rfl
              have k3 := hS9.cell (v := .slice none 0 0) 0 3 rfl rfl
              have HS9 := Lib.hid hS9
              clear hS9
              go_wp2
              have hq := ((((HS9.out.set 0 rfl 0 (.int .i64 0)).set 0 rfl 1 (.slice none 0 0)).set 0 rfl 2 (.slice none 0 0)).set 0 rfl 3 (.slice none 0 0))
              have q0 := hq.cell (v := .int .i64 0) 0 0 rfl rfl
              have q1 := hq.cell (v := .slice none 0 0) 0 1 rfl rfl
              have q2 := hq.cell (v := .slice none 0 0) 0 2 rfl rfl
              have q3 := hq.cell (v := .slice none 0 0) 0 3 rfl rfl
              refine bodyPost_ret (v := .tuple #[.agg #[.int .i64 0, .slice none 0 0, .slice none 0 0, .slice none 0 0], .bool false]) (by simp [results, Try.results64, go_sem, q0, q1, q2, q3]) rfl ?_
              exact ⟨zeN, false, small_ze, rnt_zero hq.bel⟩
            · have t0 := HS7.out.cell (v := .int .i64 A.states) 5 0 rfl rfl
              have t1 := HS7.out.cell (v := .slice a1 A.moves.length c1) 5 1 rfl rfl
              have t2 := HS7.out.cell (v := .slice a2 A.firsts.length c2) 5 2 rfl rfl
              have t3 := HS7.out.cell (v := .slice a3 A.ends.length c3) 5 3 rfl rfl
              have s0 := HS7.out.cell (v := .int .i64 B.states) 9 0 rfl rfl
              have s1 := HS7.out.cell (v := .slice a4 B.moves.length c4) 9 1 rfl rfl
              have s2 := HS7.out.cell (v := .slice a5 B.firsts.length c5) 9 2 rfl rfl
              have s3 := HS7.out.cell (v := .slice a6 B.ends.length c6) 9 3 rfl rfl
              obtain ⟨R, hR⟩ : ∃ R, R = (joinL A B).1 := ⟨_, rfl⟩
              obtain ⟨rb, hrb⟩ : ∃ rb, rb = (joinL A B).2 := ⟨_, rfl⟩
              have hcall := join_any A B (.slice a1 A.moves.length c1) (.slice a2 A.firsts.length c2) (.slice a3 A.ends.length c3) (.slice a4 B.moves.length c4) (.slice a5 B.firsts.length c5) (.slice a6 B.ends.length c6) _ (HS7.out.moves 2 rfl) (HS7.out.intsR 3 rfl) (HS7.out.intsR 4 rfl) (HS7.out.moves 6 rfl) (HS7.out.intsR 7 rfl) (HS7.out.intsR 8 rfl) (by omega) (by omega) (by omega) (by omega)
              rw [← hR, ← hrb] at hcall
              unfold RNt at hcall
              have hsR : smallN R := by rw [hR]; exact small_join _ _
              have Hcall := Lib.hid hcall
              have HsR := Lib.hid hsR
              have HhR := Lib.hid hR; clear hR
              have Hhrb := Lib.hid hrb; clear hrb
              clear hcall hsR
              go_wp2_with fail
              refine (Hcall.out).mono ?_
              rintro e w8 ⟨a7, c7, a8, c8, a9, c9, rfl, hS'⟩
              have hS9 := HS7.out.cat hS'
              have f0 := hS9.fr 0 0 rfl
              have f1 := hS9.fr 0 1 rfl
              have f2 := hS9.fr 0 2 rfl
              have f3 := hS9.fr 0 3 rfl
              have k0 := hS9.cell (v := .int .i64 0) 0 0 rfl rfl
              have k1 := hS9.cell (v := .slice none 0 0) 0 1 rfl rfl
              have k2 := hS9.cell (v := .slice none 0 0) 0 2 rfl rfl
              have k3 := hS9.cell (v := .slice none 0 0) 0 3 rfl rfl
              have HS9 := Lib.hid hS9
              clear hS9
              clear hS' t0 t1 t2 t3 s0 s1 s2 s3 d0
              go_wp2
              have hq := ((((HS9.out.set 0 rfl 0 (.int .i64 R.states)).set 0 rfl 1 (.slice a7 R.moves.length c7)).set 0 rfl 2 (.slice a8 R.firsts.length c8)).set 0 rfl 3 (.slice a9 R.ends.length c9))
              have q0 := hq.cell (v := .int .i64 R.states) 0 0 rfl rfl
              have q1 := hq.cell (v := .slice a7 R.moves.length c7) 0 1 rfl rfl
              have q2 := hq.cell (v := .slice a8 R.firsts.length c8) 0 2 rfl rfl
              have q3 := hq.cell (v := .slice a9 R.ends.length c9) 0 3 rfl rfl
              refine bodyPost_ret (v := .tuple #[.agg #[.int .i64 R.states, .slice a7 R.moves.length c7, .slice a8 R.firsts.length c8, .slice a9 R.ends.length c9], .bool rb]) (by simp [results, Try.results64, go_sem, q0, q1, q2, q3]) rfl ?_
              exact ⟨R, rb, HsR.out, _, _, _, _, _, _, rfl, hq.pick [10, 11, 12] (by decide)⟩
        · go_wp2_with fail
          refine (ih xs vx _ (by omega) (by omega) Hpx.out).mono ?_
          rintro e w4 ⟨A, ab, hsA, a1, c1, a2, c2, a3, c3, rfl, hS'⟩
          obtain ⟨sA0, sA1, sA2, sA3, sA4⟩ := hsA
          have hS5 := (HS4.out.cat hS').alloc _ rfl #[.int .i64 A.states, .slice a1 A.moves.length c1, .slice a2 A.firsts.length c2, .slice a3 A.ends.length c3] 26
          have d0' := hS5.cell (v := .int .i64 5) 1 0 rfl rfl
          have HS5 := Lib.hid hS5
          have Hb35 := Lib.hid (hS'.bel.alloc hS'.bel.size (.cells #[.int .i64 A.states, .slice a1 A.moves.length c1, .slice a2 A.firsts.length c2, .slice a3 A.ends.length c3] 26))
          clear hS5 hS' d0 d1
          cases ab
          · have hS9 := HS5.out
            have f0 := hS9.fr 0 0 rfl
            have f1 := hS9.fr 0 1 rfl
            have f2 := hS9.fr 0 2 rfl
            have f3 := hS9.fr 0 3 rfl
            have k0 := hS9.cell (v := .int .i64 0) 0 0 rfl rfl
            have k1 := hS9.cell (v := .slice none 0 0) 0 1 rfl rfl
            have k2 := hS9.cell (v := .slice none 0 0) 0 2 rfl rfl
            have k3 := hS9.cell (v := .slice none 0 0) 0 3 rfl rfl
            have HS9 := Lib.hid hS9
            clear hS9
            go_wp2
            have hq := ((((HS9.out.set 0 rfl 0 (.int .i64 0)).set 0 rfl 1 (.slice none 0 0)).set 0 rfl 2 (.slice none 0 0)).set 0 rfl 3 (.slice none 0 0))
            have q0 := hq.cell (v := .int .i64 0) 0 0 rfl rfl
            have q1 := hq.cell (v := .slice none 0 0) 0 1 rfl rfl
            have q2 := hq.cell (v := .slice none 0 0) 0 2 rfl rfl
            have q3 := hq.cell (v := .slice none 0 0) 0 3 rfl rfl
            refine bodyPost_ret (v := .tuple #[.agg #[.int .i64 0, .slice none 0 0, .slice none 0 0, .slice none 0 0], .bool false]) (by simp [results, Try.results64, go_sem, q0, q1, q2, q3]) rfl ?_
            exact ⟨zeN, false, small_ze, rnt_zero hq.bel⟩
          · go_wp2_with fail
            refine (ih ys vy _ (by omega) (by omega) (Hpy.out.below Hb35.out)).mono ?_
            rintro e w5 ⟨B, bb, hsB, a4, c4, a5, c5, a6, c6, rfl, hS'⟩
            obtain ⟨sB0, sB1, sB2, sB3, sB4⟩ := hsB
            have hS6 := (HS5.out.cat hS').alloc _ rfl #[.int .i64 B.states, .slice a4 B.moves.length c4, .slice a5 B.firsts.length c5, .slice a6 B.ends.length c6] 26
            have d0 := hS6.cell (v := .int .i64 5) 1 0 rfl rfl
            have HS7 := Lib.hid hS6
            clear hS6 hS' d0'
            cases bb
            · have hS9 := HS7.out
              have f0 := hS9.fr 0 0 rfl
              have f1 := hS9.fr 0 1 rfl
              have f2 := hS9.fr 0 2 rfl
              have f3 := hS9.fr 0 3 rfl
              have k0 := hS9.cell (v := .int .i64 0) 0 0 rfl rfl
              have k1 := hS9.cell (v := .slice none 0 0) 0 1 rfl rfl
              have k2 := hS9.cell (v := .slice none 0 0) 0 2 rfl rfl
              have k3 := hS9.cell (v := .slice none 0 0) 0 3 rfl rfl
              have HS9 := Lib.hid hS9
              clear hS9
              go_wp2
              have hq := ((((HS9.out.set 0 rfl 0 (.int .i64 0)).set 0 rfl 1 (.slice none 0 0)).set 0 rfl 2 (.slice none 0 0)).set 0 rfl 3 (.slice none 0 0))
              have q0 := hq.cell (v := .int .i64 0) 0 0 rfl rfl
              have q1 := hq.cell (v := .slice none 0 0) 0 1 rfl rfl
              have q2 := hq.cell (v := .slice none 0 0) 0 2 rfl rfl
              have q3 := hq.cell (v := .slice none 0 0) 0 3 rfl rfl
              refine bodyPost_ret (v := .tuple #[.agg #[.int .i64 0, .slice none 0 0, .slice none 0 0, .slice none 0 0], .bool false]) (by simp [results, Try.results64, go_sem, q0, q1, q2, q3]) rfl ?_
              exact ⟨zeN, false, small_ze, rnt_zero hq.bel⟩
            · have t0 := HS7.out.cell (v := .int .i64 A.states) 5 0 rfl rfl
              have t1 := HS7.out.cell (v := .slice a1 A.moves.length c1) 5 1 rfl rfl
              have t2 := HS7.out.cell (v := .slice a2 A.firsts.length c2) 5 2 rfl rfl
              have t3 := HS7.out.cell (v := .slice a3 A.ends.length c3) 5 3 rfl rfl
              have s0 := HS7.out.cell (v := .int .i64 B.states) 9 0 rfl rfl
              have s1 := HS7.out.cell (v := .slice a4 B.moves.length c4) 9 1 rfl rfl
              have s2 := HS7.out.cell (v := .slice a5 B.firsts.length c5) 9 2 rfl rfl
              have s3 := HS7.out.cell (v := .slice a6 B.ends.length c6) 9 3 rfl rfl
              obtain ⟨R, hR⟩ : ∃ R, R = (eithL A B).1 := ⟨_, rfl⟩
              obtain ⟨rb, hrb⟩ : ∃ rb, rb = (eithL A B).2 := ⟨_, rfl⟩
              have hcall := eith_any A B (.slice a1 A.moves.length c1) (.slice a2 A.firsts.length c2) (.slice a3 A.ends.length c3) (.slice a4 B.moves.length c4) (.slice a5 B.firsts.length c5) (.slice a6 B.ends.length c6) _ (HS7.out.moves 2 rfl) (HS7.out.intsR 3 rfl) (HS7.out.intsR 4 rfl) (HS7.out.moves 6 rfl) (HS7.out.intsR 7 rfl) (HS7.out.intsR 8 rfl) (by omega) (by omega) (by omega) (by omega)
              rw [← hR, ← hrb] at hcall
              unfold RNt at hcall
              have hsR : smallN R := by rw [hR]; exact small_eith _ _
              have Hcall := Lib.hid hcall
              have HsR := Lib.hid hsR
              have HhR := Lib.hid hR; clear hR
              have Hhrb := Lib.hid hrb; clear hrb
              clear hcall hsR
              go_wp2_with fail
              refine (Hcall.out).mono ?_
              rintro e w8 ⟨a7, c7, a8, c8, a9, c9, rfl, hS'⟩
              have hS9 := HS7.out.cat hS'
              have f0 := hS9.fr 0 0 rfl
              have f1 := hS9.fr 0 1 rfl
              have f2 := hS9.fr 0 2 rfl
              have f3 := hS9.fr 0 3 rfl
              have k0 := hS9.cell (v := .int .i64 0) 0 0 rfl rfl
              have k1 := hS9.cell (v := .slice none 0 0) 0 1 rfl rfl
              have k2 := hS9.cell (v := .slice none 0 0) 0 2 rfl rfl
              have k3 := hS9.cell (v := .slice none 0 0) 0 3 rfl rfl
              have HS9 := Lib.hid hS9
              clear hS9
              clear hS' t0 t1 t2 t3 s0 s1 s2 s3 d0
              go_wp2
              have hq := ((((HS9.out.set 0 rfl 0 (.int .i64 R.states)).set 0 rfl 1 (.slice a7 R.moves.length c7)).set 0 rfl 2 (.slice a8 R.firsts.length c8)).set 0 rfl 3 (.slice a9 R.ends.length c9))
              have q0 := hq.cell (v := .int .i64 R.states) 0 0 rfl rfl
              have q1 := hq.cell (v := .slice a7 R.moves.length c7) 0 1 rfl rfl
              have q2 := hq.cell (v := .slice a8 R.firsts.length c8) 0 2 rfl rfl
              have q3 := hq.cell (v := .slice a9 R.ends.length c9) 0 3 rfl rfl
              refine bodyPost_ret (v := .tuple #[.agg #[.int .i64 R.states, .slice a7 R.moves.length c7, .slice a8 R.firsts.length c8, .slice a9 R.ends.length c9], .bool rb]) (by simp [results, Try.results64, go_sem, q0, q1, q2, q3]) rfl ?_
              exact ⟨R, rb, HsR.out, _, _, _, _, _, _, rfl, hq.pick [10, 11, 12] (by decide)⟩
        · go_wp2_with fail
          refine (ih xs vx _ (by omega) (by omega) Hpx.out).mono ?_
          rintro e w4 ⟨A, ab, hsA, a1, c1, a2, c2, a3, c3, rfl, hS'⟩
          obtain ⟨sA0, sA1, sA2, sA3, sA4⟩ := hsA
          have hS5 := (HS4.out.cat hS').alloc _ rfl #[.int .i64 A.states, .slice a1 A.moves.length c1, .slice a2 A.firsts.length c2, .slice a3 A.ends.length c3] 26
          have d0' := hS5.cell (v := .int .i64 8) 1 0 rfl rfl
          have HS5 := Lib.hid hS5
          have Hb35 := Lib.hid (hS'.bel.alloc hS'.bel.size (.cells #[.int .i64 A.states, .slice a1 A.moves.length c1, .slice a2 A.firsts.length c2, .slice a3 A.ends.length c3] 26))
          clear hS5 hS' d0 d1
          cases ab
          · have hS9 := HS5.out
            have f0 := hS9.fr 0 0 rfl
            have f1 := hS9.fr 0 1 rfl
            have f2 := hS9.fr 0 2 rfl
            have f3 := hS9.fr 0 3 rfl
            have k0 := hS9.cell (v := .int .i64 0) 0 0 rfl rfl
            have k1 := hS9.cell (v := .slice none 0 0) 0 1 rfl rfl
            have k2 := hS9.cell (v := .slice none 0 0) 0 2 rfl rfl
            have k3 := hS9.cell (v := .slice none 0 0) 0 3 rfl rfl
            have HS9 := Lib.hid hS9
            clear hS9
            go_wp2
            have hq := ((((HS9.out.set 0 rfl 0 (.int .i64 0)).set 0 rfl 1 (.slice none 0 0)).set 0 rfl 2 (.slice none 0 0)).set 0 rfl 3 (.slice none 0 0))
            have q0 := hq.cell (v := .int .i64 0) 0 0 rfl rfl
            have q1 := hq.cell (v := .slice none 0 0) 0 1 rfl rfl
            have q2 := hq.cell (v := .slice none 0 0) 0 2 rfl rfl
            have q3 := hq.cell (v := .slice none 0 0) 0 3 rfl rfl
            refine bodyPost_ret (v := .tuple #[.agg #[.int .i64 0, .slice none 0 0, .slice none 0 0, .slice none 0 0], .bool false]) (by simp [results, Try.results64, go_sem, q0, q1, q2, q3]) rfl ?_
            exact ⟨zeN, false, small_ze, rnt_zero hq.bel⟩
          · have t0 := HS5.out.cell (v := .int .i64 A.states) 5 0 rfl rfl
            have t1 := HS5.out.cell (v := .slice a1 A.moves.length c1) 5 1 rfl rfl
            have t2 := HS5.out.cell (v := .slice a2 A.firsts.length c2) 5 2 rfl rfl
            have t3 := HS5.out.cell (v := .slice a3 A.ends.length c3) 5 3 rfl rfl
            have HS7 := HS5
            obtain ⟨R, hR⟩ : ∃ R, R = (starL A).1 := ⟨_, rfl⟩
            obtain ⟨rb, hrb⟩ : ∃ rb, rb = (starL A).2 := ⟨_, rfl⟩
            have hcall := star_any A (.slice a1 A.moves.length c1) (.slice a2 A.firsts.length c2) (.slice a3 A.ends.length c3) _ (HS5.out.moves 2 rfl) (HS5.out.intsR 3 rfl) (HS5.out.intsR 4 rfl) (by omega) (by omega)
            rw [← hR, ← hrb] at hcall
            unfold RNt at hcall
            have hsR : smallN R := by rw [hR]; exact small_star _
            have Hcall := Lib.hid hcall
            have HsR := Lib.hid hsR
            have HhR := Lib.hid hR; clear hR
            have Hhrb := Lib.hid hrb; clear hrb
            clear hcall hsR
            go_wp2_with fail
            refine (Hcall.out).mono ?_
            rintro e w8 ⟨a7, c7, a8, c8, a9, c9, rfl, hS'⟩
            have hS9 := HS7.out.cat hS'
            have f0 := hS9.fr 0 0 rfl
            have f1 := hS9.fr 0 1 rfl
            have f2 := hS9.fr 0 2 rfl
            have f3 := hS9.fr 0 3 rfl
            have k0 := hS9.cell (v := .int .i64 0) 0 0 rfl rfl
            have k1 := hS9.cell (v := .slice none 0 0) 0 1 rfl rfl
            have k2 := hS9.cell (v := .slice none 0 0) 0 2 rfl rfl
            have k3 := hS9.cell (v := .slice none 0 0) 0 3 rfl rfl
            have HS9 := Lib.hid hS9
            clear hS9
            clear hS' t0 t1 t2 t3 d0'
            go_wp2
            have hq := ((((HS9.out.set 0 rfl 0 (.int .i64 R.states)).set 0 rfl 1 (.slice a7 R.moves.length c7)).set 0 rfl 2 (.slice a8 R.firsts.length c8)).set 0 rfl 3 (.slice a9 R.ends.length c9))
            have q0 := hq.cell (v := .int .i64 R.states) 0 0 rfl rfl
            have q1 := hq.cell (v := .slice a7 R.moves.length c7) 0 1 rfl rfl
            have q2 := hq.cell (v := .slice a8 R.firsts.length c8) 0 2 rfl rfl
            have q3 := hq.cell (v := .slice a9 R.ends.length c9) 0 3 rfl rfl
            refine bodyPost_ret (v := .tuple #[.agg #[.int .i64 R.states, .slice a7 R.moves.length c7, .slice a8 R.firsts.length c8, .slice a9 R.ends.length c9], .bool rb]) (by simp [results, Try.results64, go_sem, q0, q1, q2, q3]) rfl ?_
            exact ⟨R, rb, HsR.out, _, _, _, _, _, _, rfl, hq.pick [6, 7, 8] (by decide)⟩
end Go.Proofs.Ytjcegbcmomfgaaa
