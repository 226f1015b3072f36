/-
  The walk over the program's NfaEither; NfaEither of both over readable automata.
  Conditions: the automata are readable.
-/
import Derived.Test.YtolkifpeblbfcaaIf
import Derived.Test.YtolkifpeblbfcaaNe
import Derived.Test.YtolkifpeblbfcaaNr
namespace Go.Proofs.Ytolkifpeblbfcaa
open Go.RowKit

theorem eithL_cases (p q : NfaD) : eithL p q = (zeN, false) ∨ (nfaOk p = true ∧ nfaOk q = true ∧ nfaOk (eithN p q) = true ∧ eithL p q = (eithN p q, true)) := by
  unfold eithL limN
  cases h1 : nfaOk p
  · exact .inl (if_neg (by simp))
  · cases h2 : nfaOk q
    · exact .inl (if_neg (by simp))
    · rw [if_pos ⟨rfl, rfl⟩]
      cases h3 : nfaOk (eithN p q)
      · exact .inl (if_neg (by simp))
      · exact .inr ⟨rfl, rfl, rfl, if_pos rfl⟩
theorem eithL_bad {p q : NfaD} (h : nfaOk p = false ∨ nfaOk q = false) : eithL p q = (zeN, false) := by
  rcases eithL_cases p q with h2 | ⟨h1, h2, -⟩
  · exact h2
  · rcases h with h | h
    · rw [h] at h1; cases h1
    · rw [h] at h2; cases h2
theorem eithL_good {p q : NfaD} (h1 : nfaOk p = true) (h2 : nfaOk q = true) : eithL p q = limN (eithN p q) := if_pos ⟨h1, h2⟩
theorem eithL_true {p q X : NfaD} (h : eithL p q = (X, true)) : nfaOk p = true ∧ nfaOk q = true ∧ nfaOk X = true ∧ X = eithN p q := by
  rcases eithL_cases p q with h2 | ⟨a1, a2, a3, h2⟩ <;> rw [h2] at h <;> injection h with h3 h4
  · cases h4
  · subst h3
    exact ⟨a1, a2, a3, rfl⟩
theorem eithL_false {p q X : NfaD} (h : eithL p q = (X, false)) : X = zeN := by
  rcases eithL_cases p q with h2 | ⟨-, -, -, h2⟩ <;> rw [h2] at h <;> injection h with h3 h4
  · exact h3.symm
  · cases h4
theorem eithL_bound {p q X : NfaD} {ok : Bool} (h : eithL p q = (X, ok)) : -9223372036854775808 ≤ X.states ∧ X.states ≤ 9223372036854775807 := by
  cases ok
  · rw [eithL_false h]
    simp [zeN]
  · obtain ⟨-, -, h1, -⟩ := eithL_true h
    obtain ⟨m, hm, hm40, -⟩ := nfaOk_facts h1
    omega
set_option maxRecDepth 100000 in
set_option maxHeartbeats 8000000 in
theorem implEitherR_any (p q X : NfaD) (ok : Bool) (v u : Value) (w : World) (hX : eithL p q = (X, ok)) (hp : NfaR 0 w v p) (hq : NfaR 0 w u q) :
    Calls Try.prog 60 #[v, u] w fun e w' => RNt X ok w e w' := by
  have P := Lib.hid hp
  have Q := Lib.hid hq
  obtain ⟨v1, v2, v3, rfl, h1, h2, h3, -, -⟩ := hp
  obtain ⟨u1, u2, u3, rfl, g1, g2, g3, -, -⟩ := hq
  have hS0 := (((St.start w).alloc _ rfl #[.int .i64 p.states, v1, v2, v3] 46).alloc (w.heap.size + 1) (by simp) #[.int .i64 q.states, u1, u2, u3] 46).alloc (w.heap.size + 1 + 1) (by simp) #[.int .i64 0, .slice none 0 0, .slice none 0 0, .slice none 0 0] 46
  have e0 := hS0.cell (v := .int .i64 p.states) 0 0 rfl rfl
  have e1 := hS0.cell (v := v1) 0 1 rfl rfl
  have e2 := hS0.cell (v := v2) 0 2 rfl rfl
  have e3 := hS0.cell (v := v3) 0 3 rfl rfl
  cases hp : nfaOk p
  · rw [eithL_bad (.inl hp)] at hX
    injection hX with hX hk
    subst hX hk
    have Hhp := Lib.hid hp; clear hp
    have HhS0 := Lib.hid hS0; clear hS0
    clear h1 h2 h3 g1 g2 g3
    go_enter Try.func60, Try.ntmps60
    go_wp2_with fail
    refine (implNfaValid_any p _ _ (P.out.below HhS0.out.bel) false Hhp.out).mono ?_
    rintro e w1 ⟨rfl, hb1⟩
    have HS1 := Lib.hid (HhS0.out.call hb1)
    clear hb1 e0 e1 e2 e3
    have f0 := HS1.out.fr 2 0 rfl
    have k0 := HS1.out.cell (v := .int .i64 0) 2 0 rfl rfl
    have f1 := HS1.out.fr 2 1 rfl
    have k1 := HS1.out.cell (v := .slice none 0 0) 2 1 rfl rfl
    have f2 := HS1.out.fr 2 2 rfl
    have k2 := HS1.out.cell (v := .slice none 0 0) 2 2 rfl rfl
    have f3 := HS1.out.fr 2 3 rfl
    have k3 := HS1.out.cell (v := .slice none 0 0) 2 3 rfl rfl
    have hq := (((HS1.out.set 2 rfl 0 (.int .i64 0)).set 2 rfl 1 (.slice none 0 0)).set 2 rfl 2 (.slice none 0 0)).set 2 rfl 3 (.slice none 0 0)
    have Hq := Lib.hid hq
    have q0 := hq.cell (v := .int .i64 0) 2 0 rfl rfl
    have q1 := hq.cell (v := .slice none 0 0) 2 1 rfl rfl
    have q2 := hq.cell (v := .slice none 0 0) 2 2 rfl rfl
    have q3 := hq.cell (v := .slice none 0 0) 2 3 rfl rfl
    clear hq
    go_wp2
    refine bodyPost_ret (v := .tuple #[.agg #[.int .i64 0, .slice none 0 0, .slice none 0 0, .slice none 0 0], .bool false]) (by simp [results, Try.results60, go_sem, q0, q1, q2, q3]) rfl ?_
    exact rnt_zero Hq.out.bel
  · cases hq : nfaOk q
    · rw [eithL_bad (.inr hq)] at hX
      injection hX with hX hk
      subst hX hk
      have Hhp := Lib.hid hp; clear hp
      have Hhq := Lib.hid hq; clear hq
      have HhS0 := Lib.hid hS0; clear hS0
      clear h1 h2 h3 g1 g2 g3
      go_enter Try.func60, Try.ntmps60
      go_wp2_with fail
      refine (implNfaValid_any p _ _ (P.out.below HhS0.out.bel) true Hhp.out).mono ?_
      rintro e w1 ⟨rfl, hb1⟩
      have HS1 := Lib.hid (HhS0.out.call hb1)
      clear hb1 e0 e1 e2 e3
      have e0 := HS1.out.cell (v := .int .i64 q.states) 1 0 rfl rfl
      have e1 := HS1.out.cell (v := u1) 1 1 rfl rfl
      have e2 := HS1.out.cell (v := u2) 1 2 rfl rfl
      have e3 := HS1.out.cell (v := u3) 1 3 rfl rfl
      go_wp2_with fail
      refine (implNfaValid_any q _ _ (Q.out.below HS1.out.bel) false Hhq.out).mono ?_
      rintro e w2 ⟨rfl, hb2⟩
      have HS2 := Lib.hid (HS1.out.call hb2)
      clear hb2 e0 e1 e2 e3
      have f0 := HS2.out.fr 2 0 rfl
      have k0 := HS2.out.cell (v := .int .i64 0) 2 0 rfl rfl
      have f1 := HS2.out.fr 2 1 rfl
      have k1 := HS2.out.cell (v := .slice none 0 0) 2 1 rfl rfl
      have f2 := HS2.out.fr 2 2 rfl
      have k2 := HS2.out.cell (v := .slice none 0 0) 2 2 rfl rfl
      have f3 := HS2.out.fr 2 3 rfl
      have k3 := HS2.out.cell (v := .slice none 0 0) 2 3 rfl rfl
      have hq := (((HS2.out.set 2 rfl 0 (.int .i64 0)).set 2 rfl 1 (.slice none 0 0)).set 2 rfl 2 (.slice none 0 0)).set 2 rfl 3 (.slice none 0 0)
      have Hq := Lib.hid hq
      have q0 := hq.cell (v := .int .i64 0) 2 0 rfl rfl
      have q1 := hq.cell (v := .slice none 0 0) 2 1 rfl rfl
      have q2 := hq.cell (v := .slice none 0 0) 2 2 rfl rfl
      have q3 := hq.cell (v := .slice none 0 0) 2 3 rfl rfl
      clear hq
      go_wp2
      refine bodyPost_ret (v := .tuple #[.agg #[.int .i64 0, .slice none 0 0, .slice none 0 0, .slice none 0 0], .bool false]) (by simp [results, Try.results60, go_sem, q0, q1, q2, q3]) rfl ?_
      exact rnt_zero Hq.out.bel
    · rw [eithL_good hp hq] at hX
      have Hst := Lib.hid (fun (z : World) (hz : Below w.heap.size w z) => eitherNfa_any p q v1 v2 v3 u1 u2 u3 z hp hq (h1.below hz) (h2.below hz) (h3.below hz) (g1.below hz) (g2.below hz) (g3.below hz))
      obtain ⟨N, hN⟩ : ∃ N, N = eithN p q := ⟨_, rfl⟩
      have hNs : -9223372036854775808 ≤ N.states ∧ N.states ≤ 9223372036854775807 := by
        obtain ⟨a, ha, ha40, -⟩ := nfaOk_facts hp
        obtain ⟨b, hb, hb40, -⟩ := nfaOk_facts hq
        rw [hN]
        simp only [eithN, shN]
        omega
      obtain ⟨hNs0, hNs1⟩ := hNs
      rw [← hN] at Hst hX
      cases hNk : nfaOk N
      · have hlm : limN N = (zeN, false) := if_neg (by rw [hNk]; simp)
        rw [hlm] at hX
        injection hX with hX hk
        subst hX hk
        have Hhp := Lib.hid hp; clear hp
        have Hhq := Lib.hid hq; clear hq
        have HhN := Lib.hid hN; clear hN
        have HhNk := Lib.hid hNk; clear hNk
        have HhS0 := Lib.hid hS0; clear hS0
        clear h1 h2 h3 g1 g2 g3 hlm
        go_enter Try.func60, Try.ntmps60
        go_wp2_with fail
        refine (implNfaValid_any p _ _ (P.out.below HhS0.out.bel) true Hhp.out).mono ?_
        rintro e w1 ⟨rfl, hb1⟩
        have HS1 := Lib.hid (HhS0.out.call hb1)
        clear hb1 e0 e1 e2 e3
        have e0 := HS1.out.cell (v := .int .i64 q.states) 1 0 rfl rfl
        have e1 := HS1.out.cell (v := u1) 1 1 rfl rfl
        have e2 := HS1.out.cell (v := u2) 1 2 rfl rfl
        have e3 := HS1.out.cell (v := u3) 1 3 rfl rfl
        go_wp2_with fail
        refine (implNfaValid_any q _ _ (Q.out.below HS1.out.bel) true Hhq.out).mono ?_
        rintro e w2 ⟨rfl, hb2⟩
        have HS2 := Lib.hid (HS1.out.call hb2)
        clear hb2 e0 e1 e2 e3
        have e0 := HS2.out.cell (v := .int .i64 p.states) 0 0 rfl rfl
        have e1 := HS2.out.cell (v := v1) 0 1 rfl rfl
        have e2 := HS2.out.cell (v := v2) 0 2 rfl rfl
        have e3 := HS2.out.cell (v := v3) 0 3 rfl rfl
        have g0 := HS2.out.cell (v := .int .i64 q.states) 1 0 rfl rfl
        have g1 := HS2.out.cell (v := u1) 1 1 rfl rfl
        have g2 := HS2.out.cell (v := u2) 1 2 rfl rfl
        have g3 := HS2.out.cell (v := u3) 1 3 rfl rfl
        go_wp2_with fail
        refine (Hst.out _ HS2.out.bel).mono ?_
        rintro e w3 ⟨a1, c1, a2, c2, a3, c3, rfl, hS'⟩
        have HS3 := Lib.hid (HS2.out.cat hS')
        clear hS' e0 e1 e2 e3 g0 g1 g2 g3
        have HN := Lib.hid (nfaR_of (moves_of_row (HS3.out.row 3 rfl)) (ints_of_row' (HS3.out.row 4 rfl)) (ints_of_row' (HS3.out.row 5 rfl)) hNs0 hNs1)
        go_wp2_with fail
        refine (checked_any N _ _ _ _ false HhNk.out HN.out).mono ?_
        rintro e w4 ⟨rfl, hb4⟩
        have HS4 := Lib.hid (HS3.out.call hb4)
        clear hb4
        have f0 := HS4.out.fr 2 0 rfl
        have k0 := HS4.out.cell (v := .int .i64 0) 2 0 rfl rfl
        have f1 := HS4.out.fr 2 1 rfl
        have k1 := HS4.out.cell (v := .slice none 0 0) 2 1 rfl rfl
        have f2 := HS4.out.fr 2 2 rfl
        have k2 := HS4.out.cell (v := .slice none 0 0) 2 2 rfl rfl
        have f3 := HS4.out.fr 2 3 rfl
        have k3 := HS4.out.cell (v := .slice none 0 0) 2 3 rfl rfl
        have hq := (((HS4.out.set 2 rfl 0 (.int .i64 0)).set 2 rfl 1 (.slice none 0 0)).set 2 rfl 2 (.slice none 0 0)).set 2 rfl 3 (.slice none 0 0)
        have Hq := Lib.hid hq
        have q0 := hq.cell (v := .int .i64 0) 2 0 rfl rfl
        have q1 := hq.cell (v := .slice none 0 0) 2 1 rfl rfl
        have q2 := hq.cell (v := .slice none 0 0) 2 2 rfl rfl
        have q3 := hq.cell (v := .slice none 0 0) 2 3 rfl rfl
        clear hq
        simp only [↓reduceIte, Bool.false_eq_true]
        go_wp2
        refine bodyPost_ret (v := .tuple #[.agg #[.int .i64 0, .slice none 0 0, .slice none 0 0, .slice none 0 0], .bool false]) (by simp [results, Try.results60, go_sem, q0, q1, q2, q3]) rfl ?_
        exact rnt_zero Hq.out.bel
      · have hlm : limN N = (N, true) := if_pos hNk
        rw [hlm] at hX
        injection hX with hX hk
        subst hX hk
        have Hhp := Lib.hid hp; clear hp
        have Hhq := Lib.hid hq; clear hq
        have HhN := Lib.hid hN; clear hN
        have HhNk := Lib.hid hNk; clear hNk
        have HhS0 := Lib.hid hS0; clear hS0
        clear h1 h2 h3 g1 g2 g3 hlm
        go_enter Try.func60, Try.ntmps60
        go_wp2_with fail
        refine (implNfaValid_any p _ _ (P.out.below HhS0.out.bel) true Hhp.out).mono ?_
        rintro e w1 ⟨rfl, hb1⟩
        have HS1 := Lib.hid (HhS0.out.call hb1)
        clear hb1 e0 e1 e2 e3
        have e0 := HS1.out.cell (v := .int .i64 q.states) 1 0 rfl rfl
        have e1 := HS1.out.cell (v := u1) 1 1 rfl rfl
        have e2 := HS1.out.cell (v := u2) 1 2 rfl rfl
        have e3 := HS1.out.cell (v := u3) 1 3 rfl rfl
        go_wp2_with fail
        refine (implNfaValid_any q _ _ (Q.out.below HS1.out.bel) true Hhq.out).mono ?_
        rintro e w2 ⟨rfl, hb2⟩
        have HS2 := Lib.hid (HS1.out.call hb2)
        clear hb2 e0 e1 e2 e3
        have e0 := HS2.out.cell (v := .int .i64 p.states) 0 0 rfl rfl
        have e1 := HS2.out.cell (v := v1) 0 1 rfl rfl
        have e2 := HS2.out.cell (v := v2) 0 2 rfl rfl
        have e3 := HS2.out.cell (v := v3) 0 3 rfl rfl
        have g0 := HS2.out.cell (v := .int .i64 q.states) 1 0 rfl rfl
        have g1 := HS2.out.cell (v := u1) 1 1 rfl rfl
        have g2 := HS2.out.cell (v := u2) 1 2 rfl rfl
        have g3 := HS2.out.cell (v := u3) 1 3 rfl rfl
        go_wp2_with fail
        refine (Hst.out _ HS2.out.bel).mono ?_
        rintro e w3 ⟨a1, c1, a2, c2, a3, c3, rfl, hS'⟩
        have HS3 := Lib.hid (HS2.out.cat hS')
        clear hS' e0 e1 e2 e3 g0 g1 g2 g3
        have HN := Lib.hid (nfaR_of (moves_of_row (HS3.out.row 3 rfl)) (ints_of_row' (HS3.out.row 4 rfl)) (ints_of_row' (HS3.out.row 5 rfl)) hNs0 hNs1)
        go_wp2_with fail
        refine (checked_any N _ _ _ _ true HhNk.out HN.out).mono ?_
        rintro e w4 ⟨rfl, hb4⟩
        have HS4 := Lib.hid (HS3.out.call hb4)
        clear hb4
        have f0 := HS4.out.fr 2 0 rfl
        have k0 := HS4.out.cell (v := .int .i64 0) 2 0 rfl rfl
        have f1 := HS4.out.fr 2 1 rfl
        have k1 := HS4.out.cell (v := .slice none 0 0) 2 1 rfl rfl
        have f2 := HS4.out.fr 2 2 rfl
        have k2 := HS4.out.cell (v := .slice none 0 0) 2 2 rfl rfl
        have f3 := HS4.out.fr 2 3 rfl
        have k3 := HS4.out.cell (v := .slice none 0 0) 2 3 rfl rfl
        have hq := (((HS4.out.set 2 rfl 0 (.int .i64 N.states)).set 2 rfl 1 (.slice a1 N.moves.length c1)).set 2 rfl 2 (.slice a2 N.firsts.length c2)).set 2 rfl 3 (.slice a3 N.ends.length c3)
        have Hq := Lib.hid hq
        have q0 := hq.cell (v := .int .i64 N.states) 2 0 rfl rfl
        have q1 := hq.cell (v := .slice a1 N.moves.length c1) 2 1 rfl rfl
        have q2 := hq.cell (v := .slice a2 N.firsts.length c2) 2 2 rfl rfl
        have q3 := hq.cell (v := .slice a3 N.ends.length c3) 2 3 rfl rfl
        clear hq
        simp only [↓reduceIte]
        go_wp2
        refine bodyPost_ret (v := .tuple #[.agg #[.int .i64 N.states, .slice a1 N.moves.length c1, .slice a2 N.firsts.length c2, .slice a3 N.ends.length c3], .bool true]) (by simp [results, Try.results60, go_sem, q0, q1, q2, q3]) rfl ?_
        exact ⟨a1, c1, a2, c2, a3, c3, rfl, Hq.out.pick [3, 4, 5] (by decide)⟩
theorem specEitherR_any (p q X : NfaD) (ok : Bool) (v u : Value) (w : World) (hX : eithL p q = (X, ok)) (hp : NfaR 0 w v p) (hq : NfaR 0 w u q) :
    Calls Try.prog 61 #[v, u] w fun e w' => RNt X ok w e w' := by
  obtain ⟨v1, v2, v3, rfl, h1, h2, h3, hs0, hs1⟩ := hp
  obtain ⟨u1, u2, u3, rfl, g1, g2, g3, gs0, gs1⟩ := hq
  have := eith_any p q v1 v2 v3 u1 u2 u3 w h1 h2 h3 g1 g2 g3 hs0 hs1 gs0 gs1
  rwa [hX] at this
end Go.Proofs.Ytolkifpeblbfcaa
