/-
  The walks over the functions that hold two automata against each other.
  Conditions: both arguments read as automata.
-/
import Derived.Test.YtclhcfmlkfiidaaEq
import Derived.Test.YtclhcfmlkfiidaaOwn
namespace Go.Proofs.Ytclhcfmlkfiidaa
open Go.RowKit

theorem dfa_eq {d1 d2 : DfaD} : d1 = d2 ↔ d1.next = d2.next ∧ d1.ends = d2.ends := by
  obtain ⟨a, b⟩ := d1; obtain ⟨c, d⟩ := d2; simp
set_option maxHeartbeats 1600000 in
theorem eqDfa_any (d1 d2 : DfaD) (v1 v2 : Value) (w : World) (h1 : DfaR 0 w v1 d1) (h2 : DfaR 0 w v2 d2) (r : Bool) (hr : decide (d1 = d2) = r) :
    Calls Try.prog 16 #[v1, v2] w fun e w' => e = .returned (.bool r) ∧ Below w.heap.size w w' := by
  obtain ⟨u1, u2, rfl, g1, g2⟩ := h1
  obtain ⟨u3, u4, rfl, g3, g4⟩ := h2
  have H1 := Lib.hid g1
  have H2 := Lib.hid g2
  have H3 := Lib.hid g3
  have H4 := Lib.hid g4
  obtain ⟨a1, c1, rfl, -⟩ := g1.form
  obtain ⟨a2, c2, rfl, -⟩ := g2.form
  obtain ⟨a3, c3, rfl, -⟩ := g3.form
  obtain ⟨a4, c4, rfl, -⟩ := g4.form
  clear g1 g2 g3 g4
  have Hhr := Lib.hid hr; clear hr
  cases hn : decide (d1.next = d2.next)
  · have Hhn := Lib.hid hn; clear hn
    go_enter Try.func16, Try.ntmps16
    go_wp2_with fail
    refine (eqIntSS_any d1.next d2.next _ _ _ (H1.out.below (((Below.refl _ _).alloc (Nat.le_refl _) _).alloc (by simp) _)) (H3.out.below (((Below.refl _ _).alloc (Nat.le_refl _) _).alloc (by simp) _)) _ Hhn.out).mono ?_
    rintro e w2 ⟨rfl, hb2⟩
    have Hhb2 := Lib.hid hb2; clear hb2
    go_wp2
    go_ret
    exact ⟨by rw [← Hhr.out, decide_eq_false (fun h => of_decide_eq_false Hhn.out (dfa_eq.1 h).1)]; rfl, (((Below.refl _ _).alloc (Nat.le_refl _) _).alloc (by simp) _).trans (Hhb2.out.mono (by simp; omega))⟩
  · have Hhn := Lib.hid hn; clear hn
    cases he : decide (d1.ends = d2.ends)
    all_goals
      have Hhe := Lib.hid he; clear he
      go_enter Try.func16, Try.ntmps16
      go_wp2_with fail
      refine (eqIntSS_any d1.next d2.next _ _ _ (H1.out.below (((Below.refl _ _).alloc (Nat.le_refl _) _).alloc (by simp) _)) (H3.out.below (((Below.refl _ _).alloc (Nat.le_refl _) _).alloc (by simp) _)) _ Hhn.out).mono ?_
      rintro e w2 ⟨rfl, hb2⟩
      have hbw : Below w.heap.size w w2 := (((Below.refl _ _).alloc (Nat.le_refl _) _).alloc (by simp) _).trans (hb2.mono (by simp; omega))
      have x0 := (((Bx.new w _ _).alloc _).below hb2 (by simp; omega)).cell 1
      have x1 := ((Bx.new (w.alloc _) _ _).below hb2 (by simp)).cell 1
      simp only [List.getElem?_toArray, List.getElem?_cons_zero, List.getElem?_cons_succ, World.size_alloc] at x0 x1
      have Hhb2 := Lib.hid hb2; clear hb2
      have Hhbw := Lib.hid hbw; clear hbw
      go_wp2_with fail
      refine (eqBoolS_any d1.ends d2.ends _ _ _ (H2.out.below Hhbw.out) (H4.out.below Hhbw.out) _ Hhe.out).mono ?_
      rintro e w3 ⟨rfl, hb3⟩
      have Hhb3 := Lib.hid hb3; clear hb3
      go_wp2
      go_ret
    · exact ⟨by rw [← Hhr.out, decide_eq_false (fun h => of_decide_eq_false Hhe.out (dfa_eq.1 h).2)]; rfl, Hhbw.out.trans (Hhb3.out.mono Hhbw.out.size)⟩
    · exact ⟨by rw [← Hhr.out, decide_eq_true (dfa_eq.2 ⟨of_decide_eq_true Hhn.out, of_decide_eq_true Hhe.out⟩)]; rfl, Hhbw.out.trans (Hhb3.out.mono Hhbw.out.size)⟩
end Go.Proofs.Ytclhcfmlkfiidaa
