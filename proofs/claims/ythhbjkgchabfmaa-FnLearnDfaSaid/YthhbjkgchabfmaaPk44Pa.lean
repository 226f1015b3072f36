/-
  An automaton that a call hands back, as one thing in memory; the walks over Minimize, of the program and of the reference.
  Condition: the automaton is valid and reads as such.
-/
import Derived.Test.YthhbjkgchabfmaaPk25Pa
import Derived.Test.YthhbjkgchabfmaaPk35My
namespace Go.Proofs.Ythhbjkgchabfmaa
open Go.RowKit
theorem St.dfaVr {w0 w : World} {L : List Ent} (h : St w0 w L) (i : Nat) {B H : Nat} {v1 v2 : Value} {D : DfaD} (hx : L[i]? = some (DfaV B H v1 v2 D)) : DfaR 0 w (.agg #[v1, v2]) D := by
  have hE := h.has i _ hx
  obtain ⟨⟨w', h1, ⟨x1, x2, hv, ⟨vs, h2, h3⟩, h4⟩, h5⟩, hf⟩ := hE
  simp only [Value.agg.injEq, Array.mk.injEq, List.cons.injEq, and_true] at hv
  obtain ⟨rfl, rfl⟩ := hv
  by_cases hlt : B < H
  · have hs : w'.heap.size ≤ w.heap.size := by
      have : H - 1 < w.heap.size := (hf (H - 1) (show B ≤ H - 1 ∧ H - 1 < H by omega)).2
      omega
    have hk : ∀ k, B ≤ k → k < w'.heap.size → w.heap[k]? = w'.heap[k]? := fun k p q => h5 k p (by omega)
    exact ⟨_, _, rfl, ⟨vs, h2.keptJ (Nat.zero_le _) hs hk, fun i hi => Sl.keptJ (h3 i hi) (Nat.zero_le _) hs hk⟩, Sl.keptJ h4 (Nat.zero_le _) hs hk⟩
  · have hno : ∀ {v : Value} {n size : Nat} {cs : List Value}, Sl B w' v n size cs → 0 < size → Sl 0 w v n size cs := fun {v n size cs} hs hz => by
      obtain ⟨g1, a, cap, g2, g3, g4, g5⟩ := hs
      refine ⟨g1, a, cap, g2, g3, g4, fun hn => ?_⟩
      obtain ⟨b, off, -, p, q, -⟩ := g5 hn
      omega
    exact ⟨_, _, rfl, ⟨vs, hno h2 (by omega), fun i hi => hno (h3 i hi) (by omega)⟩, hno h4 (by omega)⟩
end Go.Proofs.Ythhbjkgchabfmaa
namespace Go.Proofs.Ythhbjkgchabfmaa
open Go.RowKit Go.Maps
def sameB (a b : DfaD) : Bool := dfaOk a.next a.ends && dfaOk b.next b.ends && (hitP a b).isNone
set_option maxHeartbeats 1600000 in
theorem implSame_any (a b : DfaD) (v1 v2 : Value) (w : World) (h1 : DfaR 0 w v1 a) (h2 : DfaR 0 w v2 b) (r : Bool) (hr : sameB a b = r) :
    Calls Try.prog 40 #[v1, v2] w fun e w' => e = .returned (.bool r) ∧ Below w.heap.size w w' := by
  obtain ⟨u1, u2, rfl, g1, g2⟩ := h1
  obtain ⟨u3, u4, rfl, g3, g4⟩ := h2
  have hb2 : Below w.heap.size w ((w.alloc (.cells #[u1, u2] 26)).alloc (.cells #[u3, u4] 26)) := ((Below.refl _ _).alloc (Nat.le_refl _) _).alloc (by simp) _
  have H1 : Hid (DfaR 0 ((w.alloc (.cells #[u1, u2] 26)).alloc (.cells #[u3, u4] 26)) (.agg #[u1, u2]) a) := Lib.hid ⟨_, _, rfl, g1.below hb2, g2.below hb2⟩
  have H2 : Hid (DfaR 0 ((w.alloc (.cells #[u1, u2] 26)).alloc (.cells #[u3, u4] 26)) (.agg #[u3, u4]) b) := Lib.hid ⟨_, _, rfl, g3.below hb2, g4.below hb2⟩
  have x0 : Bx ((w.alloc (.cells #[u1, u2] 26)).alloc (.cells #[u3, u4] 26)) w.heap.size #[u1, u2] 26 := (Bx.new w _ _).alloc _
  have x1 : Bx ((w.alloc (.cells #[u1, u2] 26)).alloc (.cells #[u3, u4] 26)) (w.heap.size + 1) #[u3, u4] 26 := by simpa using Bx.new (w.alloc (.cells #[u1, u2] 26)) #[u3, u4] 26
  obtain ⟨s, hs⟩ := wordRes_cases (hitP a b)
  have Hhb2 := Lib.hid hb2; clear hb2
  have Hhs := Lib.hid hs; clear hs
  have Hhr := Lib.hid hr; clear hr
  have Hx0 := Lib.hid x0; clear x0
  have Hx1 := Lib.hid x1; clear x1
  clear g1 g2 g3 g4
  cases hda : dfaOk a.next a.ends
  all_goals
    have Hhda := Lib.hid hda; clear hda
    go_enter Try.func40, Try.ntmps40
    go_wp2_with fail
    refine (implDfaValid_any a _ _ H1.out _ Hhda.out).mono ?_
    rintro e w1 ⟨rfl, hb1⟩
    have y0 := Hx0.out.below hb1 Hx0.out.lt
    have y1 := Hx1.out.below hb1 Hx1.out.lt
    have c0 := y1.cell 0
    have c1 := y1.cell 1
    simp only [List.getElem?_toArray, List.getElem?_cons_zero, List.getElem?_cons_succ] at c0 c1
    have hbw := Hhb2.out.trans (hb1.mono Hhb2.out.size)
    have R1 := Lib.hid (H1.out.below hb1)
    have R2 := Lib.hid (H2.out.below hb1)
    have Hhb1 := Lib.hid hb1; clear hb1
    have Hhbw := Lib.hid hbw; clear hbw
    have Hy0 := Lib.hid y0; clear y0
    have Hy1 := Lib.hid y1; clear y1
  · go_wp2
    go_ret
    exact ⟨by rw [← Hhr.out, sameB, Hhda.out]; rfl, Hhbw.out⟩
  · cases hdb : dfaOk b.next b.ends
    all_goals
      have Hhdb := Lib.hid hdb; clear hdb
      go_wp2_with fail
      refine (implDfaValid_any b _ _ R2.out _ Hhdb.out).mono ?_
      rintro e w2 ⟨rfl, hb2⟩
      have z0 := Hy0.out.below hb2 Hy0.out.lt
      have z1 := Hy1.out.below hb2 Hy1.out.lt
      have hbv := Hhbw.out.trans (hb2.mono Hhbw.out.size)
      have Q1 := Lib.hid (R1.out.below hb2)
      have Q2 := Lib.hid (R2.out.below hb2)
      have e0 := z0.cell 0
      have e1 := z0.cell 1
      have e2 := z1.cell 0
      have e3 := z1.cell 1
      simp only [List.getElem?_toArray, List.getElem?_cons_zero, List.getElem?_cons_succ] at e0 e1 e2 e3
      have Hhb2 := Lib.hid hb2; clear hb2
      have Hhbv := Lib.hid hbv; clear hbv
      have Hz0 := Lib.hid z0; clear z0
      have Hz1 := Lib.hid z1; clear z1
      clear c0 c1
    · go_wp2
      go_ret
      exact ⟨by rw [← Hhr.out, sameB, Hhda.out, Hhdb.out]; rfl, Hhbv.out⟩
    · go_wp2_with fail
      refine (differ_any a b _ _ _ Hhda.out Hhdb.out Q1.out Q2.out).mono ?_
      rintro e w3 ⟨he, hb3⟩
      rw [Hhs.out] at he
      subst he
      have hbx := Hhbv.out.trans (hb3.mono Hhbv.out.size)
      have Hhbx := Lib.hid hbx; clear hbx
      clear hb3
      go_wp2
      go_ret
      refine ⟨?_, Hhbx.out⟩
      rw [← Hhr.out, sameB, Hhda.out, Hhdb.out]
      cases hitP a b <;> rfl
end Go.Proofs.Ythhbjkgchabfmaa
namespace Go.Proofs.Ythhbjkgchabfmaa
open Go.RowKit
theorem sameB_iff {a b : DfaD} : sameB a b = true ↔ dfaOk a.next a.ends = true ∧ dfaOk b.next b.ends = true ∧ ∀ w, isW w → accD a w = accD b w := by
  unfold sameB
  rw [Bool.and_eq_true, Bool.and_eq_true, Option.isNone_iff_eq_none, and_assoc]
  constructor
  · rintro ⟨ha, hb, h⟩
    exact ⟨ha, hb, (hitK_iff ha hb mostP_ge).1 h⟩
  · rintro ⟨ha, hb, h⟩
    exact ⟨ha, hb, (hitK_iff ha hb mostP_ge).2 h⟩
end Go.Proofs.Ythhbjkgchabfmaa
