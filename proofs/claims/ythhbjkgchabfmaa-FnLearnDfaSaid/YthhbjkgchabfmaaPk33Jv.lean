/-
  An automaton that a call hands back, as one thing in memory; the walks over Minimize, of the program and of the reference.
  Condition: the automaton is valid and reads as such.
-/
import Derived.Test.YthhbjkgchabfmaaPk20Mn
import Derived.Test.YthhbjkgchabfmaaPk23Lh
namespace Go.Proofs.Ythhbjkgchabfmaa
open Go.RowKit
def minQ (d : DfaD) : DfaD := if dfaOk d.next d.ends = true then minD d else ⟨[], []⟩
set_option maxRecDepth 100000 in
set_option maxHeartbeats 4000000 in
theorem implMinimize_any (d : DfaD) (D : DfaD) (hD : minQ d = D) (v : Value) (w : World) (h : DfaR 0 w v d) :
    Calls Try.prog 28 #[v] w fun e w' => RDs D w e w' := by
  have H := Lib.hid h
  obtain ⟨v1, v2, rfl, g1, g2⟩ := h
  have hS0 := ((St.start w).alloc _ rfl #[v1, v2] 26).alloc (w.heap.size + 1) (by simp) #[.slice none 0 0, .slice none 0 0] 26
  have e0 := hS0.cell (v := v1) 0 0 rfl rfl
  have e1 := hS0.cell (v := v2) 0 1 rfl rfl
  have HhS0 := Lib.hid hS0; clear hS0
  clear g1 g2
  cases hok : dfaOk d.next d.ends
  · have hz : D = ⟨[], []⟩ := by rw [← hD]; unfold minQ; rw [if_neg (by rw [hok]; simp)]
    subst hz
    have Hhok := Lib.hid hok; clear hok
    clear hD
    go_enter Try.func28, Try.ntmps28
    go_wp2_with fail
    refine (implDfaValid_any d _ _ (H.out.below HhS0.out.bel) _ Hhok.out).mono ?_
    rintro e w1 ⟨rfl, hb1⟩
    have HS1 := Lib.hid (HhS0.out.call hb1)
    clear hb1 e0 e1
    have f0 := HS1.out.fr 1 0 rfl
    have f1 := HS1.out.fr 1 1 rfl
    have k0 := HS1.out.cell (v := .slice none 0 0) 1 0 rfl rfl
    have k1 := HS1.out.cell (v := .slice none 0 0) 1 1 rfl rfl
    go_wp2
    have hq := (HS1.out.set 1 rfl 0 (.slice none 0 0)).set 1 rfl 1 (.slice none 0 0)
    have q0 := hq.cell (v := .slice none 0 0) 1 0 rfl rfl
    have q1 := hq.cell (v := .slice none 0 0) 1 1 rfl rfl
    refine bodyPost_ret (v := .agg #[.slice none 0 0, .slice none 0 0]) (by simp [results, Try.results28, go_sem, q0, q1]) rfl ?_
    exact ⟨none, 0, none, 0, rfl, nil_r _ _, hq.bel⟩
  · have hz : minD d = D := by rw [← hD]; unfold minQ; rw [if_pos hok]
    have Hhok := Lib.hid hok; clear hok
    have Hz := Lib.hid hz
    clear hD hz
    go_enter Try.func28, Try.ntmps28
    go_wp2_with fail
    refine (implDfaValid_any d _ _ (H.out.below HhS0.out.bel) _ Hhok.out).mono ?_
    rintro e w1 ⟨rfl, hb1⟩
    have HS1 := Lib.hid (HhS0.out.call hb1)
    clear hb1 e0 e1
    have e0 := HS1.out.cell (v := v1) 0 0 rfl rfl
    have e1 := HS1.out.cell (v := v2) 0 1 rfl rfl
    go_wp2_with fail
    refine (implMin_any d _ _ Hhok.out (H.out.below HS1.out.bel)).mono ?_
    rintro e w2 ⟨a1, c1, a2, c2, rfl, hdo, hb2⟩
    rw [Hz.out] at hdo
    rw [Hz.out]
    have HS2 := Lib.hid (HS1.out.call hb2)
    have HDr := Lib.hid hdo.r
    have hB1 := (HS1.out.boxlt 1 rfl).2
    have hsz := HS1.out.size
    clear hb2 hdo e0 e1
    have f0 := HS2.out.fr 1 0 rfl
    have f1 := HS2.out.fr 1 1 rfl
    have k0 := HS2.out.cell (v := .slice none 0 0) 1 0 rfl rfl
    have k1 := HS2.out.cell (v := .slice none 0 0) 1 1 rfl rfl
    go_wp2
    have hq := (HS2.out.set 1 rfl 0 (.slice a1 D.next.length c1)).set 1 rfl 1 (.slice a2 D.ends.length c2)
    have q0 := hq.cell (v := .slice a1 D.next.length c1) 1 0 rfl rfl
    have q1 := hq.cell (v := .slice a2 D.ends.length c2) 1 1 rfl rfl
    refine bodyPost_ret (v := .agg #[.slice a1 D.next.length c1, .slice a2 D.ends.length c2]) (by simp [results, Try.results28, go_sem, q0, q1]) rfl ?_
    exact ⟨a1, c1, a2, c2, rfl, ((HDr.out.far hB1 0 _).far hB1 1 _).mono hsz, hq.bel⟩
end Go.Proofs.Ythhbjkgchabfmaa
