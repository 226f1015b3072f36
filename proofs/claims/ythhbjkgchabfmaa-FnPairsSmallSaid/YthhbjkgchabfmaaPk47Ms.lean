/-
  The walks over the draws of one automaton.
  Condition: the argument reads as bytes.
  spec.Minimize, walked.
  Condition: the argument reads as an automaton.
-/
import Derived.Test.YthhbjkgchabfmaaPk17Jg
import Derived.Test.YthhbjkgchabfmaaPk21My
import Derived.Test.YthhbjkgchabfmaaPk25Md
namespace Go.Proofs.Ythhbjkgchabfmaa
open Go.RowKit

set_option maxRecDepth 100000 in
set_option maxHeartbeats 4000000 in
theorem drawMinimizeD_any (bs : List Nat) (v : Value) (w : World) (hb : Bytes 0 w v bs) (hlen : bs.length ≤ 100000000) :
    Calls Try.prog 36 #[v] w fun e w' => RDraw w e w' := by
  have hS0 := (St.start w).alloc _ rfl #[.slice none 0 0, .slice none 0 0] 26
  have Hb := Lib.hid hb
  have HhS0 := Lib.hid hS0; clear hS0
  clear hb
  go_enter Try.func36, Try.ntmps36
  go_wp2_with fail
  refine (openJ_any bs v _ (Hb.out.below HhS0.out.bel) hlen).mono ?_
  rintro e w1 ⟨vb, bs', hl', hB, rfl, hS'⟩
  obtain ⟨b, hbb⟩ : ∃ b, b = (w.alloc (.cells #[.slice none 0 0, .slice none 0 0] 26)).heap.size := ⟨_, rfl⟩
  rw [← hbb] at hS'
  rw [← hbb]
  have hB1 := hB w Hb.out
  have HB := Lib.hid hB1
  have HS1 := Lib.hid ((HhS0.out.cat hS').pick [1, 0] (by decide))
  have Hhbb := Lib.hid hbb; clear hbb
  clear hS' hB hB1
  go_wp2_with fail
  refine (l20Dfa_any bs' vb b 0 12 w w1 _ HB.out hl' (by omega) (by omega) HS1.out).mono ?_
  rintro e w2 ⟨D, pn, a1, a2, c1, c2, vs, E, hpn, hsm, rfl, hh, hS2⟩
  have HS := Lib.hid hS2
  clear hS2
  have f0 := HS.out.fr 1 0 rfl
  have k0 := HS.out.cell (v := .slice none 0 0) 1 0 rfl rfl
  have f1 := HS.out.fr 1 1 rfl
  have k1 := HS.out.cell (v := .slice none 0 0) 1 1 rfl rfl
  have HS3 := Lib.hid ((HS.out.set 1 rfl 0 (.slice a1 D.next.length c1)).set 1 rfl 1 (.slice a2 D.ends.length c2))
  have q0 := HS3.out.cell (v := .slice a1 D.next.length c1) 1 0 rfl rfl
  have q1 := HS3.out.cell (v := .slice a2 D.ends.length c2) 1 1 rfl rfl
  go_wp2
  refine bodyPost_ret (v := .agg #[.slice a1 D.next.length c1, .slice a2 D.ends.length c2]) (by simp [results, Try.results36, go_sem, q0, q1]) rfl ?_
  exact ⟨D, a1, a2, c1, c2, hsm, rfl, hh.r HS3.out 2 rfl, HS3.out.bel⟩
end Go.Proofs.Ythhbjkgchabfmaa

namespace Go.Proofs.Ythhbjkgchabfmaa
open Go.RowKit

set_option maxRecDepth 100000 in
set_option maxHeartbeats 4000000 in
theorem specMinimize_any (d : DfaD) (D : DfaD) (hD : minQ d = D) (v : Value) (w : World) (h : DfaR 0 w v d) :
    Calls Try.prog 37 #[v] w fun e w' => RDs D w e w' := by
  have H := Lib.hid h
  obtain ⟨v1, v2, rfl, g1, g2⟩ := h
  have hS0 := ((St.start w).alloc _ rfl #[v1, v2] 26).alloc (w.heap.size + 1) (by simp) #[.slice none 0 0, .slice none 0 0] 26
  have e0 := hS0.cell (v := v1) 0 0 rfl rfl
  have e1 := hS0.cell (v := v2) 0 1 rfl rfl
  have HhS0 := Lib.hid hS0; clear hS0
  clear g1 g2
  cases hok : dfaOk d.next d.ends
  · have hz : D = ⟨[], []⟩ := by rw [← hD]; unfold minQ; rw [if_neg (by rw [hok]; simp)]
    subst hz
    have Hhok := Lib.hid hok; clear hok
    clear hD
    go_enter Try.func37, Try.ntmps37
    go_wp2_with fail
    refine (specDfaValidD2_any d _ _ (H.out.below HhS0.out.bel) _ Hhok.out).mono ?_
    rintro e w1 ⟨rfl, hb1⟩
    have HS1 := Lib.hid (HhS0.out.call hb1)
    clear hb1 e0 e1
    have f0 := HS1.out.fr 1 0 rfl
    have f1 := HS1.out.fr 1 1 rfl
    have k0 := HS1.out.cell (v := .slice none 0 0) 1 0 rfl rfl
    have k1 := HS1.out.cell (v := .slice none 0 0) 1 1 rfl rfl
    go_wp2
    have hq := (HS1.out.set 1 rfl 0 (.slice none 0 0)).set 1 rfl 1 (.slice none 0 0)
    have q0 := hq.cell (v := .slice none 0 0) 1 0 rfl rfl
    have q1 := hq.cell (v := .slice none 0 0) 1 1 rfl rfl
    refine bodyPost_ret (v := .agg #[.slice none 0 0, .slice none 0 0]) (by simp [results, Try.results37, go_sem, q0, q1]) rfl ?_
    exact ⟨none, 0, none, 0, rfl, nil_r _ _, hq.bel⟩
  · have hz : smallD d = D := by rw [← hD]; unfold minQ; rw [if_pos hok]; exact small_min (fine_of hok)
    have Hhok := Lib.hid hok; clear hok
    have Hz := Lib.hid hz
    clear hD hz
    go_enter Try.func37, Try.ntmps37
    go_wp2_with fail
    refine (specDfaValidD2_any d _ _ (H.out.below HhS0.out.bel) _ Hhok.out).mono ?_
    rintro e w1 ⟨rfl, hb1⟩
    have HS1 := Lib.hid (HhS0.out.call hb1)
    clear hb1 e0 e1
    have e0 := HS1.out.cell (v := v1) 0 0 rfl rfl
    have e1 := HS1.out.cell (v := v2) 0 1 rfl rfl
    go_wp2_with fail
    refine (l10Small_any d _ _ Hhok.out (H.out.below HS1.out.bel)).mono ?_
    rintro e w2 ⟨a1, c1, a2, c2, rfl, hdo, hb2⟩
    rw [Hz.out] at hdo
    rw [Hz.out]
    have HS2 := Lib.hid (HS1.out.call hb2)
    have HDr := Lib.hid hdo
    have hB1 := (HS1.out.boxlt 1 rfl).2
    have hsz := HS1.out.size
    clear hb2 hdo e0 e1
    have f0 := HS2.out.fr 1 0 rfl
    have f1 := HS2.out.fr 1 1 rfl
    have k0 := HS2.out.cell (v := .slice none 0 0) 1 0 rfl rfl
    have k1 := HS2.out.cell (v := .slice none 0 0) 1 1 rfl rfl
    go_wp2
    have hq := (HS2.out.set 1 rfl 0 (.slice a1 D.next.length c1)).set 1 rfl 1 (.slice a2 D.ends.length c2)
    have q0 := hq.cell (v := .slice a1 D.next.length c1) 1 0 rfl rfl
    have q1 := hq.cell (v := .slice a2 D.ends.length c2) 1 1 rfl rfl
    refine bodyPost_ret (v := .agg #[.slice a1 D.next.length c1, .slice a2 D.ends.length c2]) (by simp [results, Try.results37, go_sem, q0, q1]) rfl ?_
    exact ⟨a1, c1, a2, c2, rfl, ((HDr.out.far hB1 0 _).far hB1 1 _).mono hsz, hq.bel⟩
end Go.Proofs.Ythhbjkgchabfmaa
