/-
  The walk over the law FnExactGuessCount: whatever the argument, it answers true and leaves old memory alone.
  Conditions: the argument reads as such data.
-/
import Derived.Test.YtclhcfmlkfiidaaLk
import Derived.Test.YtclhcfmlkfiidaaCtx
import Derived.Test.YtclhcfmlkfiidaaSz
import Derived.Test.YtclhcfmlkfiidaaTo
import Derived.Test.YtclhcfmlkfiidaaEqd
import Derived.Test.YtclhcfmlkfiidaaMk
import Derived.Test.YtclhcfmlkfiidaaLb
namespace Go.Proofs.Ytclhcfmlkfiidaa
open Go.RowKit Go.Maps

set_option maxRecDepth 100000 in
set_option maxHeartbeats 16000000 in
theorem exactGuessCount_walk (a : DfaD) (v1 : Value) (w : World) (h1 : DfaR 0 w v1 a) :
    Calls Try.prog 5 #[v1] w fun e w' => e = .returned (.bool true) ∧ Below w.heap.size w w' := by
  have H1 := Lib.hid h1
  obtain ⟨a1, ac1, a2, ac2, rfl⟩ := h1.shape
  obtain ⟨J, hJ⟩ := lastG_ex a
  obtain ⟨r, hr⟩ : ∃ r : Int, (if dfaOk a.next a.ends = true then (J : Int) + 1 else -1) = r := ⟨_, rfl⟩
  have HhJ := Lib.hid hJ; clear hJ
  have Hhr := Lib.hid hr; clear hr
  have HS : Hid (St w (w.alloc (.cells #[.slice a1 a.next.length ac1, .slice a2 a.ends.length ac2] 25)) [Ent.box w.heap.size #[.slice a1 a.next.length ac1, .slice a2 a.ends.length ac2] 25]) := Lib.hid ((St.start w).alloc _ rfl _ _)
  clear h1
  go_enter Try.func5, Try.ntmps5
  go_wp2_with fail
  by_cases hN : 1048576 < (totDfa a.next a.ends : Int)
  · refine (szDfa_d a _ _ (by omega) (by omega) _ (H1.out.below HS.out.bel) _ (szV_no (by omega))).mono ?_
    rintro e w1 ⟨rfl, hb1⟩
    have Hhb1 := Lib.hid hb1; clear hb1
    go_wp2
    go_ret
    exact ⟨rfl, (HS.out.call Hhb1.out).bel⟩
  have hS0 : (totDfa a.next a.ends : Int) ≤ 1048576 := by omega
  refine (szDfa_d a _ _ (by omega) (by omega) _ (H1.out.below HS.out.bel) _ (szV_yes hS0)).mono ?_
  rintro e wz ⟨rfl, hb⟩
  replace HS := Lib.hid (HS.out.call hb)
  clear hb
  have hL0 : 0 ≤ 1048576 - (totDfa a.next a.ends : Int) := by omega
  have hm : small a := small_of_tot hS0 (by omega)
  have hz := big_of_small hS0 (by omega)
  have Hhm := Lib.hid hm; clear hm
  have Hhz := Lib.hid hz; clear hz
  have c00 := HS.out.cell (v := .slice a1 a.next.length ac1) 0 0 rfl rfl
  have c01 := HS.out.cell (v := .slice a2 a.ends.length ac2) 0 1 rfl rfl
  go_wp2_with fail
  refine (toDfa_any a _ _ Hhm.out (H1.out.below HS.out.bel)).mono ?_
  rintro e y1 ⟨⟨s1, sc1, s2, sc2, rfl, ho⟩, hb⟩
  clear c00 c01
  replace HS := Lib.hid (HS.out.call hb)
  have hR := Lib.hid (ho.r.mono (Nat.zero_le _))
  clear ho hb
  go_wp2_with fail
  refine (specGuessCount_any a J HhJ.out r Hhr.out _ _ hR.out).mono ?_
  rintro e y2 ⟨rfl, hb⟩
  replace HS := Lib.hid (HS.out.call hb)
  clear hb hR
  have hw2 := (HS.out.boxlt 0 rfl).2
  have c00 := HS.out.cell (v := .slice a1 a.next.length ac1) 0 0 rfl rfl
  have c01 := HS.out.cell (v := .slice a2 a.ends.length ac2) 0 1 rfl rfl
  go_wp2_with fail
  refine (toDfa_any a _ _ Hhm.out (H1.out.below HS.out.bel)).mono ?_
  rintro e y3 ⟨⟨s1, sc1, s2, sc2, rfl, ho⟩, hb⟩
  clear c00 c01
  have hn3 := hb.size
  replace HS := Lib.hid (HS.out.call hb)
  have HO := Lib.hid ho
  clear ho hb
  have hb := (Below.refl y3.heap.size y3).alloc (Nat.le_refl _) (.cells #[.slice s1 a.next.length sc1, .slice s2 a.ends.length sc2] 32)
  replace HO := Lib.hid (HO.out.below hb)
  clear hb
  replace HS : Hid (St w (y3.alloc (.cells #[.slice s1 a.next.length sc1, .slice s2 a.ends.length sc2] 32)) [Ent.box w.heap.size #[.slice a1 a.next.length ac1, .slice a2 a.ends.length ac2] 25, Ent.box y3.heap.size #[.slice s1 a.next.length sc1, .slice s2 a.ends.length sc2] 32]) := Lib.hid (HS.out.alloc _ rfl _ _)
  have c10 := HS.out.cell (v := .slice s1 a.next.length sc1) 1 0 rfl rfl
  have c11 := HS.out.cell (v := .slice s2 a.ends.length sc2) 1 1 rfl rfl
  go_wp2_with fail
  refine (implGuessCount_any a J HhJ.out r Hhr.out _ _ (HO.out.r.mono (Nat.zero_le _))).mono ?_
  rintro e y4 ⟨rfl, hb⟩
  clear c10 c11
  have hn4 := hb.size
  simp only [World.size_alloc] at hn4
  replace HS := Lib.hid (HS.out.call hb)
  replace HO := Lib.hid (HO.out.below hb)
  clear hb
  have hw0 := (HS.out.boxlt 0 rfl).2
  have hv0 := (HS.out.boxlt 1 rfl).2
  have c00 := HS.out.cell (v := .slice a1 a.next.length ac1) 0 0 rfl rfl
  have c01 := HS.out.cell (v := .slice a2 a.ends.length ac2) 0 1 rfl rfl
  have c10 := HS.out.cell (v := .slice s1 a.next.length sc1) 1 0 rfl rfl
  have c11 := HS.out.cell (v := .slice s2 a.ends.length sc2) 1 1 rfl rfl
  have Hk := Lib.hid (fun (w' : World) (h : Below y4.drew.heap.size y4.drew w') => (show w'.cell? ⟨w.heap.size, 0, none⟩ = some (.slice a1 a.next.length ac1) ∧ w'.cell? ⟨w.heap.size, 1, none⟩ = some (.slice a2 a.ends.length ac2) ∧ w'.cell? ⟨y3.heap.size, 0, none⟩ = some (.slice s1 a.next.length sc1) ∧ w'.cell? ⟨y3.heap.size, 1, none⟩ = some (.slice s2 a.ends.length sc2) from ⟨(bcell h _ _ hw0).trans c00, (bcell h _ _ hw0).trans c01, (bcell h _ _ hv0).trans c10, (bcell h _ _ hv0).trans c11⟩))
  have HBd := Lib.hid (HS.out.bel.drew)
  go_wp2
  go_region_held3 (fun w' => w'.cell? ⟨w.heap.size, 0, none⟩ = some (.slice a1 a.next.length ac1) ∧ w'.cell? ⟨w.heap.size, 1, none⟩ = some (.slice a2 a.ends.length ac2) ∧ w'.cell? ⟨y3.heap.size, 0, none⟩ = some (.slice s1 a.next.length sc1) ∧ w'.cell? ⟨y3.heap.size, 1, none⟩ = some (.slice s2 a.ends.length sc2))
    (first | go_keep | exact Hk.out _ hq0 | exact Hk.out _ hq1)
    (first
      | (go_at_call 12; (with_reducible refine (toDfa_any a _ _ Hhm.out (H1.out.below HBd.out)).mono ?_); rintro e u0 ⟨⟨m1, mc1, m2, mc2, rfl, ho0⟩, hq0⟩)
      | (go_at_call 16; (with_reducible refine (eqDfa_any a a _ _ _ (((HO.out.r.mono (Nat.zero_le _)).below (Below.refl _ _).drew).below hq0) (ho0.r.mono (Nat.zero_le _)) true (by simp)).mono ?_); rintro e k0 ⟨rfl, hb1⟩; have hq1 := hq0.trans (hb1.mono hq0.size)))
  have hb := ((Below.refl y4.heap.size y4).drew).trans hq1
  clear Hk HBd hq0 hq1 hb1 ho0 hw0 hv0 c00 c01 c10 c11
  replace HS := Lib.hid (HS.out.call hb)
  replace HO := Lib.hid (HO.out.below hb)
  clear hb
  go_wp2
  go_ret
  exact ⟨rfl, HS.out.bel⟩
end Go.Proofs.Ytclhcfmlkfiidaa
