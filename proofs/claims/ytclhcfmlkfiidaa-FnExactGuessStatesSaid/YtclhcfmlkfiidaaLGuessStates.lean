/-
  The walk over the law FnExactGuessStates: whatever the argument, it answers true and leaves old memory alone.
  Conditions: the argument reads as such data.
-/
import Derived.Test.YtclhcfmlkfiidaaLk
import Derived.Test.YtclhcfmlkfiidaaCtx
import Derived.Test.YtclhcfmlkfiidaaSz
import Derived.Test.YtclhcfmlkfiidaaTo
import Derived.Test.YtclhcfmlkfiidaaEqd
import Derived.Test.YtclhcfmlkfiidaaMk
import Derived.Test.YtclhcfmlkfiidaaLb
namespace Go.Proofs.Ytclhcfmlkfiidaa
open Go.RowKit Go.Maps

set_option maxRecDepth 100000 in
set_option maxHeartbeats 16000000 in
theorem exactGuessStates_walk (a : DfaD) (v1 : Value) (w : World) (h1 : DfaR 0 w v1 a) :
    Calls Try.prog 6 #[v1] w fun e w' => e = .returned (.bool true) ∧ Below w.heap.size w w' := by
  have H1 := Lib.hid h1
  obtain ⟨a1, ac1, a2, ac2, rfl⟩ := h1.shape
  obtain ⟨J, hJ⟩ := lastG_ex a
  have hFs := stsG_len hJ
  obtain ⟨F, hF⟩ : ∃ F, stsG a J = F := ⟨_, rfl⟩
  rw [hF] at hFs
  have HhJ := Lib.hid hJ; clear hJ
  have HhF := Lib.hid hF; clear hF
  have HhFs := Lib.hid hFs; clear hFs
  have HS : Hid (St w (w.alloc (.cells #[.slice a1 a.next.length ac1, .slice a2 a.ends.length ac2] 25)) [Ent.box w.heap.size #[.slice a1 a.next.length ac1, .slice a2 a.ends.length ac2] 25]) := Lib.hid ((St.start w).alloc _ rfl _ _)
  clear h1
  go_enter Try.func6, Try.ntmps6
  go_wp2_with fail
  by_cases hN : 1048576 < (totDfa a.next a.ends : Int)
  · refine (szDfa_d a _ _ (by omega) (by omega) _ (H1.out.below HS.out.bel) _ (szV_no (by omega))).mono ?_
    rintro e w1 ⟨rfl, hb1⟩
    have Hhb1 := Lib.hid hb1; clear hb1
    go_wp2
    go_ret
    exact ⟨rfl, (HS.out.call Hhb1.out).bel⟩
  have hS0 : (totDfa a.next a.ends : Int) ≤ 1048576 := by omega
  refine (szDfa_d a _ _ (by omega) (by omega) _ (H1.out.below HS.out.bel) _ (szV_yes hS0)).mono ?_
  rintro e wz ⟨rfl, hb⟩
  replace HS := Lib.hid (HS.out.call hb)
  clear hb
  have hL0 : 0 ≤ 1048576 - (totDfa a.next a.ends : Int) := by omega
  have hm : small a := small_of_tot hS0 (by omega)
  have hz := big_of_small hS0 (by omega)
  have Hhm := Lib.hid hm; clear hm
  have Hhz := Lib.hid hz; clear hz
  have c00 := HS.out.cell (v := .slice a1 a.next.length ac1) 0 0 rfl rfl
  have c01 := HS.out.cell (v := .slice a2 a.ends.length ac2) 0 1 rfl rfl
  go_wp2_with fail
  refine (toDfa_any a _ _ Hhm.out (H1.out.below HS.out.bel)).mono ?_
  rintro e y1 ⟨⟨s1, sc1, s2, sc2, rfl, ho⟩, hb⟩
  clear c00 c01
  replace HS := Lib.hid (HS.out.call hb)
  have hR := Lib.hid (ho.r.mono (Nat.zero_le _))
  clear ho hb
  go_wp2_with fail
  refine (specGuessStatesR_any a J HhJ.out F HhF.out _ _ hR.out).mono ?_
  rintro e y2 ⟨⟨b1, bc1, rfl, hwr⟩, hb⟩
  replace HS := Lib.hid (HS.out.call hb)
  clear hb hR
  have hw2 := (HS.out.boxlt 0 rfl).2
  have HW := Lib.hid hwr
  have HD : Hid (Below y2.heap.size y2 y2) := Lib.hid (Below.refl _ _)
  clear hwr
  have c00 := HS.out.cell (v := .slice a1 a.next.length ac1) 0 0 rfl rfl
  have c01 := HS.out.cell (v := .slice a2 a.ends.length ac2) 0 1 rfl rfl
  go_wp2_with fail
  refine (toDfa_any a _ _ Hhm.out (H1.out.below HS.out.bel)).mono ?_
  rintro e y3 ⟨⟨s1, sc1, s2, sc2, rfl, ho⟩, hb⟩
  clear c00 c01
  have hn3 := hb.size
  replace HS := Lib.hid (HS.out.call hb)
  replace HD := Lib.hid (HD.out.trans (hb.mono HD.out.size))
  have HO := Lib.hid ho
  clear ho hb
  have hb := (Below.refl y3.heap.size y3).alloc (Nat.le_refl _) (.cells #[.slice s1 a.next.length sc1, .slice s2 a.ends.length sc2] 32)
  replace HD := Lib.hid (HD.out.trans (hb.mono HD.out.size))
  replace HO := Lib.hid (HO.out.below hb)
  clear hb
  replace HS : Hid (St w (y3.alloc (.cells #[.slice s1 a.next.length sc1, .slice s2 a.ends.length sc2] 32)) [Ent.box w.heap.size #[.slice a1 a.next.length ac1, .slice a2 a.ends.length ac2] 25, Ent.box y3.heap.size #[.slice s1 a.next.length sc1, .slice s2 a.ends.length sc2] 32]) := Lib.hid (HS.out.alloc _ rfl _ _)
  have c10 := HS.out.cell (v := .slice s1 a.next.length sc1) 1 0 rfl rfl
  have c11 := HS.out.cell (v := .slice s2 a.ends.length sc2) 1 1 rfl rfl
  go_wp2_with fail
  refine (implGuessStates_any a J HhJ.out F HhF.out _ _ (HO.out.r.mono (Nat.zero_le _))).mono ?_
  rintro e y4 ⟨⟨g1, gc1, rfl, hog⟩, hb⟩
  clear c10 c11
  have hn4 := hb.size
  simp only [World.size_alloc] at hn4 hog
  replace HS := Lib.hid (HS.out.call hb)
  replace HD := Lib.hid (HD.out.trans (hb.mono HD.out.size))
  replace HO := Lib.hid (HO.out.below hb)
  have HG := Lib.hid hog
  clear hog
  clear hb
  go_wp2_with fail
  refine (eqIntS_any F F _ _ _ ((OInts.ints HG.out).mono (Nat.zero_le _)) (HW.out.below HD.out) true (by simp)).mono ?_
  rintro e y5 ⟨rfl, hb⟩
  have hs_y5 := hb.size
  replace HS := Lib.hid (HS.out.call hb)
  replace HD := Lib.hid (HD.out.trans (hb.mono HD.out.size))
  replace HO := Lib.hid (HO.out.below hb)
  replace HG := Lib.hid (Own.below HG.out hb)
  clear hb
  have hw0 := (HS.out.boxlt 0 rfl).2
  have hv0 := (HS.out.boxlt 1 rfl).2
  have c00 := HS.out.cell (v := .slice a1 a.next.length ac1) 0 0 rfl rfl
  have c01 := HS.out.cell (v := .slice a2 a.ends.length ac2) 0 1 rfl rfl
  have c10 := HS.out.cell (v := .slice s1 a.next.length sc1) 1 0 rfl rfl
  have c11 := HS.out.cell (v := .slice s2 a.ends.length sc2) 1 1 rfl rfl
  have Hk := Lib.hid (fun (w' : World) (h : Below y5.drew.heap.size y5.drew w') => (show w'.cell? ⟨w.heap.size, 0, none⟩ = some (.slice a1 a.next.length ac1) ∧ w'.cell? ⟨w.heap.size, 1, none⟩ = some (.slice a2 a.ends.length ac2) ∧ w'.cell? ⟨y3.heap.size, 0, none⟩ = some (.slice s1 a.next.length sc1) ∧ w'.cell? ⟨y3.heap.size, 1, none⟩ = some (.slice s2 a.ends.length sc2) from ⟨(bcell h _ _ hw0).trans c00, (bcell h _ _ hw0).trans c01, (bcell h _ _ hv0).trans c10, (bcell h _ _ hv0).trans c11⟩))
  have HBd := Lib.hid (HS.out.bel.drew)
  go_wp2
  go_region_held3 (fun w' => w'.cell? ⟨w.heap.size, 0, none⟩ = some (.slice a1 a.next.length ac1) ∧ w'.cell? ⟨w.heap.size, 1, none⟩ = some (.slice a2 a.ends.length ac2) ∧ w'.cell? ⟨y3.heap.size, 0, none⟩ = some (.slice s1 a.next.length sc1) ∧ w'.cell? ⟨y3.heap.size, 1, none⟩ = some (.slice s2 a.ends.length sc2))
    (first | go_keep | exact Hk.out _ hq0 | exact Hk.out _ hq1)
    (first
      | (go_at_call 12; (with_reducible refine (toDfa_any a _ _ Hhm.out (H1.out.below HBd.out)).mono ?_); rintro e u0 ⟨⟨m1, mc1, m2, mc2, rfl, ho0⟩, hq0⟩)
      | (go_at_call 16; (with_reducible refine (eqDfa_any a a _ _ _ (((HO.out.r.mono (Nat.zero_le _)).below (Below.refl _ _).drew).below hq0) (ho0.r.mono (Nat.zero_le _)) true (by simp)).mono ?_); rintro e k0 ⟨rfl, hb1⟩; have hq1 := hq0.trans (hb1.mono hq0.size)))
  have hb := ((Below.refl y5.heap.size y5).drew).trans hq1
  clear Hk HBd hq0 hq1 hb1 ho0 hw0 hv0 c00 c01 c10 c11
  have hs_k0 := hb.size
  replace HS := Lib.hid (HS.out.call hb)
  replace HD := Lib.hid (HD.out.trans (hb.mono HD.out.size))
  replace HO := Lib.hid (HO.out.below hb)
  replace HG := Lib.hid (Own.below HG.out hb)
  clear hb
  have hsW : y4.heap.size ≤ k0.heap.size := by omega
  have c10 := HS.out.cell (v := .slice s1 a.next.length sc1) 1 0 rfl rfl
  have c11 := HS.out.cell (v := .slice s2 a.ends.length sc2) 1 1 rfl rfl
  go_wp2_with fail
  refine (markDfa_any a 1 (y2.heap.size) (y3.heap.size) _ _ (by omega) (by omega) Hhz.out.1 Hhz.out.2.1 Hhz.out.2.2.1 (by omega) HO.out).mono ?_
  rintro e l0 ⟨rfl, -, hmk⟩
  clear c10 c11
  replace HS := Lib.hid (HS.out.only hmk (by omega) (by
    intro x hx
    simp only [List.mem_cons, List.not_mem_nil, or_false] at hx
    rcases hx with rfl | rfl <;> (intro k hk; have hk : k = _ := hk; subst hk; omega)))
  replace HD := Lib.hid (HD.out.trans ((hmk.below (by omega)).mono (by omega)))
  replace HG := Lib.hid (Own.only HG.out hmk (by omega))
  have hnl := hmk.size
  clear hmk HO
  have hk0 : 0 ≤ 1 + (totD a : Int) := by omega
  go_wp2_with fail
  refine (eqIntS_any F F _ _ _ ((OInts.ints HG.out).mono (Nat.zero_le _)) (HW.out.below HD.out) true (by simp)).mono ?_
  rintro e y6 ⟨rfl, hb⟩
  have hs_y6 := hb.size
  replace HS := Lib.hid (HS.out.call hb)
  replace HD := Lib.hid (HD.out.trans (hb.mono HD.out.size))
  replace HG := Lib.hid (Own.below HG.out hb)
  clear hb
  go_wp2_with fail
  refine (markInts_any F 1 (y3.heap.size + 1) (y4.heap.size) _ _ (by omega) (by omega) (by have := HhFs.out; omega) HG.out).mono ?_
  rintro e l1 ⟨rfl, hg, hmk⟩
  replace hmk := (Touch.of_grown HG.out hmk).only
  replace HS := Lib.hid (HS.out.only hmk (by omega) (by
    intro x hx
    simp only [List.mem_cons, List.not_mem_nil, or_false] at hx
    rcases hx with rfl | rfl <;> (intro k hk; have hk : k = _ := hk; subst hk; omega)))
  replace HD := Lib.hid (HD.out.trans ((hmk.below (by omega)).mono (by omega)))
  replace HG := Lib.hid hg
  clear hmk hg
  have hkq : (1 + (F.length : Int) != 1 + (F.length : Int)) = false := by simp
  have hk1 : 0 ≤ 1 + (F.length : Int) := by omega
  go_wp2_with fail
  refine (heldInts_any F.length 1 0 _ _ (by omega) (by omega) (by have := HhFs.out; omega) ((OInts.ints HG.out).mono (Nat.zero_le _))).mono ?_
  rintro e y7 ⟨rfl, rfl⟩
  have c00 := HS.out.cell (v := .slice a1 a.next.length ac1) 0 0 rfl rfl
  have c01 := HS.out.cell (v := .slice a2 a.ends.length ac2) 0 1 rfl rfl
  go_wp2_with fail
  refine (toDfa_any a _ _ Hhm.out (H1.out.below HS.out.bel)).mono ?_
  rintro e y8 ⟨⟨t1, tc1, t2, tc2, rfl, ho⟩, hb⟩
  clear c00 c01
  replace HS := Lib.hid (HS.out.call hb)
  replace HD := Lib.hid (HD.out.trans (hb.mono HD.out.size))
  replace HG := Lib.hid (Own.below HG.out hb)
  have hR := Lib.hid (ho.r.mono (Nat.zero_le _))
  clear ho hb
  go_wp2_with fail
  refine (implGuessStates_any a J HhJ.out F HhF.out _ _ hR.out).mono ?_
  rintro e y9 ⟨⟨h1, hc1, rfl, hog⟩, hb⟩
  replace HS := Lib.hid (HS.out.call hb)
  replace HD := Lib.hid (HD.out.trans (hb.mono HD.out.size))
  replace HG := Lib.hid (Own.below HG.out hb)
  have HH := Lib.hid hog
  clear hog hb hR
  go_wp2_with fail
  refine (eqIntS_any F F _ _ _ ((OInts.ints HH.out).mono (Nat.zero_le _)) (HW.out.below HD.out) true (by simp)).mono ?_
  rintro e y10 ⟨rfl, hb⟩
  have hs_y10 := hb.size
  replace HS := Lib.hid (HS.out.call hb)
  replace HD := Lib.hid (HD.out.trans (hb.mono HD.out.size))
  replace HG := Lib.hid (Own.below HG.out hb)
  replace HH := Lib.hid (Own.below HH.out hb)
  clear hb
  go_wp2_with fail
  refine (heldInts_any F.length 1 0 _ _ (by omega) (by omega) (by have := HhFs.out; omega) ((OInts.ints HG.out).mono (Nat.zero_le _))).mono ?_
  rintro e y11 ⟨rfl, rfl⟩
  go_wp2
  go_ret
  exact ⟨rfl, HS.out.bel⟩
end Go.Proofs.Ytclhcfmlkfiidaa
