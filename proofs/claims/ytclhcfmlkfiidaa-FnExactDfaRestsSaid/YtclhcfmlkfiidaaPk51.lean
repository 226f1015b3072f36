/-
  Small facts for the walks over the laws: sizes of automata; what lies outside the blocks that are written.
  No condition: this text speaks of no program but by the numbers of its types.
  The walk over the law FnExactDfaRests: whatever the argument, it answers true and leaves old memory alone.
  Conditions: the argument reads as such data.
-/
import Derived.Test.YtclhcfmlkfiidaaSz
import Derived.Test.YtclhcfmlkfiidaaTo
import Derived.Test.YtclhcfmlkfiidaaMk
import Derived.Test.YtclhcfmlkfiidaaPk5
import Derived.Test.YtclhcfmlkfiidaaRs
import Derived.Test.YtclhcfmlkfiidaaCtx
import Derived.Test.YtclhcfmlkfiidaaPk49
namespace Go.Proofs.Ytclhcfmlkfiidaa
open Go.RowKit

theorem le_sum_of_mem {l : List Nat} {x : Nat} (h : x ∈ l) : x ≤ l.sum := by
  induction l with
  | nil => simp at h
  | cons a l ih =>
    simp only [List.sum_cons]
    rcases List.mem_cons.1 h with rfl | h
    · omega
    · have := ih h; omega
theorem small_of_tot {d : DfaD} {n : Int} (h : (totDfa d.next d.ends : Int) ≤ n) (hn : n ≤ 1048576) : small d := by
  unfold totDfa totSS at h
  refine ⟨by omega, fun i hi => ?_, by omega⟩
  have : (d.next.getD i []).length ≤ (d.next.map List.length).sum := le_sum_of_mem (List.mem_map.2 ⟨_, memD hi, rfl⟩)
  omega

theorem DfaR.shape {B : Nat} {w : World} {v : Value} {d : DfaD} (h : DfaR B w v d) : ∃ a1 c1 a2 c2, v = .agg #[.slice a1 d.next.length c1, .slice a2 d.ends.length c2] := by
  obtain ⟨u1, u2, rfl, g1, g2⟩ := h
  obtain ⟨a1, c1, rfl, -⟩ := g1.form
  obtain ⟨a2, c2, rfl, -⟩ := g2.form
  exact ⟨_, _, _, _, rfl⟩

theorem big_of_small {d : DfaD} {n : Int} (h : (totDfa d.next d.ends : Int) ≤ n) (hn : n ≤ 1048576) : d.next.length ≤ 100000000 ∧ sumLen d.next ≤ 100000000 ∧ d.ends.length ≤ 100000000 ∧ totD d ≤ 1048576 := by
  unfold totDfa totSS at h
  unfold totD sumLen
  omega
theorem Bx.only {lo hi b : Nat} {w w' : World} {cs : Array Value} {T : TypeId} (h : Bx w b cs T) (ho : Only lo hi w w') (hd : b < lo ∨ hi ≤ b) : Bx w' b cs T := (ho.block b h.lt hd).trans h
theorem DfaO.only {tS tI tB lo hi lo' hi' : Nat} {w w' : World} {v : Value} {d : DfaD} (h : DfaO tS tI tB lo hi w v d) (ho : Only lo' hi' w w') (hd : hi ≤ lo' ∨ hi' ≤ lo) : DfaO tS tI tB lo hi w' v d := by
  obtain ⟨v1, v2, hv, h1, h2⟩ := h
  exact ⟨v1, v2, hv, h1.only ho hd, h2.only ho hd⟩
theorem DfaO.below {tS tI tB lo hi : Nat} {w w' : World} {v : Value} {d : DfaD} (h : DfaO tS tI tB lo hi w v d) (hb : Below w.heap.size w w') : DfaO tS tI tB lo hi w' v d := by
  obtain ⟨v1, v2, hv, h1, h2⟩ := h
  exact ⟨v1, v2, hv, h1.below hb, Own.below h2 hb⟩
end Go.Proofs.Ytclhcfmlkfiidaa
namespace Go.Proofs.Ytclhcfmlkfiidaa
open Go.RowKit Go.Maps

set_option maxRecDepth 100000 in
set_option maxHeartbeats 16000000 in
theorem exactDfaRests_walk (a : DfaD) (v1 : Value) (w : World) (h1 : DfaR 0 w v1 a) :
    Calls Try.prog 8 #[v1] w fun e w' => e = .returned (.bool true) ∧ Below w.heap.size w w' := by
  have H1 := Lib.hid h1
  obtain ⟨a1, ac1, a2, ac2, rfl⟩ := h1.shape
  have hDs : ((rs a).getD zeD).next.length ≤ 40 ∧ sumLen ((rs a).getD zeD).next ≤ 120 ∧ ((rs a).getD zeD).ends.length ≤ 40 := rs_small a
  obtain ⟨D, hD⟩ : ∃ D, (rs a).getD zeD = D := ⟨_, rfl⟩
  obtain ⟨fb, hfb⟩ : ∃ fb, (rs a).isSome = fb := ⟨_, rfl⟩
  rw [hD] at hDs
  have HhD := Lib.hid hD; clear hD
  have Hhfb := Lib.hid hfb; clear hfb
  have HhDs := Lib.hid hDs; clear hDs
  have HS : Hid (St w (w.alloc (.cells #[.slice a1 a.next.length ac1, .slice a2 a.ends.length ac2] 25)) [Ent.box w.heap.size #[.slice a1 a.next.length ac1, .slice a2 a.ends.length ac2] 25]) := Lib.hid ((St.start w).alloc _ rfl _ _)
  clear h1
  go_enter Try.func8, Try.ntmps8
  go_wp2_with fail
  by_cases hN : 1048576 < (totDfa a.next a.ends : Int)
  · refine (szDfa_d a _ _ (by omega) (by omega) _ (H1.out.below HS.out.bel) _ (szV_no (by omega))).mono ?_
    rintro e w1 ⟨rfl, hb1⟩
    have Hhb1 := Lib.hid hb1; clear hb1
    go_wp2
    go_ret
    exact ⟨rfl, (HS.out.call Hhb1.out).bel⟩
  have hS0 : (totDfa a.next a.ends : Int) ≤ 1048576 := by omega
  refine (szDfa_d a _ _ (by omega) (by omega) _ (H1.out.below HS.out.bel) _ (szV_yes hS0)).mono ?_
  rintro e wz ⟨rfl, hb⟩
  replace HS := Lib.hid (HS.out.call hb)
  clear hb
  have hL0 : 0 ≤ 1048576 - (totDfa a.next a.ends : Int) := by omega
  have hm : small a := small_of_tot hS0 (by omega)
  have hz := big_of_small hS0 (by omega)
  have Hhm := Lib.hid hm; clear hm
  have Hhz := Lib.hid hz; clear hz
  have c00 := HS.out.cell (v := .slice a1 a.next.length ac1) 0 0 rfl rfl
  have c01 := HS.out.cell (v := .slice a2 a.ends.length ac2) 0 1 rfl rfl
  go_wp2_with fail
  refine (toDfa_any a _ _ Hhm.out (H1.out.below HS.out.bel)).mono ?_
  rintro e y1 ⟨⟨s1, sc1, s2, sc2, rfl, ho⟩, hb⟩
  clear c00 c01
  replace HS := Lib.hid (HS.out.call hb)
  have hR := Lib.hid (ho.r.mono (Nat.zero_le _))
  clear ho hb
  go_wp2_with fail
  refine (specRs_any a D fb HhD.out Hhfb.out _ _ hR.out).mono ?_
  rintro e y2 ⟨⟨b1, bc1, b2, bc2, rfl, hwr⟩, hb⟩
  replace HS := Lib.hid (HS.out.call hb)
  clear hb hR
  have hw2 := (HS.out.boxlt 0 rfl).2
  have HW := Lib.hid hwr
  have HD : Hid (Below y2.heap.size y2 y2) := Lib.hid (Below.refl _ _)
  clear hwr
  have hb := (Below.refl y2.heap.size y2).alloc (Nat.le_refl _) (.cells #[.slice b1 D.next.length bc1, .slice b2 D.ends.length bc2] 32)
  replace HD := Lib.hid (HD.out.trans (hb.mono HD.out.size))
  clear hb
  replace HS : Hid (St w (y2.alloc (.cells #[.slice b1 D.next.length bc1, .slice b2 D.ends.length bc2] 32)) [Ent.box w.heap.size #[.slice a1 a.next.length ac1, .slice a2 a.ends.length ac2] 25, Ent.box y2.heap.size #[.slice b1 D.next.length bc1, .slice b2 D.ends.length bc2] 32]) := Lib.hid (HS.out.alloc _ rfl _ _)
  have c00 := HS.out.cell (v := .slice a1 a.next.length ac1) 0 0 rfl rfl
  have c01 := HS.out.cell (v := .slice a2 a.ends.length ac2) 0 1 rfl rfl
  go_wp2_with fail
  refine (toDfa_any a _ _ Hhm.out (H1.out.below HS.out.bel)).mono ?_
  rintro e y3 ⟨⟨s1, sc1, s2, sc2, rfl, ho⟩, hb⟩
  clear c00 c01
  have hn3 := hb.size
  simp only [World.size_alloc] at ho hn3
  replace HS := Lib.hid (HS.out.call hb)
  replace HD := Lib.hid (HD.out.trans (hb.mono HD.out.size))
  have HO := Lib.hid ho
  clear ho hb
  have hb := (Below.refl y3.heap.size y3).alloc (Nat.le_refl _) (.cells #[.slice s1 a.next.length sc1, .slice s2 a.ends.length sc2] 32)
  replace HD := Lib.hid (HD.out.trans (hb.mono HD.out.size))
  replace HO := Lib.hid (HO.out.below hb)
  clear hb
  replace HS : Hid (St w (y3.alloc (.cells #[.slice s1 a.next.length sc1, .slice s2 a.ends.length sc2] 32)) [Ent.box w.heap.size #[.slice a1 a.next.length ac1, .slice a2 a.ends.length ac2] 25, Ent.box y2.heap.size #[.slice b1 D.next.length bc1, .slice b2 D.ends.length bc2] 32, Ent.box y3.heap.size #[.slice s1 a.next.length sc1, .slice s2 a.ends.length sc2] 32]) := Lib.hid (HS.out.alloc _ rfl _ _)
  have c20 := HS.out.cell (v := .slice s1 a.next.length sc1) 2 0 rfl rfl
  have c21 := HS.out.cell (v := .slice s2 a.ends.length sc2) 2 1 rfl rfl
  go_wp2_with fail
  refine (implRs_any a D fb HhD.out Hhfb.out _ _ (HO.out.r.mono (Nat.zero_le _))).mono ?_
  rintro e y4 ⟨⟨g1, gc1, g2, gc2, rfl, hog⟩, hb⟩
  clear c20 c21
  have hn4 := hb.size
  simp only [World.size_alloc] at hn4 hog
  replace HS := Lib.hid (HS.out.call hb)
  replace HD := Lib.hid (HD.out.trans (hb.mono HD.out.size))
  replace HO := Lib.hid (HO.out.below hb)
  have HG := Lib.hid hog
  clear hog
  clear hb
  have hb := (Below.refl y4.heap.size y4).alloc (Nat.le_refl _) (.cells #[.slice g1 D.next.length gc1, .slice g2 D.ends.length gc2] 32)
  replace HD := Lib.hid (HD.out.trans (hb.mono HD.out.size))
  replace HO := Lib.hid (HO.out.below hb)
  replace HG := Lib.hid (HG.out.below hb)
  clear hb
  replace HS : Hid (St w (y4.alloc (.cells #[.slice g1 D.next.length gc1, .slice g2 D.ends.length gc2] 32)) [Ent.box w.heap.size #[.slice a1 a.next.length ac1, .slice a2 a.ends.length ac2] 25, Ent.box y2.heap.size #[.slice b1 D.next.length bc1, .slice b2 D.ends.length bc2] 32, Ent.box y3.heap.size #[.slice s1 a.next.length sc1, .slice s2 a.ends.length sc2] 32, Ent.box y4.heap.size #[.slice g1 D.next.length gc1, .slice g2 D.ends.length gc2] 32]) := Lib.hid (HS.out.alloc _ rfl _ _)
  have hbb : (fb != fb) = false := by simp
  have c30 := HS.out.cell (v := .slice g1 D.next.length gc1) 3 0 rfl rfl
  have c31 := HS.out.cell (v := .slice g2 D.ends.length gc2) 3 1 rfl rfl
  have c10 := HS.out.cell (v := .slice b1 D.next.length bc1) 1 0 rfl rfl
  have c11 := HS.out.cell (v := .slice b2 D.ends.length bc2) 1 1 rfl rfl
  go_wp2_with fail
  refine (eqDfa_any D D _ _ _ (HG.out.r.mono (Nat.zero_le _)) (HW.out.below HD.out) true (by simp)).mono ?_
  rintro e y5 ⟨rfl, hb⟩
  clear c30 c31 c10 c11
  replace HS := Lib.hid (HS.out.call hb)
  replace HD := Lib.hid (HD.out.trans (hb.mono HD.out.size))
  replace HO := Lib.hid (HO.out.below hb)
  replace HG := Lib.hid (HG.out.below hb)
  clear hb
  have hw0 := (HS.out.boxlt 0 rfl).2
  have hv0 := (HS.out.boxlt 2 rfl).2
  have c00 := HS.out.cell (v := .slice a1 a.next.length ac1) 0 0 rfl rfl
  have c01 := HS.out.cell (v := .slice a2 a.ends.length ac2) 0 1 rfl rfl
  have c20 := HS.out.cell (v := .slice s1 a.next.length sc1) 2 0 rfl rfl
  have c21 := HS.out.cell (v := .slice s2 a.ends.length sc2) 2 1 rfl rfl
  have Hk := Lib.hid (fun (w' : World) (h : Below y5.drew.heap.size y5.drew w') => (show w'.cell? ⟨w.heap.size, 0, none⟩ = some (.slice a1 a.next.length ac1) ∧ w'.cell? ⟨w.heap.size, 1, none⟩ = some (.slice a2 a.ends.length ac2) ∧ w'.cell? ⟨y3.heap.size, 0, none⟩ = some (.slice s1 a.next.length sc1) ∧ w'.cell? ⟨y3.heap.size, 1, none⟩ = some (.slice s2 a.ends.length sc2) from ⟨(bcell h _ _ hw0).trans c00, (bcell h _ _ hw0).trans c01, (bcell h _ _ hv0).trans c20, (bcell h _ _ hv0).trans c21⟩))
  have HBd := Lib.hid (HS.out.bel.drew)
  go_wp2
  go_region_held3 (fun w' => w'.cell? ⟨w.heap.size, 0, none⟩ = some (.slice a1 a.next.length ac1) ∧ w'.cell? ⟨w.heap.size, 1, none⟩ = some (.slice a2 a.ends.length ac2) ∧ w'.cell? ⟨y3.heap.size, 0, none⟩ = some (.slice s1 a.next.length sc1) ∧ w'.cell? ⟨y3.heap.size, 1, none⟩ = some (.slice s2 a.ends.length sc2))
    (first | go_keep | exact Hk.out _ hq0 | exact Hk.out _ hq1)
    (first
      | (go_at_call 12; (with_reducible refine (toDfa_any a _ _ Hhm.out (H1.out.below HBd.out)).mono ?_); rintro e u0 ⟨⟨m1, mc1, m2, mc2, rfl, ho0⟩, hq0⟩)
      | (go_at_call 16; (with_reducible refine (eqDfa_any a a _ _ _ (((HO.out.r.mono (Nat.zero_le _)).below (Below.refl _ _).drew).below hq0) (ho0.r.mono (Nat.zero_le _)) true (by simp)).mono ?_); rintro e k0 ⟨rfl, hb1⟩; have hq1 := hq0.trans (hb1.mono hq0.size)))
  have hb := ((Below.refl y5.heap.size y5).drew).trans hq1
  clear Hk HBd hq0 hq1 hb1 ho0 hw0 hv0 c00 c01 c20 c21
  replace HS := Lib.hid (HS.out.call hb)
  replace HD := Lib.hid (HD.out.trans (hb.mono HD.out.size))
  replace HO := Lib.hid (HO.out.below hb)
  replace HG := Lib.hid (HG.out.below hb)
  clear hb
  have hsW : y4.heap.size ≤ k0.heap.size := by have := (HS.out.boxlt 3 rfl).2; omega
  have c20 := HS.out.cell (v := .slice s1 a.next.length sc1) 2 0 rfl rfl
  have c21 := HS.out.cell (v := .slice s2 a.ends.length sc2) 2 1 rfl rfl
  go_wp2_with fail
  refine (markDfa_any a 1 (y2.heap.size + 1) (y3.heap.size) _ _ (by omega) (by omega) Hhz.out.1 Hhz.out.2.1 Hhz.out.2.2.1 (by omega) HO.out).mono ?_
  rintro e l0 ⟨rfl, -, hmk⟩
  clear c20 c21
  replace HS := Lib.hid (HS.out.only hmk (by omega) (by
    intro x hx
    simp only [List.mem_cons, List.not_mem_nil, or_false] at hx
    rcases hx with rfl | rfl | rfl | rfl <;> (intro k hk; have hk : k = _ := hk; subst hk; omega)))
  replace HD := Lib.hid (HD.out.trans ((hmk.below (by omega)).mono (by omega)))
  replace HG := Lib.hid (DfaO.only HG.out hmk (by omega))
  have hnl := hmk.size
  clear hmk HO
  have hk0 : 0 ≤ 1 + (totD a : Int) := by omega
  have c30 := HS.out.cell (v := .slice g1 D.next.length gc1) 3 0 rfl rfl
  have c31 := HS.out.cell (v := .slice g2 D.ends.length gc2) 3 1 rfl rfl
  have c10 := HS.out.cell (v := .slice b1 D.next.length bc1) 1 0 rfl rfl
  have c11 := HS.out.cell (v := .slice b2 D.ends.length bc2) 1 1 rfl rfl
  go_wp2_with fail
  refine (eqDfa_any D D _ _ _ (HG.out.r.mono (Nat.zero_le _)) (HW.out.below HD.out) true (by simp)).mono ?_
  rintro e y6 ⟨rfl, hb⟩
  clear c30 c31 c10 c11
  replace HS := Lib.hid (HS.out.call hb)
  replace HD := Lib.hid (HD.out.trans (hb.mono HD.out.size))
  replace HG := Lib.hid (HG.out.below hb)
  clear hb
  have c30 := HS.out.cell (v := .slice g1 D.next.length gc1) 3 0 rfl rfl
  have c31 := HS.out.cell (v := .slice g2 D.ends.length gc2) 3 1 rfl rfl
  have hsz6 := (HS.out.boxlt 3 rfl).2
  go_wp2_with fail
  refine (markDfa_any D 1 (y3.heap.size + 1) (y4.heap.size) _ _ (by omega) (by omega) (by have := HhDs.out; omega) (by have := HhDs.out; omega) (by have := HhDs.out; omega) (by omega) HG.out).mono ?_
  rintro e l1 ⟨rfl, hg, hmk⟩
  clear c30 c31
  replace HS := Lib.hid (HS.out.only hmk (by omega) (by
    intro x hx
    simp only [List.mem_cons, List.not_mem_nil, or_false] at hx
    rcases hx with rfl | rfl | rfl | rfl <;> (intro k hk; have hk : k = _ := hk; subst hk; omega)))
  replace HD := Lib.hid (HD.out.trans ((hmk.below (by omega)).mono (by omega)))
  replace HG := Lib.hid hg
  clear hmk hg
  have hkq : (1 + (totD D : Int) != 1 + (totD D : Int)) = false := by simp
  have hk1 : 0 ≤ 1 + (totD D : Int) := by omega
  have c30 := HS.out.cell (v := .slice g1 D.next.length gc1) 3 0 rfl rfl
  have c31 := HS.out.cell (v := .slice g2 D.ends.length gc2) 3 1 rfl rfl
  go_wp2_with fail
  refine (heldDfa_any D 1 0 _ _ (by omega) (by omega) (by have := HhDs.out; omega) (by have := HhDs.out; omega) (by have := HhDs.out; omega) (HG.out.r.mono (Nat.zero_le _))).mono ?_
  rintro e y7 ⟨rfl, hb⟩
  clear c30 c31
  replace HS := Lib.hid (HS.out.call hb)
  replace HD := Lib.hid (HD.out.trans (hb.mono HD.out.size))
  replace HG := Lib.hid (HG.out.below hb)
  clear hb
  have c00 := HS.out.cell (v := .slice a1 a.next.length ac1) 0 0 rfl rfl
  have c01 := HS.out.cell (v := .slice a2 a.ends.length ac2) 0 1 rfl rfl
  go_wp2_with fail
  refine (toDfa_any a _ _ Hhm.out (H1.out.below HS.out.bel)).mono ?_
  rintro e y8 ⟨⟨t1, tc1, t2, tc2, rfl, ho⟩, hb⟩
  clear c00 c01
  replace HS := Lib.hid (HS.out.call hb)
  replace HD := Lib.hid (HD.out.trans (hb.mono HD.out.size))
  replace HG := Lib.hid (HG.out.below hb)
  have hR := Lib.hid (ho.r.mono (Nat.zero_le _))
  clear ho hb
  go_wp2_with fail
  refine (implRs_any a D fb HhD.out Hhfb.out _ _ hR.out).mono ?_
  rintro e y9 ⟨⟨h1, hc1, h2, hc2, rfl, hog⟩, hb⟩
  replace HS := Lib.hid (HS.out.call hb)
  replace HD := Lib.hid (HD.out.trans (hb.mono HD.out.size))
  replace HG := Lib.hid (HG.out.below hb)
  have HH := Lib.hid hog
  clear hog hb hR
  have hb := (Below.refl y9.heap.size y9).alloc (Nat.le_refl _) (.cells #[.slice h1 D.next.length hc1, .slice h2 D.ends.length hc2] 32)
  replace HD := Lib.hid (HD.out.trans (hb.mono HD.out.size))
  replace HG := Lib.hid (HG.out.below hb)
  replace HH := Lib.hid (HH.out.below hb)
  clear hb
  replace HS : Hid (St w (y9.alloc (.cells #[.slice h1 D.next.length hc1, .slice h2 D.ends.length hc2] 32)) [Ent.box w.heap.size #[.slice a1 a.next.length ac1, .slice a2 a.ends.length ac2] 25, Ent.box y2.heap.size #[.slice b1 D.next.length bc1, .slice b2 D.ends.length bc2] 32, Ent.box y3.heap.size #[.slice s1 a.next.length sc1, .slice s2 a.ends.length sc2] 32, Ent.box y4.heap.size #[.slice g1 D.next.length gc1, .slice g2 D.ends.length gc2] 32, Ent.box y9.heap.size #[.slice h1 D.next.length hc1, .slice h2 D.ends.length hc2] 32]) := Lib.hid (HS.out.alloc _ rfl _ _)
  have c40 := HS.out.cell (v := .slice h1 D.next.length hc1) 4 0 rfl rfl
  have c41 := HS.out.cell (v := .slice h2 D.ends.length hc2) 4 1 rfl rfl
  have c10 := HS.out.cell (v := .slice b1 D.next.length bc1) 1 0 rfl rfl
  have c11 := HS.out.cell (v := .slice b2 D.ends.length bc2) 1 1 rfl rfl
  go_wp2_with fail
  refine (eqDfa_any D D _ _ _ (HH.out.r.mono (Nat.zero_le _)) (HW.out.below HD.out) true (by simp)).mono ?_
  rintro e y10 ⟨rfl, hb⟩
  clear c40 c41 c10 c11
  replace HS := Lib.hid (HS.out.call hb)
  replace HD := Lib.hid (HD.out.trans (hb.mono HD.out.size))
  replace HG := Lib.hid (HG.out.below hb)
  replace HH := Lib.hid (HH.out.below hb)
  clear hb
  have c30 := HS.out.cell (v := .slice g1 D.next.length gc1) 3 0 rfl rfl
  have c31 := HS.out.cell (v := .slice g2 D.ends.length gc2) 3 1 rfl rfl
  go_wp2_with fail
  refine (heldDfa_any D 1 0 _ _ (by omega) (by omega) (by have := HhDs.out; omega) (by have := HhDs.out; omega) (by have := HhDs.out; omega) (HG.out.r.mono (Nat.zero_le _))).mono ?_
  rintro e y11 ⟨rfl, hb⟩
  clear c30 c31
  replace HS := Lib.hid (HS.out.call hb)
  replace HD := Lib.hid (HD.out.trans (hb.mono HD.out.size))
  replace HG := Lib.hid (HG.out.below hb)
  replace HH := Lib.hid (HH.out.below hb)
  clear hb
  go_wp2
  go_ret
  exact ⟨rfl, HS.out.bel⟩
end Go.Proofs.Ytclhcfmlkfiidaa
