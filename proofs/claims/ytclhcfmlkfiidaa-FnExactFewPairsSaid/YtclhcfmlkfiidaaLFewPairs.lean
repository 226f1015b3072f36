/-
  The walk over the law FnExactFewPairs: whatever the arguments, it answers true and leaves old memory alone.
  Conditions: the arguments read as such data.
-/
import Derived.Test.YtclhcfmlkfiidaaFew
import Derived.Test.YtclhcfmlkfiidaaSz
import Derived.Test.YtclhcfmlkfiidaaTo
import Derived.Test.YtclhcfmlkfiidaaEqd
import Derived.Test.YtclhcfmlkfiidaaMk
import Derived.Test.YtclhcfmlkfiidaaLb
namespace Go.Proofs.Ytclhcfmlkfiidaa
open Go.RowKit Go.Maps

set_option maxRecDepth 100000 in
set_option maxHeartbeats 16000000 in
theorem exactFewPairs_walk (a : DfaD) (b : DfaD) (ps : List (Int × Int)) (v1 v2 v3 : Value) (w : World) (h1 : DfaR 0 w v1 a) (h2 : DfaR 0 w v2 b) (h3 : Pairs 0 w v3 ps) :
    Calls Try.prog 3 #[v1, v2, v3] w fun e w' => e = .returned (.bool true) ∧ Below w.heap.size w w' := by
  have H1 := Lib.hid h1
  obtain ⟨a01, ac01, a02, ac02, rfl⟩ := h1.shape
  have H2 := Lib.hid h2
  obtain ⟨a11, ac11, a12, ac12, rfl⟩ := h2.shape
  have H3 := Lib.hid h3
  obtain ⟨a21, ac21, rfl, hla2, hma2, -⟩ := h3.form
  clear h1 h2 h3
  obtain ⟨F, hF⟩ : ∃ F, fewF a b ps = F := ⟨_, rfl⟩
  obtain ⟨fb, hfb⟩ : ∃ fb, checkB a b ps = fb := ⟨_, rfl⟩
  have hFl : F.length ≤ ps.length := by rw [← hF]; exact fewF_len a b ps
  have HhF := Lib.hid hF; clear hF
  have Hhfb := Lib.hid hfb; clear hfb
  have HB : Hid (Below w.heap.size w ((w.alloc (.cells #[.slice a01 a.next.length ac01, .slice a02 a.ends.length ac02] 25)).alloc (.cells #[.slice a11 b.next.length ac11, .slice a12 b.ends.length ac12] 25))) := Lib.hid (((Below.refl w.heap.size w).alloc (Nat.le_refl _) (.cells #[.slice a01 a.next.length ac01, .slice a02 a.ends.length ac02] 25)).alloc (by simp) (.cells #[.slice a11 b.next.length ac11, .slice a12 b.ends.length ac12] 25))
  have HX0 : Hid (Bx ((w.alloc (.cells #[.slice a01 a.next.length ac01, .slice a02 a.ends.length ac02] 25)).alloc (.cells #[.slice a11 b.next.length ac11, .slice a12 b.ends.length ac12] 25)) (w.heap.size) #[.slice a01 a.next.length ac01, .slice a02 a.ends.length ac02] 25) := Lib.hid (by simpa using ((Bx.new w #[.slice a01 a.next.length ac01, .slice a02 a.ends.length ac02] 25).alloc (.cells #[.slice a11 b.next.length ac11, .slice a12 b.ends.length ac12] 25)))
  have HX1 : Hid (Bx ((w.alloc (.cells #[.slice a01 a.next.length ac01, .slice a02 a.ends.length ac02] 25)).alloc (.cells #[.slice a11 b.next.length ac11, .slice a12 b.ends.length ac12] 25)) (w.heap.size + 1) #[.slice a11 b.next.length ac11, .slice a12 b.ends.length ac12] 25) := Lib.hid (by simpa using (Bx.new (w.alloc (.cells #[.slice a01 a.next.length ac01, .slice a02 a.ends.length ac02] 25)) #[.slice a11 b.next.length ac11, .slice a12 b.ends.length ac12] 25))
  go_enter Try.func3, Try.ntmps3
  go_wp2_with fail
  by_cases hN0 : 1048576 < (totDfa a.next a.ends : Int)
  · refine (szDfa_d a _ _ (by omega) (by omega) _ (H1.out.below HB.out) _ (szV_no (by omega))).mono ?_
    rintro e w1 ⟨rfl, hb1⟩
    have Hhb1 := Lib.hid hb1; clear hb1
    go_wp2
    go_ret
    exact ⟨rfl, HB.out.trans (Hhb1.out.mono HB.out.size)⟩
  have hS0 : (totDfa a.next a.ends : Int) ≤ 1048576 := by omega
  refine (szDfa_d a _ _ (by omega) (by omega) _ (H1.out.below HB.out) _ (szV_yes hS0)).mono ?_
  rintro e wz0 ⟨rfl, hb⟩
  replace HB := Lib.hid (HB.out.trans (hb.mono HB.out.size))
  replace HX0 := Lib.hid (HX0.out.below hb HX0.out.lt)
  replace HX1 := Lib.hid (HX1.out.below hb HX1.out.lt)
  clear hb
  have hL0 : 0 ≤ 1048576 - (totDfa a.next a.ends : Int) := by omega
  have cHX10 := HX1.out.cell 0
  have cHX11 := HX1.out.cell 1
  simp only [List.getElem?_toArray, List.getElem?_cons_zero, List.getElem?_cons_succ] at cHX10 cHX11
  go_wp2_with fail
  by_cases hN1 : 1048576 - (totDfa a.next a.ends : Int) < (totDfa b.next b.ends : Int)
  · refine (szDfa_d b _ _ (by omega) (by omega) _ (H2.out.below HB.out) _ (szV_no (by omega))).mono ?_
    rintro e w1 ⟨rfl, hb1⟩
    have Hhb1 := Lib.hid hb1; clear hb1
    go_wp2
    go_ret
    exact ⟨rfl, HB.out.trans (Hhb1.out.mono HB.out.size)⟩
  have hS1 : (totDfa b.next b.ends : Int) ≤ 1048576 - (totDfa a.next a.ends : Int) := by omega
  refine (szDfa_d b _ _ (by omega) (by omega) _ (H2.out.below HB.out) _ (szV_yes hS1)).mono ?_
  rintro e wz1 ⟨rfl, hb⟩
  replace HB := Lib.hid (HB.out.trans (hb.mono HB.out.size))
  replace HX0 := Lib.hid (HX0.out.below hb HX0.out.lt)
  replace HX1 := Lib.hid (HX1.out.below hb HX1.out.lt)
  clear hb
  clear cHX10 cHX11
  have hL1 : 0 ≤ 1048576 - (totDfa a.next a.ends : Int) - (totDfa b.next b.ends : Int) := by omega
  go_wp2_with fail
  by_cases hN2 : 1048576 - (totDfa a.next a.ends : Int) - (totDfa b.next b.ends : Int) < (ps.length : Int)
  · refine (szPairS_any _ _ _ (by omega) _ (by omega) (by omega) _ _ (szV_no (by omega))).mono ?_
    rintro e w1 ⟨rfl, rfl⟩
    go_wp2
    go_ret
    exact ⟨rfl, HB.out⟩
  have hS2 : (ps.length : Int) ≤ 1048576 - (totDfa a.next a.ends : Int) - (totDfa b.next b.ends : Int) := by omega
  refine (szPairS_any _ _ _ (by omega) _ (by omega) (by omega) _ _ (szV_yes hS2)).mono ?_
  rintro e wz2 ⟨rfl, rfl⟩
  have hL2 : 0 ≤ 1048576 - (totDfa a.next a.ends : Int) - (totDfa b.next b.ends : Int) - (ps.length : Int) := by omega
  have hm0 : small a := small_of_tot hS0 (by omega)
  have hz0 := big_of_small hS0 (by omega)
  have Hhz0 := Lib.hid hz0; clear hz0
  have Hhm0 := Lib.hid hm0; clear hm0
  have hsz0 := HX0.out.lt
  have hm1 : small b := small_of_tot hS1 (by omega)
  have hz1 := big_of_small hS1 (by omega)
  have Hhz1 := Lib.hid hz1; clear hz1
  have Hhm1 := Lib.hid hm1; clear hm1
  have hsz1 := HX1.out.lt
  have hm2 : ps.length ≤ 1048576 := by omega
  have Hhm2 := Lib.hid hm2; clear hm2
  have cHX00 := HX0.out.cell 0
  have cHX01 := HX0.out.cell 1
  have cHX10 := HX1.out.cell 0
  have cHX11 := HX1.out.cell 1
  simp only [List.getElem?_toArray, List.getElem?_cons_zero, List.getElem?_cons_succ] at cHX00 cHX01 cHX10 cHX11
  have Hk := Lib.hid (fun (w' : World) (h : Below wz1.drew.heap.size wz1.drew w') => (show w'.cell? ⟨w.heap.size, 0, none⟩ = some (.slice a01 a.next.length ac01) ∧ w'.cell? ⟨w.heap.size, 1, none⟩ = some (.slice a02 a.ends.length ac02) ∧ w'.cell? ⟨w.heap.size + 1, 0, none⟩ = some (.slice a11 b.next.length ac11) ∧ w'.cell? ⟨w.heap.size + 1, 1, none⟩ = some (.slice a12 b.ends.length ac12) from ⟨(bcell h _ _ hsz0).trans cHX00, (bcell h _ _ hsz0).trans cHX01, (bcell h _ _ hsz1).trans cHX10, (bcell h _ _ hsz1).trans cHX11⟩))
  have HBd : Hid (Below w.heap.size w wz1.drew) := Lib.hid HB.out.drew
  go_wp2_with fail
  go_region_held3 (fun w' => w'.cell? ⟨w.heap.size, 0, none⟩ = some (.slice a01 a.next.length ac01) ∧ w'.cell? ⟨w.heap.size, 1, none⟩ = some (.slice a02 a.ends.length ac02) ∧ w'.cell? ⟨w.heap.size + 1, 0, none⟩ = some (.slice a11 b.next.length ac11) ∧ w'.cell? ⟨w.heap.size + 1, 1, none⟩ = some (.slice a12 b.ends.length ac12))
    (first | go_keep | exact Hk.out _ hq0 | exact Hk.out _ hq1 | exact Hk.out _ hq2 | exact Hk.out _ hq3)
    (first
      | (go_at_call 12; (with_reducible refine (toDfa_any a _ _ Hhm0.out (H1.out.below HBd.out)).mono ?_); rintro e u0 ⟨⟨m01, mc01, m02, mc02, rfl, ho0⟩, hq0⟩)
      | (go_at_call 12; (with_reducible refine (toDfa_any b _ _ Hhm1.out (H2.out.below (HBd.out.trans (hq0.mono HBd.out.size)))).mono ?_); rintro e u1 ⟨⟨m11, mc11, m12, mc12, rfl, ho1⟩, hb1⟩; have hq1 := hq0.trans (hb1.mono hq0.size))
      | (go_at_call 13; (with_reducible refine (toPairS_any ps _ _ Hhm2.out (H3.out.below (HBd.out.trans (hq1.mono HBd.out.size)))).mono ?_); rintro e u2 ⟨⟨m21, mc21, rfl, ho2⟩, hb2⟩; have hq2 := hq1.trans (hb2.mono hq1.size))
      | (go_at_call 11; (with_reducible refine (specFew_any a b ps F fb HhF.out Hhfb.out _ _ _ _ Hhm2.out (((ho0.r.mono (Nat.zero_le _)).below hb1).below hb2) ((ho1.r.mono (Nat.zero_le _)).below hb2) (OPairs.pairs ho2 |>.mono (Nat.zero_le _))).mono ?_); rintro e w5 ⟨⟨aw, cw, rfl, hwr⟩, hb3⟩; have hq3 := hq2.trans (hb3.mono hq2.size)))
  have hb := ((Below.refl wz1.heap.size wz1).drew).trans hq3
  have hwrH := Lib.hid hwr
  clear hwr Hk HBd cHX00 cHX01 cHX10 cHX11 ho0 hq0 ho1 hq1 ho2 hq2 hq3 hb1 hb2 hb3
  replace HB := Lib.hid (HB.out.trans (hb.mono HB.out.size))
  replace HX0 := Lib.hid (HX0.out.below hb HX0.out.lt)
  replace HX1 := Lib.hid (HX1.out.below hb HX1.out.lt)
  replace hsz0 : w.heap.size < w5.heap.size := HX0.out.lt
  replace hsz1 : w.heap.size + 1 < w5.heap.size := HX1.out.lt
  clear hb
  have HD : Hid (Below w5.heap.size w5 w5) := Lib.hid (Below.refl _ _)
  have cHX00 := HX0.out.cell 0
  have cHX01 := HX0.out.cell 1
  simp only [List.getElem?_toArray, List.getElem?_cons_zero, List.getElem?_cons_succ] at cHX00 cHX01
  go_wp2_with fail
  refine (toDfa_any a _ _ Hhm0.out (H1.out.below HB.out)).mono ?_
  rintro e y0 ⟨⟨s01, sc01, s02, sc02, rfl, ho⟩, hb⟩
  clear cHX00 cHX01
  replace HB := Lib.hid (HB.out.trans (hb.mono HB.out.size))
  replace HX0 := Lib.hid (HX0.out.below hb HX0.out.lt)
  replace HX1 := Lib.hid (HX1.out.below hb HX1.out.lt)
  replace HD := Lib.hid (HD.out.trans (hb.mono HD.out.size))
  have hny0 : w5.heap.size ≤ y0.heap.size := hb.size
  have HO0 := Lib.hid ho
  clear ho hb
  have hb := (Below.refl y0.heap.size y0).alloc (Nat.le_refl _) (.cells #[.slice s01 a.next.length sc01, .slice s02 a.ends.length sc02] 32)
  replace HB := Lib.hid (HB.out.trans (hb.mono HB.out.size))
  replace HX0 := Lib.hid (HX0.out.below hb HX0.out.lt)
  replace HX1 := Lib.hid (HX1.out.below hb HX1.out.lt)
  replace HD := Lib.hid (HD.out.trans (hb.mono HD.out.size))
  replace HO0 := Lib.hid (HO0.out.below hb)
  have HY0 := Lib.hid (Bx.new y0 #[.slice s01 a.next.length sc01, .slice s02 a.ends.length sc02] 32)
  clear hb
  have cHX10 := HX1.out.cell 0
  have cHX11 := HX1.out.cell 1
  simp only [List.getElem?_toArray, List.getElem?_cons_zero, List.getElem?_cons_succ] at cHX10 cHX11
  go_wp2_with fail
  refine (toDfa_any b _ _ Hhm1.out (H2.out.below HB.out)).mono ?_
  rintro e y1 ⟨⟨s11, sc11, s12, sc12, rfl, ho⟩, hb⟩
  simp only [World.size_alloc] at ho
  clear cHX10 cHX11
  replace HB := Lib.hid (HB.out.trans (hb.mono HB.out.size))
  replace HX0 := Lib.hid (HX0.out.below hb HX0.out.lt)
  replace HX1 := Lib.hid (HX1.out.below hb HX1.out.lt)
  replace HD := Lib.hid (HD.out.trans (hb.mono HD.out.size))
  replace HO0 := Lib.hid (HO0.out.below hb)
  replace HY0 := Lib.hid (HY0.out.below hb HY0.out.lt)
  have hny1 : (y0.alloc (.cells #[.slice s01 a.next.length sc01, .slice s02 a.ends.length sc02] 32)).heap.size ≤ y1.heap.size := hb.size
  simp only [World.size_alloc] at hny1
  have HO1 := Lib.hid ho
  clear ho hb
  have hb := (Below.refl y1.heap.size y1).alloc (Nat.le_refl _) (.cells #[.slice s11 b.next.length sc11, .slice s12 b.ends.length sc12] 32)
  replace HB := Lib.hid (HB.out.trans (hb.mono HB.out.size))
  replace HX0 := Lib.hid (HX0.out.below hb HX0.out.lt)
  replace HX1 := Lib.hid (HX1.out.below hb HX1.out.lt)
  replace HD := Lib.hid (HD.out.trans (hb.mono HD.out.size))
  replace HO0 := Lib.hid (HO0.out.below hb)
  replace HY0 := Lib.hid (HY0.out.below hb HY0.out.lt)
  replace HO1 := Lib.hid (HO1.out.below hb)
  have HY1 := Lib.hid (Bx.new y1 #[.slice s11 b.next.length sc11, .slice s12 b.ends.length sc12] 32)
  clear hb
  go_wp2_with fail
  refine (toPairS_any ps _ _ Hhm2.out (H3.out.below HB.out)).mono ?_
  rintro e y2 ⟨⟨s21, sc21, rfl, ho⟩, hb⟩
  simp only [World.size_alloc] at ho
  replace HB := Lib.hid (HB.out.trans (hb.mono HB.out.size))
  replace HX0 := Lib.hid (HX0.out.below hb HX0.out.lt)
  replace HX1 := Lib.hid (HX1.out.below hb HX1.out.lt)
  replace HD := Lib.hid (HD.out.trans (hb.mono HD.out.size))
  replace HO0 := Lib.hid (HO0.out.below hb)
  replace HY0 := Lib.hid (HY0.out.below hb HY0.out.lt)
  replace HO1 := Lib.hid (HO1.out.below hb)
  replace HY1 := Lib.hid (HY1.out.below hb HY1.out.lt)
  have hny2 : (y1.alloc (.cells #[.slice s11 b.next.length sc11, .slice s12 b.ends.length sc12] 32)).heap.size ≤ y2.heap.size := hb.size
  simp only [World.size_alloc] at hny2
  have HO2 := Lib.hid ho
  clear ho hb
  have cHY00 := HY0.out.cell 0
  have cHY01 := HY0.out.cell 1
  have cHY10 := HY1.out.cell 0
  have cHY11 := HY1.out.cell 1
  simp only [List.getElem?_toArray, List.getElem?_cons_zero, List.getElem?_cons_succ] at cHY00 cHY01 cHY10 cHY11
  go_wp2_with fail
  refine (implFew_any a b ps F fb HhF.out Hhfb.out _ _ _ _ Hhm2.out (HO0.out.r.mono (Nat.zero_le _)) (HO1.out.r.mono (Nat.zero_le _)) (OPairs.pairs HO2.out |>.mono (Nat.zero_le _))).mono ?_
  rintro e w8 ⟨⟨ag, cg, rfl, hog⟩, hb⟩
  clear cHY00 cHY01 cHY10 cHY11
  replace HB := Lib.hid (HB.out.trans (hb.mono HB.out.size))
  replace HX0 := Lib.hid (HX0.out.below hb HX0.out.lt)
  replace HX1 := Lib.hid (HX1.out.below hb HX1.out.lt)
  replace HD := Lib.hid (HD.out.trans (hb.mono HD.out.size))
  replace HO0 := Lib.hid (HO0.out.below hb)
  replace HY0 := Lib.hid (HY0.out.below hb HY0.out.lt)
  replace HO1 := Lib.hid (HO1.out.below hb)
  replace HY1 := Lib.hid (HY1.out.below hb HY1.out.lt)
  replace HO2 := Lib.hid (Own.below HO2.out hb)
  have hn8 := hb.size
  have HG := Lib.hid hog
  clear hog
  clear hb
  have HE : Hid (Below w8.heap.size w8 w8) := Lib.hid (Below.refl _ _)
  go_wp2_with fail
  refine (eqPairS_any F F _ _ _ ((OPairs.pairs HG.out).mono (Nat.zero_le _)) (hwrH.out.below HD.out) true (by simp)).mono ?_
  rintro e w9 ⟨rfl, hb⟩
  have hnw9 := hb.size
  replace HB := Lib.hid (HB.out.trans (hb.mono HB.out.size))
  replace HX0 := Lib.hid (HX0.out.below hb HX0.out.lt)
  replace HX1 := Lib.hid (HX1.out.below hb HX1.out.lt)
  replace HD := Lib.hid (HD.out.trans (hb.mono HD.out.size))
  replace HO0 := Lib.hid (HO0.out.below hb)
  replace HY0 := Lib.hid (HY0.out.below hb HY0.out.lt)
  replace HO1 := Lib.hid (HO1.out.below hb)
  replace HY1 := Lib.hid (HY1.out.below hb HY1.out.lt)
  replace HO2 := Lib.hid (Own.below HO2.out hb)
  replace HG := Lib.hid (Own.below HG.out hb)
  replace HE := Lib.hid (HE.out.trans (hb.mono HE.out.size))
  clear hb
  have hw0 := HX0.out.lt
  have hv0 := HY0.out.lt
  have cHX00 := HX0.out.cell 0
  have cHX01 := HX0.out.cell 1
  have cHY00 := HY0.out.cell 0
  have cHY01 := HY0.out.cell 1
  simp only [List.getElem?_toArray, List.getElem?_cons_zero, List.getElem?_cons_succ] at cHX00 cHX01 cHY00 cHY01
  have Hk := Lib.hid (fun (w' : World) (h : Below w9.drew.heap.size w9.drew w') => (show w'.cell? ⟨w.heap.size, 0, none⟩ = some (.slice a01 a.next.length ac01) ∧ w'.cell? ⟨w.heap.size, 1, none⟩ = some (.slice a02 a.ends.length ac02) ∧ w'.cell? ⟨y0.heap.size, 0, none⟩ = some (.slice s01 a.next.length sc01) ∧ w'.cell? ⟨y0.heap.size, 1, none⟩ = some (.slice s02 a.ends.length sc02) from ⟨(bcell h _ _ hw0).trans cHX00, (bcell h _ _ hw0).trans cHX01, (bcell h _ _ hv0).trans cHY00, (bcell h _ _ hv0).trans cHY01⟩))
  go_wp2
  go_region_held3 (fun w' => w'.cell? ⟨w.heap.size, 0, none⟩ = some (.slice a01 a.next.length ac01) ∧ w'.cell? ⟨w.heap.size, 1, none⟩ = some (.slice a02 a.ends.length ac02) ∧ w'.cell? ⟨y0.heap.size, 0, none⟩ = some (.slice s01 a.next.length sc01) ∧ w'.cell? ⟨y0.heap.size, 1, none⟩ = some (.slice s02 a.ends.length sc02))
    (first | go_keep | exact Hk.out _ hq0 | exact Hk.out _ hq1)
    (first
      | (go_at_call 12; (with_reducible refine (toDfa_any a _ _ Hhm0.out (H1.out.below HB.out.drew)).mono ?_); rintro e u0 ⟨⟨m01, mc01, m02, mc02, rfl, ho0⟩, hq0⟩)
      | (go_at_call 16; (with_reducible refine (eqDfa_any a a _ _ _ ((((HO0.out.r.mono (Nat.zero_le _))).below (Below.refl _ _).drew).below hq0) (ho0.r.mono (Nat.zero_le _)) true (by simp)).mono ?_); rintro e k0 ⟨rfl, hb1⟩; have hq1 := hq0.trans (hb1.mono hq0.size)))
  have hb := ((Below.refl w9.heap.size w9).drew).trans hq1
  clear Hk hq0 hq1 hb1 ho0 hw0 hv0 cHX00 cHX01 cHY00 cHY01
  replace HB := Lib.hid (HB.out.trans (hb.mono HB.out.size))
  replace HX0 := Lib.hid (HX0.out.below hb HX0.out.lt)
  replace HX1 := Lib.hid (HX1.out.below hb HX1.out.lt)
  replace HD := Lib.hid (HD.out.trans (hb.mono HD.out.size))
  replace HO0 := Lib.hid (HO0.out.below hb)
  replace HY0 := Lib.hid (HY0.out.below hb HY0.out.lt)
  replace HO1 := Lib.hid (HO1.out.below hb)
  replace HY1 := Lib.hid (HY1.out.below hb HY1.out.lt)
  replace HO2 := Lib.hid (Own.below HO2.out hb)
  replace HG := Lib.hid (Own.below HG.out hb)
  replace HE := Lib.hid (HE.out.trans (hb.mono HE.out.size))
  clear hb
  have hw1 := HX1.out.lt
  have hv1 := HY1.out.lt
  have cHX10 := HX1.out.cell 0
  have cHX11 := HX1.out.cell 1
  have cHY10 := HY1.out.cell 0
  have cHY11 := HY1.out.cell 1
  simp only [List.getElem?_toArray, List.getElem?_cons_zero, List.getElem?_cons_succ] at cHX10 cHX11 cHY10 cHY11
  have Hk := Lib.hid (fun (w' : World) (h : Below k0.drew.heap.size k0.drew w') => (show w'.cell? ⟨w.heap.size + 1, 0, none⟩ = some (.slice a11 b.next.length ac11) ∧ w'.cell? ⟨w.heap.size + 1, 1, none⟩ = some (.slice a12 b.ends.length ac12) ∧ w'.cell? ⟨y1.heap.size, 0, none⟩ = some (.slice s11 b.next.length sc11) ∧ w'.cell? ⟨y1.heap.size, 1, none⟩ = some (.slice s12 b.ends.length sc12) from ⟨(bcell h _ _ hw1).trans cHX10, (bcell h _ _ hw1).trans cHX11, (bcell h _ _ hv1).trans cHY10, (bcell h _ _ hv1).trans cHY11⟩))
  go_wp2
  go_region_held3 (fun w' => w'.cell? ⟨w.heap.size + 1, 0, none⟩ = some (.slice a11 b.next.length ac11) ∧ w'.cell? ⟨w.heap.size + 1, 1, none⟩ = some (.slice a12 b.ends.length ac12) ∧ w'.cell? ⟨y1.heap.size, 0, none⟩ = some (.slice s11 b.next.length sc11) ∧ w'.cell? ⟨y1.heap.size, 1, none⟩ = some (.slice s12 b.ends.length sc12))
    (first | go_keep | exact Hk.out _ hq0 | exact Hk.out _ hq1)
    (first
      | (go_at_call 12; (with_reducible refine (toDfa_any b _ _ Hhm1.out (H2.out.below HB.out.drew)).mono ?_); rintro e u0 ⟨⟨m11, mc11, m12, mc12, rfl, ho0⟩, hq0⟩)
      | (go_at_call 16; (with_reducible refine (eqDfa_any b b _ _ _ ((((HO1.out.r.mono (Nat.zero_le _))).below (Below.refl _ _).drew).below hq0) (ho0.r.mono (Nat.zero_le _)) true (by simp)).mono ?_); rintro e k1 ⟨rfl, hb1⟩; have hq1 := hq0.trans (hb1.mono hq0.size)))
  have hb := ((Below.refl k0.heap.size k0).drew).trans hq1
  clear Hk hq0 hq1 hb1 ho0 hw1 hv1 cHX10 cHX11 cHY10 cHY11
  replace HB := Lib.hid (HB.out.trans (hb.mono HB.out.size))
  replace HX0 := Lib.hid (HX0.out.below hb HX0.out.lt)
  replace HX1 := Lib.hid (HX1.out.below hb HX1.out.lt)
  replace HD := Lib.hid (HD.out.trans (hb.mono HD.out.size))
  replace HO0 := Lib.hid (HO0.out.below hb)
  replace HY0 := Lib.hid (HY0.out.below hb HY0.out.lt)
  replace HO1 := Lib.hid (HO1.out.below hb)
  replace HY1 := Lib.hid (HY1.out.below hb HY1.out.lt)
  replace HO2 := Lib.hid (Own.below HO2.out hb)
  replace HG := Lib.hid (Own.below HG.out hb)
  replace HE := Lib.hid (HE.out.trans (hb.mono HE.out.size))
  clear hb
  go_wp2_with fail
  refine (toPairS_any ps _ _ Hhm2.out (H3.out.below HB.out)).mono ?_
  rintro e j2 ⟨⟨m21, mc21, rfl, ho⟩, hb⟩
  replace HB := Lib.hid (HB.out.trans (hb.mono HB.out.size))
  replace HX0 := Lib.hid (HX0.out.below hb HX0.out.lt)
  replace HX1 := Lib.hid (HX1.out.below hb HX1.out.lt)
  replace HD := Lib.hid (HD.out.trans (hb.mono HD.out.size))
  replace HO0 := Lib.hid (HO0.out.below hb)
  replace HY0 := Lib.hid (HY0.out.below hb HY0.out.lt)
  replace HO1 := Lib.hid (HO1.out.below hb)
  replace HY1 := Lib.hid (HY1.out.below hb HY1.out.lt)
  replace HO2 := Lib.hid (Own.below HO2.out hb)
  replace HG := Lib.hid (Own.below HG.out hb)
  replace HE := Lib.hid (HE.out.trans (hb.mono HE.out.size))
  have hoH := Lib.hid ho
  clear hb ho
  go_wp2_with fail
  refine (eqPairS_any ps ps _ _ _ (OPairs.pairs HO2.out |>.mono (Nat.zero_le _)) (OPairs.pairs hoH.out |>.mono (Nat.zero_le _)) true (by simp)).mono ?_
  rintro e k2 ⟨rfl, hb⟩
  replace HB := Lib.hid (HB.out.trans (hb.mono HB.out.size))
  replace HX0 := Lib.hid (HX0.out.below hb HX0.out.lt)
  replace HX1 := Lib.hid (HX1.out.below hb HX1.out.lt)
  replace HD := Lib.hid (HD.out.trans (hb.mono HD.out.size))
  replace HO0 := Lib.hid (HO0.out.below hb)
  replace HY0 := Lib.hid (HY0.out.below hb HY0.out.lt)
  replace HO1 := Lib.hid (HO1.out.below hb)
  replace HY1 := Lib.hid (HY1.out.below hb HY1.out.lt)
  replace HO2 := Lib.hid (Own.below HO2.out hb)
  replace HG := Lib.hid (Own.below HG.out hb)
  replace HE := Lib.hid (HE.out.trans (hb.mono HE.out.size))
  clear hb hoH
  have hlow : w.heap.size + 2 ≤ w5.heap.size := by omega
  have hsW : w8.heap.size ≤ k2.heap.size := HE.out.size
  have cHY00 := HY0.out.cell 0
  have cHY01 := HY0.out.cell 1
  simp only [List.getElem?_toArray, List.getElem?_cons_zero, List.getElem?_cons_succ] at cHY00 cHY01
  have hv0 := HY0.out.lt
  go_wp2_with fail
  refine (markDfa_any a (1) w5.heap.size y0.heap.size _ _ (by omega) (by have := Hhz0.out; omega) Hhz0.out.1 Hhz0.out.2.1 Hhz0.out.2.2.1 (by omega) HO0.out).mono ?_
  rintro e l0 ⟨rfl, -, hm⟩
  clear cHY00 cHY01
  replace HB := Lib.hid (HB.out.trans ((hm.below (by omega)).mono (by omega)))
  replace HD := Lib.hid (HD.out.trans ((hm.below (by omega)).mono (by omega)))
  replace HX0 := Lib.hid (HX0.out.only hm (by omega))
  replace HX1 := Lib.hid (HX1.out.only hm (by omega))
  replace HY1 := Lib.hid (HY1.out.only hm (by omega))
  replace HO1 := Lib.hid (DfaO.only HO1.out hm (by omega))
  replace HO2 := Lib.hid (Own.only HO2.out hm (by omega))
  replace HG := Lib.hid (Own.only HG.out hm (by omega))
  have hnl0 := hm.size
  clear hm
  have hk0 : 0 ≤ 1 + (totD a : Int) := by omega
  have cHY10 := HY1.out.cell 0
  have cHY11 := HY1.out.cell 1
  simp only [List.getElem?_toArray, List.getElem?_cons_zero, List.getElem?_cons_succ] at cHY10 cHY11
  have hv1 := HY1.out.lt
  go_wp2_with fail
  refine (markDfa_any b (1 + (totD a : Int)) (y0.heap.size + 1) y1.heap.size _ _ (by omega) (by have := Hhz0.out; have := Hhz1.out; omega) Hhz1.out.1 Hhz1.out.2.1 Hhz1.out.2.2.1 (by omega) HO1.out).mono ?_
  rintro e l1 ⟨rfl, -, hm⟩
  clear cHY10 cHY11
  replace HB := Lib.hid (HB.out.trans ((hm.below (by omega)).mono (by omega)))
  replace HD := Lib.hid (HD.out.trans ((hm.below (by omega)).mono (by omega)))
  replace HX0 := Lib.hid (HX0.out.only hm (by omega))
  replace HX1 := Lib.hid (HX1.out.only hm (by omega))
  replace HO2 := Lib.hid (Own.only HO2.out hm (by omega))
  replace HG := Lib.hid (Own.only HG.out hm (by omega))
  have hnl1 := hm.size
  clear hm
  have hk1 : 0 ≤ 1 + (totD a : Int) + (totD b : Int) := by omega
  go_wp2_with fail
  refine (markPairs_any ps (1 + (totD a : Int) + (totD b : Int)) (y1.heap.size + 1) y2.heap.size _ _ (by omega) (by have := Hhz0.out; have := Hhz1.out; have := Hhm2.out; omega) (by have := Hhz0.out; have := Hhz1.out; have := Hhm2.out; omega) HO2.out).mono ?_
  rintro e l2 ⟨rfl, -, hm⟩
  replace hm := (Touch.of_grown HO2.out hm).only
  replace HB := Lib.hid (HB.out.trans ((hm.below (by omega)).mono (by omega)))
  replace HD := Lib.hid (HD.out.trans ((hm.below (by omega)).mono (by omega)))
  replace HX0 := Lib.hid (HX0.out.only hm (by omega))
  replace HX1 := Lib.hid (HX1.out.only hm (by omega))
  replace HG := Lib.hid (Own.only HG.out hm (by omega))
  have hnl2 := hm.size
  clear hm
  have hk2 : 0 ≤ 1 + (totD a : Int) + (totD b : Int) + 2 * (ps.length : Int) := by omega
  go_wp2_with fail
  refine (eqPairS_any F F _ _ _ ((OPairs.pairs HG.out).mono (Nat.zero_le _)) (hwrH.out.below HD.out) true (by simp)).mono ?_
  rintro e w10 ⟨rfl, hb⟩
  have hnw10 := hb.size
  replace HB := Lib.hid (HB.out.trans (hb.mono HB.out.size))
  replace HX0 := Lib.hid (HX0.out.below hb HX0.out.lt)
  replace HX1 := Lib.hid (HX1.out.below hb HX1.out.lt)
  replace HD := Lib.hid (HD.out.trans (hb.mono HD.out.size))
  replace HG := Lib.hid (Own.below HG.out hb)
  clear hb
  go_wp2_with fail
  refine (markPairs_any F 1 y2.heap.size w8.heap.size _ _ (by omega) (by omega) (by have := Hhm2.out; omega) HG.out).mono ?_
  rintro e w11 ⟨rfl, hg11, hm⟩
  have hmg := Touch.of_grown HG.out hm
  replace hm := hmg.only
  clear hmg
  replace HB := Lib.hid (HB.out.trans ((hm.below (by omega)).mono (by omega)))
  replace HD := Lib.hid (HD.out.trans ((hm.below (by omega)).mono (by omega)))
  replace HX0 := Lib.hid (HX0.out.only hm (by omega))
  replace HX1 := Lib.hid (HX1.out.only hm (by omega))
  replace HG := Lib.hid hg11
  clear hm hg11
  go_wp2_with fail
  refine (heldPairs_any F.length 1 0 _ _ (by omega) (by omega) (by have := Hhm2.out; omega) ((OPairs.pairs HG.out).mono (Nat.zero_le _))).mono ?_
  rintro e w12 ⟨rfl, rfl⟩
  have hsz0 := HX0.out.lt
  have hsz1 := HX1.out.lt
  have cHX00 := HX0.out.cell 0
  have cHX01 := HX0.out.cell 1
  have cHX10 := HX1.out.cell 0
  have cHX11 := HX1.out.cell 1
  simp only [List.getElem?_toArray, List.getElem?_cons_zero, List.getElem?_cons_succ] at cHX00 cHX01 cHX10 cHX11
  have Hk := Lib.hid (fun (w' : World) (h : Below w11.drew.heap.size w11.drew w') => (show w'.cell? ⟨w.heap.size, 0, none⟩ = some (.slice a01 a.next.length ac01) ∧ w'.cell? ⟨w.heap.size, 1, none⟩ = some (.slice a02 a.ends.length ac02) ∧ w'.cell? ⟨w.heap.size + 1, 0, none⟩ = some (.slice a11 b.next.length ac11) ∧ w'.cell? ⟨w.heap.size + 1, 1, none⟩ = some (.slice a12 b.ends.length ac12) from ⟨(bcell h _ _ hsz0).trans cHX00, (bcell h _ _ hsz0).trans cHX01, (bcell h _ _ hsz1).trans cHX10, (bcell h _ _ hsz1).trans cHX11⟩))
  have HBd : Hid (Below w.heap.size w w11.drew) := Lib.hid HB.out.drew
  go_wp2_with fail
  go_region_held3 (fun w' => w'.cell? ⟨w.heap.size, 0, none⟩ = some (.slice a01 a.next.length ac01) ∧ w'.cell? ⟨w.heap.size, 1, none⟩ = some (.slice a02 a.ends.length ac02) ∧ w'.cell? ⟨w.heap.size + 1, 0, none⟩ = some (.slice a11 b.next.length ac11) ∧ w'.cell? ⟨w.heap.size + 1, 1, none⟩ = some (.slice a12 b.ends.length ac12))
    (first | go_keep | exact Hk.out _ hq0 | exact Hk.out _ hq1 | exact Hk.out _ hq2 | exact Hk.out _ hq3)
    (first
      | (go_at_call 12; (with_reducible refine (toDfa_any a _ _ Hhm0.out (H1.out.below HBd.out)).mono ?_); rintro e u0 ⟨⟨m01, mc01, m02, mc02, rfl, ho0⟩, hq0⟩)
      | (go_at_call 12; (with_reducible refine (toDfa_any b _ _ Hhm1.out (H2.out.below (HBd.out.trans (hq0.mono HBd.out.size)))).mono ?_); rintro e u1 ⟨⟨m11, mc11, m12, mc12, rfl, ho1⟩, hb1⟩; have hq1 := hq0.trans (hb1.mono hq0.size))
      | (go_at_call 13; (with_reducible refine (toPairS_any ps _ _ Hhm2.out (H3.out.below (HBd.out.trans (hq1.mono HBd.out.size)))).mono ?_); rintro e u2 ⟨⟨m21, mc21, rfl, ho2⟩, hb2⟩; have hq2 := hq1.trans (hb2.mono hq1.size))
      | (go_at_call 14; (with_reducible refine (implFew_any a b ps F fb HhF.out Hhfb.out _ _ _ _ Hhm2.out (((ho0.r.mono (Nat.zero_le _)).below hb1).below hb2) ((ho1.r.mono (Nat.zero_le _)).below hb2) (OPairs.pairs ho2 |>.mono (Nat.zero_le _))).mono ?_); rintro e w13 ⟨⟨ah, ch, rfl, hih⟩, hb3⟩; have hq3 := hq2.trans (hb3.mono hq2.size)))
  have hb := ((Below.refl w11.heap.size w11).drew).trans hq3
  have hihH := Lib.hid hih
  clear hih Hk HBd cHX00 cHX01 cHX10 cHX11 ho0 hq0 ho1 hq1 ho2 hq2 hq3 hb1 hb2 hb3
  replace HB := Lib.hid (HB.out.trans (hb.mono HB.out.size))
  replace HX0 := Lib.hid (HX0.out.below hb HX0.out.lt)
  replace HX1 := Lib.hid (HX1.out.below hb HX1.out.lt)
  replace HD := Lib.hid (HD.out.trans (hb.mono HD.out.size))
  replace HG := Lib.hid (Own.below HG.out hb)
  replace hsz0 : w.heap.size < w13.heap.size := HX0.out.lt
  replace hsz1 : w.heap.size + 1 < w13.heap.size := HX1.out.lt
  clear hb
  have HH := Lib.hid hihH.out
  clear hihH
  go_wp2_with fail
  refine (eqPairS_any F F _ _ _ ((OPairs.pairs HH.out).mono (Nat.zero_le _)) (hwrH.out.below HD.out) true (by simp)).mono ?_
  rintro e w14 ⟨rfl, hb⟩
  have hnw14 := hb.size
  replace HB := Lib.hid (HB.out.trans (hb.mono HB.out.size))
  replace HX0 := Lib.hid (HX0.out.below hb HX0.out.lt)
  replace HX1 := Lib.hid (HX1.out.below hb HX1.out.lt)
  replace HD := Lib.hid (HD.out.trans (hb.mono HD.out.size))
  replace HG := Lib.hid (Own.below HG.out hb)
  clear hb
  go_wp2_with fail
  refine (heldPairs_any F.length 1 0 _ _ (by omega) (by omega) (by have := Hhm2.out; omega) ((OPairs.pairs HG.out).mono (Nat.zero_le _))).mono ?_
  rintro e w15 ⟨rfl, rfl⟩
  go_wp2
  go_ret
  exact ⟨rfl, HB.out⟩
end Go.Proofs.Ytclhcfmlkfiidaa
