/-
  The walks over the laws FnExactCompileExpr and FnExactStateCount: whatever the argument, each answers true and leaves old memory alone.
  Conditions: the argument reads as a list of parts.
-/
import Derived.Test.YtalbofnhcpjilaaPk33Ry
import Derived.Test.YtalbofnhcpjilaaPk35Cmx
namespace Go.Proofs.Ytalbofnhcpjilaa
open Go.RowKit Go.Maps
set_option maxRecDepth 100000 in
set_option maxHeartbeats 8000000 in
theorem exactStateCount_walk (a : List (Int × Int)) (v1 : Value) (w : World) (h1 : Pairs 0 w v1 a) :
    Calls Try.prog 4 #[v1] w fun e w' => e = .returned (.bool true) ∧ Below w.heap.size w w' := by
  have H1 := Lib.hid h1
  obtain ⟨a1, ac1, rfl, hla, hma, -⟩ := h1.form
  obtain ⟨K, hK⟩ : ∃ K : Nat, K = 40 := ⟨_, rfl⟩
  obtain ⟨o, ho⟩ := compO_ex K a
  obtain ⟨z, hz⟩ : ∃ z, cntO o = z := ⟨_, rfl⟩
  have Hsp := Lib.hid (fun (v : Value) (u : World) (hl : a.length ≤ 2000000) (h : Pairs 0 u v a) => specStateCount_any K hK a o ho z hz v u hl h)
  have Him := Lib.hid (fun (v : Value) (u : World) (h : Pairs 0 u v a) => implStateCount_any K hK a o ho z hz v u h)
  have HS : Hid (St w w []) := Lib.hid (St.start w)
  clear h1 ho hK hz
  go_enter Try.func4, Try.ntmps4
  go_wp2_with fail
  by_cases hN : 1048576 < (a.length : Int)
  · refine (szPartS_any _ _ _ (by omega) _ (by omega) (by omega) _ _ (szV_no (by omega))).mono ?_
    rintro e w1 ⟨rfl, rfl⟩
    go_wp2
    go_ret
    exact ⟨rfl, HS.out.bel⟩
  have hS0 : (a.length : Int) ≤ 1048576 := by omega
  refine (szPartS_any _ _ _ (by omega) _ (by omega) (by omega) _ _ (szV_yes hS0)).mono ?_
  rintro e wz ⟨rfl, rfl⟩
  have hL0 : 0 ≤ 1048576 - (a.length : Int) := by omega
  have hm : a.length ≤ 1048576 := by omega
  have Hhm := Lib.hid hm; clear hm
  go_wp2_with fail
  refine (toPartS_any a _ _ Hhm.out (H1.out.below HS.out.bel)).mono ?_
  rintro e y1 ⟨⟨s1, sc1, rfl, ho⟩, hb⟩
  replace HS := Lib.hid (HS.out.call hb)
  have hR := Lib.hid ((OPairs.pairs ho).mono (Nat.zero_le _))
  clear ho hb
  go_wp2_with fail
  refine (Hsp.out _ _ (by have := Hhm.out; omega) hR.out).mono ?_
  rintro e y2 ⟨rfl, hb⟩
  replace HS := Lib.hid (HS.out.call hb)
  clear hb hR
  go_wp2_with fail
  refine (toPartS_any a _ _ Hhm.out (H1.out.below HS.out.bel)).mono ?_
  rintro e y3 ⟨⟨s1, sc1, rfl, ho⟩, hb⟩
  replace HS := Lib.hid (HS.out.call hb)
  have HO := Lib.hid ((OPairs.pairs ho).mono (Nat.zero_le _))
  clear ho hb
  go_wp2_with fail
  refine (Him.out _ _ HO.out).mono ?_
  rintro e y4 ⟨rfl, hb⟩
  replace HS := Lib.hid (HS.out.call hb)
  replace HO := Lib.hid (HO.out.below hb)
  clear hb
  have hzz : (z != z) = false := by simp
  go_wp2_with fail
  refine (toPartS_any a _ _ Hhm.out (H1.out.below HS.out.bel)).mono ?_
  rintro e u0 ⟨⟨m1, mc1, rfl, ho0⟩, hb⟩
  replace HS := Lib.hid (HS.out.call hb)
  replace HO := Lib.hid (HO.out.below hb)
  have HR0 := Lib.hid ((OPairs.pairs ho0).mono (Nat.zero_le _))
  clear hb ho0
  go_wp2_with fail
  refine (eqPartS_any a a _ _ _ HO.out HR0.out true (by simp)).mono ?_
  rintro e k0 ⟨rfl, hb⟩
  replace HS := Lib.hid (HS.out.call hb)
  clear hb HR0
  go_wp2
  go_ret
  exact ⟨rfl, HS.out.bel⟩
end Go.Proofs.Ytalbofnhcpjilaa
