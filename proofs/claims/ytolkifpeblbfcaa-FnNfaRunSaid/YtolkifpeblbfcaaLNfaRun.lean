/-
  The walk over the law FnNfaRun.
  Condition: the argument reads as bytes.
-/
import Derived.Test.YtolkifpeblbfcaaDz
import Derived.Test.YtolkifpeblbfcaaTz
import Derived.Test.YtolkifpeblbfcaaLNfaClose
namespace Go.Proofs.Ytolkifpeblbfcaa
open Go.RowKit

set_option maxRecDepth 100000 in
set_option maxHeartbeats 16000000 in
theorem nfaRun_walk (bs : List Nat) (v : Value) (w : World) (hb : Bytes 0 w v bs) :
    Calls Try.prog 14 #[v] w fun e w' => e = .returned (.bool true) ∧ Below w.heap.size w w' := by
  have HB := Lib.hid hb
  obtain ⟨av, cv, rfl, hcv1, hcv2, -⟩ := hb.form
  clear hb
  by_cases hlen : 1048576 < bs.length
  · have hl2 : (1048576 : Int) < bs.length := by omega
    go_enter Try.func14, Try.ntmps14
    go_wp2
    go_ret
    exact ⟨rfl, Below.refl _ _⟩
  have hl2 : ¬ (1048576 : Int) < bs.length := by omega
  go_enter Try.func14, Try.ntmps14
  go_wp2_with fail
  refine (drawRun_any bs _ _ HB.out (by omega)).mono ?_
  rintro e w1 ⟨n, l, a1, a2, a3, c1, c2, c3, hs0, hs1, hm, hf, he, ht, hl10, rfl, hS⟩
  have HS := Lib.hid (hS.alloc _ rfl #[.int .i64 n.states, .slice a1 n.moves.length c1, .slice a2 n.firsts.length c2, .slice a3 n.ends.length c3] 46)
  have e0 := HS.out.cell (v := .int .i64 n.states) 3 0 rfl rfl
  have e1 := HS.out.cell (v := .slice a1 n.moves.length c1) 3 1 rfl rfl
  have e2 := HS.out.cell (v := .slice a2 n.firsts.length c2) 3 2 rfl rfl
  have e3 := HS.out.cell (v := .slice a3 n.ends.length c3) 3 3 rfl rfl
  obtain ⟨F, hF⟩ : ∃ F, runL n l = F := ⟨_, rfl⟩
  have HN := Lib.hid (nfaR_rows HS.out 0 1 2 rfl rfl rfl (by omega) (by omega))
  have HhF := Lib.hid hF; clear hF
  have Hht := Lib.hid ht; clear ht
  clear hS
  go_wp2_with fail
  refine (implRun_any n l _ _ HN.out Hht.out (by omega) F HhF.out).mono ?_
  rintro e w2 ⟨a5, c5, rfl, hS'⟩
  have HS2 := Lib.hid (HS.out.cat hS')
  have HN2 := Lib.hid (HN.out.below hS'.bel)
  clear hS' e0 e1 e2 e3
  have e0 := HS2.out.cell (v := .int .i64 n.states) 3 0 rfl rfl
  have e1 := HS2.out.cell (v := .slice a1 n.moves.length c1) 3 1 rfl rfl
  have e2 := HS2.out.cell (v := .slice a2 n.firsts.length c2) 3 2 rfl rfl
  have e3 := HS2.out.cell (v := .slice a3 n.ends.length c3) 3 3 rfl rfl
  go_wp2_with fail
  refine (specRun_any n l _ _ HN2.out Hht.out (by omega) F HhF.out).mono ?_
  rintro e w3 ⟨a6, c6, rfl, hS'⟩
  have HS3 := Lib.hid (HS2.out.cat hS')
  clear hS' e0 e1 e2 e3
  go_wp2_with fail
  refine (sameInts_any F F _ _ _ (ints_of_row' (HS3.out.row 4 rfl)) (ints_of_row' (HS3.out.row 5 rfl)) true (by simp)).mono ?_
  rintro e w4 ⟨rfl, hb4⟩
  have HS4 := Lib.hid (HS3.out.call hb4)
  clear hb4
  have HN4 := Lib.hid (nfaR_rows HS4.out 0 1 2 rfl rfl rfl (by omega) (by omega))
  have e0 := HS4.out.cell (v := .int .i64 n.states) 3 0 rfl rfl
  have e1 := HS4.out.cell (v := .slice a1 n.moves.length c1) 3 1 rfl rfl
  have e2 := HS4.out.cell (v := .slice a2 n.firsts.length c2) 3 2 rfl rfl
  have e3 := HS4.out.cell (v := .slice a3 n.ends.length c3) 3 3 rfl rfl
  cases hok : nfaOk n
  · have hF0 : F = [] := by rw [← HhF.out, runL_bad (.inl hok)]
    subst F
    have Hhok := Lib.hid hok; clear hok
    go_wp2_with fail
    refine (specNfaValid_any n _ _ HN4.out _ Hhok.out).mono ?_
    rintro e w5 ⟨rfl, hb5⟩
    have HS5 := Lib.hid (HS4.out.call hb5)
    clear hb5 e0 e1 e2 e3
    go_wp2_with (go_at_call 32; refine (alive_any _).mono ?_; rintro e w' ⟨rfl, rfl⟩)
    go_ret
    exact ⟨rfl, HS5.out.bel⟩
  cases hwd : wdOk l
  · have hF0 : F = [] := by rw [← HhF.out, runL_bad (.inr hwd)]
    subst F
    have Hhok := Lib.hid hok; clear hok
    have Hhwd := Lib.hid hwd; clear hwd
    go_wp2_with fail
    refine (specNfaValid_any n _ _ HN4.out _ Hhok.out).mono ?_
    rintro e w5 ⟨rfl, hb5⟩
    have HS5 := Lib.hid (HS4.out.call hb5)
    clear hb5 e0 e1 e2 e3
    go_wp2_with (first | (go_at_call 39; refine (specWordValid_any l _ Hht.out (by omega) _ Hhwd.out).mono ?_; rintro e w' ⟨rfl, rfl⟩) | (go_at_call 32; refine (alive_any _).mono ?_; rintro e w' ⟨rfl, rfl⟩))
    go_ret
    exact ⟨rfl, HS5.out.bel⟩
  by_cases hl0 : l = []
  · subst hl0
    have hem : (txB []).toList.isEmpty = true := by rw [txB_empty]; rfl
    have hcl : closeL n n.firsts = F := by rw [runL_nil hok]; exact HhF.out
    have Hhok := Lib.hid hok; clear hok
    have Hhwd := Lib.hid hwd; clear hwd
    have Hhcl := Lib.hid hcl; clear hcl
    go_wp2_with fail
    refine (specNfaValid_any n _ _ HN4.out _ Hhok.out).mono ?_
    rintro e w5 ⟨rfl, hb5⟩
    have HS5 := Lib.hid (HS4.out.call hb5)
    clear hb5 e0 e1 e2 e3
    have e0 := HS5.out.cell (v := .int .i64 n.states) 3 0 rfl rfl
    have e1 := HS5.out.cell (v := .slice a1 n.moves.length c1) 3 1 rfl rfl
    have e2 := HS5.out.cell (v := .slice a2 n.firsts.length c2) 3 2 rfl rfl
    have e3 := HS5.out.cell (v := .slice a3 n.ends.length c3) 3 3 rfl rfl
    have HN5 := Lib.hid (nfaR_rows HS5.out 0 1 2 rfl rfl rfl (by omega) (by omega))
    have HL5 := Lib.hid (ints_of_row' (HS5.out.row 1 rfl))
    go_wp2_with (go_at_call 39; refine (specWordValid_any [] _ Hht.out (by simp) _ Hhwd.out).mono ?_; rintro e w' ⟨rfl, rfl⟩)
    refine (implClose_any n n.firsts _ _ _ HN5.out HL5.out (by omega) F Hhcl.out).mono ?_
    rintro e w6 ⟨a7, c7, rfl, hS'⟩
    have HS6 := Lib.hid (HS5.out.cat hS')
    clear hS'
    go_wp2_with fail
    refine (sameInts_any F F _ _ _ (ints_of_row' (HS6.out.row 4 rfl)) (ints_of_row' (HS6.out.row 6 rfl)) true (by simp)).mono ?_
    rintro e w7 ⟨rfl, hb7⟩
    go_wp2
    go_ret
    exact ⟨rfl, (HS6.out.call hb7).bel⟩
  · have hem : (txB l).toList.isEmpty = false := by rw [txB_empty]; cases l <;> simp_all
    obtain ⟨k, hk⟩ : ∃ k, l.length = k + 1 := ⟨l.length - 1, by have := List.length_pos_iff.2 hl0; omega⟩
    have hsz := txB_size l
    have hstp := runL_step hok hwd hk
    rw [HhF.out] at hstp
    obtain ⟨P, hP⟩ : ∃ P, runL n (l.take k) = P := ⟨_, rfl⟩
    rw [hP] at hstp
    have hPl : P.length ≤ 40 := by rw [← hP, runL_ok hok (wdOk_take hwd k)]; exact members_len 40 _
    have hPl6 : P.length ≤ 1000000 := by omega
    have hb2 := (wdOk_iff.1 hwd).1 _ (getD_memT (show k < l.length by omega))
    obtain ⟨c, hc⟩ : ∃ c, c = l.getD k 0 - 97 := ⟨_, rfl⟩
    rw [← hc] at hstp
    have hrun := fun w => txB_index (show k < l.length by omega) Hht.out w
    have hc2 : ((l.getD k 0 : Nat) : Int) = 97 + (c : Int) := by omega
    rw [hc2] at hrun
    have hw8 : IntKind.u8.wrap (97 + (c : Int) - 97) = (c : Int) := by
      have : 97 + (c : Int) - 97 = (c : Int) := by omega
      rw [this]
      exact IntWalk.u8_in _ (by omega)
    have hw9 : IntKind.i64.wrap (c : Int) = (c : Int) := IntWalk.i64_in _ (by omega)
    have hkw : IntKind.i64.wrap ((l.length : Int) - 1) = (k : Int) := by
      have : (l.length : Int) - 1 = (k : Int) := by omega
      rw [this]
      exact IntWalk.i64_in _ (by omega)
    have hcut := cut_to l k (k : Int) rfl (by omega)
    have hkl : (k : Int) < l.length := by omega
    have htk := isT_take Hht.out k
    have htl : (l.take k).length ≤ 1000 := by rw [List.length_take]; omega
    have Hhok := Lib.hid hok; clear hok
    have Hhwd := Lib.hid hwd; clear hwd
    have Hhl0 := Lib.hid hl0; clear hl0
    have Hhstp := Lib.hid hstp; clear hstp
    have HhP := Lib.hid hP; clear hP
    have Hhc := Lib.hid hc; clear hc
    have Hhtk := Lib.hid htk; clear htk
    have Hhk := Lib.hid hk; clear hk
    clear hc2 hb2
    go_wp2_with fail
    refine (specNfaValid_any n _ _ HN4.out _ Hhok.out).mono ?_
    rintro e w5 ⟨rfl, hb5⟩
    have HS5 := Lib.hid (HS4.out.call hb5)
    clear hb5 e0 e1 e2 e3
    have e0 := HS5.out.cell (v := .int .i64 n.states) 3 0 rfl rfl
    have e1 := HS5.out.cell (v := .slice a1 n.moves.length c1) 3 1 rfl rfl
    have e2 := HS5.out.cell (v := .slice a2 n.firsts.length c2) 3 2 rfl rfl
    have e3 := HS5.out.cell (v := .slice a3 n.ends.length c3) 3 3 rfl rfl
    have HN5 := Lib.hid (nfaR_rows HS5.out.drew 0 1 2 rfl rfl rfl (by omega) (by omega))
    have HF5 := Lib.hid (ints_of_row' (HS5.out.drew.row 4 rfl))
    have Hk : Hid (∀ w' : World, Below w5.drew.heap.size w5.drew w' → w'.cell? ⟨w1.heap.size, 0, none⟩ = some (.int .i64 n.states) ∧ w'.cell? ⟨w1.heap.size, 1, none⟩ = some (.slice a1 n.moves.length c1) ∧ w'.cell? ⟨w1.heap.size, 2, none⟩ = some (.slice a2 n.firsts.length c2) ∧ w'.cell? ⟨w1.heap.size, 3, none⟩ = some (.slice a3 n.ends.length c3)) := Lib.hid fun w' hb => ⟨(HS5.out.drew.call hb).cell 3 0 rfl rfl, (HS5.out.drew.call hb).cell 3 1 rfl rfl, (HS5.out.drew.call hb).cell 3 2 rfl rfl, (HS5.out.drew.call hb).cell 3 3 rfl rfl⟩
    go_wp2_with (go_at_call 39; refine (specWordValid_any l _ Hht.out (by omega) _ Hhwd.out).mono ?_; rintro e w' ⟨rfl, rfl⟩)
    clear hkw hsz hem
    go_region_held3 (fun w' => w'.cell? ⟨w1.heap.size, 0, none⟩ = some (.int .i64 n.states) ∧ w'.cell? ⟨w1.heap.size, 1, none⟩ = some (.slice a1 n.moves.length c1) ∧ w'.cell? ⟨w1.heap.size, 2, none⟩ = some (.slice a2 n.firsts.length c2) ∧ w'.cell? ⟨w1.heap.size, 3, none⟩ = some (.slice a3 n.ends.length c3))
      (first | go_keep | exact Hk.out _ hq6 | exact Hk.out _ hq7 | exact Hk.out _ hq8)
      (first
        | (go_at_call 63; (with_reducible refine (implRun_any n (l.take k) _ _ HN5.out Hhtk.out htl P HhP.out).mono ?_); rintro e u6 ⟨a7, c7, rfl, hr6⟩; have hq6 := hr6.bel)
        | (go_at_call 30; (with_reducible refine (sameInts_any F F _ _ _ (ints_of_row' (hr7.row 0 rfl)) (HF5.out.below hq7) true (by simp)).mono ?_); rintro e u8 ⟨rfl, hr8⟩; have hq8 := hq7.trans (hr8.mono hq7.size))
        | (go_at_call 51; (with_reducible refine (implStep_any n P _ _ _ (HN5.out.below hq6) (ints_of_row' (hr6.row 0 rfl)) hPl6 F _ Hhstp.out).mono ?_); rintro e u7 ⟨a8, c8, rfl, hr7⟩; have hq7 := hq6.trans (hr7.bel.mono hq6.size)))
    all_goals
      go_wp2
      go_ret
      exact ⟨rfl, (HS5.out.drew.call hq8).bel⟩
end Go.Proofs.Ytolkifpeblbfcaa
