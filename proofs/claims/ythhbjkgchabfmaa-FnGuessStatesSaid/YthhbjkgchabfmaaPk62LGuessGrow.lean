/-
  Plain: the guesses of the learner grow, and the last one is as small as the smallest automaton.
  No condition.
-/
import Derived.Test.YthhbjkgchabfmaaPk33Jv
import Derived.Test.YthhbjkgchabfmaaPk40LGuessGrow
import Derived.Test.YthhbjkgchabfmaaPk45Li
import Derived.Test.YthhbjkgchabfmaaPk46Pg
namespace Go.Proofs.Ythhbjkgchabfmaa
open Go.RowKit
theorem gueW_grow {d : DfaD} (hd : dfaOk d.next d.ends = true) {j : Nat} (hy : ∀ i, i < j + 1 → (hitD d (gueW d i)).isSome = true) : (gueW d j).next.length < (gueW d (j + 1)).next.length := by
  rw [gueW_len, gueW_len]
  obtain ⟨h, -⟩ := tab_inv hd (hitD_ok d) j fun i hi => hy i (by omega)
  obtain ⟨w, hw⟩ := Option.isSome_iff_exists.1 (hy j (by omega))
  obtain ⟨hw1, hw2⟩ := hitD_says hw
  exact (more_starts hd h hw1 hw2 (r' := resW d (j + 1)) (resW_succ d j hw)).2.2
theorem sts_len {d : DfaD} (hd : dfaOk d.next d.ends = true) (J : Nat) : (stsG d J).length = J + 1 := by
  unfold stsG
  rw [if_pos hd, List.length_map, List.length_range]
theorem sts_at {d : DfaD} (hd : dfaOk d.next d.ends = true) {J k : Nat} (hk : k ≤ J) : (stsG d J).getD k 0 = ((gueW d k).next.length : Int) := by
  unfold stsG
  rw [if_pos hd, List.getD_eq_getElem?_getD, List.getElem?_map, List.getElem?_range (by omega)]
  rfl
theorem sts_grow {d : DfaD} (hd : dfaOk d.next d.ends = true) {J : Nat} (hJ : lastG d J) {k : Nat} (hk : k + 1 < (stsG d J).length) : (stsG d J).getD k 0 < (stsG d J).getD (k + 1) 0 := by
  rw [sts_len hd] at hk
  rw [sts_at hd (by omega), sts_at hd (by omega)]
  have := gueW_grow hd (j := k) fun i hi => (hJ hd).2 i (by omega)
  omega
theorem sts_last {d : DfaD} (hd : dfaOk d.next d.ends = true) {J : Nat} (hJ : lastG d J) : (stsG d J).getD ((stsG d J).length - 1) 0 = ((minD d).next.length : Int) := by
  rw [sts_len hd, sts_at hd (by omega), ← gueW_last hd hJ]
  rfl
set_option maxRecDepth 100000 in
set_option maxHeartbeats 16000000 in
theorem guessGrow_walk (bs : List Nat) (v : Value) (w : World) (hb : Bytes 0 w v bs) :
    Calls Try.prog 12 #[v] w fun e w' => e = .returned (.bool true) ∧ Below w.heap.size w w' := by
  have HB := Lib.hid hb
  obtain ⟨av, cv, rfl, hcv1, hcv2, -⟩ := hb.form
  clear hb
  by_cases hlen : 1048576 < bs.length
  · have hl2 : (1048576 : Int) < bs.length := by omega
    go_enter Try.func12, Try.ntmps12
    go_wp2
    go_ret
    exact ⟨rfl, Below.refl _ _⟩
  have hl2 : ¬ (1048576 : Int) < bs.length := by omega
  go_enter Try.func12, Try.ntmps12
  go_wp2_with fail
  refine (drawGuessStatesD_any bs _ _ HB.out (by omega)).mono ?_
  rintro e w1 ⟨d, a1, a2, c1, c2, hsm, rfl, hd, hb1⟩
  have HS1 := Lib.hid (((St.start w).call hb1).alloc _ rfl #[.slice a1 d.next.length c1, .slice a2 d.ends.length c2] 26)
  have HR := Lib.hid (hd.below ((Below.refl w1.heap.size w1).alloc (Nat.le_refl _) (.cells #[.slice a1 d.next.length c1, .slice a2 d.ends.length c2] 26)))
  clear hb1 hd
  obtain ⟨J, hJ⟩ := lastG_ex d
  obtain ⟨F, hF⟩ : ∃ F, stsG d J = F := ⟨_, rfl⟩
  cases hok : dfaOk d.next d.ends
  · have hFl : F.length = 0 := by rw [← hF, stsG, if_neg (by rw [hok]; simp)]; rfl
    have HhJ := Lib.hid hJ; clear hJ
    have HhF := Lib.hid hF; clear hF
    have HhFl := Lib.hid hFl; clear hFl
    have Hhok := Lib.hid hok; clear hok
    have e0 := HS1.out.cell (v := .slice a1 d.next.length c1) 0 0 rfl rfl
    have e1 := HS1.out.cell (v := .slice a2 d.ends.length c2) 0 1 rfl rfl
    go_wp2_with fail
    refine (implGSn_any d J HhJ.out F HhF.out 0 HhFl.out _ _ HR.out).mono ?_
    rintro e w2 ⟨a3, c3, rfl, hx, hb⟩
    have HS2 := Lib.hid (HS1.out.call hb)
    have HR2 := Lib.hid (HR.out.below hb)
    have HX := Lib.hid hx
    clear hb hx e0 e1
    have e0 := HS2.out.cell (v := .slice a1 d.next.length c1) 0 0 rfl rfl
    have e1 := HS2.out.cell (v := .slice a2 d.ends.length c2) 0 1 rfl rfl
    go_wp2_with fail
    refine (specGSn_any d J HhJ.out F HhF.out 0 HhFl.out _ _ HR2.out).mono ?_
    rintro e w3 ⟨a4, c4, rfl, hy, hb⟩
    have HS3 := Lib.hid (HS2.out.call hb)
    have HR3 := Lib.hid (HR2.out.below hb)
    have HX3 := Lib.hid (HX.out.below hb)
    have HY := Lib.hid hy
    clear hb hy e0 e1
    go_wp2_with fail
    refine (sameInts_any F F _ _ _ HX3.out HY.out true (by simp)).mono ?_
    rintro e w4 ⟨rfl, hb⟩
    have HS4 := Lib.hid (HS3.out.call hb)
    have HR4 := Lib.hid (HR3.out.below hb)
    have HX4 := Lib.hid (HX3.out.below hb)
    clear hb
    have e0 := HS4.out.cell (v := .slice a1 d.next.length c1) 0 0 rfl rfl
    have e1 := HS4.out.cell (v := .slice a2 d.ends.length c2) 0 1 rfl rfl
    go_wp2_with (first | (go_at_call 19; refine (specDfaValidD2_any d _ _ HR4.out false Hhok.out).mono ?_; rintro e w5 ⟨rfl, hb5⟩; have HS5 := Lib.hid (HS4.out.call hb5); clear hb5 e0 e1) | (go_at_call 20; refine (alive_any _).mono ?_; rintro e w' ⟨rfl, rfl⟩))
    go_ret
    exact ⟨rfl, HS5.out.bel⟩
  · have hFl := sts_len hok J
    have hgrow : ∀ k, k + 1 < J + 1 → F.getD k 0 < F.getD (k + 1) 0 := fun k hk => by
      rw [← hF]
      exact sts_grow hok hJ (by rw [hFl]; exact hk)
    obtain ⟨M, hM⟩ : ∃ M, minQ d = M := ⟨_, rfl⟩
    have hlast : F.getD J 0 = (M.next.length : Int) := by
      have := sts_last hok hJ
      rw [hFl, hF] at this
      rw [← hM, minQ, if_pos hok]
      exact this
    have hcnt : (if dfaOk d.next d.ends = true then (J : Int) + 1 else -1) = (J : Int) + 1 := if_pos hok
    have hJ40 := lastG_lt hok hJ
    rw [hF] at hFl
    have Hhgrow := Lib.hid hgrow; clear hgrow
    have Hhlast := Lib.hid hlast; clear hlast
    have Hhcnt := Lib.hid hcnt; clear hcnt
    have HhM := Lib.hid hM; clear hM
    have HhJ := Lib.hid hJ; clear hJ
    have HhF := Lib.hid hF; clear hF
    have HhFl := Lib.hid hFl; clear hFl
    have Hhok := Lib.hid hok; clear hok
    have e0 := HS1.out.cell (v := .slice a1 d.next.length c1) 0 0 rfl rfl
    have e1 := HS1.out.cell (v := .slice a2 d.ends.length c2) 0 1 rfl rfl
    go_wp2_with fail
    refine (implGSn_any d J HhJ.out F HhF.out (J + 1) HhFl.out _ _ HR.out).mono ?_
    rintro e w2 ⟨a3, c3, rfl, hx, hb⟩
    have HS2 := Lib.hid (HS1.out.call hb)
    have HR2 := Lib.hid (HR.out.below hb)
    have HX := Lib.hid hx
    clear hb hx e0 e1
    have e0 := HS2.out.cell (v := .slice a1 d.next.length c1) 0 0 rfl rfl
    have e1 := HS2.out.cell (v := .slice a2 d.ends.length c2) 0 1 rfl rfl
    go_wp2_with fail
    refine (specGSn_any d J HhJ.out F HhF.out (J + 1) HhFl.out _ _ HR2.out).mono ?_
    rintro e w3 ⟨a4, c4, rfl, hy, hb⟩
    have HS3 := Lib.hid (HS2.out.call hb)
    have HR3 := Lib.hid (HR2.out.below hb)
    have HX3 := Lib.hid (HX.out.below hb)
    have HY := Lib.hid hy
    clear hb hy e0 e1
    go_wp2_with fail
    refine (sameInts_any F F _ _ _ HX3.out HY.out true (by simp)).mono ?_
    rintro e w4 ⟨rfl, hb⟩
    have HS4 := Lib.hid (HS3.out.call hb)
    have HR4 := Lib.hid (HR3.out.below hb)
    have HX4 := Lib.hid (HX3.out.below hb)
    clear hb
    have hx := HX4.out
    obtain ⟨a5, c5, he5, hc5, hm5, hr5⟩ := hx.form
    obtain ⟨g, o, ha3, hB5, hbl5, hcs5⟩ := hr5 (by rw [HhFl.out]; omega)
    rw [HhFl.out] at he5 hcs5
    obtain ⟨rfl, -, rfl⟩ : a3 = a5 ∧ True ∧ c3 = c5 := by injection he5 with p q r; exact ⟨p, trivial, r⟩
    subst ha3
    have hcs := fun (u : World) (hb : Below w4.heap.size w4 u) (k : Nat) (hk : k < J + 1) => (bcell hb g (o + k) hbl5).trans (hcs5 k hk)
    have Hcs := Lib.hid hcs
    have hj0 : ((J : Int) + 1 == 0) = false := by simp; omega
    clear hcs hcs5 hr5 hx he5
    go_wp2
    go_loopw [2, 5] (fun r vi wr => ∃ k : Nat, r = .bool false ∧ vi = .int .i64 ((k : Int) + 1) ∧ k ≤ J ∧ St w4 wr []) (fun _ vi _ => J + 1 - (intOf vi).toNat)
    case atStart => exact ⟨0, rfl, rfl, Nat.zero_le _, St.start w4⟩
    case round =>
      obtain ⟨k, rfl, rfl, hk, hS⟩ := hrel
      by_cases hlt : k < J
      · have hx1 := Hcs.out _ hS.bel k (by omega)
        have hx2 := Hcs.out _ hS.bel (k + 1) (by omega)
        have hgr := Hhgrow.out k (by omega)
        obtain ⟨x, hx⟩ : ∃ x, x = F.getD k 0 := ⟨_, rfl⟩
        obtain ⟨y, hy⟩ : ∃ y, y = F.getD (k + 1) 0 := ⟨_, rfl⟩
        rw [← hx] at hx1 hgr
        rw [← hy] at hx2 hgr
        have hge : decide (y ≤ x) = false := decide_eq_false (by omega)
        have hge2 : decide (x < y) = true := decide_eq_true hgr
        have HhS := Lib.hid hS; clear hS
        have Hhx := Lib.hid hx; clear hx
        have Hhy := Lib.hid hy; clear hy
        have Hhgr := Lib.hid hgr; clear hgr
        go_wp2
        go_quiet (fail)
        go_wp2
        go_roundw
        case rel => exact ⟨k + 1, rfl, by go_num, by omega, HhS.out.drewN _⟩
        case measure => simp [intOf]; omega
      · obtain rfl : k = J := by omega
        have HS5 := Lib.hid hS
        clear hS hlt
        go_wp2
        have HSb := Lib.hid (HS4.out.call HS5.out.bel)
        have HR5 := Lib.hid (HR4.out.below HS5.out.bel)
        have X0 := Lib.hid ((Hcs.out _ HS5.out.bel k (by omega)).trans (by rw [Hhlast.out]))
        have HltX := Lib.hid (Nat.lt_of_lt_of_le hbl5 HS5.out.bel.size)
        have D0 := Lib.hid (HSb.out.cell (v := .slice a1 d.next.length c1) 0 0 rfl rfl)
        have D1 := Lib.hid (HSb.out.cell (v := .slice a2 d.ends.length c2) 0 1 rfl rfl)
        have HltD := Lib.hid (HSb.out.boxlt 0 rfl).2
        refine wp_region_any (by kernel_rfl) ?_
        refine wpAny_invA (fun A listed a w' => ∃ (l0 l1 l2 l3 l4 l5 l6 l7 l8 l9 l10 l11 l12 l13 l14 l15 l16 l17 l18 : Bool) (ax1 : Option Addr) (cx1 : Nat) (ax2 : Option Addr) (cx2 : Nat) (vb : Nat) (vh : Nat), listed = #[l0, l1, l2, l3, l4, l5, l6, l7, l8, l9, l10, l11, l12, l13, l14, l15, l16, l17, l18] ∧ (l8 = true → l7 = true) ∧
            a = ⟨(((((((((((((((((((A.tmps.setIfInBounds 43 (if l0 = true then .slice (some ⟨g, o, none⟩) (k + 1) c3 else A.tmps.getD 43 undef)).setIfInBounds 44 (if l1 = true then .slice (some ⟨g, o, none⟩) (k + 1) c3 else A.tmps.getD 44 undef)).setIfInBounds 45 (if l2 = true then .int .i64 ((k : Int) + 1) else A.tmps.getD 45 undef)).setIfInBounds 46 (if l3 = true then .int .i64 (k : Int) else A.tmps.getD 46 undef)).setIfInBounds 47 (if l4 = true then .pointer (some ⟨g, (o + k), none⟩) else A.tmps.getD 47 undef)).setIfInBounds 48 (if l5 = true then .int .i64 (M.next.length : Int) else A.tmps.getD 48 undef)).setIfInBounds 49 (if l6 = true then .agg #[.slice a1 d.next.length c1, .slice a2 d.ends.length c2] else A.tmps.getD 49 undef)).setIfInBounds 50 (if l7 = true then .agg #[.slice ax1 M.next.length cx1, .slice ax2 M.ends.length cx2] else A.tmps.getD 50 undef)).setIfInBounds 51 (if l8 = true then .slice ax1 M.next.length cx1 else A.tmps.getD 51 undef)).setIfInBounds 52 (if l9 = true then .int .i64 (M.next.length : Int) else A.tmps.getD 52 undef)).setIfInBounds 53 (if l10 = true then .bool true else A.tmps.getD 53 undef)).setIfInBounds 54 (if l11 = true then .bool true else A.tmps.getD 54 undef)).setIfInBounds 55 (if l12 = true then .slice (some ⟨g, o, none⟩) (k + 1) c3 else A.tmps.getD 55 undef)).setIfInBounds 56 (if l13 = true then .int .i64 ((k : Int) + 1) else A.tmps.getD 56 undef)).setIfInBounds 57 (if l14 = true then .agg #[.slice a1 d.next.length c1, .slice a2 d.ends.length c2] else A.tmps.getD 57 undef)).setIfInBounds 58 (if l15 = true then .int .i64 ((k : Int) + 1) else A.tmps.getD 58 undef)).setIfInBounds 59 (if l16 = true then .bool true else A.tmps.getD 59 undef)).setIfInBounds 60 (if l17 = true then .bool true else A.tmps.getD 60 undef)).setIfInBounds 2 (.bool l18)), A.defers⟩ ∧
            St wr w' [(if l7 = true then DfaV vb vh (.slice ax1 M.next.length cx1) (.slice ax2 M.ends.length cx2) M else Ent.nil)]) ?_ ?_ ?_
        · rintro listed a w' ⟨l0, l1, l2, l3, l4, l5, l6, l7, l8, l9, l10, l11, l12, l13, l14, l15, l16, l17, l18, ax1, cx1, ax2, cx2, vb, vh, rfl, hd8, rfl, hS⟩ i hi
          obtain ⟨hun, o, ho, hall⟩ := mem_ready.1 hi
          have hlt := (Array.getElem?_eq_some_iff.1 ho).1
          refine wpOp_step ho (fun K hK => ?_)
          clear hi
          have HS := Lib.hid hS
          clear hS
          simp only [List.setIfInBounds_toArray, List.set_cons_zero, List.set_cons_succ, Array.getD_eq_getD_getElem?, List.getElem?_toArray, List.getElem?_cons_zero, List.getElem?_cons_succ, Option.getD_some]
          obtain h | h | h | h | h | h | h | h | h | h | h | h | h | h | h | h | h | h | h : i = 0 ∨ i = 1 ∨ i = 2 ∨ i = 3 ∨ i = 4 ∨ i = 5 ∨ i = 6 ∨ i = 7 ∨ i = 8 ∨ i = 9 ∨ i = 10 ∨ i = 11 ∨ i = 12 ∨ i = 13 ∨ i = 14 ∨ i = 15 ∨ i = 16 ∨ i = 17 ∨ i = 18 := by simp at hlt; omega
          all_goals subst h
          all_goals simp only [List.getElem?_toArray, List.getElem?_cons_zero, List.getElem?_cons_succ, Option.some.injEq] at ho
          all_goals subst ho
          all_goals simp [Region.binds] at hun hall
          · subst hun
            go_simp
            exact hK _ _ ⟨true, l1, l2, l3, l4, l5, l6, l7, l8, l9, l10, l11, l12, l13, l14, l15, l16, l17, l18, ax1, cx1, ax2, cx2, vb, vh, rfl, hd8, (by simp), HS.out⟩
          · subst hun
            go_simp
            exact hK _ _ ⟨l0, true, l2, l3, l4, l5, l6, l7, l8, l9, l10, l11, l12, l13, l14, l15, l16, l17, l18, ax1, cx1, ax2, cx2, vb, vh, rfl, hd8, (by simp), HS.out⟩
          · obtain rfl := hall
            subst hun
            go_simp
            exact hK _ _ ⟨l0, true, true, l3, l4, l5, l6, l7, l8, l9, l10, l11, l12, l13, l14, l15, l16, l17, l18, ax1, cx1, ax2, cx2, vb, vh, rfl, hd8, (by simp), HS.out⟩
          · obtain rfl := hall
            subst hun
            have hw : IntKind.i64.wrap (k : Int) = (k : Int) := IntWalk.i64_in _ (by omega)
            go_simp
            exact hK _ _ ⟨l0, l1, true, true, l4, l5, l6, l7, l8, l9, l10, l11, l12, l13, l14, l15, l16, l17, l18, ax1, cx1, ax2, cx2, vb, vh, rfl, hd8, (by simp), HS.out⟩
          · obtain ⟨rfl, rfl⟩ := hall
            subst hun
            go_simp
            rw [if_pos (show (k : Int) < (k : Int) + 1 by omega)]
            go_simp
            exact hK _ _ ⟨true, l1, l2, true, true, l5, l6, l7, l8, l9, l10, l11, l12, l13, l14, l15, l16, l17, l18, ax1, cx1, ax2, cx2, vb, vh, rfl, hd8, (by simp), HS.out⟩
          · obtain rfl := hall
            subst hun
            have e0 := (bcell HS.out.bel g (o + k) HltX.out).trans X0.out
            go_simp
            exact hK _ _ ⟨l0, l1, l2, l3, true, true, l6, l7, l8, l9, l10, l11, l12, l13, l14, l15, l16, l17, l18, ax1, cx1, ax2, cx2, vb, vh, rfl, hd8, (by simp), HS.out⟩
          · subst hun
            have e0 := (bcell HS.out.bel (w1.heap.size) 0 HltD.out).trans D0.out
            have e1 := (bcell HS.out.bel (w1.heap.size) 1 HltD.out).trans D1.out
            go_simp
            exact hK _ _ ⟨l0, l1, l2, l3, l4, l5, true, l7, l8, l9, l10, l11, l12, l13, l14, l15, l16, l17, l18, ax1, cx1, ax2, cx2, vb, vh, rfl, hd8, (by simp), HS.out⟩
          · obtain rfl := hall
            subst hun
            obtain rfl : l8 = false := by cases l8 with | false => rfl | true => simpa using hd8 rfl
            go_simp
            go_at_call 28
            refine (implMinimize_any d M HhM.out _ _ (HR5.out.below HS.out.bel)).mono ?_
            rintro e u1 ⟨z1, z2, z3, z4, rfl, hr, hb⟩
            have hS2 := (HS.out.dfaV hb hr).pick [1] (by decide)
            have HhS2 := Lib.hid hS2; clear hS2
            go_simp
            exact hK _ _ ⟨l0, l1, l2, l3, l4, l5, true, true, false, l9, l10, l11, l12, l13, l14, l15, l16, l17, l18, z1, z2, z3, z4, w'.heap.size, u1.heap.size, rfl, by simp, (by simp), HhS2.out⟩
          · obtain rfl := hall
            subst hun
            go_simp
            exact hK _ _ ⟨l0, l1, l2, l3, l4, l5, l6, true, true, l9, l10, l11, l12, l13, l14, l15, l16, l17, l18, ax1, cx1, ax2, cx2, vb, vh, rfl, by simp, (by simp only [↓reduceIte, List.setIfInBounds_toArray, List.set_cons_zero, List.set_cons_succ, Array.getD_eq_getD_getElem?, List.getElem?_toArray, List.getElem?_cons_zero, List.getElem?_cons_succ, Option.getD_some]; rfl), HS.out⟩
          · obtain rfl := hall
            subst hun
            obtain rfl := hd8 rfl
            go_simp
            exact hK _ _ ⟨l0, l1, l2, l3, l4, l5, l6, true, true, true, l10, l11, l12, l13, l14, l15, l16, l17, l18, ax1, cx1, ax2, cx2, vb, vh, rfl, by simp, (by simp), HS.out⟩
          · obtain ⟨rfl, rfl⟩ := hall
            subst hun
            go_simp
            exact hK _ _ ⟨l0, l1, l2, l3, l4, true, l6, l7, l8, true, true, l11, l12, l13, l14, l15, l16, l17, l18, ax1, cx1, ax2, cx2, vb, vh, rfl, hd8, (by simp), HS.out⟩
          · obtain ⟨rfl, rfl⟩ := hall
            subst hun
            go_simp
            exact hK _ _ ⟨l0, l1, l2, l3, l4, l5, l6, true, l8, l9, true, true, l12, l13, l14, l15, l16, l17, l18, ax1, cx1, ax2, cx2, vb, vh, rfl, hd8, (by simp), HS.out⟩
          · obtain rfl := hall
            subst hun
            go_simp
            exact hK _ _ ⟨l0, l1, l2, l3, l4, l5, l6, l7, l8, l9, l10, true, true, l13, l14, l15, l16, l17, l18, ax1, cx1, ax2, cx2, vb, vh, rfl, hd8, (by simp), HS.out⟩
          · obtain ⟨rfl, rfl⟩ := hall
            subst hun
            go_simp
            exact hK _ _ ⟨l0, l1, l2, l3, l4, l5, l6, l7, l8, l9, l10, true, true, true, l14, l15, l16, l17, l18, ax1, cx1, ax2, cx2, vb, vh, rfl, hd8, (by simp), HS.out⟩
          · obtain rfl := hall
            subst hun
            have e0 := (bcell HS.out.bel (w1.heap.size) 0 HltD.out).trans D0.out
            have e1 := (bcell HS.out.bel (w1.heap.size) 1 HltD.out).trans D1.out
            go_simp
            exact hK _ _ ⟨l0, l1, l2, l3, l4, l5, l6, l7, l8, l9, l10, true, l12, l13, true, l15, l16, l17, l18, ax1, cx1, ax2, cx2, vb, vh, rfl, hd8, (by simp), HS.out⟩
          · obtain ⟨rfl, rfl⟩ := hall
            subst hun
            go_simp
            go_at_call 51
            refine (implGuessCount_any d k HhJ.out _ Hhcnt.out _ _ (HR5.out.below HS.out.bel)).mono ?_
            rintro e u1 ⟨rfl, hb⟩
            have hS2 := HS.out.call hb
            have HhS2 := Lib.hid hS2; clear hS2
            go_simp
            exact hK _ _ ⟨l0, l1, l2, l3, l4, l5, l6, l7, l8, l9, l10, true, l12, l13, true, true, l16, l17, l18, ax1, cx1, ax2, cx2, vb, vh, rfl, hd8, (by simp), HhS2.out⟩
          · obtain ⟨rfl, rfl, rfl⟩ := hall
            subst hun
            go_simp
            exact hK _ _ ⟨l0, l1, l2, l3, l4, l5, l6, l7, l8, l9, l10, true, l12, true, l14, true, true, l17, l18, ax1, cx1, ax2, cx2, vb, vh, rfl, hd8, (by simp), HS.out⟩
          · obtain ⟨rfl, rfl⟩ := hall
            subst hun
            go_simp
            exact hK _ _ ⟨l0, l1, l2, l3, l4, l5, l6, l7, l8, l9, l10, true, l12, l13, l14, l15, true, true, l18, ax1, cx1, ax2, cx2, vb, vh, rfl, hd8, (by simp), HS.out⟩
          · obtain ⟨rfl, rfl, rfl, rfl, rfl, rfl, rfl, rfl, rfl, rfl, rfl, rfl, rfl, rfl, rfl, rfl, rfl, -, rfl, -⟩ := hall
            subst hun
            go_simp
            exact hK _ _ ⟨true, true, true, true, true, true, true, true, true, true, true, true, true, true, true, true, true, true, true, ax1, cx1, ax2, cx2, vb, vh, rfl, by simp, (by simp only [↓reduceIte, List.setIfInBounds_toArray, List.set_cons_zero, List.set_cons_succ]), HS.out⟩
        · rintro listed a w' ⟨l0, l1, l2, l3, l4, l5, l6, l7, l8, l9, l10, l11, l12, l13, l14, l15, l16, l17, l18, ax1, cx1, ax2, cx2, vb, vh, rfl, hd8, rfl, hS⟩ hr
          have hall := ready_nilM (by kernel_rfl) rfl hr
          obtain rfl : l0 = true := by simpa using hall 0 (by simp)
          obtain rfl : l1 = true := by simpa using hall 1 (by simp)
          obtain rfl : l2 = true := by simpa using hall 2 (by simp)
          obtain rfl : l3 = true := by simpa using hall 3 (by simp)
          obtain rfl : l4 = true := by simpa using hall 4 (by simp)
          obtain rfl : l5 = true := by simpa using hall 5 (by simp)
          obtain rfl : l6 = true := by simpa using hall 6 (by simp)
          obtain rfl : l7 = true := by simpa using hall 7 (by simp)
          obtain rfl : l8 = true := by simpa using hall 8 (by simp)
          obtain rfl : l9 = true := by simpa using hall 9 (by simp)
          obtain rfl : l10 = true := by simpa using hall 10 (by simp)
          obtain rfl : l11 = true := by simpa using hall 11 (by simp)
          obtain rfl : l12 = true := by simpa using hall 12 (by simp)
          obtain rfl : l13 = true := by simpa using hall 13 (by simp)
          obtain rfl : l14 = true := by simpa using hall 14 (by simp)
          obtain rfl : l15 = true := by simpa using hall 15 (by simp)
          obtain rfl : l16 = true := by simpa using hall 16 (by simp)
          obtain rfl : l17 = true := by simpa using hall 17 (by simp)
          obtain rfl : l18 = true := by simpa using hall 18 (by simp)
          clear hall hr hd8
          simp only [↓reduceIte] at hS ⊢
          simp only [List.setIfInBounds_toArray, List.set_cons_zero, List.set_cons_succ]
          have HSf := Lib.hid hS
          clear hS
          go_wp2
          go_ret
          exact ⟨rfl, HSb.out.bel.trans (HSf.out.bel.mono HSb.out.bel.size)⟩
        · refine ⟨false, false, false, false, false, false, false, false, false, false, false, false, false, false, false, false, false, false, false, none, 0, none, 0, 0, 0, rfl, by simp, (by simp), ?_⟩
          exact (St.start wr).drew.pick [0] (by decide)
end Go.Proofs.Ythhbjkgchabfmaa
