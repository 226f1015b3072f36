/-
  The walk over the law FnMinimize.
  Condition: the argument reads as bytes.
-/
import Derived.Test.YthhbjkgchabfmaaPk24L16
import Derived.Test.YthhbjkgchabfmaaPk37Sd
import Derived.Test.YthhbjkgchabfmaaPk44Pa
import Derived.Test.YthhbjkgchabfmaaPk49Nu
namespace Go.Proofs.Ythhbjkgchabfmaa
open Go.RowKit
set_option maxRecDepth 100000 in
set_option maxHeartbeats 4000000 in
theorem implSameSt_any (d : DfaD) (v : Value) (w : World) (hd : dfaOk d.next d.ends = true) (h : DfaR 0 w v d) :
    Calls Try.prog 38 #[v] w fun e w' => RCl d w e w' := by
  have H := Lib.hid h
  obtain ⟨v1, v2, rfl, g1, g2⟩ := h
  have hS0 := (St.start w).alloc _ rfl #[v1, v2] 26
  have e0 := hS0.cell (v := v1) 0 0 rfl rfl
  have e1 := hS0.cell (v := v2) 0 1 rfl rfl
  have HhS0 := Lib.hid hS0; clear hS0
  have Hhd := Lib.hid hd; clear hd
  clear g1 g2
  go_enter Try.func38, Try.ntmps38
  go_wp2_with fail
  refine (implDfaValid_any d _ _ (H.out.below HhS0.out.bel) true Hhd.out).mono ?_
  rintro e w1 ⟨rfl, hb1⟩
  have HS1 := Lib.hid (HhS0.out.call hb1)
  clear hb1 e0 e1
  have e0 := HS1.out.cell (v := v1) 0 0 rfl rfl
  have e1 := HS1.out.cell (v := v2) 0 1 rfl rfl
  go_wp2_with fail
  refine (sameStates_any d _ _ Hhd.out (H.out.below HS1.out.bel)).mono ?_
  rintro e w2 ⟨b, c, rfl, hr⟩
  go_wp2
  go_ret
  exact ⟨b, c, rfl, (HS1.out.cat hr).pick [1] (by decide)⟩
theorem tt_yesM {d X : DfaD} (hX : (tt d).getD zeD = X) (hfb : (tt d).isSome = true) : X = minQ d := by
  cases h : tt d with
  | none => rw [h] at hfb; cases hfb
  | some x =>
    rw [h] at hX
    obtain rfl : x = X := hX
    have hd : dfaOk d.next d.ends = true := Classical.byContradiction fun hn => by
      have : ttK forty' d = none := by unfold ttK; rw [if_neg hn]
      rw [show tt d = ttK forty' d from rfl, this] at h
      cases h
    unfold minQ
    rw [if_pos hd]
    exact tt_min (K := forty') rfl h
theorem St.rcellN {w0 w : World} {L : List Ent} (h : St w0 w L) (i k : Nat) {e b n c : Nat} {xs : List Int} (hi : L[i]? = some (Ent.row e 1 (.slice (some ⟨b, 0, none⟩) n c) n (intCells xs))) (hl : xs.length = n) (hk : k < n) : w.cell? ⟨b, k, none⟩ = some (.int .i64 (xs.getD k 0)) :=
  h.rcell i k hi (by omega) (by simp [intCells, hl, hk])
theorem min_okM {d : DfaD} (hd : dfaOk d.next d.ends = true) : dfaOk (minD d).next (minD d).ends = true := by
  rw [← small_min (fine_of hd)]
  exact (trim_ok (fold_ok (trim_ok hd).1)).1
set_option maxRecDepth 100000 in
set_option maxHeartbeats 16000000 in
theorem minimize_walk (bs : List Nat) (v : Value) (w : World) (hb : Bytes 0 w v bs) :
    Calls Try.prog 6 #[v] w fun e w' => e = .returned (.bool true) ∧ Below w.heap.size w w' := by
  have HB := Lib.hid hb
  obtain ⟨av, cv, rfl, hcv1, hcv2, -⟩ := hb.form
  clear hb
  by_cases hlen : 1048576 < bs.length
  · have hl2 : (1048576 : Int) < bs.length := by omega
    go_enter Try.func6, Try.ntmps6
    go_wp2
    go_ret
    exact ⟨rfl, Below.refl _ _⟩
  have hl2 : ¬ (1048576 : Int) < bs.length := by omega
  go_enter Try.func6, Try.ntmps6
  go_wp2_with fail
  refine (drawMinimizeD_any bs _ _ HB.out (by omega)).mono ?_
  rintro e w1 ⟨d, a1, a2, c1, c2, hsm, rfl, hd, hb1⟩
  have HS1 := Lib.hid (((St.start w).call hb1).alloc _ rfl #[.slice a1 d.next.length c1, .slice a2 d.ends.length c2] 26)
  have HR := Lib.hid (hd.below ((Below.refl w1.heap.size w1).alloc (Nat.le_refl _) (.cells #[.slice a1 d.next.length c1, .slice a2 d.ends.length c2] 26)))
  clear hb1 hd
  obtain ⟨M, hM⟩ : ∃ M, minQ d = M := ⟨_, rfl⟩
  cases hok : dfaOk d.next d.ends
  · have hz0 : ((M.next.length : Int) == 0) = true := by rw [← hM, minQ, if_neg (by rw [hok]; simp)]; rfl
    have HhM := Lib.hid hM; clear hM
    have Hhok := Lib.hid hok; clear hok
    have e0 := HS1.out.cell (v := .slice a1 d.next.length c1) 0 0 rfl rfl
    have e1 := HS1.out.cell (v := .slice a2 d.ends.length c2) 0 1 rfl rfl
    go_wp2_with fail
    refine (implMinimize_any d M HhM.out _ _ HR.out).mono ?_
    rintro e w2 ⟨x1, y1, x2, y2, rfl, hx, hb⟩
    have HS2 := Lib.hid ((HS1.out.call hb).alloc _ rfl #[.slice x1 M.next.length y1, .slice x2 M.ends.length y2] 26)
    have HM := Lib.hid ((hx.mono (Nat.zero_le _)).below ((Below.refl w2.heap.size w2).alloc (Nat.le_refl _) (.cells #[.slice x1 M.next.length y1, .slice x2 M.ends.length y2] 26)))
    have HR2 := Lib.hid ((HR.out.below hb).below ((Below.refl w2.heap.size w2).alloc (Nat.le_refl _) (.cells #[.slice x1 M.next.length y1, .slice x2 M.ends.length y2] 26)))
    clear HR hb hx e0 e1
    have D0 := Lib.hid (HS2.out.cell (v := .slice a1 d.next.length c1) 0 0 rfl rfl)
    have D1 := Lib.hid (HS2.out.cell (v := .slice a2 d.ends.length c2) 0 1 rfl rfl)
    have HltD := Lib.hid (HS2.out.boxlt 0 rfl).2
    have C0 := Lib.hid (HS2.out.cell (v := .slice x1 M.next.length y1) 1 0 rfl rfl)
    have C1 := Lib.hid (HS2.out.cell (v := .slice x2 M.ends.length y2) 1 1 rfl rfl)
    have HltC := Lib.hid (HS2.out.boxlt 1 rfl).2
    go_wp2
    refine wp_region_any (by kernel_rfl) ?_
    refine wpAny_invA (fun A listed a w' => ∃ (l0 l1 l2 l3 l4 : Bool) (ax1 : Option Addr) (cx1 : Nat) (ax2 : Option Addr) (cx2 : Nat) (vb : Nat) (vh : Nat), listed = #[l0, l1, l2, l3, l4] ∧
        a = ⟨(((((A.tmps.setIfInBounds 16 (if l0 = true then .agg #[.slice x1 M.next.length y1, .slice x2 M.ends.length y2] else A.tmps.getD 16 undef)).setIfInBounds 17 (if l1 = true then .agg #[.slice a1 d.next.length c1, .slice a2 d.ends.length c2] else A.tmps.getD 17 undef)).setIfInBounds 18 (if l2 = true then .agg #[.slice ax1 M.next.length cx1, .slice ax2 M.ends.length cx2] else A.tmps.getD 18 undef)).setIfInBounds 19 (if l3 = true then .bool true else A.tmps.getD 19 undef)).setIfInBounds 20 (if l4 = true then .bool false else A.tmps.getD 20 undef)), A.defers⟩ ∧
        St (w2.alloc (.cells #[.slice x1 M.next.length y1, .slice x2 M.ends.length y2] 26)) w' [(if l2 = true then DfaV vb vh (.slice ax1 M.next.length cx1) (.slice ax2 M.ends.length cx2) M else Ent.nil)]) ?_ ?_ ?_
    · rintro listed a w' ⟨l0, l1, l2, l3, l4, ax1, cx1, ax2, cx2, vb, vh, rfl, rfl, hS⟩ i hi
      obtain ⟨hun, o, ho, hall⟩ := mem_ready.1 hi
      have hlt := (Array.getElem?_eq_some_iff.1 ho).1
      refine wpOp_step ho (fun K hK => ?_)
      clear hi
      have HS := Lib.hid hS
      clear hS
      simp only [List.setIfInBounds_toArray, List.set_cons_zero, List.set_cons_succ, Array.getD_eq_getD_getElem?, List.getElem?_toArray, List.getElem?_cons_zero, List.getElem?_cons_succ, Option.getD_some]
      obtain h | h | h | h | h : i = 0 ∨ i = 1 ∨ i = 2 ∨ i = 3 ∨ i = 4 := by simp at hlt; omega
      all_goals subst h
      all_goals simp only [List.getElem?_toArray, List.getElem?_cons_zero, List.getElem?_cons_succ, Option.some.injEq] at ho
      all_goals subst ho
      all_goals simp [Region.binds] at hun hall
      · subst hun
        have e0 := (bcell HS.out.bel (w2.heap.size) 0 HltC.out).trans C0.out
        have e1 := (bcell HS.out.bel (w2.heap.size) 1 HltC.out).trans C1.out
        go_simp
        exact hK _ _ ⟨true, l1, l2, l3, l4, ax1, cx1, ax2, cx2, vb, vh, rfl, (by simp), HS.out⟩
      · subst hun
        have e0 := (bcell HS.out.bel (w1.heap.size) 0 HltD.out).trans D0.out
        have e1 := (bcell HS.out.bel (w1.heap.size) 1 HltD.out).trans D1.out
        go_simp
        exact hK _ _ ⟨l0, true, l2, l3, l4, ax1, cx1, ax2, cx2, vb, vh, rfl, (by simp), HS.out⟩
      · obtain rfl := hall
        subst hun
        go_simp
        go_at_call 37
        refine (specMinimize_any d M HhM.out _ _ (HR2.out.below HS.out.bel)).mono ?_
        rintro e u1 ⟨z1, z2, z3, z4, rfl, hr, hb⟩
        have hS2 := (HS.out.dfaV hb hr).pick [1] (by decide)
        have HhS2 := Lib.hid hS2; clear hS2
        go_simp
        exact hK _ _ ⟨l0, true, true, l3, l4, z1, z2, z3, z4, w'.heap.size, u1.heap.size, rfl, (by simp), HhS2.out⟩
      · obtain ⟨rfl, rfl⟩ := hall
        subst hun
        go_simp
        go_at_call 23
        refine (sameDfa_any M _ _ _ (HM.out.below HS.out.bel) (HS.out.dfaVr 0 rfl)).mono ?_
        rintro e u1 ⟨rfl, hb⟩
        have hS2 := HS.out.call hb
        have HhS2 := Lib.hid hS2; clear hS2
        go_simp
        exact hK _ _ ⟨true, l1, true, true, l4, ax1, cx1, ax2, cx2, vb, vh, rfl, (by simp), HhS2.out⟩
      · obtain rfl := hall
        subst hun
        go_simp
        exact hK _ _ ⟨l0, l1, l2, true, true, ax1, cx1, ax2, cx2, vb, vh, rfl, (by simp), HS.out⟩
    · rintro listed a w' ⟨l0, l1, l2, l3, l4, ax1, cx1, ax2, cx2, vb, vh, rfl, rfl, hS⟩ hr
      have hall := ready_nilM (by kernel_rfl) rfl hr
      obtain rfl : l0 = true := by simpa using hall 0 (by simp)
      obtain rfl : l1 = true := by simpa using hall 1 (by simp)
      obtain rfl : l2 = true := by simpa using hall 2 (by simp)
      obtain rfl : l3 = true := by simpa using hall 3 (by simp)
      obtain rfl : l4 = true := by simpa using hall 4 (by simp)
      clear hall hr 
      simp only [↓reduceIte] at hS ⊢
      simp only [List.setIfInBounds_toArray, List.set_cons_zero, List.set_cons_succ]
      have HS4 := Lib.hid (HS2.out.call hS.bel)
      have HM4 := Lib.hid (HM.out.below hS.bel)
      have HR4 := Lib.hid (HR2.out.below hS.bel)
      clear hS D0 D1 C0 C1 HltD HltC
      obtain ⟨w4, hw4⟩ : ∃ u : World, u = w' := ⟨_, rfl⟩
      subst hw4
      have e0 := HS4.out.cell (v := .slice a1 d.next.length c1) 0 0 rfl rfl
      have e1 := HS4.out.cell (v := .slice a2 d.ends.length c2) 0 1 rfl rfl
      go_wp2_with fail
      refine (specDfaValidD2_any d _ _ HR4.out false Hhok.out).mono ?_
      rintro e w5 ⟨rfl, hb⟩
      have HS5 := Lib.hid (HS4.out.call hb)
      have HM5 := Lib.hid (HM4.out.below hb)
      have HR5 := Lib.hid (HR4.out.below hb)
      clear hb e0 e1
      have e0 := HS5.out.cell (v := .slice x1 M.next.length y1) 1 0 rfl rfl
      have e1 := HS5.out.cell (v := .slice x2 M.ends.length y2) 1 1 rfl rfl
      go_wp2_with (go_at_call 20; refine (alive_any _).mono ?_; rintro e w' ⟨rfl, rfl⟩)
      go_ret
      exact ⟨rfl, HS5.out.bel⟩
    · refine ⟨false, false, false, false, false, none, 0, none, 0, 0, 0, rfl, (by simp), ?_⟩
      exact (St.start (w2.alloc (.cells #[.slice x1 M.next.length y1, .slice x2 M.ends.length y2] 26))).drew.pick [0] (by decide)
  · have hM2 : minD d = M := by rw [← hM, minQ, if_pos hok]
    have hmo : dfaOk M.next M.ends = true := by rw [← hM2]; exact min_okM hok
    have hsame : sameB M d = true := sameB_iff.2 ⟨hmo, hok, fun l hl => by rw [← hM2]; exact min_acc (fine_of hok) hl⟩
    have hMM : minQ M = M := by rw [minQ, if_pos hmo, ← hM2]; exact min_min (fine_of hok)
    have hid : ∀ s, s < M.next.length → (clsL M.next.length (clD M)).getD s 0 = (s : Int) := fun s hs => by
      rw [clsL_at _ hs]
      have := min_cl (fine_of hok) (s := s) (by rw [hM2]; exact hs)
      rw [hM2] at this
      rw [this]
    have hm40 : M.next.length ≤ 40 := (dfaOk_len hmo).2.1
    have hle : decide ((M.next.length : Int) ≤ (d.next.length : Int)) = true := by
      have := (minD_len hok).1
      rw [hM2] at this
      exact decide_eq_true (by omega)
    have hle2 : decide (M.next.length ≤ d.next.length) = true := by
      have := (minD_len hok).1
      rw [hM2] at this
      exact decide_eq_true this
    have hle3 : M.next.length ≤ d.next.length := of_decide_eq_true hle2
    have HhM2 := Lib.hid hM2; clear hM2
    have Hhmo := Lib.hid hmo; clear hmo
    have Hhsame := Lib.hid hsame; clear hsame
    have HhMM := Lib.hid hMM; clear hMM
    have Hhid := Lib.hid hid; clear hid
    have Hhm40 := Lib.hid hm40; clear hm40
    have HhM := Lib.hid hM; clear hM
    have Hhok := Lib.hid hok; clear hok
    have e0 := HS1.out.cell (v := .slice a1 d.next.length c1) 0 0 rfl rfl
    have e1 := HS1.out.cell (v := .slice a2 d.ends.length c2) 0 1 rfl rfl
    go_wp2_with fail
    refine (implMinimize_any d M HhM.out _ _ HR.out).mono ?_
    rintro e w2 ⟨x1, y1, x2, y2, rfl, hx, hb⟩
    have HS2 := Lib.hid ((HS1.out.call hb).alloc _ rfl #[.slice x1 M.next.length y1, .slice x2 M.ends.length y2] 26)
    have HM := Lib.hid ((hx.mono (Nat.zero_le _)).below ((Below.refl w2.heap.size w2).alloc (Nat.le_refl _) (.cells #[.slice x1 M.next.length y1, .slice x2 M.ends.length y2] 26)))
    have HR2 := Lib.hid ((HR.out.below hb).below ((Below.refl w2.heap.size w2).alloc (Nat.le_refl _) (.cells #[.slice x1 M.next.length y1, .slice x2 M.ends.length y2] 26)))
    clear HR hb hx e0 e1
    have D0 := Lib.hid (HS2.out.cell (v := .slice a1 d.next.length c1) 0 0 rfl rfl)
    have D1 := Lib.hid (HS2.out.cell (v := .slice a2 d.ends.length c2) 0 1 rfl rfl)
    have HltD := Lib.hid (HS2.out.boxlt 0 rfl).2
    have C0 := Lib.hid (HS2.out.cell (v := .slice x1 M.next.length y1) 1 0 rfl rfl)
    have C1 := Lib.hid (HS2.out.cell (v := .slice x2 M.ends.length y2) 1 1 rfl rfl)
    have HltC := Lib.hid (HS2.out.boxlt 1 rfl).2
    go_wp2
    refine wp_region_any (by kernel_rfl) ?_
    refine wpAny_invA (fun A listed a w' => ∃ (l0 l1 l2 l3 l4 : Bool) (ax1 : Option Addr) (cx1 : Nat) (ax2 : Option Addr) (cx2 : Nat) (vb : Nat) (vh : Nat), listed = #[l0, l1, l2, l3, l4] ∧
        a = ⟨(((((A.tmps.setIfInBounds 16 (if l0 = true then .agg #[.slice x1 M.next.length y1, .slice x2 M.ends.length y2] else A.tmps.getD 16 undef)).setIfInBounds 17 (if l1 = true then .agg #[.slice a1 d.next.length c1, .slice a2 d.ends.length c2] else A.tmps.getD 17 undef)).setIfInBounds 18 (if l2 = true then .agg #[.slice ax1 M.next.length cx1, .slice ax2 M.ends.length cx2] else A.tmps.getD 18 undef)).setIfInBounds 19 (if l3 = true then .bool true else A.tmps.getD 19 undef)).setIfInBounds 20 (if l4 = true then .bool false else A.tmps.getD 20 undef)), A.defers⟩ ∧
        St (w2.alloc (.cells #[.slice x1 M.next.length y1, .slice x2 M.ends.length y2] 26)) w' [(if l2 = true then DfaV vb vh (.slice ax1 M.next.length cx1) (.slice ax2 M.ends.length cx2) M else Ent.nil)]) ?_ ?_ ?_
    · rintro listed a w' ⟨l0, l1, l2, l3, l4, ax1, cx1, ax2, cx2, vb, vh, rfl, rfl, hS⟩ i hi
      obtain ⟨hun, o, ho, hall⟩ := mem_ready.1 hi
      have hlt := (Array.getElem?_eq_some_iff.1 ho).1
      refine wpOp_step ho (fun K hK => ?_)
      clear hi
      have HS := Lib.hid hS
      clear hS
      simp only [List.setIfInBounds_toArray, List.set_cons_zero, List.set_cons_succ, Array.getD_eq_getD_getElem?, List.getElem?_toArray, List.getElem?_cons_zero, List.getElem?_cons_succ, Option.getD_some]
      obtain h | h | h | h | h : i = 0 ∨ i = 1 ∨ i = 2 ∨ i = 3 ∨ i = 4 := by simp at hlt; omega
      all_goals subst h
      all_goals simp only [List.getElem?_toArray, List.getElem?_cons_zero, List.getElem?_cons_succ, Option.some.injEq] at ho
      all_goals subst ho
      all_goals simp [Region.binds] at hun hall
      · subst hun
        have e0 := (bcell HS.out.bel (w2.heap.size) 0 HltC.out).trans C0.out
        have e1 := (bcell HS.out.bel (w2.heap.size) 1 HltC.out).trans C1.out
        go_simp
        exact hK _ _ ⟨true, l1, l2, l3, l4, ax1, cx1, ax2, cx2, vb, vh, rfl, (by simp), HS.out⟩
      · subst hun
        have e0 := (bcell HS.out.bel (w1.heap.size) 0 HltD.out).trans D0.out
        have e1 := (bcell HS.out.bel (w1.heap.size) 1 HltD.out).trans D1.out
        go_simp
        exact hK _ _ ⟨l0, true, l2, l3, l4, ax1, cx1, ax2, cx2, vb, vh, rfl, (by simp), HS.out⟩
      · obtain rfl := hall
        subst hun
        go_simp
        go_at_call 37
        refine (specMinimize_any d M HhM.out _ _ (HR2.out.below HS.out.bel)).mono ?_
        rintro e u1 ⟨z1, z2, z3, z4, rfl, hr, hb⟩
        have hS2 := (HS.out.dfaV hb hr).pick [1] (by decide)
        have HhS2 := Lib.hid hS2; clear hS2
        go_simp
        exact hK _ _ ⟨l0, true, true, l3, l4, z1, z2, z3, z4, w'.heap.size, u1.heap.size, rfl, (by simp), HhS2.out⟩
      · obtain ⟨rfl, rfl⟩ := hall
        subst hun
        go_simp
        go_at_call 23
        refine (sameDfa_any M _ _ _ (HM.out.below HS.out.bel) (HS.out.dfaVr 0 rfl)).mono ?_
        rintro e u1 ⟨rfl, hb⟩
        have hS2 := HS.out.call hb
        have HhS2 := Lib.hid hS2; clear hS2
        go_simp
        exact hK _ _ ⟨true, l1, true, true, l4, ax1, cx1, ax2, cx2, vb, vh, rfl, (by simp), HhS2.out⟩
      · obtain rfl := hall
        subst hun
        go_simp
        exact hK _ _ ⟨l0, l1, l2, true, true, ax1, cx1, ax2, cx2, vb, vh, rfl, (by simp), HS.out⟩
    · rintro listed a w' ⟨l0, l1, l2, l3, l4, ax1, cx1, ax2, cx2, vb, vh, rfl, rfl, hS⟩ hr
      have hall := ready_nilM (by kernel_rfl) rfl hr
      obtain rfl : l0 = true := by simpa using hall 0 (by simp)
      obtain rfl : l1 = true := by simpa using hall 1 (by simp)
      obtain rfl : l2 = true := by simpa using hall 2 (by simp)
      obtain rfl : l3 = true := by simpa using hall 3 (by simp)
      obtain rfl : l4 = true := by simpa using hall 4 (by simp)
      clear hall hr 
      simp only [↓reduceIte] at hS ⊢
      simp only [List.setIfInBounds_toArray, List.set_cons_zero, List.set_cons_succ]
      have HS4 := Lib.hid (HS2.out.call hS.bel)
      have HM4 := Lib.hid (HM.out.below hS.bel)
      have HR4 := Lib.hid (HR2.out.below hS.bel)
      clear hS D0 D1 C0 C1 HltD HltC
      obtain ⟨w4, hw4⟩ : ∃ u : World, u = w' := ⟨_, rfl⟩
      subst hw4
      have e0 := HS4.out.cell (v := .slice a1 d.next.length c1) 0 0 rfl rfl
      have e1 := HS4.out.cell (v := .slice a2 d.ends.length c2) 0 1 rfl rfl
      go_wp2_with fail
      refine (specDfaValidD2_any d _ _ HR4.out true Hhok.out).mono ?_
      rintro e w5 ⟨rfl, hb⟩
      have HS5 := Lib.hid (HS4.out.call hb)
      have HM5 := Lib.hid (HM4.out.below hb)
      have HR5 := Lib.hid (HR4.out.below hb)
      clear hb e0 e1
      have e0 := HS5.out.cell (v := .slice x1 M.next.length y1) 1 0 rfl rfl
      have e1 := HS5.out.cell (v := .slice x2 M.ends.length y2) 1 1 rfl rfl
      go_wp2_with fail
      refine (implSameSt_any M _ _ Hhmo.out HM5.out).mono ?_
      rintro e w6 ⟨g, cg, rfl, hr⟩
      obtain ⟨L, hL⟩ : ∃ L, L = M.next.length := ⟨_, rfl⟩
      rw [← hL] at hr
      have HS6 := Lib.hid (HS5.out.cat hr)
      have HM6' := Lib.hid (HM5.out.below hr.bel)
      have HR6' := Lib.hid (HR5.out.below hr.bel)
      clear hr e0 e1
      have hid' : ∀ s, s < L → (clsL L (clD M)).getD s 0 = (s : Int) := fun s hs => by
        rw [hL] at hs ⊢
        exact Hhid.out s hs
      have Hid' := Lib.hid hid'
      have hL41 : L ≤ 40 := by rw [hL]; exact Hhm40.out
      rw [← hL]
      have HhL := Lib.hid hL; clear hL
      clear hid'
      go_wp2
      go_loopw [2, 6] (fun r vi wr => ∃ k : Nat, r = .bool false ∧ vi = .int .i64 (k : Int) ∧ k ≤ L ∧ Below w6.heap.size w6 wr) (fun _ vi _ => L - (intOf vi).toNat)
      case atStart => exact ⟨0, rfl, rfl, Nat.zero_le _, Below.refl _ _⟩
      case round =>
        obtain ⟨k, rfl, rfl, hk, hb⟩ := hrel
        have HS6r := Lib.hid (HS6.out.call hb)
        have Hhb := Lib.hid hb; clear hb
        by_cases hlt : k < L
        · have hx := (HS6r.out.rcellN 2 k rfl (clsL_len _ _) hlt)
          rw [Hid'.out k hlt] at hx
          have hne : ((k : Int) != (k : Int)) = false := by simp
          go_wp2
          go_roundw
          case rel => exact ⟨k + 1, rfl, by go_num, by omega, Hhb.out⟩
          case measure => simp [intOf]; omega
        · obtain rfl : k = L := by omega
          have HSl := Lib.hid HS6r.out
          have HM6 := Lib.hid (HM6'.out.below Hhb.out)
          have HR6 := Lib.hid (HR6'.out.below Hhb.out)
          clear hlt
          have e0 := HSl.out.cell (v := .slice a1 d.next.length c1) 0 0 rfl rfl
          have e1 := HSl.out.cell (v := .slice a2 d.ends.length c2) 0 1 rfl rfl
          cases hfb : (tt d).isSome
          · obtain ⟨Y, hY⟩ : ∃ Y, (tt d).getD zeD = Y := ⟨_, rfl⟩
            have HhY := Lib.hid hY; clear hY
            have Hhfb := Lib.hid hfb; clear hfb
            go_wp2_with fail
            refine (implTt_any d Y false HhY.out Hhfb.out _ _ HR6.out).mono ?_
            rintro e w7 ⟨⟨p1, q1, p2, q2, rfl, hx⟩, hb⟩
            have HS7 := Lib.hid ((HSl.out.call hb).alloc _ rfl #[.slice p1 Y.next.length q1, .slice p2 Y.ends.length q2] 26)
            have HM7 := Lib.hid ((HM6.out.below hb).below ((Below.refl w7.heap.size w7).alloc (Nat.le_refl _) (.cells #[.slice p1 Y.next.length q1, .slice p2 Y.ends.length q2] 26)))
            have HR7 := Lib.hid ((HR6.out.below hb).below ((Below.refl w7.heap.size w7).alloc (Nat.le_refl _) (.cells #[.slice p1 Y.next.length q1, .slice p2 Y.ends.length q2] 26)))
            have HY7 := Lib.hid (((hx.r).mono (Nat.zero_le _)).below ((Below.refl w7.heap.size w7).alloc (Nat.le_refl _) (.cells #[.slice p1 Y.next.length q1, .slice p2 Y.ends.length q2] 26)))
            clear hb hx e0 e1
            have D0 := Lib.hid (HS7.out.cell (v := .slice a1 d.next.length c1) 0 0 rfl rfl)
            have D1 := Lib.hid (HS7.out.cell (v := .slice a2 d.ends.length c2) 0 1 rfl rfl)
            have HltD := Lib.hid (HS7.out.boxlt 0 rfl).2
            have C0 := Lib.hid (HS7.out.cell (v := .slice x1 M.next.length y1) 1 0 rfl rfl)
            have C1 := Lib.hid (HS7.out.cell (v := .slice x2 M.ends.length y2) 1 1 rfl rfl)
            have HltC := Lib.hid (HS7.out.boxlt 1 rfl).2
            have P0 := Lib.hid (HS7.out.cell (v := .slice p1 Y.next.length q1) 3 0 rfl rfl)
            have P1 := Lib.hid (HS7.out.cell (v := .slice p2 Y.ends.length q2) 3 1 rfl rfl)
            have HltP := Lib.hid (HS7.out.boxlt 3 rfl).2
            go_wp2
            refine wp_region_any (by kernel_rfl) ?_
            refine wpAny_invA (fun A listed a w' => ∃ (l0 l1 l2 l3 l4 l5 l6 l7 l8 l9 l10 l11 l12 l13 l14 l15 l16 l17 l18 l19 l20 l21 l22 l23 l24 l25 l26 l27 l28 l29 l30 l31 : Bool) (ax1 : Option Addr) (cx1 : Nat) (ax2 : Option Addr) (cx2 : Nat) (vb : Nat) (vh : Nat), listed = #[l0, l1, l2, l3, l4, l5, l6, l7, l8, l9, l10, l11, l12, l13, l14, l15, l16, l17, l18, l19, l20, l21, l22, l23, l24, l25, l26, l27, l28, l29, l30, l31] ∧
                a = ⟨(((((((((((((((((((((((((((((A.tmps.setIfInBounds 50 (if l0 = true then .agg #[.slice x1 M.next.length y1, .slice x2 M.ends.length y2] else A.tmps.getD 50 undef)).setIfInBounds 51 (if l1 = true then .bool true else A.tmps.getD 51 undef)).setIfInBounds 52 (if l2 = true then .bool true else A.tmps.getD 52 undef)).setIfInBounds 53 (if l3 = true then .agg #[.slice x1 M.next.length y1, .slice x2 M.ends.length y2] else A.tmps.getD 53 undef)).setIfInBounds 54 (if l4 = true then .agg #[.slice a1 d.next.length c1, .slice a2 d.ends.length c2] else A.tmps.getD 54 undef)).setIfInBounds 55 (if l5 = true then .bool true else A.tmps.getD 55 undef)).setIfInBounds 56 (if l6 = true then .bool true else A.tmps.getD 56 undef)).setIfInBounds 57 (if l7 = true then .bool true else A.tmps.getD 57 undef)).setIfInBounds 58 (if l8 = true then .pointer (some ⟨w2.heap.size, 0, none⟩) else A.tmps.getD 58 undef)).setIfInBounds 59 (if l9 = true then .slice x1 M.next.length y1 else A.tmps.getD 59 undef)).setIfInBounds 60 (if l10 = true then .int .i64 (M.next.length : Int) else A.tmps.getD 60 undef)).setIfInBounds 61 (if l11 = true then .pointer (some ⟨w1.heap.size, 0, none⟩) else A.tmps.getD 61 undef)).setIfInBounds 62 (if l12 = true then .slice a1 d.next.length c1 else A.tmps.getD 62 undef)).setIfInBounds 63 (if l13 = true then .int .i64 (d.next.length : Int) else A.tmps.getD 63 undef)).setIfInBounds 64 (if l14 = true then .bool true else A.tmps.getD 64 undef)).setIfInBounds 65 (if l15 = true then .bool true else A.tmps.getD 65 undef)).setIfInBounds 66 (if l16 = true then .bool true else A.tmps.getD 66 undef)).setIfInBounds 67 (if l17 = true then .agg #[.slice x1 M.next.length y1, .slice x2 M.ends.length y2] else A.tmps.getD 67 undef)).setIfInBounds 68 (if l18 = true then .agg #[.slice ax1 M.next.length cx1, .slice ax2 M.ends.length cx2] else A.tmps.getD 68 undef)).setIfInBounds 69 (if l19 = true then .agg #[.slice x1 M.next.length y1, .slice x2 M.ends.length y2] else A.tmps.getD 69 undef)).setIfInBounds 70 (if l20 = true then .bool true else A.tmps.getD 70 undef)).setIfInBounds 71 (if l21 = true then .bool true else A.tmps.getD 71 undef)).setIfInBounds 72 (if l22 = true then .bool true else A.tmps.getD 72 undef)).setIfInBounds 73 (if l23 = true then .bool false else A.tmps.getD 73 undef)).setIfInBounds 74 (if l24 = true then .bool true else A.tmps.getD 74 undef)).setIfInBounds 75 (if l25 = true then .bool true else A.tmps.getD 75 undef)).setIfInBounds 79 (if l29 = true then .bool true else A.tmps.getD 79 undef)).setIfInBounds 80 (if l30 = true then .bool true else A.tmps.getD 80 undef)).setIfInBounds 2 (.bool l31)), A.defers⟩ ∧
                St (w7.alloc (.cells #[.slice p1 Y.next.length q1, .slice p2 Y.ends.length q2] 26)) w' [(if l18 = true then DfaV vb vh (.slice ax1 M.next.length cx1) (.slice ax2 M.ends.length cx2) M else Ent.nil)]) ?_ ?_ ?_
            · rintro listed a w' ⟨l0, l1, l2, l3, l4, l5, l6, l7, l8, l9, l10, l11, l12, l13, l14, l15, l16, l17, l18, l19, l20, l21, l22, l23, l24, l25, l26, l27, l28, l29, l30, l31, ax1, cx1, ax2, cx2, vb, vh, rfl, rfl, hS⟩ i hi
              obtain ⟨hun, o, ho, hall⟩ := mem_ready.1 hi
              have hlt := (Array.getElem?_eq_some_iff.1 ho).1
              refine wpOp_step ho (fun K hK => ?_)
              clear hi
              have HS := Lib.hid hS
              clear hS
              simp only [List.setIfInBounds_toArray, List.set_cons_zero, List.set_cons_succ, Array.getD_eq_getD_getElem?, List.getElem?_toArray, List.getElem?_cons_zero, List.getElem?_cons_succ, Option.getD_some]
              obtain h | h | h | h | h | h | h | h | h | h | h | h | h | h | h | h | h | h | h | h | h | h | h | h | h | h | h | h | h | h | h | h : i = 0 ∨ i = 1 ∨ i = 2 ∨ i = 3 ∨ i = 4 ∨ i = 5 ∨ i = 6 ∨ i = 7 ∨ i = 8 ∨ i = 9 ∨ i = 10 ∨ i = 11 ∨ i = 12 ∨ i = 13 ∨ i = 14 ∨ i = 15 ∨ i = 16 ∨ i = 17 ∨ i = 18 ∨ i = 19 ∨ i = 20 ∨ i = 21 ∨ i = 22 ∨ i = 23 ∨ i = 24 ∨ i = 25 ∨ i = 26 ∨ i = 27 ∨ i = 28 ∨ i = 29 ∨ i = 30 ∨ i = 31 := by simp at hlt; omega
              all_goals subst h
              all_goals simp only [List.getElem?_toArray, List.getElem?_cons_zero, List.getElem?_cons_succ, Option.some.injEq] at ho
              all_goals subst ho
              all_goals simp [Region.binds] at hun hall
              · subst hun
                have e0 := (bcell HS.out.bel (w2.heap.size) 0 HltC.out).trans C0.out
                have e1 := (bcell HS.out.bel (w2.heap.size) 1 HltC.out).trans C1.out
                go_simp
                exact hK _ _ ⟨true, l1, l2, l3, l4, l5, l6, l7, l8, l9, l10, l11, l12, l13, l14, l15, l16, l17, l18, l19, l20, l21, l22, l23, l24, l25, l26, l27, l28, l29, l30, l31, ax1, cx1, ax2, cx2, vb, vh, rfl, (by simp), HS.out⟩
              · obtain rfl := hall
                subst hun
                go_simp
                go_at_call 39
                refine (implDfaValid_any M _ _ (HM7.out.below HS.out.bel) _ Hhmo.out).mono ?_
                rintro e u1 ⟨rfl, hb⟩
                have hS2 := HS.out.call hb
                have HhS2 := Lib.hid hS2; clear hS2
                go_simp
                exact hK _ _ ⟨true, true, l2, l3, l4, l5, l6, l7, l8, l9, l10, l11, l12, l13, l14, l15, l16, l17, l18, l19, l20, l21, l22, l23, l24, l25, l26, l27, l28, l29, l30, l31, ax1, cx1, ax2, cx2, vb, vh, rfl, (by simp), HhS2.out⟩
              · obtain rfl := hall
                subst hun
                go_simp
                exact hK _ _ ⟨l0, true, true, l3, l4, l5, l6, l7, l8, l9, l10, l11, l12, l13, l14, l15, l16, l17, l18, l19, l20, l21, l22, l23, l24, l25, l26, l27, l28, l29, l30, l31, ax1, cx1, ax2, cx2, vb, vh, rfl, (by simp), HS.out⟩
              · obtain rfl := hall
                subst hun
                have e0 := (bcell HS.out.bel (w2.heap.size) 0 HltC.out).trans C0.out
                have e1 := (bcell HS.out.bel (w2.heap.size) 1 HltC.out).trans C1.out
                go_simp
                exact hK _ _ ⟨l0, l1, true, true, l4, l5, l6, l7, l8, l9, l10, l11, l12, l13, l14, l15, l16, l17, l18, l19, l20, l21, l22, l23, l24, l25, l26, l27, l28, l29, l30, l31, ax1, cx1, ax2, cx2, vb, vh, rfl, (by simp), HS.out⟩
              · obtain rfl := hall
                subst hun
                have e0 := (bcell HS.out.bel (w1.heap.size) 0 HltD.out).trans D0.out
                have e1 := (bcell HS.out.bel (w1.heap.size) 1 HltD.out).trans D1.out
                go_simp
                exact hK _ _ ⟨l0, l1, true, l3, true, l5, l6, l7, l8, l9, l10, l11, l12, l13, l14, l15, l16, l17, l18, l19, l20, l21, l22, l23, l24, l25, l26, l27, l28, l29, l30, l31, ax1, cx1, ax2, cx2, vb, vh, rfl, (by simp), HS.out⟩
              · obtain ⟨rfl, rfl, rfl⟩ := hall
                subst hun
                go_simp
                go_at_call 40
                refine (implSame_any M d _ _ _ (HM7.out.below HS.out.bel) (HR7.out.below HS.out.bel) _ Hhsame.out).mono ?_
                rintro e u1 ⟨rfl, hb⟩
                have hS2 := HS.out.call hb
                have HhS2 := Lib.hid hS2; clear hS2
                go_simp
                exact hK _ _ ⟨l0, l1, true, true, true, true, l6, l7, l8, l9, l10, l11, l12, l13, l14, l15, l16, l17, l18, l19, l20, l21, l22, l23, l24, l25, l26, l27, l28, l29, l30, l31, ax1, cx1, ax2, cx2, vb, vh, rfl, (by simp), HhS2.out⟩
              · obtain ⟨rfl, rfl⟩ := hall
                subst hun
                go_simp
                exact hK _ _ ⟨l0, l1, true, l3, l4, true, true, l7, l8, l9, l10, l11, l12, l13, l14, l15, l16, l17, l18, l19, l20, l21, l22, l23, l24, l25, l26, l27, l28, l29, l30, l31, ax1, cx1, ax2, cx2, vb, vh, rfl, (by simp), HS.out⟩
              · obtain ⟨rfl, rfl⟩ := hall
                subst hun
                go_simp
                exact hK _ _ ⟨l0, l1, l2, l3, l4, true, true, true, l8, l9, l10, l11, l12, l13, l14, l15, l16, l17, l18, l19, l20, l21, l22, l23, l24, l25, l26, l27, l28, l29, l30, l31, ax1, cx1, ax2, cx2, vb, vh, rfl, (by simp), HS.out⟩
              · obtain rfl := hall
                subst hun
                go_simp
                exact hK _ _ ⟨l0, l1, l2, l3, l4, l5, l6, true, true, l9, l10, l11, l12, l13, l14, l15, l16, l17, l18, l19, l20, l21, l22, l23, l24, l25, l26, l27, l28, l29, l30, l31, ax1, cx1, ax2, cx2, vb, vh, rfl, (by simp), HS.out⟩
              · obtain ⟨rfl, rfl⟩ := hall
                subst hun
                have e0 := (bcell HS.out.bel (w2.heap.size) 0 HltC.out).trans C0.out
                go_simp
                exact hK _ _ ⟨l0, l1, l2, l3, l4, l5, l6, true, true, true, l10, l11, l12, l13, l14, l15, l16, l17, l18, l19, l20, l21, l22, l23, l24, l25, l26, l27, l28, l29, l30, l31, ax1, cx1, ax2, cx2, vb, vh, rfl, (by simp), HS.out⟩
              · obtain ⟨rfl, rfl⟩ := hall
                subst hun
                go_simp
                exact hK _ _ ⟨l0, l1, l2, l3, l4, l5, l6, true, l8, true, true, l11, l12, l13, l14, l15, l16, l17, l18, l19, l20, l21, l22, l23, l24, l25, l26, l27, l28, l29, l30, l31, ax1, cx1, ax2, cx2, vb, vh, rfl, (by simp), HS.out⟩
              · obtain rfl := hall
                subst hun
                go_simp
                exact hK _ _ ⟨l0, l1, l2, l3, l4, l5, l6, true, l8, l9, l10, true, l12, l13, l14, l15, l16, l17, l18, l19, l20, l21, l22, l23, l24, l25, l26, l27, l28, l29, l30, l31, ax1, cx1, ax2, cx2, vb, vh, rfl, (by simp), HS.out⟩
              · obtain ⟨rfl, rfl⟩ := hall
                subst hun
                have e0 := (bcell HS.out.bel (w1.heap.size) 0 HltD.out).trans D0.out
                go_simp
                exact hK _ _ ⟨l0, l1, l2, l3, l4, l5, l6, true, l8, l9, l10, true, true, l13, l14, l15, l16, l17, l18, l19, l20, l21, l22, l23, l24, l25, l26, l27, l28, l29, l30, l31, ax1, cx1, ax2, cx2, vb, vh, rfl, (by simp), HS.out⟩
              · obtain ⟨rfl, rfl⟩ := hall
                subst hun
                go_simp
                exact hK _ _ ⟨l0, l1, l2, l3, l4, l5, l6, true, l8, l9, l10, l11, true, true, l14, l15, l16, l17, l18, l19, l20, l21, l22, l23, l24, l25, l26, l27, l28, l29, l30, l31, ax1, cx1, ax2, cx2, vb, vh, rfl, (by simp), HS.out⟩
              · obtain ⟨rfl, rfl, rfl⟩ := hall
                subst hun
                go_simp
                exact hK _ _ ⟨l0, l1, l2, l3, l4, l5, l6, true, l8, l9, true, l11, l12, true, true, l15, l16, l17, l18, l19, l20, l21, l22, l23, l24, l25, l26, l27, l28, l29, l30, l31, ax1, cx1, ax2, cx2, vb, vh, rfl, (by simp), HS.out⟩
              · obtain ⟨rfl, rfl⟩ := hall
                subst hun
                go_simp
                exact hK _ _ ⟨l0, l1, l2, l3, l4, l5, l6, true, l8, l9, l10, l11, l12, l13, true, true, l16, l17, l18, l19, l20, l21, l22, l23, l24, l25, l26, l27, l28, l29, l30, l31, ax1, cx1, ax2, cx2, vb, vh, rfl, (by simp), HS.out⟩
              · obtain ⟨rfl, rfl⟩ := hall
                subst hun
                go_simp
                exact hK _ _ ⟨l0, l1, l2, l3, l4, l5, l6, true, l8, l9, l10, l11, l12, l13, l14, true, true, l17, l18, l19, l20, l21, l22, l23, l24, l25, l26, l27, l28, l29, l30, l31, ax1, cx1, ax2, cx2, vb, vh, rfl, (by simp), HS.out⟩
              · obtain rfl := hall
                subst hun
                have e0 := (bcell HS.out.bel (w2.heap.size) 0 HltC.out).trans C0.out
                have e1 := (bcell HS.out.bel (w2.heap.size) 1 HltC.out).trans C1.out
                go_simp
                exact hK _ _ ⟨l0, l1, l2, l3, l4, l5, l6, l7, l8, l9, l10, l11, l12, l13, l14, l15, true, true, l18, l19, l20, l21, l22, l23, l24, l25, l26, l27, l28, l29, l30, l31, ax1, cx1, ax2, cx2, vb, vh, rfl, (by simp), HS.out⟩
              · obtain ⟨rfl, rfl⟩ := hall
                subst hun
                go_simp
                go_at_call 28
                refine (implMinimize_any M M HhMM.out _ _ (HM7.out.below HS.out.bel)).mono ?_
                rintro e u1 ⟨z1, z2, z3, z4, rfl, hr, hb⟩
                have hS2 := (HS.out.dfaV hb hr).pick [1] (by decide)
                have HhS2 := Lib.hid hS2; clear hS2
                go_simp
                exact hK _ _ ⟨l0, l1, l2, l3, l4, l5, l6, l7, l8, l9, l10, l11, l12, l13, l14, l15, true, true, true, l19, l20, l21, l22, l23, l24, l25, l26, l27, l28, l29, l30, l31, z1, z2, z3, z4, w'.heap.size, u1.heap.size, rfl, (by simp), HhS2.out⟩
              · obtain rfl := hall
                subst hun
                have e0 := (bcell HS.out.bel (w2.heap.size) 0 HltC.out).trans C0.out
                have e1 := (bcell HS.out.bel (w2.heap.size) 1 HltC.out).trans C1.out
                go_simp
                exact hK _ _ ⟨l0, l1, l2, l3, l4, l5, l6, l7, l8, l9, l10, l11, l12, l13, l14, l15, true, l17, l18, true, l20, l21, l22, l23, l24, l25, l26, l27, l28, l29, l30, l31, ax1, cx1, ax2, cx2, vb, vh, rfl, (by simp), HS.out⟩
              · obtain ⟨rfl, rfl, -, rfl⟩ := hall
                subst hun
                go_simp
                go_at_call 23
                refine (sameDfa_any M _ _ _ (HS.out.dfaVr 0 rfl) (HM7.out.below HS.out.bel)).mono ?_
                rintro e u1 ⟨rfl, hb⟩
                have hS2 := HS.out.call hb
                have HhS2 := Lib.hid hS2; clear hS2
                go_simp
                exact hK _ _ ⟨l0, l1, l2, l3, l4, l5, l6, l7, l8, l9, l10, l11, l12, l13, l14, l15, true, l17, true, true, true, l21, l22, l23, l24, l25, l26, l27, l28, l29, l30, l31, ax1, cx1, ax2, cx2, vb, vh, rfl, (by simp), HhS2.out⟩
              · obtain ⟨rfl, rfl⟩ := hall
                subst hun
                go_simp
                exact hK _ _ ⟨l0, l1, l2, l3, l4, l5, l6, l7, l8, l9, l10, l11, l12, l13, l14, l15, true, l17, l18, l19, true, true, l22, l23, l24, l25, l26, l27, l28, l29, l30, l31, ax1, cx1, ax2, cx2, vb, vh, rfl, (by simp), HS.out⟩
              · obtain ⟨rfl, rfl⟩ := hall
                subst hun
                go_simp
                exact hK _ _ ⟨l0, l1, l2, l3, l4, l5, l6, l7, l8, l9, l10, l11, l12, l13, l14, l15, l16, l17, l18, l19, true, true, true, l23, l24, l25, l26, l27, l28, l29, l30, l31, ax1, cx1, ax2, cx2, vb, vh, rfl, (by simp), HS.out⟩
              · obtain rfl := hall
                subst hun
                go_simp
                exact hK _ _ ⟨l0, l1, l2, l3, l4, l5, l6, l7, l8, l9, l10, l11, l12, l13, l14, l15, l16, l17, l18, l19, l20, l21, true, true, l24, l25, l26, l27, l28, l29, l30, l31, ax1, cx1, ax2, cx2, vb, vh, rfl, (by simp), HS.out⟩
              · obtain ⟨rfl, rfl⟩ := hall
                subst hun
                go_simp
                exact hK _ _ ⟨l0, l1, l2, l3, l4, l5, l6, l7, l8, l9, l10, l11, l12, l13, l14, l15, l16, l17, l18, l19, l20, l21, true, true, true, l25, l26, l27, l28, l29, l30, l31, ax1, cx1, ax2, cx2, vb, vh, rfl, (by simp), HS.out⟩
              · obtain ⟨rfl, rfl⟩ := hall
                subst hun
                go_simp
                exact hK _ _ ⟨l0, l1, l2, l3, l4, l5, l6, l7, l8, l9, l10, l11, l12, l13, l14, l15, l16, l17, l18, l19, l20, l21, true, l23, true, true, l26, l27, l28, l29, l30, l31, ax1, cx1, ax2, cx2, vb, vh, rfl, (by simp), HS.out⟩
              · obtain rfl := hall
                subst hun
                go_simp
                exact hK _ _ ⟨l0, l1, l2, l3, l4, l5, l6, l7, l8, l9, l10, l11, l12, l13, l14, l15, l16, l17, l18, l19, l20, l21, l22, l23, l24, true, true, l27, l28, l29, l30, l31, ax1, cx1, ax2, cx2, vb, vh, rfl, (by simp), HS.out⟩
              · obtain rfl := hall
                subst hun
                go_simp
                exact hK _ _ ⟨l0, l1, l2, l3, l4, l5, l6, l7, l8, l9, l10, l11, l12, l13, l14, l15, l16, l17, l18, l19, l20, l21, l22, l23, l24, true, l26, true, l28, l29, l30, l31, ax1, cx1, ax2, cx2, vb, vh, rfl, (by simp), HS.out⟩
              · obtain ⟨rfl, rfl, rfl⟩ := hall
                subst hun
                go_simp
                exact hK _ _ ⟨l0, l1, l2, l3, l4, l5, l6, l7, l8, l9, l10, l11, l12, l13, l14, l15, l16, l17, l18, l19, l20, l21, l22, l23, l24, true, true, true, true, l29, l30, l31, ax1, cx1, ax2, cx2, vb, vh, rfl, (by simp), HS.out⟩
              · obtain ⟨rfl, rfl, rfl⟩ := hall
                subst hun
                go_simp
                exact hK _ _ ⟨l0, l1, l2, l3, l4, l5, l6, l7, l8, l9, l10, l11, l12, l13, l14, l15, l16, l17, l18, l19, l20, l21, true, l23, l24, true, l26, l27, true, true, l30, l31, ax1, cx1, ax2, cx2, vb, vh, rfl, (by simp), HS.out⟩
              · obtain ⟨rfl, rfl⟩ := hall
                subst hun
                go_simp
                exact hK _ _ ⟨l0, l1, l2, l3, l4, l5, l6, l7, l8, l9, l10, l11, l12, l13, l14, l15, l16, l17, l18, l19, l20, l21, true, l23, l24, l25, l26, l27, l28, true, true, l31, ax1, cx1, ax2, cx2, vb, vh, rfl, (by simp), HS.out⟩
              · obtain ⟨rfl, rfl, rfl, rfl, rfl, rfl, rfl, rfl, rfl, rfl, rfl, rfl, rfl, rfl, rfl, rfl, rfl, rfl, rfl, rfl, rfl, rfl, rfl, rfl, rfl, rfl, rfl, rfl, rfl, rfl, -, rfl, -⟩ := hall
                subst hun
                go_simp
                exact hK _ _ ⟨true, true, true, true, true, true, true, true, true, true, true, true, true, true, true, true, true, true, true, true, true, true, true, true, true, true, true, true, true, true, true, true, ax1, cx1, ax2, cx2, vb, vh, rfl, (by simp only [↓reduceIte, List.setIfInBounds_toArray, List.set_cons_zero, List.set_cons_succ]), HS.out⟩
            · rintro listed a w' ⟨l0, l1, l2, l3, l4, l5, l6, l7, l8, l9, l10, l11, l12, l13, l14, l15, l16, l17, l18, l19, l20, l21, l22, l23, l24, l25, l26, l27, l28, l29, l30, l31, ax1, cx1, ax2, cx2, vb, vh, rfl, rfl, hS⟩ hr
              have hall := ready_nilM (by kernel_rfl) rfl hr
              obtain rfl : l0 = true := by simpa using hall 0 (by simp)
              obtain rfl : l1 = true := by simpa using hall 1 (by simp)
              obtain rfl : l2 = true := by simpa using hall 2 (by simp)
              obtain rfl : l3 = true := by simpa using hall 3 (by simp)
              obtain rfl : l4 = true := by simpa using hall 4 (by simp)
              obtain rfl : l5 = true := by simpa using hall 5 (by simp)
              obtain rfl : l6 = true := by simpa using hall 6 (by simp)
              obtain rfl : l7 = true := by simpa using hall 7 (by simp)
              obtain rfl : l8 = true := by simpa using hall 8 (by simp)
              obtain rfl : l9 = true := by simpa using hall 9 (by simp)
              obtain rfl : l10 = true := by simpa using hall 10 (by simp)
              obtain rfl : l11 = true := by simpa using hall 11 (by simp)
              obtain rfl : l12 = true := by simpa using hall 12 (by simp)
              obtain rfl : l13 = true := by simpa using hall 13 (by simp)
              obtain rfl : l14 = true := by simpa using hall 14 (by simp)
              obtain rfl : l15 = true := by simpa using hall 15 (by simp)
              obtain rfl : l16 = true := by simpa using hall 16 (by simp)
              obtain rfl : l17 = true := by simpa using hall 17 (by simp)
              obtain rfl : l18 = true := by simpa using hall 18 (by simp)
              obtain rfl : l19 = true := by simpa using hall 19 (by simp)
              obtain rfl : l20 = true := by simpa using hall 20 (by simp)
              obtain rfl : l21 = true := by simpa using hall 21 (by simp)
              obtain rfl : l22 = true := by simpa using hall 22 (by simp)
              obtain rfl : l23 = true := by simpa using hall 23 (by simp)
              obtain rfl : l24 = true := by simpa using hall 24 (by simp)
              obtain rfl : l25 = true := by simpa using hall 25 (by simp)
              obtain rfl : l26 = true := by simpa using hall 26 (by simp)
              obtain rfl : l27 = true := by simpa using hall 27 (by simp)
              obtain rfl : l28 = true := by simpa using hall 28 (by simp)
              obtain rfl : l29 = true := by simpa using hall 29 (by simp)
              obtain rfl : l30 = true := by simpa using hall 30 (by simp)
              obtain rfl : l31 = true := by simpa using hall 31 (by simp)
              clear hall hr 
              simp only [↓reduceIte] at hS ⊢
              simp only [List.setIfInBounds_toArray, List.set_cons_zero, List.set_cons_succ]
              have HSf := Lib.hid hS
              clear hS
              go_wp2
              go_ret
              exact ⟨rfl, HS7.out.bel.trans (HSf.out.bel.mono HS7.out.bel.size)⟩
            · refine ⟨false, false, false, false, false, false, false, false, false, false, false, false, false, false, false, false, false, false, false, false, false, false, false, false, false, false, false, false, false, false, false, false, none, 0, none, 0, 0, 0, rfl, (by simp), ?_⟩
              exact (St.start (w7.alloc (.cells #[.slice p1 Y.next.length q1, .slice p2 Y.ends.length q2] 26))).drew.pick [0] (by decide)
          · have hY : (tt d).getD zeD = M := (tt_yesM rfl hfb).trans HhM.out
            have HhY := Lib.hid hY; clear hY
            have Hhfb := Lib.hid hfb; clear hfb
            go_wp2_with fail
            refine (implTt_any d M true HhY.out Hhfb.out _ _ HR6.out).mono ?_
            rintro e w7 ⟨⟨p1, q1, p2, q2, rfl, hx⟩, hb⟩
            have HS7 := Lib.hid ((HSl.out.call hb).alloc _ rfl #[.slice p1 M.next.length q1, .slice p2 M.ends.length q2] 26)
            have HM7 := Lib.hid ((HM6.out.below hb).below ((Below.refl w7.heap.size w7).alloc (Nat.le_refl _) (.cells #[.slice p1 M.next.length q1, .slice p2 M.ends.length q2] 26)))
            have HR7 := Lib.hid ((HR6.out.below hb).below ((Below.refl w7.heap.size w7).alloc (Nat.le_refl _) (.cells #[.slice p1 M.next.length q1, .slice p2 M.ends.length q2] 26)))
            have HY7 := Lib.hid (((hx.r).mono (Nat.zero_le _)).below ((Below.refl w7.heap.size w7).alloc (Nat.le_refl _) (.cells #[.slice p1 M.next.length q1, .slice p2 M.ends.length q2] 26)))
            clear hb hx e0 e1
            have D0 := Lib.hid (HS7.out.cell (v := .slice a1 d.next.length c1) 0 0 rfl rfl)
            have D1 := Lib.hid (HS7.out.cell (v := .slice a2 d.ends.length c2) 0 1 rfl rfl)
            have HltD := Lib.hid (HS7.out.boxlt 0 rfl).2
            have C0 := Lib.hid (HS7.out.cell (v := .slice x1 M.next.length y1) 1 0 rfl rfl)
            have C1 := Lib.hid (HS7.out.cell (v := .slice x2 M.ends.length y2) 1 1 rfl rfl)
            have HltC := Lib.hid (HS7.out.boxlt 1 rfl).2
            have P0 := Lib.hid (HS7.out.cell (v := .slice p1 M.next.length q1) 3 0 rfl rfl)
            have P1 := Lib.hid (HS7.out.cell (v := .slice p2 M.ends.length q2) 3 1 rfl rfl)
            have HltP := Lib.hid (HS7.out.boxlt 3 rfl).2
            go_wp2
            refine wp_region_any (by kernel_rfl) ?_
            refine wpAny_invA (fun A listed a w' => ∃ (l0 l1 l2 l3 l4 l5 l6 l7 l8 l9 l10 l11 l12 l13 l14 l15 l16 l17 l18 l19 l20 l21 l22 l23 l24 l25 l26 l27 l28 l29 l30 l31 : Bool) (ax1 : Option Addr) (cx1 : Nat) (ax2 : Option Addr) (cx2 : Nat) (vb : Nat) (vh : Nat), listed = #[l0, l1, l2, l3, l4, l5, l6, l7, l8, l9, l10, l11, l12, l13, l14, l15, l16, l17, l18, l19, l20, l21, l22, l23, l24, l25, l26, l27, l28, l29, l30, l31] ∧
                a = ⟨((((((((((((((((((((((((((((((((A.tmps.setIfInBounds 50 (if l0 = true then .agg #[.slice x1 M.next.length y1, .slice x2 M.ends.length y2] else A.tmps.getD 50 undef)).setIfInBounds 51 (if l1 = true then .bool true else A.tmps.getD 51 undef)).setIfInBounds 52 (if l2 = true then .bool true else A.tmps.getD 52 undef)).setIfInBounds 53 (if l3 = true then .agg #[.slice x1 M.next.length y1, .slice x2 M.ends.length y2] else A.tmps.getD 53 undef)).setIfInBounds 54 (if l4 = true then .agg #[.slice a1 d.next.length c1, .slice a2 d.ends.length c2] else A.tmps.getD 54 undef)).setIfInBounds 55 (if l5 = true then .bool true else A.tmps.getD 55 undef)).setIfInBounds 56 (if l6 = true then .bool true else A.tmps.getD 56 undef)).setIfInBounds 57 (if l7 = true then .bool true else A.tmps.getD 57 undef)).setIfInBounds 58 (if l8 = true then .pointer (some ⟨w2.heap.size, 0, none⟩) else A.tmps.getD 58 undef)).setIfInBounds 59 (if l9 = true then .slice x1 M.next.length y1 else A.tmps.getD 59 undef)).setIfInBounds 60 (if l10 = true then .int .i64 (M.next.length : Int) else A.tmps.getD 60 undef)).setIfInBounds 61 (if l11 = true then .pointer (some ⟨w1.heap.size, 0, none⟩) else A.tmps.getD 61 undef)).setIfInBounds 62 (if l12 = true then .slice a1 d.next.length c1 else A.tmps.getD 62 undef)).setIfInBounds 63 (if l13 = true then .int .i64 (d.next.length : Int) else A.tmps.getD 63 undef)).setIfInBounds 64 (if l14 = true then .bool true else A.tmps.getD 64 undef)).setIfInBounds 65 (if l15 = true then .bool true else A.tmps.getD 65 undef)).setIfInBounds 66 (if l16 = true then .bool true else A.tmps.getD 66 undef)).setIfInBounds 67 (if l17 = true then .agg #[.slice x1 M.next.length y1, .slice x2 M.ends.length y2] else A.tmps.getD 67 undef)).setIfInBounds 68 (if l18 = true then .agg #[.slice ax1 M.next.length cx1, .slice ax2 M.ends.length cx2] else A.tmps.getD 68 undef)).setIfInBounds 69 (if l19 = true then .agg #[.slice x1 M.next.length y1, .slice x2 M.ends.length y2] else A.tmps.getD 69 undef)).setIfInBounds 70 (if l20 = true then .bool true else A.tmps.getD 70 undef)).setIfInBounds 71 (if l21 = true then .bool true else A.tmps.getD 71 undef)).setIfInBounds 72 (if l22 = true then .bool true else A.tmps.getD 72 undef)).setIfInBounds 73 (if l23 = true then .bool true else A.tmps.getD 73 undef)).setIfInBounds 74 (if l24 = true then .bool false else A.tmps.getD 74 undef)).setIfInBounds 75 (if l25 = true then .bool false else A.tmps.getD 75 undef)).setIfInBounds 76 (if l26 = true then .agg #[.slice p1 M.next.length q1, .slice p2 M.ends.length q2] else A.tmps.getD 76 undef)).setIfInBounds 77 (if l27 = true then .agg #[.slice x1 M.next.length y1, .slice x2 M.ends.length y2] else A.tmps.getD 77 undef)).setIfInBounds 78 (if l28 = true then .bool true else A.tmps.getD 78 undef)).setIfInBounds 79 (if l29 = true then .bool true else A.tmps.getD 79 undef)).setIfInBounds 80 (if l30 = true then .bool true else A.tmps.getD 80 undef)).setIfInBounds 2 (.bool l31)), A.defers⟩ ∧
                St (w7.alloc (.cells #[.slice p1 M.next.length q1, .slice p2 M.ends.length q2] 26)) w' [(if l18 = true then DfaV vb vh (.slice ax1 M.next.length cx1) (.slice ax2 M.ends.length cx2) M else Ent.nil)]) ?_ ?_ ?_
            · rintro listed a w' ⟨l0, l1, l2, l3, l4, l5, l6, l7, l8, l9, l10, l11, l12, l13, l14, l15, l16, l17, l18, l19, l20, l21, l22, l23, l24, l25, l26, l27, l28, l29, l30, l31, ax1, cx1, ax2, cx2, vb, vh, rfl, rfl, hS⟩ i hi
              obtain ⟨hun, o, ho, hall⟩ := mem_ready.1 hi
              have hlt := (Array.getElem?_eq_some_iff.1 ho).1
              refine wpOp_step ho (fun K hK => ?_)
              clear hi
              have HS := Lib.hid hS
              clear hS
              simp only [List.setIfInBounds_toArray, List.set_cons_zero, List.set_cons_succ, Array.getD_eq_getD_getElem?, List.getElem?_toArray, List.getElem?_cons_zero, List.getElem?_cons_succ, Option.getD_some]
              obtain h | h | h | h | h | h | h | h | h | h | h | h | h | h | h | h | h | h | h | h | h | h | h | h | h | h | h | h | h | h | h | h : i = 0 ∨ i = 1 ∨ i = 2 ∨ i = 3 ∨ i = 4 ∨ i = 5 ∨ i = 6 ∨ i = 7 ∨ i = 8 ∨ i = 9 ∨ i = 10 ∨ i = 11 ∨ i = 12 ∨ i = 13 ∨ i = 14 ∨ i = 15 ∨ i = 16 ∨ i = 17 ∨ i = 18 ∨ i = 19 ∨ i = 20 ∨ i = 21 ∨ i = 22 ∨ i = 23 ∨ i = 24 ∨ i = 25 ∨ i = 26 ∨ i = 27 ∨ i = 28 ∨ i = 29 ∨ i = 30 ∨ i = 31 := by simp at hlt; omega
              all_goals subst h
              all_goals simp only [List.getElem?_toArray, List.getElem?_cons_zero, List.getElem?_cons_succ, Option.some.injEq] at ho
              all_goals subst ho
              all_goals simp [Region.binds] at hun hall
              · subst hun
                have e0 := (bcell HS.out.bel (w2.heap.size) 0 HltC.out).trans C0.out
                have e1 := (bcell HS.out.bel (w2.heap.size) 1 HltC.out).trans C1.out
                go_simp
                exact hK _ _ ⟨true, l1, l2, l3, l4, l5, l6, l7, l8, l9, l10, l11, l12, l13, l14, l15, l16, l17, l18, l19, l20, l21, l22, l23, l24, l25, l26, l27, l28, l29, l30, l31, ax1, cx1, ax2, cx2, vb, vh, rfl, (by simp), HS.out⟩
              · obtain rfl := hall
                subst hun
                go_simp
                go_at_call 39
                refine (implDfaValid_any M _ _ (HM7.out.below HS.out.bel) _ Hhmo.out).mono ?_
                rintro e u1 ⟨rfl, hb⟩
                have hS2 := HS.out.call hb
                have HhS2 := Lib.hid hS2; clear hS2
                go_simp
                exact hK _ _ ⟨true, true, l2, l3, l4, l5, l6, l7, l8, l9, l10, l11, l12, l13, l14, l15, l16, l17, l18, l19, l20, l21, l22, l23, l24, l25, l26, l27, l28, l29, l30, l31, ax1, cx1, ax2, cx2, vb, vh, rfl, (by simp), HhS2.out⟩
              · obtain rfl := hall
                subst hun
                go_simp
                exact hK _ _ ⟨l0, true, true, l3, l4, l5, l6, l7, l8, l9, l10, l11, l12, l13, l14, l15, l16, l17, l18, l19, l20, l21, l22, l23, l24, l25, l26, l27, l28, l29, l30, l31, ax1, cx1, ax2, cx2, vb, vh, rfl, (by simp), HS.out⟩
              · obtain rfl := hall
                subst hun
                have e0 := (bcell HS.out.bel (w2.heap.size) 0 HltC.out).trans C0.out
                have e1 := (bcell HS.out.bel (w2.heap.size) 1 HltC.out).trans C1.out
                go_simp
                exact hK _ _ ⟨l0, l1, true, true, l4, l5, l6, l7, l8, l9, l10, l11, l12, l13, l14, l15, l16, l17, l18, l19, l20, l21, l22, l23, l24, l25, l26, l27, l28, l29, l30, l31, ax1, cx1, ax2, cx2, vb, vh, rfl, (by simp), HS.out⟩
              · obtain rfl := hall
                subst hun
                have e0 := (bcell HS.out.bel (w1.heap.size) 0 HltD.out).trans D0.out
                have e1 := (bcell HS.out.bel (w1.heap.size) 1 HltD.out).trans D1.out
                go_simp
                exact hK _ _ ⟨l0, l1, true, l3, true, l5, l6, l7, l8, l9, l10, l11, l12, l13, l14, l15, l16, l17, l18, l19, l20, l21, l22, l23, l24, l25, l26, l27, l28, l29, l30, l31, ax1, cx1, ax2, cx2, vb, vh, rfl, (by simp), HS.out⟩
              · obtain ⟨rfl, rfl, rfl⟩ := hall
                subst hun
                go_simp
                go_at_call 40
                refine (implSame_any M d _ _ _ (HM7.out.below HS.out.bel) (HR7.out.below HS.out.bel) _ Hhsame.out).mono ?_
                rintro e u1 ⟨rfl, hb⟩
                have hS2 := HS.out.call hb
                have HhS2 := Lib.hid hS2; clear hS2
                go_simp
                exact hK _ _ ⟨l0, l1, true, true, true, true, l6, l7, l8, l9, l10, l11, l12, l13, l14, l15, l16, l17, l18, l19, l20, l21, l22, l23, l24, l25, l26, l27, l28, l29, l30, l31, ax1, cx1, ax2, cx2, vb, vh, rfl, (by simp), HhS2.out⟩
              · obtain ⟨rfl, rfl⟩ := hall
                subst hun
                go_simp
                exact hK _ _ ⟨l0, l1, true, l3, l4, true, true, l7, l8, l9, l10, l11, l12, l13, l14, l15, l16, l17, l18, l19, l20, l21, l22, l23, l24, l25, l26, l27, l28, l29, l30, l31, ax1, cx1, ax2, cx2, vb, vh, rfl, (by simp), HS.out⟩
              · obtain ⟨rfl, rfl⟩ := hall
                subst hun
                go_simp
                exact hK _ _ ⟨l0, l1, l2, l3, l4, true, true, true, l8, l9, l10, l11, l12, l13, l14, l15, l16, l17, l18, l19, l20, l21, l22, l23, l24, l25, l26, l27, l28, l29, l30, l31, ax1, cx1, ax2, cx2, vb, vh, rfl, (by simp), HS.out⟩
              · obtain rfl := hall
                subst hun
                go_simp
                exact hK _ _ ⟨l0, l1, l2, l3, l4, l5, l6, true, true, l9, l10, l11, l12, l13, l14, l15, l16, l17, l18, l19, l20, l21, l22, l23, l24, l25, l26, l27, l28, l29, l30, l31, ax1, cx1, ax2, cx2, vb, vh, rfl, (by simp), HS.out⟩
              · obtain ⟨rfl, rfl⟩ := hall
                subst hun
                have e0 := (bcell HS.out.bel (w2.heap.size) 0 HltC.out).trans C0.out
                go_simp
                exact hK _ _ ⟨l0, l1, l2, l3, l4, l5, l6, true, true, true, l10, l11, l12, l13, l14, l15, l16, l17, l18, l19, l20, l21, l22, l23, l24, l25, l26, l27, l28, l29, l30, l31, ax1, cx1, ax2, cx2, vb, vh, rfl, (by simp), HS.out⟩
              · obtain ⟨rfl, rfl⟩ := hall
                subst hun
                go_simp
                exact hK _ _ ⟨l0, l1, l2, l3, l4, l5, l6, true, l8, true, true, l11, l12, l13, l14, l15, l16, l17, l18, l19, l20, l21, l22, l23, l24, l25, l26, l27, l28, l29, l30, l31, ax1, cx1, ax2, cx2, vb, vh, rfl, (by simp), HS.out⟩
              · obtain rfl := hall
                subst hun
                go_simp
                exact hK _ _ ⟨l0, l1, l2, l3, l4, l5, l6, true, l8, l9, l10, true, l12, l13, l14, l15, l16, l17, l18, l19, l20, l21, l22, l23, l24, l25, l26, l27, l28, l29, l30, l31, ax1, cx1, ax2, cx2, vb, vh, rfl, (by simp), HS.out⟩
              · obtain ⟨rfl, rfl⟩ := hall
                subst hun
                have e0 := (bcell HS.out.bel (w1.heap.size) 0 HltD.out).trans D0.out
                go_simp
                exact hK _ _ ⟨l0, l1, l2, l3, l4, l5, l6, true, l8, l9, l10, true, true, l13, l14, l15, l16, l17, l18, l19, l20, l21, l22, l23, l24, l25, l26, l27, l28, l29, l30, l31, ax1, cx1, ax2, cx2, vb, vh, rfl, (by simp), HS.out⟩
              · obtain ⟨rfl, rfl⟩ := hall
                subst hun
                go_simp
                exact hK _ _ ⟨l0, l1, l2, l3, l4, l5, l6, true, l8, l9, l10, l11, true, true, l14, l15, l16, l17, l18, l19, l20, l21, l22, l23, l24, l25, l26, l27, l28, l29, l30, l31, ax1, cx1, ax2, cx2, vb, vh, rfl, (by simp), HS.out⟩
              · obtain ⟨rfl, rfl, rfl⟩ := hall
                subst hun
                go_simp
                exact hK _ _ ⟨l0, l1, l2, l3, l4, l5, l6, true, l8, l9, true, l11, l12, true, true, l15, l16, l17, l18, l19, l20, l21, l22, l23, l24, l25, l26, l27, l28, l29, l30, l31, ax1, cx1, ax2, cx2, vb, vh, rfl, (by simp), HS.out⟩
              · obtain ⟨rfl, rfl⟩ := hall
                subst hun
                go_simp
                exact hK _ _ ⟨l0, l1, l2, l3, l4, l5, l6, true, l8, l9, l10, l11, l12, l13, true, true, l16, l17, l18, l19, l20, l21, l22, l23, l24, l25, l26, l27, l28, l29, l30, l31, ax1, cx1, ax2, cx2, vb, vh, rfl, (by simp), HS.out⟩
              · obtain ⟨rfl, rfl⟩ := hall
                subst hun
                go_simp
                exact hK _ _ ⟨l0, l1, l2, l3, l4, l5, l6, true, l8, l9, l10, l11, l12, l13, l14, true, true, l17, l18, l19, l20, l21, l22, l23, l24, l25, l26, l27, l28, l29, l30, l31, ax1, cx1, ax2, cx2, vb, vh, rfl, (by simp), HS.out⟩
              · obtain rfl := hall
                subst hun
                have e0 := (bcell HS.out.bel (w2.heap.size) 0 HltC.out).trans C0.out
                have e1 := (bcell HS.out.bel (w2.heap.size) 1 HltC.out).trans C1.out
                go_simp
                exact hK _ _ ⟨l0, l1, l2, l3, l4, l5, l6, l7, l8, l9, l10, l11, l12, l13, l14, l15, true, true, l18, l19, l20, l21, l22, l23, l24, l25, l26, l27, l28, l29, l30, l31, ax1, cx1, ax2, cx2, vb, vh, rfl, (by simp), HS.out⟩
              · obtain ⟨rfl, rfl⟩ := hall
                subst hun
                go_simp
                go_at_call 28
                refine (implMinimize_any M M HhMM.out _ _ (HM7.out.below HS.out.bel)).mono ?_
                rintro e u1 ⟨z1, z2, z3, z4, rfl, hr, hb⟩
                have hS2 := (HS.out.dfaV hb hr).pick [1] (by decide)
                have HhS2 := Lib.hid hS2; clear hS2
                go_simp
                exact hK _ _ ⟨l0, l1, l2, l3, l4, l5, l6, l7, l8, l9, l10, l11, l12, l13, l14, l15, true, true, true, l19, l20, l21, l22, l23, l24, l25, l26, l27, l28, l29, l30, l31, z1, z2, z3, z4, w'.heap.size, u1.heap.size, rfl, (by simp), HhS2.out⟩
              · obtain rfl := hall
                subst hun
                have e0 := (bcell HS.out.bel (w2.heap.size) 0 HltC.out).trans C0.out
                have e1 := (bcell HS.out.bel (w2.heap.size) 1 HltC.out).trans C1.out
                go_simp
                exact hK _ _ ⟨l0, l1, l2, l3, l4, l5, l6, l7, l8, l9, l10, l11, l12, l13, l14, l15, true, l17, l18, true, l20, l21, l22, l23, l24, l25, l26, l27, l28, l29, l30, l31, ax1, cx1, ax2, cx2, vb, vh, rfl, (by simp), HS.out⟩
              · obtain ⟨rfl, rfl, -, rfl⟩ := hall
                subst hun
                go_simp
                go_at_call 23
                refine (sameDfa_any M _ _ _ (HS.out.dfaVr 0 rfl) (HM7.out.below HS.out.bel)).mono ?_
                rintro e u1 ⟨rfl, hb⟩
                have hS2 := HS.out.call hb
                have HhS2 := Lib.hid hS2; clear hS2
                go_simp
                exact hK _ _ ⟨l0, l1, l2, l3, l4, l5, l6, l7, l8, l9, l10, l11, l12, l13, l14, l15, true, l17, true, true, true, l21, l22, l23, l24, l25, l26, l27, l28, l29, l30, l31, ax1, cx1, ax2, cx2, vb, vh, rfl, (by simp), HhS2.out⟩
              · obtain ⟨rfl, rfl⟩ := hall
                subst hun
                go_simp
                exact hK _ _ ⟨l0, l1, l2, l3, l4, l5, l6, l7, l8, l9, l10, l11, l12, l13, l14, l15, true, l17, l18, l19, true, true, l22, l23, l24, l25, l26, l27, l28, l29, l30, l31, ax1, cx1, ax2, cx2, vb, vh, rfl, (by simp), HS.out⟩
              · obtain ⟨rfl, rfl⟩ := hall
                subst hun
                go_simp
                exact hK _ _ ⟨l0, l1, l2, l3, l4, l5, l6, l7, l8, l9, l10, l11, l12, l13, l14, l15, l16, l17, l18, l19, true, true, true, l23, l24, l25, l26, l27, l28, l29, l30, l31, ax1, cx1, ax2, cx2, vb, vh, rfl, (by simp), HS.out⟩
              · obtain rfl := hall
                subst hun
                go_simp
                exact hK _ _ ⟨l0, l1, l2, l3, l4, l5, l6, l7, l8, l9, l10, l11, l12, l13, l14, l15, l16, l17, l18, l19, l20, l21, true, true, l24, l25, l26, l27, l28, l29, l30, l31, ax1, cx1, ax2, cx2, vb, vh, rfl, (by simp), HS.out⟩
              · obtain ⟨rfl, rfl⟩ := hall
                subst hun
                go_simp
                exact hK _ _ ⟨l0, l1, l2, l3, l4, l5, l6, l7, l8, l9, l10, l11, l12, l13, l14, l15, l16, l17, l18, l19, l20, l21, true, true, true, l25, l26, l27, l28, l29, l30, l31, ax1, cx1, ax2, cx2, vb, vh, rfl, (by simp), HS.out⟩
              · obtain ⟨rfl, rfl⟩ := hall
                subst hun
                go_simp
                exact hK _ _ ⟨l0, l1, l2, l3, l4, l5, l6, l7, l8, l9, l10, l11, l12, l13, l14, l15, l16, l17, l18, l19, l20, l21, true, l23, true, true, l26, l27, l28, l29, l30, l31, ax1, cx1, ax2, cx2, vb, vh, rfl, (by simp), HS.out⟩
              · obtain rfl := hall
                subst hun
                have e0 := (bcell HS.out.bel (w7.heap.size) 0 HltP.out).trans P0.out
                have e1 := (bcell HS.out.bel (w7.heap.size) 1 HltP.out).trans P1.out
                go_simp
                exact hK _ _ ⟨l0, l1, l2, l3, l4, l5, l6, l7, l8, l9, l10, l11, l12, l13, l14, l15, l16, l17, l18, l19, l20, l21, l22, l23, l24, true, true, l27, l28, l29, l30, l31, ax1, cx1, ax2, cx2, vb, vh, rfl, (by simp), HS.out⟩
              · obtain rfl := hall
                subst hun
                have e0 := (bcell HS.out.bel (w2.heap.size) 0 HltC.out).trans C0.out
                have e1 := (bcell HS.out.bel (w2.heap.size) 1 HltC.out).trans C1.out
                go_simp
                exact hK _ _ ⟨l0, l1, l2, l3, l4, l5, l6, l7, l8, l9, l10, l11, l12, l13, l14, l15, l16, l17, l18, l19, l20, l21, l22, l23, l24, true, l26, true, l28, l29, l30, l31, ax1, cx1, ax2, cx2, vb, vh, rfl, (by simp), HS.out⟩
              · obtain ⟨rfl, rfl, rfl⟩ := hall
                subst hun
                go_simp
                go_at_call 23
                refine (sameDfa_any M _ _ _ (HY7.out.below HS.out.bel) (HM7.out.below HS.out.bel)).mono ?_
                rintro e u1 ⟨rfl, hb⟩
                have hS2 := HS.out.call hb
                have HhS2 := Lib.hid hS2; clear hS2
                go_simp
                exact hK _ _ ⟨l0, l1, l2, l3, l4, l5, l6, l7, l8, l9, l10, l11, l12, l13, l14, l15, l16, l17, l18, l19, l20, l21, l22, l23, l24, true, true, true, true, l29, l30, l31, ax1, cx1, ax2, cx2, vb, vh, rfl, (by simp), HhS2.out⟩
              · obtain ⟨rfl, rfl, rfl⟩ := hall
                subst hun
                go_simp
                exact hK _ _ ⟨l0, l1, l2, l3, l4, l5, l6, l7, l8, l9, l10, l11, l12, l13, l14, l15, l16, l17, l18, l19, l20, l21, true, l23, l24, true, l26, l27, true, true, l30, l31, ax1, cx1, ax2, cx2, vb, vh, rfl, (by simp), HS.out⟩
              · obtain ⟨rfl, rfl⟩ := hall
                subst hun
                go_simp
                exact hK _ _ ⟨l0, l1, l2, l3, l4, l5, l6, l7, l8, l9, l10, l11, l12, l13, l14, l15, l16, l17, l18, l19, l20, l21, true, l23, l24, l25, l26, l27, l28, true, true, l31, ax1, cx1, ax2, cx2, vb, vh, rfl, (by simp), HS.out⟩
              · obtain ⟨rfl, rfl, rfl, rfl, rfl, rfl, rfl, rfl, rfl, rfl, rfl, rfl, rfl, rfl, rfl, rfl, rfl, rfl, rfl, rfl, rfl, rfl, rfl, rfl, rfl, rfl, rfl, rfl, rfl, rfl, -, rfl, -⟩ := hall
                subst hun
                go_simp
                exact hK _ _ ⟨true, true, true, true, true, true, true, true, true, true, true, true, true, true, true, true, true, true, true, true, true, true, true, true, true, true, true, true, true, true, true, true, ax1, cx1, ax2, cx2, vb, vh, rfl, (by simp only [↓reduceIte, List.setIfInBounds_toArray, List.set_cons_zero, List.set_cons_succ]), HS.out⟩
            · rintro listed a w' ⟨l0, l1, l2, l3, l4, l5, l6, l7, l8, l9, l10, l11, l12, l13, l14, l15, l16, l17, l18, l19, l20, l21, l22, l23, l24, l25, l26, l27, l28, l29, l30, l31, ax1, cx1, ax2, cx2, vb, vh, rfl, rfl, hS⟩ hr
              have hall := ready_nilM (by kernel_rfl) rfl hr
              obtain rfl : l0 = true := by simpa using hall 0 (by simp)
              obtain rfl : l1 = true := by simpa using hall 1 (by simp)
              obtain rfl : l2 = true := by simpa using hall 2 (by simp)
              obtain rfl : l3 = true := by simpa using hall 3 (by simp)
              obtain rfl : l4 = true := by simpa using hall 4 (by simp)
              obtain rfl : l5 = true := by simpa using hall 5 (by simp)
              obtain rfl : l6 = true := by simpa using hall 6 (by simp)
              obtain rfl : l7 = true := by simpa using hall 7 (by simp)
              obtain rfl : l8 = true := by simpa using hall 8 (by simp)
              obtain rfl : l9 = true := by simpa using hall 9 (by simp)
              obtain rfl : l10 = true := by simpa using hall 10 (by simp)
              obtain rfl : l11 = true := by simpa using hall 11 (by simp)
              obtain rfl : l12 = true := by simpa using hall 12 (by simp)
              obtain rfl : l13 = true := by simpa using hall 13 (by simp)
              obtain rfl : l14 = true := by simpa using hall 14 (by simp)
              obtain rfl : l15 = true := by simpa using hall 15 (by simp)
              obtain rfl : l16 = true := by simpa using hall 16 (by simp)
              obtain rfl : l17 = true := by simpa using hall 17 (by simp)
              obtain rfl : l18 = true := by simpa using hall 18 (by simp)
              obtain rfl : l19 = true := by simpa using hall 19 (by simp)
              obtain rfl : l20 = true := by simpa using hall 20 (by simp)
              obtain rfl : l21 = true := by simpa using hall 21 (by simp)
              obtain rfl : l22 = true := by simpa using hall 22 (by simp)
              obtain rfl : l23 = true := by simpa using hall 23 (by simp)
              obtain rfl : l24 = true := by simpa using hall 24 (by simp)
              obtain rfl : l25 = true := by simpa using hall 25 (by simp)
              obtain rfl : l26 = true := by simpa using hall 26 (by simp)
              obtain rfl : l27 = true := by simpa using hall 27 (by simp)
              obtain rfl : l28 = true := by simpa using hall 28 (by simp)
              obtain rfl : l29 = true := by simpa using hall 29 (by simp)
              obtain rfl : l30 = true := by simpa using hall 30 (by simp)
              obtain rfl : l31 = true := by simpa using hall 31 (by simp)
              clear hall hr 
              simp only [↓reduceIte] at hS ⊢
              simp only [List.setIfInBounds_toArray, List.set_cons_zero, List.set_cons_succ]
              have HSf := Lib.hid hS
              clear hS
              go_wp2
              go_ret
              exact ⟨rfl, HS7.out.bel.trans (HSf.out.bel.mono HS7.out.bel.size)⟩
            · refine ⟨false, false, false, false, false, false, false, false, false, false, false, false, false, false, false, false, false, false, false, false, false, false, false, false, false, false, false, false, false, false, false, false, none, 0, none, 0, 0, 0, rfl, (by simp), ?_⟩
              exact (St.start (w7.alloc (.cells #[.slice p1 M.next.length q1, .slice p2 M.ends.length q2] 26))).drew.pick [0] (by decide)
    · refine ⟨false, false, false, false, false, none, 0, none, 0, 0, 0, rfl, (by simp), ?_⟩
      exact (St.start (w2.alloc (.cells #[.slice x1 M.next.length y1, .slice x2 M.ends.length y2] 26))).drew.pick [0] (by decide)
end Go.Proofs.Ythhbjkgchabfmaa
