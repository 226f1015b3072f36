/-
  The walks over the reference's l8List, NfaOf and l10Turn.
  Conditions: the lists are not too long; the arguments read as such data.
-/
import Derived.Test.YthhbjkgchabfmaaPk45My
namespace Go.Proofs.Ythhbjkgchabfmaa
open Go.RowKit

set_option maxRecDepth 100000 in
set_option maxHeartbeats 1500000 in
theorem l10Turn_any (n : NfaD) (v1 v2 v3 : Value) (w : World) (hml : n.moves.length ≤ 100000) (hfl : n.firsts.length ≤ 100000) (hel : n.ends.length ≤ 100000) (h1 : Moves 0 w v1 n.moves) (h2 : Ints 0 w v2 n.firsts) (h3 : Ints 0 w v3 n.ends) :
    Calls Try.prog 76 #[.agg #[.int .i64 n.states, v1, v2, v3]] w fun e w' => RNfaS (turnN n) w e w' := by
  obtain ⟨L, hL⟩ : ∃ L, L = n.moves.length := ⟨_, rfl⟩
  have hLle : L ≤ 100000 := by omega
  obtain ⟨av, cv, rfl, hc1, hc2, hr1⟩ := h1.form
  rw [← hL] at hc1 hr1
  rw [← hL]
  obtain ⟨i0, hi, hz0, hz1, hz2⟩ := info_parts Try.infoMv
  obtain ⟨j0, hj, hy0, hy1, hy2⟩ := info_parts Try.infoInt
  have hS := ((St.start w).alloc _ rfl #[.int .i64 n.states, .slice av L cv, v2, v3] 31).alloc (w.heap.size + 1) (by simp) #[.int .i64 0, .slice none 0 0, .slice none 0 0, .slice none 0 0] 31
  have H2 := Lib.hid (fun (w' : World) (hb : Below w.heap.size w w') => Sl.mono (h2.below hb) (Nat.zero_le 0))
  have H3 := Lib.hid (fun (w' : World) (hb : Below w.heap.size w w') => Sl.mono (h3.below hb) (Nat.zero_le 0))
  have Hr1 := Lib.hid hr1
  have HhS := Lib.hid hS; clear hS
  have HhL := Lib.hid hL; clear hL
  have Hhi := Lib.hid hi; clear hi
  have Hhz0 := Lib.hid hz0; clear hz0
  have Hhz1 := Lib.hid hz1; clear hz1
  have Hhz2 := Lib.hid hz2; clear hz2
  have Hhj := Lib.hid hj; clear hj
  have Hhy0 := Lib.hid hy0; clear hy0
  have Hhy1 := Lib.hid hy1; clear hy1
  have Hhy2 := Lib.hid hy2; clear hy2
  clear hr1 h1 h2 h3
  go_enter Try.func76, Try.ntmps76
  go_wp2
  refine wp_region_any (by kernel_rfl) ?_
  refine wpAny_inv (fun listed a w' => ∃ (l0 l1 l2 l3 l4 l5 l6 l7 l8 l9 l10 l11 l12 : Bool) (a5 : Option Addr) (a6 : Option Addr) (c5 : Nat) (c6 : Nat) (b5 : Nat) (b6 : Nat) (b : Nat), listed = #[l0, l1, l2, l3, l4, l5, l6, l7, l8, l9, l10, l11, l12] ∧ (l5 = true → l2 = true ∧ l4 = true) ∧ (l9 = true → l6 = true ∧ l8 = true) ∧ (l10 = true → l5 = true ∧ l9 = true) ∧ (l12 = true → l10 = true ∧ l11 = true) ∧
      a = ⟨#[.agg #[.int .i64 n.states, .slice av L cv, v2, v3], .pointer (some ⟨w.heap.size, 0, none⟩), .pointer (some ⟨w.heap.size + 1, 0, none⟩), (if l11 = true then .pointer (some ⟨b, 0, none⟩) else undef), undef, (if l0 = true then .pointer (some ⟨w.heap.size, 0, none⟩) else undef), (if l1 = true then .int .i64 n.states else undef), (if l2 = true then .slice (some ⟨b5, 0, none⟩) 0 0 else undef), (if l3 = true then .pointer (some ⟨w.heap.size, 3, none⟩) else undef), (if l4 = true then v3 else undef), (if l5 = true then .slice a5 n.ends.length c5 else undef), (if l6 = true then .slice (some ⟨b6, 0, none⟩) 0 0 else undef), (if l7 = true then .pointer (some ⟨w.heap.size, 2, none⟩) else undef), (if l8 = true then v2 else undef), (if l9 = true then .slice a6 n.firsts.length c6 else undef), (if l10 = true then .agg #[.int .i64 n.states, .slice none 0 0, .slice a5 n.ends.length c5, .slice a6 n.firsts.length c6] else undef), undef, undef, undef, undef, undef, undef, undef, undef, undef, undef, undef, undef, undef, undef, undef, undef, undef, undef, undef, undef, undef, undef, undef, undef, undef, undef, undef, undef, undef, undef, undef, undef], []⟩ ∧
      St w w' [Ent.box w.heap.size #[.int .i64 n.states, .slice av L cv, v2, v3] 31, Ent.box (w.heap.size + 1) #[.int .i64 0, .slice none 0 0, .slice none 0 0, .slice none 0 0] 31, (if l2 = true then (if l5 = true then Ent.row 3 1 (.slice a5 n.ends.length c5) n.ends.length (intCells n.ends) else Ent.row 3 1 (.slice (some ⟨b5, 0, none⟩) 0 0) 0 []) else Ent.nil), (if l6 = true then (if l9 = true then Ent.row 3 1 (.slice a6 n.firsts.length c6) n.firsts.length (intCells n.firsts) else Ent.row 3 1 (.slice (some ⟨b6, 0, none⟩) 0 0) 0 []) else Ent.nil), (if l11 = true then Ent.box b (if l12 = true then #[.int .i64 n.states, .slice none 0 0, .slice a5 n.ends.length c5, .slice a6 n.firsts.length c6] else #[.int .i64 0, .slice none 0 0, .slice none 0 0, .slice none 0 0]) 31 else Ent.nil)]) ?_ ?_ _ _ _ _ (unl_le _ _) ?_
  · rintro listed a w' ⟨l0, l1, l2, l3, l4, l5, l6, l7, l8, l9, l10, l11, l12, a5, a6, c5, c6, b5, b6, b, rfl, hd5, hd9, hd10, hd12, rfl, hS⟩ i hi
    obtain ⟨hun, o, ho, hall⟩ := mem_ready.1 hi
    have hlt := (Array.getElem?_eq_some_iff.1 ho).1
    refine wpOp_step ho (fun K hK => ?_)
    clear hi
    have HS := Lib.hid hS
    clear hS
    obtain h | h | h | h | h | h | h | h | h | h | h | h | h : i = 0 ∨ i = 1 ∨ i = 2 ∨ i = 3 ∨ i = 4 ∨ i = 5 ∨ i = 6 ∨ i = 7 ∨ i = 8 ∨ i = 9 ∨ i = 10 ∨ i = 11 ∨ i = 12 := by simp at hlt; omega
    all_goals subst h
    all_goals simp only [List.getElem?_toArray, List.getElem?_cons_zero, List.getElem?_cons_succ, Option.some.injEq] at ho
    all_goals subst ho
    all_goals simp [Region.binds] at hun hall
    · subst hun
      go_simp
      exact hK _ _ ⟨true, l1, l2, l3, l4, l5, l6, l7, l8, l9, l10, l11, l12, a5, a6, c5, c6, b5, b6, b, rfl, hd5, hd9, hd10, hd12, rfl, HS.out⟩
    · obtain rfl := hall
      subst hun
      have e0 := HS.out.cell (v := .int .i64 n.states) 0 0 rfl rfl
      go_simp
      exact hK _ _ ⟨true, true, l2, l3, l4, l5, l6, l7, l8, l9, l10, l11, l12, a5, a6, c5, c6, b5, b6, b, rfl, hd5, hd9, hd10, hd12, rfl, HS.out⟩
    · subst hun
      obtain rfl : l5 = false := offL hd5 rfl
      obtain rfl : l10 = false := offL hd10 rfl
      obtain rfl : l12 = false := offL hd12 rfl
      have hS2 := (((HS.out.alloc _ rfl #[] 3).boxrow 5 0 1 [] rfl rfl (Nat.zero_le _)).pick [0, 1, 5, 3, 4] (by decide))
      have HhS2 := Lib.hid hS2; clear hS2
      go_simp
      exact hK _ _ ⟨l0, l1, true, l3, l4, false, l6, l7, l8, l9, false, l11, false, a5, a6, c5, c6, _, b6, b, rfl, by simp, hd9, by simp, by simp, rfl, HhS2.out⟩
    · subst hun
      go_simp
      exact hK _ _ ⟨l0, l1, l2, true, l4, l5, l6, l7, l8, l9, l10, l11, l12, a5, a6, c5, c6, b5, b6, b, rfl, hd5, hd9, hd10, hd12, rfl, HS.out⟩
    · obtain rfl := hall
      subst hun
      obtain rfl : l5 = false := offR hd5 rfl
      obtain rfl : l10 = false := offL hd10 rfl
      obtain rfl : l12 = false := offL hd12 rfl
      have e0 := HS.out.cell (v := v3) 0 3 rfl rfl
      go_simp
      exact hK _ _ ⟨l0, l1, l2, true, true, false, l6, l7, l8, l9, false, l11, false, a5, a6, c5, c6, b5, b6, b, rfl, by simp, hd9, by simp, by simp, rfl, HS.out⟩
    · obtain ⟨rfl, rfl⟩ := hall
      subst hun
      obtain rfl : l10 = false := offL hd10 rfl
      obtain rfl : l12 = false := offL hd12 rfl
      refine step_append_sl _ (by rfl) _ _ _ (by rfl) w.heap.size 3 j0 (.int .i64 0) 1 8 Try.underlying29 Hhj.out Hhy0.out Hhy1.out Hhy2.out (by rfl) (by omega) _ 0 [] (by rfl) (HS.out.row 2 rfl) _ n.ends.length (intCells n.ends) (by rfl) (H3.out _ HS.out.bel) on_is (by unfold maxLen; omega) (by omega) HS.out.size ?_
      intro a7 c7 w6 hown6 hgrow6 hat6
      have hS6 := HS.out.appS 2 rfl hown6 hgrow6 hat6
      rw [Nat.zero_add] at hS6
      rw [Nat.zero_add]
      have HS6 := Lib.hid hS6
      clear hown6 hgrow6 hat6 hS6
      go_simp
      exact hK _ _ ⟨l0, l1, true, l3, true, true, l6, l7, l8, l9, false, l11, false, a7, a6, c7, c6, b5, b6, b, rfl, by simp, hd9, by simp, by simp, rfl, HS6.out⟩
    · subst hun
      obtain rfl : l9 = false := offL hd9 rfl
      obtain rfl : l10 = false := offR hd10 rfl
      obtain rfl : l12 = false := offL hd12 rfl
      have hS2 := (((HS.out.alloc _ rfl #[] 3).boxrow 5 0 1 [] rfl rfl (Nat.zero_le _)).pick [0, 1, 2, 5, 4] (by decide))
      have HhS2 := Lib.hid hS2; clear hS2
      go_simp
      exact hK _ _ ⟨l0, l1, l2, l3, l4, l5, true, l7, l8, false, false, l11, false, a5, a6, c5, c6, b5, _, b, rfl, hd5, by simp, by simp, by simp, rfl, HhS2.out⟩
    · subst hun
      go_simp
      exact hK _ _ ⟨l0, l1, l2, l3, l4, l5, l6, true, l8, l9, l10, l11, l12, a5, a6, c5, c6, b5, b6, b, rfl, hd5, hd9, hd10, hd12, rfl, HS.out⟩
    · obtain rfl := hall
      subst hun
      obtain rfl : l9 = false := offR hd9 rfl
      obtain rfl : l10 = false := offR hd10 rfl
      obtain rfl : l12 = false := offL hd12 rfl
      have e0 := HS.out.cell (v := v2) 0 2 rfl rfl
      go_simp
      exact hK _ _ ⟨l0, l1, l2, l3, l4, l5, l6, true, true, false, false, l11, false, a5, a6, c5, c6, b5, b6, b, rfl, hd5, by simp, by simp, by simp, rfl, HS.out⟩
    · obtain ⟨rfl, rfl, rfl⟩ := hall
      subst hun
      obtain ⟨rfl, rfl⟩ := hd5 rfl
      obtain rfl : l10 = false := offR hd10 rfl
      obtain rfl : l12 = false := offL hd12 rfl
      refine step_append_sl _ (by rfl) _ _ _ (by rfl) w.heap.size 3 j0 (.int .i64 0) 1 8 Try.underlying29 Hhj.out Hhy0.out Hhy1.out Hhy2.out (by rfl) (by omega) _ 0 [] (by rfl) (HS.out.row 3 rfl) _ n.firsts.length (intCells n.firsts) (by rfl) (H2.out _ HS.out.bel) on_is (by unfold maxLen; omega) (by omega) HS.out.size ?_
      intro a7 c7 w6 hown6 hgrow6 hat6
      have hS6 := HS.out.appS 3 rfl hown6 hgrow6 hat6
      rw [Nat.zero_add] at hS6
      rw [Nat.zero_add]
      have HS6 := Lib.hid hS6
      clear hown6 hgrow6 hat6 hS6
      go_simp
      exact hK _ _ ⟨l0, l1, true, l3, true, true, true, l7, true, true, false, l11, false, a5, a7, c5, c7, b5, b6, b, rfl, by simp, by simp, by simp, by simp, rfl, HS6.out⟩
    · obtain ⟨rfl, rfl, rfl⟩ := hall
      subst hun
      obtain ⟨rfl, rfl⟩ := hd5 rfl
      obtain ⟨rfl, rfl⟩ := hd9 rfl
      obtain rfl : l12 = false := offL hd12 rfl
      go_simp
      exact hK _ _ ⟨l0, true, true, l3, true, true, true, l7, true, true, true, l11, false, a5, a6, c5, c6, b5, b6, b, rfl, by simp, by simp, by simp, by simp, rfl, HS.out⟩
    · subst hun
      obtain rfl : l12 = false := offR hd12 rfl
      have hS2 := (HS.out.alloc _ rfl #[.int .i64 0, .slice none 0 0, .slice none 0 0, .slice none 0 0] 31).pick [0, 1, 2, 3, 5] (by decide)
      have HhS2 := Lib.hid hS2; clear hS2
      go_simp
      exact hK _ _ ⟨l0, l1, l2, l3, l4, l5, l6, l7, l8, l9, l10, true, false, a5, a6, c5, c6, b5, b6, _, rfl, hd5, hd9, hd10, by simp, rfl, HhS2.out⟩
    · obtain ⟨rfl, rfl, rfl, rfl, rfl, rfl, rfl, rfl, rfl, rfl, rfl, rfl, -⟩ := hall
      subst hun
      have f0 := HS.out.fr 4 0 rfl
      have k0 := HS.out.cell (v := .int .i64 0) 4 0 rfl rfl
      have f1 := HS.out.fr 4 1 rfl
      have k1 := HS.out.cell (v := .slice none 0 0) 4 1 rfl rfl
      have f2 := HS.out.fr 4 2 rfl
      have k2 := HS.out.cell (v := .slice none 0 0) 4 2 rfl rfl
      have f3 := HS.out.fr 4 3 rfl
      have k3 := HS.out.cell (v := .slice none 0 0) 4 3 rfl rfl
      go_simp
      exact hK _ _ ⟨true, true, true, true, true, true, true, true, true, true, true, true, true, a5, a6, c5, c6, b5, b6, b, rfl, by simp, by simp, by simp, by simp, rfl, ((((HS.out.set 4 rfl 0 (.int .i64 n.states)).set 4 rfl 1 (.slice none 0 0)).set 4 rfl 2 (.slice a5 n.ends.length c5)).set 4 rfl 3 (.slice a6 n.firsts.length c6))⟩
  · rintro listed a w' ⟨l0, l1, l2, l3, l4, l5, l6, l7, l8, l9, l10, l11, l12, a5, a6, c5, c6, b5, b6, b, rfl, hd5, hd9, hd10, hd12, rfl, hS⟩ hr
    have hall := ready_nil (by kernel_rfl) rfl hr
    obtain rfl : l0 = true := by simpa using hall 0 (by simp)
    obtain rfl : l1 = true := by simpa using hall 1 (by simp)
    obtain rfl : l2 = true := by simpa using hall 2 (by simp)
    obtain rfl : l3 = true := by simpa using hall 3 (by simp)
    obtain rfl : l4 = true := by simpa using hall 4 (by simp)
    obtain rfl : l5 = true := by simpa using hall 5 (by simp)
    obtain rfl : l6 = true := by simpa using hall 6 (by simp)
    obtain rfl : l7 = true := by simpa using hall 7 (by simp)
    obtain rfl : l8 = true := by simpa using hall 8 (by simp)
    obtain rfl : l9 = true := by simpa using hall 9 (by simp)
    obtain rfl : l10 = true := by simpa using hall 10 (by simp)
    obtain rfl : l11 = true := by simpa using hall 11 (by simp)
    obtain rfl : l12 = true := by simpa using hall 12 (by simp)
    clear hall hr hd5 hd9 hd10 hd12
    simp only [↓reduceIte] at hS ⊢
    have hS0 := (hS.pick [0, 1, 2, 3, 4] (by decide)).nilRow 68 3
    have hS1 : St w w' [Ent.box w.heap.size #[.int .i64 n.states, .slice av L cv, v2, v3] 31, Ent.box (w.heap.size + 1) #[.int .i64 0, .slice none 0 0, .slice none 0 0, .slice none 0 0] 31, Ent.row 3 1 (.slice a5 n.ends.length c5) n.ends.length (intCells n.ends), Ent.row 3 1 (.slice a6 n.firsts.length c6) n.firsts.length (intCells n.firsts),
        Ent.box b #[.int .i64 n.states, .slice none 0 0, .slice a5 n.ends.length c5, .slice a6 n.firsts.length c6] 31, Ent.row 68 3 (.slice none 0 0) 0 []] := hS0
    have HhS1 := Lib.hid hS1; clear hS1
    clear hS hS0
    go_wp2
    go_loopw [4] (fun i wr => ∃ (k c1 : Nat) (a1 : Option Addr), i = .int .i64 k ∧ k ≤ L ∧ St w wr [Ent.box w.heap.size #[.int .i64 n.states, .slice av L cv, v2, v3] 31, Ent.box (w.heap.size + 1) #[.int .i64 0, .slice none 0 0, .slice none 0 0, .slice none 0 0] 31, Ent.row 3 1 (.slice a5 n.ends.length c5) n.ends.length (intCells n.ends), Ent.row 3 1 (.slice a6 n.firsts.length c6) n.firsts.length (intCells n.firsts),
        Ent.box b #[.int .i64 n.states, .slice a1 k c1, .slice a5 n.ends.length c5, .slice a6 n.firsts.length c6] 31, Ent.row 68 3 (.slice a1 k c1) k (((n.moves.take k).map turnM).flatMap moveCells)])
      (fun i _ => L - (intOf i).toNat)
    case atStart => exact ⟨0, 0, none, rfl, Nat.zero_le _, HhS1.out⟩
    case round =>
      obtain ⟨k, c1, a1, rfl, hk, hS⟩ := hrel
      obtain ⟨wp, hwp⟩ : ∃ wp : World, wp = wr := ⟨_, rfl⟩
      subst hwp
      have x1 := hS.cell (v := .slice av L cv) 0 1 rfl rfl
      by_cases hlt : k < L
      · have hlt2 : (k : Int) < L := by omega
        obtain ⟨b1, o1, rfl, -, hb1, hcs⟩ := Hr1.out (by omega)
        obtain ⟨z0, z1, z2⟩ := hcs k hlt
        have m0 := (bcell hS.bel b1 _ hb1).trans z0
        have m1 := (bcell hS.bel b1 _ hb1).trans z1
        have m2 := (bcell hS.bel b1 _ hb1).trans z2
        have htk := turnM_take (ms := n.moves) (k := k) (by have := HhL.out; omega)
        obtain ⟨p, hp⟩ : ∃ p, p = n.moves.getD k (0, 0, 0) := ⟨_, rfl⟩
        rw [← hp] at m0 m1 m2 htk
        obtain ⟨p0, p1, p2⟩ := p
        simp only at m0 m1 m2 htk
        have HhS := Lib.hid hS; clear hS
        have Hhp := Lib.hid hp; clear hp
        have Hhtk := Lib.hid htk; clear htk
        clear hcs z0 z1 z2
        go_wp2
        refine wp_region_any (by kernel_rfl) ?_
        refine wpAny_invA (fun A listed a w' => ∃ (l0 l1 l2 l3 l4 l5 l6 l7 l8 l9 l10 l11 l12 l13 l14 l15 l16 l17 l18 l19 l20 l21 l22 l23 l24 : Bool) (g7 : Nat) (c7 : Nat) (bn : Nat), listed = #[l0, l1, l2, l3, l4, l5, l6, l7, l8, l9, l10, l11, l12, l13, l14, l15, l16, l17, l18, l19, l20, l21, l22, l23, l24] ∧ (l22 = true → l1 = true ∧ l21 = true) ∧ (l24 = true → l22 = true ∧ l1 = true) ∧
            a = ⟨((((((((((((((((((((((((A.tmps.setIfInBounds 23 (if l0 = true then .pointer (some ⟨b, 1, none⟩) else A.tmps.getD 23 undef)).setIfInBounds 24 (if l1 = true then .slice a1 k c1 else A.tmps.getD 24 undef)).setIfInBounds 25 (if l2 = true then .pointer (some ⟨w.heap.size, 1, none⟩) else A.tmps.getD 25 undef)).setIfInBounds 26 (if l3 = true then .slice (some ⟨b1, o1, none⟩) L cv else A.tmps.getD 26 undef)).setIfInBounds 27 (if l4 = true then .int .i64 (k : Int) else A.tmps.getD 27 undef)).setIfInBounds 28 (if l5 = true then .pointer (some ⟨b1, o1 + k * 3, none⟩) else A.tmps.getD 28 undef)).setIfInBounds 29 (if l6 = true then .pointer (some ⟨b1, o1 + k * 3 + 2, none⟩) else A.tmps.getD 29 undef)).setIfInBounds 30 (if l7 = true then .int .i64 p2 else A.tmps.getD 30 undef)).setIfInBounds 31 (if l8 = true then .pointer (some ⟨w.heap.size, 1, none⟩) else A.tmps.getD 31 undef)).setIfInBounds 32 (if l9 = true then .slice (some ⟨b1, o1, none⟩) L cv else A.tmps.getD 32 undef)).setIfInBounds 33 (if l10 = true then .int .i64 (k : Int) else A.tmps.getD 33 undef)).setIfInBounds 34 (if l11 = true then .pointer (some ⟨b1, o1 + k * 3, none⟩) else A.tmps.getD 34 undef)).setIfInBounds 35 (if l12 = true then .pointer (some ⟨b1, o1 + k * 3 + 1, none⟩) else A.tmps.getD 35 undef)).setIfInBounds 36 (if l13 = true then .int .i64 p1 else A.tmps.getD 36 undef)).setIfInBounds 37 (if l14 = true then .pointer (some ⟨w.heap.size, 1, none⟩) else A.tmps.getD 37 undef)).setIfInBounds 38 (if l15 = true then .slice (some ⟨b1, o1, none⟩) L cv else A.tmps.getD 38 undef)).setIfInBounds 39 (if l16 = true then .int .i64 (k : Int) else A.tmps.getD 39 undef)).setIfInBounds 40 (if l17 = true then .pointer (some ⟨b1, o1 + k * 3, none⟩) else A.tmps.getD 40 undef)).setIfInBounds 41 (if l18 = true then .pointer (some ⟨b1, o1 + k * 3, none⟩) else A.tmps.getD 41 undef)).setIfInBounds 42 (if l19 = true then .int .i64 p0 else A.tmps.getD 42 undef)).setIfInBounds 43 (if l20 = true then .agg #[.int .i64 p2, .int .i64 p1, .int .i64 p0] else A.tmps.getD 43 undef)).setIfInBounds 44 (if l21 = true then .slice (some ⟨bn, 0, none⟩) 1 1 else A.tmps.getD 44 undef)).setIfInBounds 45 (if l22 = true then .slice (some ⟨g7, 0, none⟩) (k + 1) c7 else A.tmps.getD 45 undef)).setIfInBounds 46 (if l23 = true then .pointer (some ⟨b, 1, none⟩) else A.tmps.getD 46 undef)), A.defers⟩ ∧
            St w w' [Ent.box w.heap.size #[.int .i64 n.states, .slice (some ⟨b1, o1, none⟩) L cv, v2, v3] 31, Ent.box (w.heap.size + 1) #[.int .i64 0, .slice none 0 0, .slice none 0 0, .slice none 0 0] 31, Ent.row 3 1 (.slice a5 n.ends.length c5) n.ends.length (intCells n.ends), Ent.row 3 1 (.slice a6 n.firsts.length c6) n.firsts.length (intCells n.firsts), Ent.box b #[.int .i64 n.states, (if l24 = true then .slice (some ⟨g7, 0, none⟩) (k + 1) c7 else .slice a1 k c1), .slice a5 n.ends.length c5, .slice a6 n.firsts.length c6] 31, (if l22 = true then Ent.row 68 3 (.slice (some ⟨g7, 0, none⟩) (k + 1) c7) (k + 1) (((n.moves.take k).map turnM).flatMap moveCells ++ [.int .i64 p2, .int .i64 p1, .int .i64 p0]) else Ent.row 68 3 (.slice a1 k c1) k (((n.moves.take k).map turnM).flatMap moveCells)), (if l21 = true then Ent.box bn #[.int .i64 p2, .int .i64 p1, .int .i64 p0] 68 else Ent.nil)]) ?_ ?_ ?_
        · rintro listed a w' ⟨l0, l1, l2, l3, l4, l5, l6, l7, l8, l9, l10, l11, l12, l13, l14, l15, l16, l17, l18, l19, l20, l21, l22, l23, l24, g7, c7, bn, rfl, hd22, hd24, rfl, hS⟩ i hi
          obtain ⟨hun, o, ho, hall⟩ := mem_ready.1 hi
          have hlt := (Array.getElem?_eq_some_iff.1 ho).1
          refine wpOp_step ho (fun K hK => ?_)
          clear hi
          have HS := Lib.hid hS
          clear hS
          simp only [List.setIfInBounds_toArray, List.set_cons_zero, List.set_cons_succ, Array.getD_eq_getD_getElem?, List.getElem?_toArray, List.getElem?_cons_zero, List.getElem?_cons_succ, Option.getD_some]
          obtain h | h | h | h | h | h | h | h | h | h | h | h | h | h | h | h | h | h | h | h | h | h | h | h | h : i = 0 ∨ i = 1 ∨ i = 2 ∨ i = 3 ∨ i = 4 ∨ i = 5 ∨ i = 6 ∨ i = 7 ∨ i = 8 ∨ i = 9 ∨ i = 10 ∨ i = 11 ∨ i = 12 ∨ i = 13 ∨ i = 14 ∨ i = 15 ∨ i = 16 ∨ i = 17 ∨ i = 18 ∨ i = 19 ∨ i = 20 ∨ i = 21 ∨ i = 22 ∨ i = 23 ∨ i = 24 := by simp at hlt; omega
          all_goals subst h
          all_goals simp only [List.getElem?_toArray, List.getElem?_cons_zero, List.getElem?_cons_succ, Option.some.injEq] at ho
          all_goals subst ho
          all_goals simp [Region.binds] at hun hall
          · subst hun
            go_simp
            exact hK _ _ ⟨true, l1, l2, l3, l4, l5, l6, l7, l8, l9, l10, l11, l12, l13, l14, l15, l16, l17, l18, l19, l20, l21, l22, l23, l24, g7, c7, bn, rfl, hd22, hd24, (by simp only [↓reduceIte, List.setIfInBounds_toArray, List.set_cons_zero, List.set_cons_succ, Array.getD_eq_getD_getElem?, List.getElem?_toArray, List.getElem?_cons_zero, List.getElem?_cons_succ, Option.getD_some]), HS.out⟩
          · obtain rfl := hall
            subst hun
            obtain rfl : l22 = false := offL hd22 rfl
            obtain rfl : l24 = false := offL hd24 rfl
            have e0 := HS.out.cell (v := .slice a1 k c1) 4 1 rfl rfl
            go_simp
            exact hK _ _ ⟨true, true, l2, l3, l4, l5, l6, l7, l8, l9, l10, l11, l12, l13, l14, l15, l16, l17, l18, l19, l20, l21, false, l23, false, g7, c7, bn, rfl, by simp, by simp, (by simp only [↓reduceIte, Bool.false_eq_true, List.setIfInBounds_toArray, List.set_cons_zero, List.set_cons_succ, Array.getD_eq_getD_getElem?, List.getElem?_toArray, List.getElem?_cons_zero, List.getElem?_cons_succ, Option.getD_some]), HS.out⟩
          · subst hun
            go_simp
            exact hK _ _ ⟨l0, l1, true, l3, l4, l5, l6, l7, l8, l9, l10, l11, l12, l13, l14, l15, l16, l17, l18, l19, l20, l21, l22, l23, l24, g7, c7, bn, rfl, hd22, hd24, (by simp only [↓reduceIte, List.setIfInBounds_toArray, List.set_cons_zero, List.set_cons_succ, Array.getD_eq_getD_getElem?, List.getElem?_toArray, List.getElem?_cons_zero, List.getElem?_cons_succ, Option.getD_some]), HS.out⟩
          · obtain rfl := hall
            subst hun
            have e0 := HS.out.cell (v := .slice (some ⟨b1, o1, none⟩) L cv) 0 1 rfl rfl
            go_simp
            exact hK _ _ ⟨l0, l1, true, true, l4, l5, l6, l7, l8, l9, l10, l11, l12, l13, l14, l15, l16, l17, l18, l19, l20, l21, l22, l23, l24, g7, c7, bn, rfl, hd22, hd24, (by simp only [↓reduceIte, List.setIfInBounds_toArray, List.set_cons_zero, List.set_cons_succ, Array.getD_eq_getD_getElem?, List.getElem?_toArray, List.getElem?_cons_zero, List.getElem?_cons_succ, Option.getD_some]), HS.out⟩
          · subst hun
            go_simp
            exact hK _ _ ⟨l0, l1, l2, l3, true, l5, l6, l7, l8, l9, l10, l11, l12, l13, l14, l15, l16, l17, l18, l19, l20, l21, l22, l23, l24, g7, c7, bn, rfl, hd22, hd24, (by simp only [↓reduceIte, List.setIfInBounds_toArray, List.set_cons_zero, List.set_cons_succ, Array.getD_eq_getD_getElem?, List.getElem?_toArray, List.getElem?_cons_zero, List.getElem?_cons_succ, Option.getD_some]), HS.out⟩
          · obtain ⟨rfl, rfl⟩ := hall
            subst hun
            go_simp
            exact hK _ _ ⟨l0, l1, l2, true, true, true, l6, l7, l8, l9, l10, l11, l12, l13, l14, l15, l16, l17, l18, l19, l20, l21, l22, l23, l24, g7, c7, bn, rfl, hd22, hd24, (by simp only [↓reduceIte, List.setIfInBounds_toArray, List.set_cons_zero, List.set_cons_succ, Array.getD_eq_getD_getElem?, List.getElem?_toArray, List.getElem?_cons_zero, List.getElem?_cons_succ, Option.getD_some]), HS.out⟩
          · obtain rfl := hall
            subst hun
            go_simp
            exact hK _ _ ⟨l0, l1, l2, l3, l4, true, true, l7, l8, l9, l10, l11, l12, l13, l14, l15, l16, l17, l18, l19, l20, l21, l22, l23, l24, g7, c7, bn, rfl, hd22, hd24, (by simp only [↓reduceIte, List.setIfInBounds_toArray, List.set_cons_zero, List.set_cons_succ, Array.getD_eq_getD_getElem?, List.getElem?_toArray, List.getElem?_cons_zero, List.getElem?_cons_succ, Option.getD_some]), HS.out⟩
          · obtain rfl := hall
            subst hun
            have e0 := (bcell HS.out.bel b1 _ hb1).trans ((bcell HhS.out.bel b1 _ hb1).symm.trans m2)
            go_simp
            exact hK _ _ ⟨l0, l1, l2, l3, l4, l5, true, true, l8, l9, l10, l11, l12, l13, l14, l15, l16, l17, l18, l19, l20, l21, l22, l23, l24, g7, c7, bn, rfl, hd22, hd24, (by simp only [↓reduceIte, List.setIfInBounds_toArray, List.set_cons_zero, List.set_cons_succ, Array.getD_eq_getD_getElem?, List.getElem?_toArray, List.getElem?_cons_zero, List.getElem?_cons_succ, Option.getD_some]), HS.out⟩
          · subst hun
            go_simp
            exact hK _ _ ⟨l0, l1, l2, l3, l4, l5, l6, l7, true, l9, l10, l11, l12, l13, l14, l15, l16, l17, l18, l19, l20, l21, l22, l23, l24, g7, c7, bn, rfl, hd22, hd24, (by simp only [↓reduceIte, List.setIfInBounds_toArray, List.set_cons_zero, List.set_cons_succ, Array.getD_eq_getD_getElem?, List.getElem?_toArray, List.getElem?_cons_zero, List.getElem?_cons_succ, Option.getD_some]), HS.out⟩
          · obtain rfl := hall
            subst hun
            have e0 := HS.out.cell (v := .slice (some ⟨b1, o1, none⟩) L cv) 0 1 rfl rfl
            go_simp
            exact hK _ _ ⟨l0, l1, l2, l3, l4, l5, l6, l7, true, true, l10, l11, l12, l13, l14, l15, l16, l17, l18, l19, l20, l21, l22, l23, l24, g7, c7, bn, rfl, hd22, hd24, (by simp only [↓reduceIte, List.setIfInBounds_toArray, List.set_cons_zero, List.set_cons_succ, Array.getD_eq_getD_getElem?, List.getElem?_toArray, List.getElem?_cons_zero, List.getElem?_cons_succ, Option.getD_some]), HS.out⟩
          · subst hun
            go_simp
            exact hK _ _ ⟨l0, l1, l2, l3, l4, l5, l6, l7, l8, l9, true, l11, l12, l13, l14, l15, l16, l17, l18, l19, l20, l21, l22, l23, l24, g7, c7, bn, rfl, hd22, hd24, (by simp only [↓reduceIte, List.setIfInBounds_toArray, List.set_cons_zero, List.set_cons_succ, Array.getD_eq_getD_getElem?, List.getElem?_toArray, List.getElem?_cons_zero, List.getElem?_cons_succ, Option.getD_some]), HS.out⟩
          · obtain ⟨rfl, rfl⟩ := hall
            subst hun
            go_simp
            exact hK _ _ ⟨l0, l1, l2, l3, l4, l5, l6, l7, l8, true, true, true, l12, l13, l14, l15, l16, l17, l18, l19, l20, l21, l22, l23, l24, g7, c7, bn, rfl, hd22, hd24, (by simp only [↓reduceIte, List.setIfInBounds_toArray, List.set_cons_zero, List.set_cons_succ, Array.getD_eq_getD_getElem?, List.getElem?_toArray, List.getElem?_cons_zero, List.getElem?_cons_succ, Option.getD_some]), HS.out⟩
          · obtain rfl := hall
            subst hun
            go_simp
            exact hK _ _ ⟨l0, l1, l2, l3, l4, l5, l6, l7, l8, l9, l10, true, true, l13, l14, l15, l16, l17, l18, l19, l20, l21, l22, l23, l24, g7, c7, bn, rfl, hd22, hd24, (by simp only [↓reduceIte, List.setIfInBounds_toArray, List.set_cons_zero, List.set_cons_succ, Array.getD_eq_getD_getElem?, List.getElem?_toArray, List.getElem?_cons_zero, List.getElem?_cons_succ, Option.getD_some]), HS.out⟩
          · obtain rfl := hall
            subst hun
            have e0 := (bcell HS.out.bel b1 _ hb1).trans ((bcell HhS.out.bel b1 _ hb1).symm.trans m1)
            go_simp
            exact hK _ _ ⟨l0, l1, l2, l3, l4, l5, l6, l7, l8, l9, l10, l11, true, true, l14, l15, l16, l17, l18, l19, l20, l21, l22, l23, l24, g7, c7, bn, rfl, hd22, hd24, (by simp only [↓reduceIte, List.setIfInBounds_toArray, List.set_cons_zero, List.set_cons_succ, Array.getD_eq_getD_getElem?, List.getElem?_toArray, List.getElem?_cons_zero, List.getElem?_cons_succ, Option.getD_some]), HS.out⟩
          · subst hun
            go_simp
            exact hK _ _ ⟨l0, l1, l2, l3, l4, l5, l6, l7, l8, l9, l10, l11, l12, l13, true, l15, l16, l17, l18, l19, l20, l21, l22, l23, l24, g7, c7, bn, rfl, hd22, hd24, (by simp only [↓reduceIte, List.setIfInBounds_toArray, List.set_cons_zero, List.set_cons_succ, Array.getD_eq_getD_getElem?, List.getElem?_toArray, List.getElem?_cons_zero, List.getElem?_cons_succ, Option.getD_some]), HS.out⟩
          · obtain rfl := hall
            subst hun
            have e0 := HS.out.cell (v := .slice (some ⟨b1, o1, none⟩) L cv) 0 1 rfl rfl
            go_simp
            exact hK _ _ ⟨l0, l1, l2, l3, l4, l5, l6, l7, l8, l9, l10, l11, l12, l13, true, true, l16, l17, l18, l19, l20, l21, l22, l23, l24, g7, c7, bn, rfl, hd22, hd24, (by simp only [↓reduceIte, List.setIfInBounds_toArray, List.set_cons_zero, List.set_cons_succ, Array.getD_eq_getD_getElem?, List.getElem?_toArray, List.getElem?_cons_zero, List.getElem?_cons_succ, Option.getD_some]), HS.out⟩
          · subst hun
            go_simp
            exact hK _ _ ⟨l0, l1, l2, l3, l4, l5, l6, l7, l8, l9, l10, l11, l12, l13, l14, l15, true, l17, l18, l19, l20, l21, l22, l23, l24, g7, c7, bn, rfl, hd22, hd24, (by simp only [↓reduceIte, List.setIfInBounds_toArray, List.set_cons_zero, List.set_cons_succ, Array.getD_eq_getD_getElem?, List.getElem?_toArray, List.getElem?_cons_zero, List.getElem?_cons_succ, Option.getD_some]), HS.out⟩
          · obtain ⟨rfl, rfl⟩ := hall
            subst hun
            go_simp
            exact hK _ _ ⟨l0, l1, l2, l3, l4, l5, l6, l7, l8, l9, l10, l11, l12, l13, l14, true, true, true, l18, l19, l20, l21, l22, l23, l24, g7, c7, bn, rfl, hd22, hd24, (by simp only [↓reduceIte, List.setIfInBounds_toArray, List.set_cons_zero, List.set_cons_succ, Array.getD_eq_getD_getElem?, List.getElem?_toArray, List.getElem?_cons_zero, List.getElem?_cons_succ, Option.getD_some]), HS.out⟩
          · obtain rfl := hall
            subst hun
            go_simp
            exact hK _ _ ⟨l0, l1, l2, l3, l4, l5, l6, l7, l8, l9, l10, l11, l12, l13, l14, l15, l16, true, true, l19, l20, l21, l22, l23, l24, g7, c7, bn, rfl, hd22, hd24, (by simp only [↓reduceIte, List.setIfInBounds_toArray, List.set_cons_zero, List.set_cons_succ, Array.getD_eq_getD_getElem?, List.getElem?_toArray, List.getElem?_cons_zero, List.getElem?_cons_succ, Option.getD_some]), HS.out⟩
          · obtain rfl := hall
            subst hun
            have e0 := (bcell HS.out.bel b1 _ hb1).trans ((bcell HhS.out.bel b1 _ hb1).symm.trans m0)
            go_simp
            exact hK _ _ ⟨l0, l1, l2, l3, l4, l5, l6, l7, l8, l9, l10, l11, l12, l13, l14, l15, l16, l17, true, true, l20, l21, l22, l23, l24, g7, c7, bn, rfl, hd22, hd24, (by simp only [↓reduceIte, List.setIfInBounds_toArray, List.set_cons_zero, List.set_cons_succ, Array.getD_eq_getD_getElem?, List.getElem?_toArray, List.getElem?_cons_zero, List.getElem?_cons_succ, Option.getD_some]), HS.out⟩
          · obtain ⟨rfl, rfl, rfl⟩ := hall
            subst hun
            go_simp
            exact hK _ _ ⟨l0, l1, l2, l3, l4, l5, l6, true, l8, l9, l10, l11, l12, true, l14, l15, l16, l17, l18, true, true, l21, l22, l23, l24, g7, c7, bn, rfl, hd22, hd24, (by simp only [↓reduceIte, List.setIfInBounds_toArray, List.set_cons_zero, List.set_cons_succ, Array.getD_eq_getD_getElem?, List.getElem?_toArray, List.getElem?_cons_zero, List.getElem?_cons_succ, Option.getD_some]), HS.out⟩
          · obtain rfl := hall
            subst hun
            obtain rfl : l22 = false := offR hd22 rfl
            obtain rfl : l24 = false := offL hd24 rfl
            have hS2 := (HS.out.alloc _ rfl #[.int .i64 p2, .int .i64 p1, .int .i64 p0] 68).pick [0, 1, 2, 3, 4, 5, 7] (by decide)
            have HhS2 := Lib.hid hS2; clear hS2
            go_simp
            exact hK _ _ ⟨l0, l1, l2, l3, l4, l5, l6, l7, l8, l9, l10, l11, l12, l13, l14, l15, l16, l17, l18, l19, true, true, false, l23, false, g7, c7, _, rfl, by simp, by simp, (by simp only [↓reduceIte, Bool.false_eq_true, List.setIfInBounds_toArray, List.set_cons_zero, List.set_cons_succ, Array.getD_eq_getD_getElem?, List.getElem?_toArray, List.getElem?_cons_zero, List.getElem?_cons_succ, Option.getD_some]), HhS2.out⟩
          · obtain ⟨rfl, rfl⟩ := hall
            subst hun
            obtain rfl : l24 = false := offL hd24 rfl
            refine step_append_lies (a := ⟨_, _⟩) _ (by rfl) _ _ _ (by rfl) w.heap.size 68 i0 (.agg #[.int .i64 0, .int .i64 0, .int .i64 0]) 3 24 Try.underlying28 Hhi.out Hhz0.out Hhz1.out Hhz2.out (by rfl) (by omega) (.slice a1 k c1) k (((n.moves.take k).map turnM).flatMap moveCells) (by rfl) (HS.out.row 5 rfl) ⟨bn, 0, none⟩ 1 1 [.int .i64 p2, .int .i64 p1, .int .i64 p0] (by rfl) (by rfl) (World.news_of_block (HS.out.box 6 rfl)) one_mv (by omega) (by unfold maxLen; omega) (by omega) HS.out.size _ rfl ?_
            intro g8 c8 w8 hown8 hgrow8 hat8 hlt8
            have HS8 := Lib.hid (HS.out.app 5 rfl hown8 hgrow8 hat8)
            clear hown8 hgrow8 hat8
            go_simp
            exact hK _ _ ⟨l0, true, l2, l3, l4, l5, l6, l7, l8, l9, l10, l11, l12, l13, l14, l15, l16, l17, l18, l19, l20, true, true, l23, false, g8, c8, bn, rfl, by simp, by simp, (by simp only [↓reduceIte, List.setIfInBounds_toArray, List.set_cons_zero, List.set_cons_succ, Array.getD_eq_getD_getElem?, List.getElem?_toArray, List.getElem?_cons_zero, List.getElem?_cons_succ, Option.getD_some]), HS8.out⟩
          · obtain ⟨rfl, rfl, rfl, rfl, rfl, rfl, rfl, rfl, rfl, rfl, rfl, rfl, rfl, rfl, rfl, rfl, rfl, rfl, rfl, rfl, rfl, rfl, rfl⟩ := hall
            subst hun
            go_simp
            exact hK _ _ ⟨true, true, true, true, true, true, true, true, true, true, true, true, true, true, true, true, true, true, true, true, true, true, true, true, l24, g7, c7, bn, rfl, by simp, hd24, (by simp only [↓reduceIte, List.setIfInBounds_toArray, List.set_cons_zero, List.set_cons_succ]), HS.out⟩
          · obtain ⟨rfl, rfl, rfl, rfl, rfl, rfl, rfl, rfl, rfl, rfl, rfl, rfl, rfl, rfl, rfl, rfl, rfl, rfl, rfl, rfl, rfl, rfl, rfl, rfl, -⟩ := hall
            subst hun
            have f0 := HS.out.fr 4 1 rfl
            have k0 := HS.out.cell (v := .slice a1 k c1) 4 1 rfl rfl
            go_simp
            exact hK _ _ ⟨true, true, true, true, true, true, true, true, true, true, true, true, true, true, true, true, true, true, true, true, true, true, true, true, true, g7, c7, bn, rfl, by simp, by simp, (by simp only [↓reduceIte, List.setIfInBounds_toArray, List.set_cons_zero, List.set_cons_succ]), (HS.out.set 4 rfl 1 (.slice (some ⟨g7, 0, none⟩) (k + 1) c7))⟩
        · rintro listed a w' ⟨l0, l1, l2, l3, l4, l5, l6, l7, l8, l9, l10, l11, l12, l13, l14, l15, l16, l17, l18, l19, l20, l21, l22, l23, l24, g7, c7, bn, rfl, hd22, hd24, rfl, hS⟩ hr
          have hall := ready_nil (by kernel_rfl) rfl hr
          obtain rfl : l0 = true := by simpa using hall 0 (by simp)
          obtain rfl : l1 = true := by simpa using hall 1 (by simp)
          obtain rfl : l2 = true := by simpa using hall 2 (by simp)
          obtain rfl : l3 = true := by simpa using hall 3 (by simp)
          obtain rfl : l4 = true := by simpa using hall 4 (by simp)
          obtain rfl : l5 = true := by simpa using hall 5 (by simp)
          obtain rfl : l6 = true := by simpa using hall 6 (by simp)
          obtain rfl : l7 = true := by simpa using hall 7 (by simp)
          obtain rfl : l8 = true := by simpa using hall 8 (by simp)
          obtain rfl : l9 = true := by simpa using hall 9 (by simp)
          obtain rfl : l10 = true := by simpa using hall 10 (by simp)
          obtain rfl : l11 = true := by simpa using hall 11 (by simp)
          obtain rfl : l12 = true := by simpa using hall 12 (by simp)
          obtain rfl : l13 = true := by simpa using hall 13 (by simp)
          obtain rfl : l14 = true := by simpa using hall 14 (by simp)
          obtain rfl : l15 = true := by simpa using hall 15 (by simp)
          obtain rfl : l16 = true := by simpa using hall 16 (by simp)
          obtain rfl : l17 = true := by simpa using hall 17 (by simp)
          obtain rfl : l18 = true := by simpa using hall 18 (by simp)
          obtain rfl : l19 = true := by simpa using hall 19 (by simp)
          obtain rfl : l20 = true := by simpa using hall 20 (by simp)
          obtain rfl : l21 = true := by simpa using hall 21 (by simp)
          obtain rfl : l22 = true := by simpa using hall 22 (by simp)
          obtain rfl : l23 = true := by simpa using hall 23 (by simp)
          obtain rfl : l24 = true := by simpa using hall 24 (by simp)
          clear hall hr hd22 hd24
          simp only [↓reduceIte] at hS ⊢
          simp only [List.setIfInBounds_toArray, List.set_cons_zero, List.set_cons_succ]
          have hS9 := hS.pick [0, 1, 2, 3, 4, 5] (by decide)
          have HhS9 := Lib.hid hS9; clear hS9
          clear hS
          go_wp2
          go_roundw
          case rel =>
            refine ⟨k + 1, c7, some ⟨g7, 0, none⟩, by go_num, by omega, ?_⟩
            rw [Hhtk.out, flatM_snoc]
            exact HhS9.out
          case measure => simp [intOf]; omega
        · refine ⟨false, false, false, false, false, false, false, false, false, false, false, false, false, false, false, false, false, false, false, false, false, false, false, false, false, 0, 0, 0, rfl, by simp, by simp, (by simp only [↓reduceIte, Bool.false_eq_true, List.setIfInBounds_toArray, List.set_cons_zero, List.set_cons_succ, Array.getD_eq_getD_getElem?, List.getElem?_toArray, List.getElem?_cons_zero, List.getElem?_cons_succ, Option.getD_some]), ?_⟩
          exact HhS.out.drew.pick [0, 1, 2, 3, 4, 5, 6] (by decide)
      · obtain rfl : k = L := by omega
        have hta : n.moves.take k = n.moves := List.take_of_length_le (by rw [← HhL.out]; exact Nat.le_refl _)
        rw [hta] at hS
        have f0 := hS.fr 1 0 rfl
        have f1 := hS.fr 1 1 rfl
        have f2 := hS.fr 1 2 rfl
        have f3 := hS.fr 1 3 rfl
        have k0 := hS.cell (v := .int .i64 0) 1 0 rfl rfl
        have k1 := hS.cell (v := .slice none 0 0) 1 1 rfl rfl
        have k2 := hS.cell (v := .slice none 0 0) 1 2 rfl rfl
        have k3 := hS.cell (v := .slice none 0 0) 1 3 rfl rfl
        have d0 := hS.cell (v := .int .i64 n.states) 4 0 rfl rfl
        have d1 := hS.cell (v := .slice a1 k c1) 4 1 rfl rfl
        have d2 := hS.cell (v := .slice a5 n.ends.length c5) 4 2 rfl rfl
        have d3 := hS.cell (v := .slice a6 n.firsts.length c6) 4 3 rfl rfl
        have HhS := Lib.hid hS; clear hS
        clear hta
        go_wp2
        have hq := (((HhS.out.set 1 rfl 0 (.int .i64 n.states)).set 1 rfl 1 (.slice a1 k c1)).set 1 rfl 2 (.slice a5 n.ends.length c5)).set 1 rfl 3 (.slice a6 n.firsts.length c6)
        have q0 := hq.cell (v := .int .i64 n.states) 1 0 rfl rfl
        have q1 := hq.cell (v := .slice a1 k c1) 1 1 rfl rfl
        have q2 := hq.cell (v := .slice a5 n.ends.length c5) 1 2 rfl rfl
        have q3 := hq.cell (v := .slice a6 n.firsts.length c6) 1 3 rfl rfl
        refine bodyPost_ret (v := .agg #[.int .i64 n.states, .slice a1 k c1, .slice a5 n.ends.length c5, .slice a6 n.firsts.length c6]) (by simp [results, Try.results76, go_sem, q0, q1, q2, q3]) rfl ?_
        have hkl : k = (turnN n).moves.length := by rw [HhL.out]; simp [turnN]
        refine ⟨a1, c1, a5, c5, a6, c6, by rw [← hkl]; rfl, ?_⟩
        rw [← hkl]
        exact hq.pick [5, 2, 3] (by decide)
  · refine ⟨false, false, false, false, false, false, false, false, false, false, false, false, false, none, none, 0, 0, 0, 0, 0, rfl, by simp, by simp, by simp, by simp, rfl, ?_⟩
    exact HhS.out.drew.pick [0, 1, 2, 3, 4] (by decide)
end Go.Proofs.Ythhbjkgchabfmaa
