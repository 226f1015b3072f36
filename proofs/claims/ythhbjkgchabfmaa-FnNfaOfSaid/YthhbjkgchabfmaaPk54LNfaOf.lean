/-
  The walk over the law FnNfaOf.
  Condition: the argument reads as bytes.
-/
import Derived.Test.YthhbjkgchabfmaaPk22Sd
import Derived.Test.YthhbjkgchabfmaaPk23Fw
import Derived.Test.YthhbjkgchabfmaaPk48De
import Derived.Test.YthhbjkgchabfmaaPk53Sf
namespace Go.Proofs.Ythhbjkgchabfmaa
open Go.RowKit

set_option maxRecDepth 100000 in
set_option maxHeartbeats 16000000 in
theorem nfaOf_walk (bs : List Nat) (v : Value) (w : World) (hb : Bytes 0 w v bs) :
    Calls Try.prog 3 #[v] w fun e w' => e = .returned (.bool true) ∧ Below w.heap.size w w' := by
  have HB := Lib.hid hb
  obtain ⟨av, cv, rfl, hcv1, hcv2, -⟩ := hb.form
  clear hb
  by_cases hlen : 1048576 < bs.length
  · have hl2 : (1048576 : Int) < bs.length := by omega
    go_enter Try.func3, Try.ntmps3
    go_wp2
    go_ret
    exact ⟨rfl, Below.refl _ _⟩
  have hl2 : ¬ (1048576 : Int) < bs.length := by omega
  go_enter Try.func3, Try.ntmps3
  go_wp2_with fail
  refine (drawNfaOfD_any bs _ _ HB.out (by omega)).mono ?_
  rintro e w1 ⟨d, a1, a2, c1, c2, hsm, rfl, hd, hb1⟩
  have HS1 := Lib.hid (((St.start w).call hb1).alloc _ rfl #[.slice a1 d.next.length c1, .slice a2 d.ends.length c2] 26)
  have HR := Lib.hid (hd.below ((Below.refl w1.heap.size w1).alloc (Nat.le_refl _) (.cells #[.slice a1 d.next.length c1, .slice a2 d.ends.length c2] 26)))
  clear hb1 hd
  obtain ⟨N, hN⟩ : ∃ N, nfaQ d = N := ⟨_, rfl⟩
  cases hok : dfaOk d.next d.ends
  · have hz : N = ⟨0, [], [], []⟩ := by rw [← hN, nfaQ, if_neg (by rw [hok]; simp)]
    have hz0 : (N.states == 0) = true := by rw [hz]; rfl
    have Ns0 : -9223372036854775808 ≤ N.states := by rw [hz]; show (-9223372036854775808 : Int) ≤ 0; omega
    have Ns1 : N.states ≤ 9223372036854775807 := by rw [hz]; show (0 : Int) ≤ 9223372036854775807; omega
    have Hhz := Lib.hid hz; clear hz
    have HhN := Lib.hid hN; clear hN
    have Hhok := Lib.hid hok; clear hok
    have e0 := HS1.out.cell (v := .slice a1 d.next.length c1) 0 0 rfl rfl
    have e1 := HS1.out.cell (v := .slice a2 d.ends.length c2) 0 1 rfl rfl
    go_wp2_with fail
    refine (implNfaOfQ_any d N HhN.out _ _ HR.out).mono ?_
    rintro e w2 ⟨x1, y1, x2, y2, x3, y3, rfl, hx⟩
    have HS2 := Lib.hid ((HS1.out.cat hx).alloc _ rfl #[.int .i64 N.states, .slice x1 N.moves.length y1, .slice x2 N.firsts.length y2, .slice x3 N.ends.length y3] 31)
    have HR2 := Lib.hid ((HR.out.below hx.bel).below ((Below.refl w2.heap.size w2).alloc (Nat.le_refl _) (.cells #[.int .i64 N.states, .slice x1 N.moves.length y1, .slice x2 N.firsts.length y2, .slice x3 N.ends.length y3] 31)))
    have HN := Lib.hid (nfaR_rows HS2.out 1 2 3 rfl rfl rfl Ns0 Ns1)
    clear HR hx e0 e1
    have D0 := Lib.hid (HS2.out.cell (v := .slice a1 d.next.length c1) 0 0 rfl rfl)
    have D1 := Lib.hid (HS2.out.cell (v := .slice a2 d.ends.length c2) 0 1 rfl rfl)
    have HltD := Lib.hid (HS2.out.boxlt 0 rfl).2
    have C0 := Lib.hid (HS2.out.cell (v := .int .i64 N.states) 4 0 rfl rfl)
    have C1 := Lib.hid (HS2.out.cell (v := .slice x1 N.moves.length y1) 4 1 rfl rfl)
    have C2 := Lib.hid (HS2.out.cell (v := .slice x2 N.firsts.length y2) 4 2 rfl rfl)
    have C3 := Lib.hid (HS2.out.cell (v := .slice x3 N.ends.length y3) 4 3 rfl rfl)
    have HltC := Lib.hid (HS2.out.boxlt 4 rfl).2
    go_wp2
    refine wp_region_any (by kernel_rfl) ?_
    refine wpAny_invA (fun A listed a w' => ∃ (l0 l1 l2 l3 l4 : Bool) (ax1 : Option Addr) (ax2 : Option Addr) (ax3 : Option Addr) (cx1 : Nat) (cx2 : Nat) (cx3 : Nat), listed = #[l0, l1, l2, l3, l4] ∧
        a = ⟨(((((A.tmps.setIfInBounds 14 (if l0 = true then .agg #[.int .i64 N.states, .slice x1 N.moves.length y1, .slice x2 N.firsts.length y2, .slice x3 N.ends.length y3] else A.tmps.getD 14 undef)).setIfInBounds 15 (if l1 = true then .agg #[.slice a1 d.next.length c1, .slice a2 d.ends.length c2] else A.tmps.getD 15 undef)).setIfInBounds 16 (if l2 = true then .agg #[.int .i64 N.states, .slice ax1 N.moves.length cx1, .slice ax2 N.firsts.length cx2, .slice ax3 N.ends.length cx3] else A.tmps.getD 16 undef)).setIfInBounds 17 (if l3 = true then .bool true else A.tmps.getD 17 undef)).setIfInBounds 18 (if l4 = true then .bool false else A.tmps.getD 18 undef)), A.defers⟩ ∧
        St (w2.alloc (.cells #[.int .i64 N.states, .slice x1 N.moves.length y1, .slice x2 N.firsts.length y2, .slice x3 N.ends.length y3] 31)) w' [(if l2 = true then Ent.row 68 3 (.slice ax1 N.moves.length cx1) N.moves.length (N.moves.flatMap moveCells) else Ent.nil), (if l2 = true then Ent.row 3 1 (.slice ax2 N.firsts.length cx2) N.firsts.length (intCells N.firsts) else Ent.nil), (if l2 = true then Ent.row 3 1 (.slice ax3 N.ends.length cx3) N.ends.length (intCells N.ends) else Ent.nil)]) ?_ ?_ ?_
    · rintro listed a w' ⟨l0, l1, l2, l3, l4, ax1, ax2, ax3, cx1, cx2, cx3, rfl, rfl, hS⟩ i hi
      obtain ⟨hun, o, ho, hall⟩ := mem_ready.1 hi
      have hlt := (Array.getElem?_eq_some_iff.1 ho).1
      refine wpOp_step ho (fun K hK => ?_)
      clear hi
      have HS := Lib.hid hS
      clear hS
      simp only [List.setIfInBounds_toArray, List.set_cons_zero, List.set_cons_succ, Array.getD_eq_getD_getElem?, List.getElem?_toArray, List.getElem?_cons_zero, List.getElem?_cons_succ, Option.getD_some]
      obtain h | h | h | h | h : i = 0 ∨ i = 1 ∨ i = 2 ∨ i = 3 ∨ i = 4 := by simp at hlt; omega
      all_goals subst h
      all_goals simp only [List.getElem?_toArray, List.getElem?_cons_zero, List.getElem?_cons_succ, Option.some.injEq] at ho
      all_goals subst ho
      all_goals simp [Region.binds] at hun hall
      · subst hun
        have e0 := (bcell HS.out.bel (w2.heap.size) 0 HltC.out).trans C0.out
        have e1 := (bcell HS.out.bel (w2.heap.size) 1 HltC.out).trans C1.out
        have e2 := (bcell HS.out.bel (w2.heap.size) 2 HltC.out).trans C2.out
        have e3 := (bcell HS.out.bel (w2.heap.size) 3 HltC.out).trans C3.out
        go_simp
        exact hK _ _ ⟨true, l1, l2, l3, l4, ax1, ax2, ax3, cx1, cx2, cx3, rfl, (by simp only [↓reduceIte, List.setIfInBounds_toArray, List.set_cons_zero, List.set_cons_succ, Array.getD_eq_getD_getElem?, List.getElem?_toArray, List.getElem?_cons_zero, List.getElem?_cons_succ, Option.getD_some]), HS.out⟩
      · subst hun
        have e0 := (bcell HS.out.bel (w1.heap.size) 0 HltD.out).trans D0.out
        have e1 := (bcell HS.out.bel (w1.heap.size) 1 HltD.out).trans D1.out
        go_simp
        exact hK _ _ ⟨l0, true, l2, l3, l4, ax1, ax2, ax3, cx1, cx2, cx3, rfl, (by simp only [↓reduceIte, List.setIfInBounds_toArray, List.set_cons_zero, List.set_cons_succ, Array.getD_eq_getD_getElem?, List.getElem?_toArray, List.getElem?_cons_zero, List.getElem?_cons_succ, Option.getD_some]), HS.out⟩
      · obtain rfl := hall
        subst hun
        go_simp
        go_at_call 18
        refine (specNfaOfQ_any d N HhN.out _ _ (HR2.out.below HS.out.bel)).mono ?_
        rintro e uw ⟨z1, u1, z2, u2, z3, u3, rfl, hr⟩
        have hS2 := (HS.out.cat hr).pick [3, 4, 5] (by decide)
        have HhS2 := Lib.hid hS2; clear hS2
        go_simp
        exact hK _ _ ⟨l0, true, true, l3, l4, z1, z2, z3, u1, u2, u3, rfl, (by simp only [↓reduceIte, List.setIfInBounds_toArray, List.set_cons_zero, List.set_cons_succ, Array.getD_eq_getD_getElem?, List.getElem?_toArray, List.getElem?_cons_zero, List.getElem?_cons_succ, Option.getD_some]), HhS2.out⟩
      · obtain ⟨rfl, rfl⟩ := hall
        subst hun
        go_simp
        go_at_call 17
        refine (sameNfa_any N _ _ _ (HN.out.below HS.out.bel) (nfaR_rows HS.out 0 1 2 rfl rfl rfl Ns0 Ns1)).mono ?_
        rintro e u1 ⟨rfl, hb⟩
        have hS2 := HS.out.call hb
        have HhS2 := Lib.hid hS2; clear hS2
        go_simp
        exact hK _ _ ⟨true, l1, true, true, l4, ax1, ax2, ax3, cx1, cx2, cx3, rfl, (by simp only [↓reduceIte, List.setIfInBounds_toArray, List.set_cons_zero, List.set_cons_succ, Array.getD_eq_getD_getElem?, List.getElem?_toArray, List.getElem?_cons_zero, List.getElem?_cons_succ, Option.getD_some]), HhS2.out⟩
      · obtain rfl := hall
        subst hun
        go_simp
        exact hK _ _ ⟨l0, l1, l2, true, true, ax1, ax2, ax3, cx1, cx2, cx3, rfl, (by simp only [↓reduceIte, List.setIfInBounds_toArray, List.set_cons_zero, List.set_cons_succ, Array.getD_eq_getD_getElem?, List.getElem?_toArray, List.getElem?_cons_zero, List.getElem?_cons_succ, Option.getD_some]), HS.out⟩
    · rintro listed a w' ⟨l0, l1, l2, l3, l4, ax1, ax2, ax3, cx1, cx2, cx3, rfl, rfl, hS⟩ hr
      have hall := ready_nilM (by kernel_rfl) rfl hr
      obtain rfl : l0 = true := by simpa using hall 0 (by simp)
      obtain rfl : l1 = true := by simpa using hall 1 (by simp)
      obtain rfl : l2 = true := by simpa using hall 2 (by simp)
      obtain rfl : l3 = true := by simpa using hall 3 (by simp)
      obtain rfl : l4 = true := by simpa using hall 4 (by simp)
      clear hall hr 
      simp only [↓reduceIte] at hS ⊢
      simp only [List.setIfInBounds_toArray, List.set_cons_zero, List.set_cons_succ]
      have HS4 := Lib.hid (HS2.out.call hS.bel)
      have HR4 := Lib.hid (HR2.out.below hS.bel)
      have HN4 := Lib.hid (HN.out.below hS.bel)
      clear hS
      obtain ⟨w4, hw4⟩ : ∃ u : World, u = w' := ⟨_, rfl⟩
      subst hw4
      clear D0 D1 C0 C1 C2 C3 HltD HltC
      have e0 := HS4.out.cell (v := .slice a1 d.next.length c1) 0 0 rfl rfl
      have e1 := HS4.out.cell (v := .slice a2 d.ends.length c2) 0 1 rfl rfl
      go_wp2_with fail
      refine (specDfaValidD2_any d _ _ HR4.out false Hhok.out).mono ?_
      rintro e w5 ⟨rfl, hb⟩
      have HS5 := Lib.hid (HS4.out.call hb)
      have HR5 := Lib.hid (HR4.out.below hb)
      have HN5 := Lib.hid (HN4.out.below hb)
      clear hb e0 e1
      have e0 := HS5.out.cell (v := .int .i64 N.states) 4 0 rfl rfl
      have e1 := HS5.out.cell (v := .slice x1 N.moves.length y1) 4 1 rfl rfl
      have e2 := HS5.out.cell (v := .slice x2 N.firsts.length y2) 4 2 rfl rfl
      have e3 := HS5.out.cell (v := .slice x3 N.ends.length y3) 4 3 rfl rfl
      go_wp2_with (go_at_call 20; refine (alive_any _).mono ?_; rintro e w' ⟨rfl, rfl⟩)
      go_ret
      exact ⟨rfl, HS5.out.bel⟩
    · refine ⟨false, false, false, false, false, none, none, none, 0, 0, 0, rfl, (by simp only [↓reduceIte, Bool.false_eq_true, List.setIfInBounds_toArray, List.set_cons_zero, List.set_cons_succ, Array.getD_eq_getD_getElem?, List.getElem?_toArray, List.getElem?_cons_zero, List.getElem?_cons_succ, Option.getD_some]), ?_⟩
      exact (St.start (w2.alloc (.cells #[.int .i64 N.states, .slice x1 N.moves.length y1, .slice x2 N.firsts.length y2, .slice x3 N.ends.length y3] 31))).drew.pick [0, 1, 2] (by decide)
  · have hN2 : nfaOf d = N := by rw [← hN, nfaQ, if_pos hok]
    have hd3 := dfaOk_len hok
    have hs0 : N.states = (d.next.length : Int) := by rw [← hN2]; rfl
    have Ns0 : -9223372036854775808 ≤ N.states := by omega
    have Ns1 : N.states ≤ 9223372036854775807 := by omega
    have hd40 : d.next.length ≤ 40 := by omega
    have hno : nfaOk N = true := by rw [← hN2]; exact nfaOf_ok hok
    have hdet : det N = some (trimD d) := by rw [← hN2]; exact det_nfaOf (K := forty) hok (by have : forty = 40 := rfl; omega)
    obtain ⟨X, hT⟩ : ∃ X, trimD d = X := ⟨_, rfl⟩
    have hX : (det N).getD zeroD = X := by rw [hdet, hT]; rfl
    have hfb : (det N).isSome = true := by rw [hdet]; rfl
    have hml : ((N.moves.length : Int) == 3 * (d.next.length : Int)) = true := by
      have := mvs_len d d.next.length
      rw [← hN2]
      simp only [beq_iff_eq]
      show ((mvs d d.next.length).length : Int) = _
      omega
    clear hd3
    have HhN2 := Lib.hid hN2; clear hN2
    have Hhs0 := Lib.hid hs0; clear hs0
    have Hhno := Lib.hid hno; clear hno
    have Hhdet := Lib.hid hdet; clear hdet
    have HhT := Lib.hid hT; clear hT
    have HhX := Lib.hid hX; clear hX
    have Hhfb := Lib.hid hfb; clear hfb
    have HhN := Lib.hid hN; clear hN
    have Hhok := Lib.hid hok; clear hok
    have e0 := HS1.out.cell (v := .slice a1 d.next.length c1) 0 0 rfl rfl
    have e1 := HS1.out.cell (v := .slice a2 d.ends.length c2) 0 1 rfl rfl
    go_wp2_with fail
    refine (implNfaOfQ_any d N HhN.out _ _ HR.out).mono ?_
    rintro e w2 ⟨x1, y1, x2, y2, x3, y3, rfl, hx⟩
    have HS2 := Lib.hid ((HS1.out.cat hx).alloc _ rfl #[.int .i64 N.states, .slice x1 N.moves.length y1, .slice x2 N.firsts.length y2, .slice x3 N.ends.length y3] 31)
    have HR2 := Lib.hid ((HR.out.below hx.bel).below ((Below.refl w2.heap.size w2).alloc (Nat.le_refl _) (.cells #[.int .i64 N.states, .slice x1 N.moves.length y1, .slice x2 N.firsts.length y2, .slice x3 N.ends.length y3] 31)))
    have HN := Lib.hid (nfaR_rows HS2.out 1 2 3 rfl rfl rfl Ns0 Ns1)
    clear HR hx e0 e1
    have D0 := Lib.hid (HS2.out.cell (v := .slice a1 d.next.length c1) 0 0 rfl rfl)
    have D1 := Lib.hid (HS2.out.cell (v := .slice a2 d.ends.length c2) 0 1 rfl rfl)
    have HltD := Lib.hid (HS2.out.boxlt 0 rfl).2
    have C0 := Lib.hid (HS2.out.cell (v := .int .i64 N.states) 4 0 rfl rfl)
    have C1 := Lib.hid (HS2.out.cell (v := .slice x1 N.moves.length y1) 4 1 rfl rfl)
    have C2 := Lib.hid (HS2.out.cell (v := .slice x2 N.firsts.length y2) 4 2 rfl rfl)
    have C3 := Lib.hid (HS2.out.cell (v := .slice x3 N.ends.length y3) 4 3 rfl rfl)
    have HltC := Lib.hid (HS2.out.boxlt 4 rfl).2
    go_wp2
    refine wp_region_any (by kernel_rfl) ?_
    refine wpAny_invA (fun A listed a w' => ∃ (l0 l1 l2 l3 l4 : Bool) (ax1 : Option Addr) (ax2 : Option Addr) (ax3 : Option Addr) (cx1 : Nat) (cx2 : Nat) (cx3 : Nat), listed = #[l0, l1, l2, l3, l4] ∧
        a = ⟨(((((A.tmps.setIfInBounds 14 (if l0 = true then .agg #[.int .i64 N.states, .slice x1 N.moves.length y1, .slice x2 N.firsts.length y2, .slice x3 N.ends.length y3] else A.tmps.getD 14 undef)).setIfInBounds 15 (if l1 = true then .agg #[.slice a1 d.next.length c1, .slice a2 d.ends.length c2] else A.tmps.getD 15 undef)).setIfInBounds 16 (if l2 = true then .agg #[.int .i64 N.states, .slice ax1 N.moves.length cx1, .slice ax2 N.firsts.length cx2, .slice ax3 N.ends.length cx3] else A.tmps.getD 16 undef)).setIfInBounds 17 (if l3 = true then .bool true else A.tmps.getD 17 undef)).setIfInBounds 18 (if l4 = true then .bool false else A.tmps.getD 18 undef)), A.defers⟩ ∧
        St (w2.alloc (.cells #[.int .i64 N.states, .slice x1 N.moves.length y1, .slice x2 N.firsts.length y2, .slice x3 N.ends.length y3] 31)) w' [(if l2 = true then Ent.row 68 3 (.slice ax1 N.moves.length cx1) N.moves.length (N.moves.flatMap moveCells) else Ent.nil), (if l2 = true then Ent.row 3 1 (.slice ax2 N.firsts.length cx2) N.firsts.length (intCells N.firsts) else Ent.nil), (if l2 = true then Ent.row 3 1 (.slice ax3 N.ends.length cx3) N.ends.length (intCells N.ends) else Ent.nil)]) ?_ ?_ ?_
    · rintro listed a w' ⟨l0, l1, l2, l3, l4, ax1, ax2, ax3, cx1, cx2, cx3, rfl, rfl, hS⟩ i hi
      obtain ⟨hun, o, ho, hall⟩ := mem_ready.1 hi
      have hlt := (Array.getElem?_eq_some_iff.1 ho).1
      refine wpOp_step ho (fun K hK => ?_)
      clear hi
      have HS := Lib.hid hS
      clear hS
      simp only [List.setIfInBounds_toArray, List.set_cons_zero, List.set_cons_succ, Array.getD_eq_getD_getElem?, List.getElem?_toArray, List.getElem?_cons_zero, List.getElem?_cons_succ, Option.getD_some]
      obtain h | h | h | h | h : i = 0 ∨ i = 1 ∨ i = 2 ∨ i = 3 ∨ i = 4 := by simp at hlt; omega
      all_goals subst h
      all_goals simp only [List.getElem?_toArray, List.getElem?_cons_zero, List.getElem?_cons_succ, Option.some.injEq] at ho
      all_goals subst ho
      all_goals simp [Region.binds] at hun hall
      · subst hun
        have e0 := (bcell HS.out.bel (w2.heap.size) 0 HltC.out).trans C0.out
        have e1 := (bcell HS.out.bel (w2.heap.size) 1 HltC.out).trans C1.out
        have e2 := (bcell HS.out.bel (w2.heap.size) 2 HltC.out).trans C2.out
        have e3 := (bcell HS.out.bel (w2.heap.size) 3 HltC.out).trans C3.out
        go_simp
        exact hK _ _ ⟨true, l1, l2, l3, l4, ax1, ax2, ax3, cx1, cx2, cx3, rfl, (by simp only [↓reduceIte, List.setIfInBounds_toArray, List.set_cons_zero, List.set_cons_succ, Array.getD_eq_getD_getElem?, List.getElem?_toArray, List.getElem?_cons_zero, List.getElem?_cons_succ, Option.getD_some]), HS.out⟩
      · subst hun
        have e0 := (bcell HS.out.bel (w1.heap.size) 0 HltD.out).trans D0.out
        have e1 := (bcell HS.out.bel (w1.heap.size) 1 HltD.out).trans D1.out
        go_simp
        exact hK _ _ ⟨l0, true, l2, l3, l4, ax1, ax2, ax3, cx1, cx2, cx3, rfl, (by simp only [↓reduceIte, List.setIfInBounds_toArray, List.set_cons_zero, List.set_cons_succ, Array.getD_eq_getD_getElem?, List.getElem?_toArray, List.getElem?_cons_zero, List.getElem?_cons_succ, Option.getD_some]), HS.out⟩
      · obtain rfl := hall
        subst hun
        go_simp
        go_at_call 18
        refine (specNfaOfQ_any d N HhN.out _ _ (HR2.out.below HS.out.bel)).mono ?_
        rintro e uw ⟨z1, u1, z2, u2, z3, u3, rfl, hr⟩
        have hS2 := (HS.out.cat hr).pick [3, 4, 5] (by decide)
        have HhS2 := Lib.hid hS2; clear hS2
        go_simp
        exact hK _ _ ⟨l0, true, true, l3, l4, z1, z2, z3, u1, u2, u3, rfl, (by simp only [↓reduceIte, List.setIfInBounds_toArray, List.set_cons_zero, List.set_cons_succ, Array.getD_eq_getD_getElem?, List.getElem?_toArray, List.getElem?_cons_zero, List.getElem?_cons_succ, Option.getD_some]), HhS2.out⟩
      · obtain ⟨rfl, rfl⟩ := hall
        subst hun
        go_simp
        go_at_call 17
        refine (sameNfa_any N _ _ _ (HN.out.below HS.out.bel) (nfaR_rows HS.out 0 1 2 rfl rfl rfl Ns0 Ns1)).mono ?_
        rintro e u1 ⟨rfl, hb⟩
        have hS2 := HS.out.call hb
        have HhS2 := Lib.hid hS2; clear hS2
        go_simp
        exact hK _ _ ⟨true, l1, true, true, l4, ax1, ax2, ax3, cx1, cx2, cx3, rfl, (by simp only [↓reduceIte, List.setIfInBounds_toArray, List.set_cons_zero, List.set_cons_succ, Array.getD_eq_getD_getElem?, List.getElem?_toArray, List.getElem?_cons_zero, List.getElem?_cons_succ, Option.getD_some]), HhS2.out⟩
      · obtain rfl := hall
        subst hun
        go_simp
        exact hK _ _ ⟨l0, l1, l2, true, true, ax1, ax2, ax3, cx1, cx2, cx3, rfl, (by simp only [↓reduceIte, List.setIfInBounds_toArray, List.set_cons_zero, List.set_cons_succ, Array.getD_eq_getD_getElem?, List.getElem?_toArray, List.getElem?_cons_zero, List.getElem?_cons_succ, Option.getD_some]), HS.out⟩
    · rintro listed a w' ⟨l0, l1, l2, l3, l4, ax1, ax2, ax3, cx1, cx2, cx3, rfl, rfl, hS⟩ hr
      have hall := ready_nilM (by kernel_rfl) rfl hr
      obtain rfl : l0 = true := by simpa using hall 0 (by simp)
      obtain rfl : l1 = true := by simpa using hall 1 (by simp)
      obtain rfl : l2 = true := by simpa using hall 2 (by simp)
      obtain rfl : l3 = true := by simpa using hall 3 (by simp)
      obtain rfl : l4 = true := by simpa using hall 4 (by simp)
      clear hall hr 
      simp only [↓reduceIte] at hS ⊢
      simp only [List.setIfInBounds_toArray, List.set_cons_zero, List.set_cons_succ]
      have HS4 := Lib.hid (HS2.out.call hS.bel)
      have HR4 := Lib.hid (HR2.out.below hS.bel)
      have HN4 := Lib.hid (HN.out.below hS.bel)
      clear hS
      obtain ⟨w4, hw4⟩ : ∃ u : World, u = w' := ⟨_, rfl⟩
      subst hw4
      clear D0 D1 C0 C1 C2 C3 HltD HltC
      have e0 := HS4.out.cell (v := .slice a1 d.next.length c1) 0 0 rfl rfl
      have e1 := HS4.out.cell (v := .slice a2 d.ends.length c2) 0 1 rfl rfl
      go_wp2_with fail
      refine (specDfaValidD2_any d _ _ HR4.out true Hhok.out).mono ?_
      rintro e w5 ⟨rfl, hb⟩
      have HS5 := Lib.hid (HS4.out.call hb)
      have HR5 := Lib.hid (HR4.out.below hb)
      have HN5 := Lib.hid (HN4.out.below hb)
      clear hb e0 e1
      have e0 := HS5.out.cell (v := .int .i64 N.states) 4 0 rfl rfl
      have e1 := HS5.out.cell (v := .slice x1 N.moves.length y1) 4 1 rfl rfl
      have e2 := HS5.out.cell (v := .slice x2 N.firsts.length y2) 4 2 rfl rfl
      have e3 := HS5.out.cell (v := .slice x3 N.ends.length y3) 4 3 rfl rfl
      go_wp2_with fail
      refine (implDet_any N X true HhX.out Hhfb.out _ _ HN5.out).mono ?_
      rintro e w6 ⟨⟨p1, q1, p2, q2, rfl, hx⟩, hb⟩
      have HS6 := Lib.hid ((HS5.out.call hb).alloc _ rfl #[.slice p1 X.next.length q1, .slice p2 X.ends.length q2] 26)
      have HX6 := Lib.hid (((hx.r).mono (Nat.zero_le _)).below ((Below.refl w6.heap.size w6).alloc (Nat.le_refl _) (.cells #[.slice p1 X.next.length q1, .slice p2 X.ends.length q2] 26)))
      have HR6 := Lib.hid ((HR5.out.below hb).below ((Below.refl w6.heap.size w6).alloc (Nat.le_refl _) (.cells #[.slice p1 X.next.length q1, .slice p2 X.ends.length q2] 26)))
      have HN6 := Lib.hid ((HN5.out.below hb).below ((Below.refl w6.heap.size w6).alloc (Nat.le_refl _) (.cells #[.slice p1 X.next.length q1, .slice p2 X.ends.length q2] 26)))
      clear hb hx e0 e1 e2 e3
      have D0 := Lib.hid (HS6.out.cell (v := .slice a1 d.next.length c1) 0 0 rfl rfl)
      have D1 := Lib.hid (HS6.out.cell (v := .slice a2 d.ends.length c2) 0 1 rfl rfl)
      have HltD := Lib.hid (HS6.out.boxlt 0 rfl).2
      have C0 := Lib.hid (HS6.out.cell (v := .int .i64 N.states) 4 0 rfl rfl)
      have C1 := Lib.hid (HS6.out.cell (v := .slice x1 N.moves.length y1) 4 1 rfl rfl)
      have C2 := Lib.hid (HS6.out.cell (v := .slice x2 N.firsts.length y2) 4 2 rfl rfl)
      have C3 := Lib.hid (HS6.out.cell (v := .slice x3 N.ends.length y3) 4 3 rfl rfl)
      have HltC := Lib.hid (HS6.out.boxlt 4 rfl).2
      have P0 := Lib.hid (HS6.out.cell (v := .slice p1 X.next.length q1) 5 0 rfl rfl)
      have P1 := Lib.hid (HS6.out.cell (v := .slice p2 X.ends.length q2) 5 1 rfl rfl)
      have HltP := Lib.hid (HS6.out.boxlt 5 rfl).2
      go_wp2
      refine wp_region_any (by kernel_rfl) ?_
      refine wpAny_invA (fun A listed a w' => ∃ (l0 l1 l2 l3 l4 l5 l6 l7 l8 l9 l10 l11 l12 l13 l14 l15 l16 l17 l18 l19 l20 l21 : Bool) (ax1 : Option Addr) (cx1 : Nat) (ax2 : Option Addr) (cx2 : Nat) (vs : List Value), listed = #[l0, l1, l2, l3, l4, l5, l6, l7, l8, l9, l10, l11, l12, l13, l14, l15, l16, l17, l18, l19, l20, l21] ∧
          a = ⟨((((((((((((((((((((((A.tmps.setIfInBounds 33 (if l0 = true then .agg #[.int .i64 N.states, .slice x1 N.moves.length y1, .slice x2 N.firsts.length y2, .slice x3 N.ends.length y3] else A.tmps.getD 33 undef)).setIfInBounds 34 (if l1 = true then .bool true else A.tmps.getD 34 undef)).setIfInBounds 35 (if l2 = true then .bool true else A.tmps.getD 35 undef)).setIfInBounds 36 (if l3 = true then .bool true else A.tmps.getD 36 undef)).setIfInBounds 37 (if l4 = true then .bool true else A.tmps.getD 37 undef)).setIfInBounds 38 (if l5 = true then .bool true else A.tmps.getD 38 undef)).setIfInBounds 39 (if l6 = true then .agg #[.slice p1 X.next.length q1, .slice p2 X.ends.length q2] else A.tmps.getD 39 undef)).setIfInBounds 40 (if l7 = true then .agg #[.slice a1 d.next.length c1, .slice a2 d.ends.length c2] else A.tmps.getD 40 undef)).setIfInBounds 41 (if l8 = true then .agg #[.slice ax1 X.next.length cx1, .slice ax2 X.ends.length cx2] else A.tmps.getD 41 undef)).setIfInBounds 42 (if l9 = true then .bool true else A.tmps.getD 42 undef)).setIfInBounds 43 (if l10 = true then .bool true else A.tmps.getD 43 undef)).setIfInBounds 44 (if l11 = true then .bool true else A.tmps.getD 44 undef)).setIfInBounds 45 (if l12 = true then .pointer (some ⟨w2.heap.size, 1, none⟩) else A.tmps.getD 45 undef)).setIfInBounds 46 (if l13 = true then .slice x1 N.moves.length y1 else A.tmps.getD 46 undef)).setIfInBounds 47 (if l14 = true then .int .i64 (N.moves.length : Int) else A.tmps.getD 47 undef)).setIfInBounds 48 (if l15 = true then .pointer (some ⟨w1.heap.size, 0, none⟩) else A.tmps.getD 48 undef)).setIfInBounds 49 (if l16 = true then .slice a1 d.next.length c1 else A.tmps.getD 49 undef)).setIfInBounds 50 (if l17 = true then .int .i64 (d.next.length : Int) else A.tmps.getD 50 undef)).setIfInBounds 51 (if l18 = true then .int .i64 (3 * (d.next.length : Int)) else A.tmps.getD 51 undef)).setIfInBounds 52 (if l19 = true then .bool true else A.tmps.getD 52 undef)).setIfInBounds 53 (if l20 = true then .bool true else A.tmps.getD 53 undef)).setIfInBounds 2 (.bool l21)), A.defers⟩ ∧
          St (w6.alloc (.cells #[.slice p1 X.next.length q1, .slice p2 X.ends.length q2] 26)) w' [(if l8 = true then Ent.rows 29 3 (.slice ax1 X.next.length cx1) vs (X.next.map intCells) else Ent.nil), (if l8 = true then Ent.row 4 1 (.slice ax2 X.ends.length cx2) X.ends.length (boolCells X.ends) else Ent.nil)]) ?_ ?_ ?_
      · rintro listed a w' ⟨l0, l1, l2, l3, l4, l5, l6, l7, l8, l9, l10, l11, l12, l13, l14, l15, l16, l17, l18, l19, l20, l21, ax1, cx1, ax2, cx2, vs, rfl, rfl, hS⟩ i hi
        obtain ⟨hun, o, ho, hall⟩ := mem_ready.1 hi
        have hlt := (Array.getElem?_eq_some_iff.1 ho).1
        refine wpOp_step ho (fun K hK => ?_)
        clear hi
        have HS := Lib.hid hS
        clear hS
        simp only [List.setIfInBounds_toArray, List.set_cons_zero, List.set_cons_succ, Array.getD_eq_getD_getElem?, List.getElem?_toArray, List.getElem?_cons_zero, List.getElem?_cons_succ, Option.getD_some]
        obtain h | h | h | h | h | h | h | h | h | h | h | h | h | h | h | h | h | h | h | h | h | h : i = 0 ∨ i = 1 ∨ i = 2 ∨ i = 3 ∨ i = 4 ∨ i = 5 ∨ i = 6 ∨ i = 7 ∨ i = 8 ∨ i = 9 ∨ i = 10 ∨ i = 11 ∨ i = 12 ∨ i = 13 ∨ i = 14 ∨ i = 15 ∨ i = 16 ∨ i = 17 ∨ i = 18 ∨ i = 19 ∨ i = 20 ∨ i = 21 := by simp at hlt; omega
        all_goals subst h
        all_goals simp only [List.getElem?_toArray, List.getElem?_cons_zero, List.getElem?_cons_succ, Option.some.injEq] at ho
        all_goals subst ho
        all_goals simp [Region.binds] at hun hall
        · subst hun
          have e0 := (bcell HS.out.bel (w2.heap.size) 0 HltC.out).trans C0.out
          have e1 := (bcell HS.out.bel (w2.heap.size) 1 HltC.out).trans C1.out
          have e2 := (bcell HS.out.bel (w2.heap.size) 2 HltC.out).trans C2.out
          have e3 := (bcell HS.out.bel (w2.heap.size) 3 HltC.out).trans C3.out
          go_simp
          exact hK _ _ ⟨true, l1, l2, l3, l4, l5, l6, l7, l8, l9, l10, l11, l12, l13, l14, l15, l16, l17, l18, l19, l20, l21, ax1, cx1, ax2, cx2, vs, rfl, (by simp only [↓reduceIte, List.setIfInBounds_toArray, List.set_cons_zero, List.set_cons_succ, Array.getD_eq_getD_getElem?, List.getElem?_toArray, List.getElem?_cons_zero, List.getElem?_cons_succ, Option.getD_some]), HS.out⟩
        · obtain rfl := hall
          subst hun
          go_simp
          go_at_call 22
          refine (implNfaValid_any N _ _ (HN6.out.below HS.out.bel) _ Hhno.out).mono ?_
          rintro e u1 ⟨rfl, hb⟩
          have hS2 := HS.out.call hb
          have HhS2 := Lib.hid hS2; clear hS2
          go_simp
          exact hK _ _ ⟨true, true, l2, l3, l4, l5, l6, l7, l8, l9, l10, l11, l12, l13, l14, l15, l16, l17, l18, l19, l20, l21, ax1, cx1, ax2, cx2, vs, rfl, (by simp only [↓reduceIte, List.setIfInBounds_toArray, List.set_cons_zero, List.set_cons_succ, Array.getD_eq_getD_getElem?, List.getElem?_toArray, List.getElem?_cons_zero, List.getElem?_cons_succ, Option.getD_some]), HhS2.out⟩
        · obtain rfl := hall
          subst hun
          go_simp
          exact hK _ _ ⟨l0, true, true, l3, l4, l5, l6, l7, l8, l9, l10, l11, l12, l13, l14, l15, l16, l17, l18, l19, l20, l21, ax1, cx1, ax2, cx2, vs, rfl, (by simp only [↓reduceIte, List.setIfInBounds_toArray, List.set_cons_zero, List.set_cons_succ, Array.getD_eq_getD_getElem?, List.getElem?_toArray, List.getElem?_cons_zero, List.getElem?_cons_succ, Option.getD_some]), HS.out⟩
        · obtain rfl := hall
          subst hun
          go_simp
          exact hK _ _ ⟨l0, l1, true, true, l4, l5, l6, l7, l8, l9, l10, l11, l12, l13, l14, l15, l16, l17, l18, l19, l20, l21, ax1, cx1, ax2, cx2, vs, rfl, (by simp only [↓reduceIte, List.setIfInBounds_toArray, List.set_cons_zero, List.set_cons_succ, Array.getD_eq_getD_getElem?, List.getElem?_toArray, List.getElem?_cons_zero, List.getElem?_cons_succ, Option.getD_some]), HS.out⟩
        · obtain ⟨rfl, rfl⟩ := hall
          subst hun
          go_simp
          exact hK _ _ ⟨l0, l1, true, true, true, l5, l6, l7, l8, l9, l10, l11, l12, l13, l14, l15, l16, l17, l18, l19, l20, l21, ax1, cx1, ax2, cx2, vs, rfl, (by simp only [↓reduceIte, List.setIfInBounds_toArray, List.set_cons_zero, List.set_cons_succ, Array.getD_eq_getD_getElem?, List.getElem?_toArray, List.getElem?_cons_zero, List.getElem?_cons_succ, Option.getD_some]), HS.out⟩
        · obtain ⟨rfl, rfl⟩ := hall
          subst hun
          go_simp
          exact hK _ _ ⟨l0, l1, true, l3, true, true, l6, l7, l8, l9, l10, l11, l12, l13, l14, l15, l16, l17, l18, l19, l20, l21, ax1, cx1, ax2, cx2, vs, rfl, (by simp only [↓reduceIte, List.setIfInBounds_toArray, List.set_cons_zero, List.set_cons_succ, Array.getD_eq_getD_getElem?, List.getElem?_toArray, List.getElem?_cons_zero, List.getElem?_cons_succ, Option.getD_some]), HS.out⟩
        · obtain rfl := hall
          subst hun
          have e0 := (bcell HS.out.bel (w6.heap.size) 0 HltP.out).trans P0.out
          have e1 := (bcell HS.out.bel (w6.heap.size) 1 HltP.out).trans P1.out
          go_simp
          exact hK _ _ ⟨l0, l1, l2, l3, l4, true, true, l7, l8, l9, l10, l11, l12, l13, l14, l15, l16, l17, l18, l19, l20, l21, ax1, cx1, ax2, cx2, vs, rfl, (by simp only [↓reduceIte, List.setIfInBounds_toArray, List.set_cons_zero, List.set_cons_succ, Array.getD_eq_getD_getElem?, List.getElem?_toArray, List.getElem?_cons_zero, List.getElem?_cons_succ, Option.getD_some]), HS.out⟩
        · obtain rfl := hall
          subst hun
          have e0 := (bcell HS.out.bel (w1.heap.size) 0 HltD.out).trans D0.out
          have e1 := (bcell HS.out.bel (w1.heap.size) 1 HltD.out).trans D1.out
          go_simp
          exact hK _ _ ⟨l0, l1, l2, l3, l4, true, l6, true, l8, l9, l10, l11, l12, l13, l14, l15, l16, l17, l18, l19, l20, l21, ax1, cx1, ax2, cx2, vs, rfl, (by simp only [↓reduceIte, List.setIfInBounds_toArray, List.set_cons_zero, List.set_cons_succ, Array.getD_eq_getD_getElem?, List.getElem?_toArray, List.getElem?_cons_zero, List.getElem?_cons_succ, Option.getD_some]), HS.out⟩
        · obtain ⟨rfl, rfl⟩ := hall
          subst hun
          go_simp
          go_at_call 24
          refine (implDfaTrim_any d _ _ Hhok.out (HR6.out.below HS.out.bel) X HhT.out).mono ?_
          rintro e u1 ⟨z1, z2, z3, z4, zs, rfl, hr⟩
          have hS2 := (HS.out.cat hr).pick [2, 3] (by decide)
          have HhS2 := Lib.hid hS2; clear hS2
          go_simp
          exact hK _ _ ⟨l0, l1, l2, l3, l4, true, l6, true, true, l9, l10, l11, l12, l13, l14, l15, l16, l17, l18, l19, l20, l21, z1, z2, z3, z4, zs, rfl, (by simp only [↓reduceIte, List.setIfInBounds_toArray, List.set_cons_zero, List.set_cons_succ, Array.getD_eq_getD_getElem?, List.getElem?_toArray, List.getElem?_cons_zero, List.getElem?_cons_succ, Option.getD_some]), HhS2.out⟩
        · obtain ⟨rfl, rfl, rfl⟩ := hall
          subst hun
          go_simp
          go_at_call 23
          refine (sameDfa_any X _ _ _ (HX6.out.below HS.out.bel) (dfaR_rows HS.out 0 1 rfl rfl)).mono ?_
          rintro e u1 ⟨rfl, hb⟩
          have hS2 := HS.out.call hb
          have HhS2 := Lib.hid hS2; clear hS2
          go_simp
          exact hK _ _ ⟨l0, l1, l2, l3, l4, true, true, l7, true, true, l10, l11, l12, l13, l14, l15, l16, l17, l18, l19, l20, l21, ax1, cx1, ax2, cx2, vs, rfl, (by simp only [↓reduceIte, List.setIfInBounds_toArray, List.set_cons_zero, List.set_cons_succ, Array.getD_eq_getD_getElem?, List.getElem?_toArray, List.getElem?_cons_zero, List.getElem?_cons_succ, Option.getD_some]), HhS2.out⟩
        · obtain ⟨rfl, rfl⟩ := hall
          subst hun
          go_simp
          exact hK _ _ ⟨l0, l1, l2, l3, l4, true, l6, l7, l8, true, true, l11, l12, l13, l14, l15, l16, l17, l18, l19, l20, l21, ax1, cx1, ax2, cx2, vs, rfl, (by simp only [↓reduceIte, List.setIfInBounds_toArray, List.set_cons_zero, List.set_cons_succ, Array.getD_eq_getD_getElem?, List.getElem?_toArray, List.getElem?_cons_zero, List.getElem?_cons_succ, Option.getD_some]), HS.out⟩
        · obtain ⟨rfl, rfl⟩ := hall
          subst hun
          go_simp
          exact hK _ _ ⟨l0, l1, l2, l3, l4, l5, l6, l7, l8, true, true, true, l12, l13, l14, l15, l16, l17, l18, l19, l20, l21, ax1, cx1, ax2, cx2, vs, rfl, (by simp only [↓reduceIte, List.setIfInBounds_toArray, List.set_cons_zero, List.set_cons_succ, Array.getD_eq_getD_getElem?, List.getElem?_toArray, List.getElem?_cons_zero, List.getElem?_cons_succ, Option.getD_some]), HS.out⟩
        · obtain rfl := hall
          subst hun
          go_simp
          exact hK _ _ ⟨l0, l1, l2, l3, l4, l5, l6, l7, l8, l9, l10, true, true, l13, l14, l15, l16, l17, l18, l19, l20, l21, ax1, cx1, ax2, cx2, vs, rfl, (by simp only [↓reduceIte, List.setIfInBounds_toArray, List.set_cons_zero, List.set_cons_succ, Array.getD_eq_getD_getElem?, List.getElem?_toArray, List.getElem?_cons_zero, List.getElem?_cons_succ, Option.getD_some]), HS.out⟩
        · obtain ⟨rfl, rfl⟩ := hall
          subst hun
          have e0 := (bcell HS.out.bel (w2.heap.size) 1 HltC.out).trans C1.out
          go_simp
          exact hK _ _ ⟨l0, l1, l2, l3, l4, l5, l6, l7, l8, l9, l10, true, true, true, l14, l15, l16, l17, l18, l19, l20, l21, ax1, cx1, ax2, cx2, vs, rfl, (by simp only [↓reduceIte, List.setIfInBounds_toArray, List.set_cons_zero, List.set_cons_succ, Array.getD_eq_getD_getElem?, List.getElem?_toArray, List.getElem?_cons_zero, List.getElem?_cons_succ, Option.getD_some]), HS.out⟩
        · obtain ⟨rfl, rfl⟩ := hall
          subst hun
          go_simp
          exact hK _ _ ⟨l0, l1, l2, l3, l4, l5, l6, l7, l8, l9, l10, true, l12, true, true, l15, l16, l17, l18, l19, l20, l21, ax1, cx1, ax2, cx2, vs, rfl, (by simp only [↓reduceIte, List.setIfInBounds_toArray, List.set_cons_zero, List.set_cons_succ, Array.getD_eq_getD_getElem?, List.getElem?_toArray, List.getElem?_cons_zero, List.getElem?_cons_succ, Option.getD_some]), HS.out⟩
        · obtain rfl := hall
          subst hun
          go_simp
          exact hK _ _ ⟨l0, l1, l2, l3, l4, l5, l6, l7, l8, l9, l10, true, l12, l13, l14, true, l16, l17, l18, l19, l20, l21, ax1, cx1, ax2, cx2, vs, rfl, (by simp only [↓reduceIte, List.setIfInBounds_toArray, List.set_cons_zero, List.set_cons_succ, Array.getD_eq_getD_getElem?, List.getElem?_toArray, List.getElem?_cons_zero, List.getElem?_cons_succ, Option.getD_some]), HS.out⟩
        · obtain ⟨rfl, rfl⟩ := hall
          subst hun
          have e0 := (bcell HS.out.bel (w1.heap.size) 0 HltD.out).trans D0.out
          go_simp
          exact hK _ _ ⟨l0, l1, l2, l3, l4, l5, l6, l7, l8, l9, l10, true, l12, l13, l14, true, true, l17, l18, l19, l20, l21, ax1, cx1, ax2, cx2, vs, rfl, (by simp only [↓reduceIte, List.setIfInBounds_toArray, List.set_cons_zero, List.set_cons_succ, Array.getD_eq_getD_getElem?, List.getElem?_toArray, List.getElem?_cons_zero, List.getElem?_cons_succ, Option.getD_some]), HS.out⟩
        · obtain ⟨rfl, rfl⟩ := hall
          subst hun
          go_simp
          exact hK _ _ ⟨l0, l1, l2, l3, l4, l5, l6, l7, l8, l9, l10, true, l12, l13, l14, l15, true, true, l18, l19, l20, l21, ax1, cx1, ax2, cx2, vs, rfl, (by simp only [↓reduceIte, List.setIfInBounds_toArray, List.set_cons_zero, List.set_cons_succ, Array.getD_eq_getD_getElem?, List.getElem?_toArray, List.getElem?_cons_zero, List.getElem?_cons_succ, Option.getD_some]), HS.out⟩
        · obtain ⟨rfl, rfl⟩ := hall
          subst hun
          have hw3 : IntKind.i64.wrap (3 * (d.next.length : Int)) = 3 * (d.next.length : Int) := IntWalk.i64_in _ (by omega)
          go_simp
          exact hK _ _ ⟨l0, l1, l2, l3, l4, l5, l6, l7, l8, l9, l10, true, l12, l13, l14, l15, l16, true, true, l19, l20, l21, ax1, cx1, ax2, cx2, vs, rfl, (by simp only [↓reduceIte, List.setIfInBounds_toArray, List.set_cons_zero, List.set_cons_succ, Array.getD_eq_getD_getElem?, List.getElem?_toArray, List.getElem?_cons_zero, List.getElem?_cons_succ, Option.getD_some]), HS.out⟩
        · obtain ⟨rfl, rfl, rfl⟩ := hall
          subst hun
          go_simp
          exact hK _ _ ⟨l0, l1, l2, l3, l4, l5, l6, l7, l8, l9, l10, true, l12, l13, true, l15, l16, l17, true, true, l20, l21, ax1, cx1, ax2, cx2, vs, rfl, (by simp only [↓reduceIte, List.setIfInBounds_toArray, List.set_cons_zero, List.set_cons_succ, Array.getD_eq_getD_getElem?, List.getElem?_toArray, List.getElem?_cons_zero, List.getElem?_cons_succ, Option.getD_some]), HS.out⟩
        · obtain ⟨rfl, rfl⟩ := hall
          subst hun
          go_simp
          exact hK _ _ ⟨l0, l1, l2, l3, l4, l5, l6, l7, l8, l9, l10, true, l12, l13, l14, l15, l16, l17, l18, true, true, l21, ax1, cx1, ax2, cx2, vs, rfl, (by simp only [↓reduceIte, List.setIfInBounds_toArray, List.set_cons_zero, List.set_cons_succ, Array.getD_eq_getD_getElem?, List.getElem?_toArray, List.getElem?_cons_zero, List.getElem?_cons_succ, Option.getD_some]), HS.out⟩
        · obtain ⟨rfl, rfl, rfl, rfl, rfl, rfl, rfl, rfl, rfl, rfl, rfl, rfl, rfl, -, rfl, rfl, rfl, rfl, rfl, rfl, rfl, rfl, -⟩ := hall
          subst hun
          go_simp
          exact hK _ _ ⟨true, true, true, true, true, true, true, true, true, true, true, true, true, true, true, true, true, true, true, true, true, true, ax1, cx1, ax2, cx2, vs, rfl, (by simp only [↓reduceIte, List.setIfInBounds_toArray, List.set_cons_zero, List.set_cons_succ]), HS.out⟩
      · rintro listed a w' ⟨l0, l1, l2, l3, l4, l5, l6, l7, l8, l9, l10, l11, l12, l13, l14, l15, l16, l17, l18, l19, l20, l21, ax1, cx1, ax2, cx2, vs, rfl, rfl, hS⟩ hr
        have hall := ready_nilM (by kernel_rfl) rfl hr
        obtain rfl : l0 = true := by simpa using hall 0 (by simp)
        obtain rfl : l1 = true := by simpa using hall 1 (by simp)
        obtain rfl : l2 = true := by simpa using hall 2 (by simp)
        obtain rfl : l3 = true := by simpa using hall 3 (by simp)
        obtain rfl : l4 = true := by simpa using hall 4 (by simp)
        obtain rfl : l5 = true := by simpa using hall 5 (by simp)
        obtain rfl : l6 = true := by simpa using hall 6 (by simp)
        obtain rfl : l7 = true := by simpa using hall 7 (by simp)
        obtain rfl : l8 = true := by simpa using hall 8 (by simp)
        obtain rfl : l9 = true := by simpa using hall 9 (by simp)
        obtain rfl : l10 = true := by simpa using hall 10 (by simp)
        obtain rfl : l11 = true := by simpa using hall 11 (by simp)
        obtain rfl : l12 = true := by simpa using hall 12 (by simp)
        obtain rfl : l13 = true := by simpa using hall 13 (by simp)
        obtain rfl : l14 = true := by simpa using hall 14 (by simp)
        obtain rfl : l15 = true := by simpa using hall 15 (by simp)
        obtain rfl : l16 = true := by simpa using hall 16 (by simp)
        obtain rfl : l17 = true := by simpa using hall 17 (by simp)
        obtain rfl : l18 = true := by simpa using hall 18 (by simp)
        obtain rfl : l19 = true := by simpa using hall 19 (by simp)
        obtain rfl : l20 = true := by simpa using hall 20 (by simp)
        obtain rfl : l21 = true := by simpa using hall 21 (by simp)
        clear hall hr 
        simp only [↓reduceIte] at hS ⊢
        simp only [List.setIfInBounds_toArray, List.set_cons_zero, List.set_cons_succ]
        have HSf := Lib.hid hS
        clear hS
        go_wp2
        go_ret
        exact ⟨rfl, HS6.out.bel.trans (HSf.out.bel.mono HS6.out.bel.size)⟩
      · refine ⟨false, false, false, false, false, false, false, false, false, false, false, false, false, false, false, false, false, false, false, false, false, false, none, 0, none, 0, [], rfl, (by simp only [↓reduceIte, Bool.false_eq_true, List.setIfInBounds_toArray, List.set_cons_zero, List.set_cons_succ, Array.getD_eq_getD_getElem?, List.getElem?_toArray, List.getElem?_cons_zero, List.getElem?_cons_succ, Option.getD_some]), ?_⟩
        exact (St.start (w6.alloc (.cells #[.slice p1 X.next.length q1, .slice p2 X.ends.length q2] 26))).drew.pick [0, 1] (by decide)

    · refine ⟨false, false, false, false, false, none, none, none, 0, 0, 0, rfl, (by simp only [↓reduceIte, Bool.false_eq_true, List.setIfInBounds_toArray, List.set_cons_zero, List.set_cons_succ, Array.getD_eq_getD_getElem?, List.getElem?_toArray, List.getElem?_cons_zero, List.getElem?_cons_succ, Option.getD_some]), ?_⟩
      exact (St.start (w2.alloc (.cells #[.int .i64 N.states, .slice x1 N.moves.length y1, .slice x2 N.firsts.length y2, .slice x3 N.ends.length y3] 31))).drew.pick [0, 1, 2] (by decide)
end Go.Proofs.Ythhbjkgchabfmaa
