/-
  The walks over the program's turnedExpr, by the tree, and over TurnExpr.
  Conditions: the expression reads as such.
-/
import Derived.Test.YtfgpkadhegdffaaPk09Opd
import Derived.Test.YtfgpkadhegdffaaPk11Lm
namespace Go.Proofs.Ytfgpkadhegdffaa
open Go.RowKit
def TurnC (t : Ex) : Prop := ∀ (v : Value) (w : World), Pairs 0 w v t.post → Calls Try.prog 32 #[v] w fun e w' => RPo (turnX t).post w e w'
set_option maxRecDepth 100000 in
set_option maxHeartbeats 8000000 in
theorem turned_join (ta tb : Ex) (h60 : (Ex.join ta tb).post.length ≤ 60) (ha : TurnC ta) (hb : TurnC tb) : TurnC (Ex.join ta tb) := by
  intro v w h
  obtain ⟨i0, hi, hz0, hz1, hz2⟩ := info_parts Try.infoPart
  have hP := h
  rw [show (Ex.join ta tb).post = (ta.post ++ tb.post) ++ [(4, 0)] from rfl] at hP
  obtain ⟨bb, off, cap, rfl, hc1, hc2, hbl, hcell⟩ := lastP hP
  obtain ⟨m, hm⟩ : ∃ m, m = (ta.post ++ tb.post).length := ⟨_, rfl⟩
  rw [← hm] at hc1 hcell
  have hop := fun (u : World) (hu : Below w.heap.size w u) => operands2w_any ta tb (.join ta tb) 4 0 rfl pn_join _ u h60 (h.below hu)
  have hab : ta.post.length + tb.post.length ≤ 59 := by simp [Ex.post] at h60; omega
  have hla : (turnX ta).post.length ≤ 1000 := by rw [turnX_len]; omega
  have hlb : (turnX tb).post.length ≤ 1000 := by rw [turnX_len]; omega
  have hlab : ((turnX tb).post ++ (turnX ta).post).length ≤ 2000 := by simp; omega
  have hmI : m ≤ 59 := by rw [hm]; simp; omega
  rw [← hm] at hop
  rw [← hm]
  obtain ⟨T, hT⟩ : ∃ T, (turnX tb).post ++ (turnX ta).post = T := ⟨_, rfl⟩
  rw [hT] at hlab
  have hpo : (turnX (.join ta tb)).post = T ++ [(4, 0)] := by rw [← hT]; rfl
  have hlen : (turnX (.join ta tb)).post.length = T.length + 1 := by rw [hpo]; simp
  have hcel : (turnX (.join ta tb)).post.flatMap pairCells = T.flatMap pairCells ++ [.int .i64 4, .int .i64 0] := by rw [hpo]; simp [pairCells]
  have HOP := Lib.hid hop
  have Hcell := Lib.hid hcell
  have HA := Lib.hid ha
  have HB := Lib.hid hb
  have hcw := hcell w (Below.refl _ _)
  obtain ⟨k1, k2⟩ := hcw
  have hw1 : IntKind.i64.wrap ((m : Int) + 1 - 1) = (m : Int) := by rw [IntWalk.i64_in _ (by omega)]; omega
  have Hhi := Lib.hid hi; clear hi
  have Hhz0 := Lib.hid hz0; clear hz0
  have Hhz1 := Lib.hid hz1; clear hz1
  have Hhz2 := Lib.hid hz2; clear hz2
  have Hhm := Lib.hid hm; clear hm
  have HhT := Lib.hid hT; clear hT
  have Hhpo := Lib.hid hpo; clear hpo
  have Hhlen := Lib.hid hlen; clear hlen
  have Hhcel := Lib.hid hcel; clear hcel
  clear h hP hcell hop ha hb
  go_enter Try.func32, Try.ntmps32
  go_wp2_with (go_at_call 64; refine (HOP.out _ (Below.refl _ _)).mono ?_; rintro e w1 ⟨g, va, vb, rfl, hS, hPa, hPb⟩; have HS1 := Lib.hid hS; have HPa := Lib.hid hPa; have HPb := Lib.hid hPb; clear hS hPa hPb)
  go_loopw [18] (fun i wr => (i = .int .i64 0 ∧ w1 = wr) ∨
    (∃ a1 c1, i = .int .i64 1 ∧ St w wr [Ent.row 23 1 (.slice (some ⟨g, 0, none⟩) 2 2) 2 [.slice a1 (turnX ta).post.length c1, vb], Ent.row 39 2 (.slice a1 (turnX ta).post.length c1) (turnX ta).post.length ((turnX ta).post.flatMap pairCells)]) ∨
    (∃ a1 c1 a2 c2, i = .int .i64 2 ∧ St w wr [Ent.row 23 1 (.slice (some ⟨g, 0, none⟩) 2 2) 2 [.slice a1 (turnX ta).post.length c1, .slice a2 (turnX tb).post.length c2], Ent.row 39 2 (.slice a1 (turnX ta).post.length c1) (turnX ta).post.length ((turnX ta).post.flatMap pairCells), Ent.row 39 2 (.slice a2 (turnX tb).post.length c2) (turnX tb).post.length ((turnX tb).post.flatMap pairCells)])) (fun i _ => 2 - (intOf i).toNat)
  case atStart => exact .inl ⟨rfl, rfl⟩
  case round =>
    rcases hrel with ⟨rfl, rfl⟩ | ⟨a1, c1, rfl, hS⟩ | ⟨a1, c1, a2, c2, rfl, hS⟩
    · have q0 := HS1.out.rcell (v := va) 0 0 rfl (by omega) rfl
      have f0 := HS1.out.rfr 0 0 rfl
      have HT := Lib.hid (fun (u : World) (hu : Below w.heap.size w u) => HA.out va u (HPa.out.below hu))
      go_wp2_with (go_at_call 32; refine (HT.out _ HS1.out.bel).mono ?_; rintro e w2 ⟨a3, c3, rfl, hS2⟩; have HS2 := Lib.hid (show St w w2 [Ent.row 23 1 (.slice (some ⟨g, 0, none⟩) 2 2) 2 [va, vb], Ent.row 39 2 (.slice a3 (turnX ta).post.length c3) (turnX ta).post.length ((turnX ta).post.flatMap pairCells)] from HS1.out.cat hS2); have q2 := HS2.out.rcell (v := va) 0 0 rfl (by omega) rfl; have f2 := HS2.out.rfr 0 0 rfl; clear hS2)
      go_roundw
      case rel => exact .inr (.inl ⟨a3, c3, rfl, HS2.out.store 0 rfl 0 (.slice a3 (turnX ta).post.length c3)⟩)
      case measure => simp [intOf]
    · have HS3 := Lib.hid hS
      have q0 := hS.rcell (v := vb) 0 1 rfl (by omega) rfl
      have f0 := hS.rfr 0 1 rfl
      have HT := Lib.hid (fun (u : World) (hu : Below w.heap.size w u) => HB.out vb u (HPb.out.below hu))
      clear hS
      go_wp2_with (go_at_call 32; refine (HT.out _ HS3.out.bel).mono ?_; rintro e w2 ⟨a3, c3, rfl, hS2⟩; have HS2 := Lib.hid (show St w w2 [Ent.row 23 1 (.slice (some ⟨g, 0, none⟩) 2 2) 2 [.slice a1 (turnX ta).post.length c1, vb], Ent.row 39 2 (.slice a1 (turnX ta).post.length c1) (turnX ta).post.length ((turnX ta).post.flatMap pairCells), Ent.row 39 2 (.slice a3 (turnX tb).post.length c3) (turnX tb).post.length ((turnX tb).post.flatMap pairCells)] from HS3.out.cat hS2); have q2 := HS2.out.rcell (v := vb) 0 1 rfl (by omega) rfl; have f2 := HS2.out.rfr 0 1 rfl; clear hS2)
      go_roundw
      case rel => exact .inr (.inr ⟨a1, c1, a3, c3, rfl, HS2.out.store 0 rfl 1 (.slice a3 (turnX tb).post.length c3)⟩)
      case measure => simp [intOf]
    · have HS4 := Lib.hid hS
      clear hS
      have q0 := HS4.out.rcell (v := .slice a1 (turnX ta).post.length c1) 0 0 rfl (by omega) rfl
      have q1 := HS4.out.rcell (v := .slice a2 (turnX tb).post.length c2) 0 1 rfl (by omega) rfl
      have f0 := HS4.out.rfr 0 0 rfl
      have f1 := HS4.out.rfr 0 1 rfl
      go_wp2
      go_region
      have HS5 := Lib.hid (show St w _ [Ent.row 23 1 (.slice (some ⟨g, 0, none⟩) 2 2) 2 [.slice a2 (turnX tb).post.length c2, .slice a1 (turnX ta).post.length c1], Ent.row 39 2 (.slice a1 (turnX ta).post.length c1) (turnX ta).post.length ((turnX ta).post.flatMap pairCells), Ent.row 39 2 (.slice a2 (turnX tb).post.length c2) (turnX tb).post.length ((turnX tb).post.flatMap pairCells)] from ((HS4.out.store 0 rfl 0 (.slice a2 (turnX tb).post.length c2)).store 0 rfl 1 (.slice a1 (turnX ta).post.length c1)).drew)
      go_wp2
      have hw2 : IntKind.i64.wrap (m : Int) = (m : Int) := IntWalk.i64_in _ (by omega)
      refine wp_region_any (by kernel_rfl) ?_
      refine wpAny_invA (fun A listed a w' => ∃ (l0 l1 l2 l3 l4 l5 l6 l7 l8 l9 l10 : Bool) (a9 : Option Addr) (c9 : Nat) (g7 : Nat) (c7 : Nat) (bn0 : Nat) (g7 : Nat) (c7 : Nat), listed = #[l0, l1, l2, l3, l4, l5, l6, l7, l8, l9, l10] ∧ (l9 = true → l1 = true) ∧ (l10 = true → l9 = true) ∧
          a = ⟨(((((((((((A.tmps.setIfInBounds 41 (if l0 = true then .slice (some ⟨g, 0, none⟩) 2 2 else A.tmps.getD 41 undef)).setIfInBounds 42 (if l1 = true then .slice a9 T.length c9 else A.tmps.getD 42 undef)).setIfInBounds 43 (if l2 = true then .slice (some ⟨bb, off, none⟩) (m + 1) cap else A.tmps.getD 43 undef)).setIfInBounds 44 (if l3 = true then .slice (some ⟨bb, off, none⟩) (m + 1) cap else A.tmps.getD 44 undef)).setIfInBounds 45 (if l4 = true then .int .i64 ((m : Int) + 1) else A.tmps.getD 45 undef)).setIfInBounds 46 (if l5 = true then .int .i64 (m : Int) else A.tmps.getD 46 undef)).setIfInBounds 47 (if l6 = true then .pointer (some ⟨bb, off + m * 2, none⟩) else A.tmps.getD 47 undef)).setIfInBounds 48 (if l7 = true then .agg #[.int .i64 4, .int .i64 0] else A.tmps.getD 48 undef)).setIfInBounds 49 (if l8 = true then .slice (some ⟨bn0, 0, none⟩) 1 1 else A.tmps.getD 49 undef)).setIfInBounds 50 (if l9 = true then .slice (some ⟨g7, 0, none⟩) (T.length + 1) c7 else A.tmps.getD 50 undef)).setIfInBounds 2 (if l10 = true then .slice (some ⟨g7, 0, none⟩) (T.length + 1) c7 else A.tmps.getD 2 undef)), A.defers⟩ ∧
          St w w' [Ent.row 23 1 (.slice (some ⟨g, 0, none⟩) 2 2) 2 ([.slice a2 (turnX tb).post.length c2, .slice a1 (turnX ta).post.length c1]), Ent.row 39 2 (.slice a1 (turnX ta).post.length c1) (turnX ta).post.length ((turnX ta).post.flatMap pairCells), Ent.row 39 2 (.slice a2 (turnX tb).post.length c2) (turnX tb).post.length ((turnX tb).post.flatMap pairCells), (if l9 = true then Ent.row 39 2 (.slice (some ⟨g7, 0, none⟩) (T.length + 1) c7) (T.length + 1) (T.flatMap pairCells ++ [.int .i64 4, .int .i64 0]) else (if l1 = true then Ent.row 39 2 (.slice a9 T.length c9) T.length (T.flatMap pairCells) else Ent.nil)), (if l8 = true then Ent.box bn0 #[.int .i64 4, .int .i64 0] 39 else Ent.nil)]) ?_ ?_ ?_
      · rintro listed a w' ⟨l0, l1, l2, l3, l4, l5, l6, l7, l8, l9, l10, a9, c9, g7, c7, bn0, g7, c7, rfl, hd9, hd10, rfl, hS⟩ i hi
        obtain ⟨hun, o, ho, hall⟩ := mem_ready.1 hi
        have hlt := (Array.getElem?_eq_some_iff.1 ho).1
        refine wpOp_step ho (fun K hK => ?_)
        clear hi
        have HS := Lib.hid hS
        clear hS
        simp only [List.setIfInBounds_toArray, List.set_cons_zero, List.set_cons_succ, Array.getD_eq_getD_getElem?, List.getElem?_toArray, List.getElem?_cons_zero, List.getElem?_cons_succ, Option.getD_some]
        obtain h | h | h | h | h | h | h | h | h | h | h : i = 0 ∨ i = 1 ∨ i = 2 ∨ i = 3 ∨ i = 4 ∨ i = 5 ∨ i = 6 ∨ i = 7 ∨ i = 8 ∨ i = 9 ∨ i = 10 := by simp at hlt; omega
        all_goals subst h
        all_goals simp only [List.getElem?_toArray, List.getElem?_cons_zero, List.getElem?_cons_succ, Option.some.injEq] at ho
        all_goals subst ho
        all_goals simp [Region.binds] at hun hall
        · subst hun
          go_simp
          exact hK _ _ ⟨true, l1, l2, l3, l4, l5, l6, l7, l8, l9, l10, a9, c9, g7, c7, bn0, g7, c7, rfl, hd9, hd10, (by simp), HS.out⟩
        · obtain rfl := hall
          subst hun
          obtain rfl : l9 = false := by cases l9 with | false => rfl | true => simpa using hd9 rfl
          obtain rfl : l10 = false := by cases l10 with | false => rfl | true => simpa using hd10 rfl
          go_simp
          go_at_call 65
          refine (concat2T_any (turnX tb).post (turnX ta).post T HhT.out (.slice a2 (turnX tb).post.length c2) (.slice a1 (turnX ta).post.length c1) g 2 _ (by omega) (by omega) (HS.out.rowlt 0 rfl).2 (HS.out.rcell 0 0 rfl (by omega) rfl) (HS.out.rcell 0 1 rfl (by omega) rfl) (pairs_of_row (HS.out.row 2 rfl)) (pairs_of_row (HS.out.row 1 rfl))).mono ?_
          rintro e u1 ⟨a8, c8, rfl, hS8⟩
          have hS2 := (HS.out.cat hS8).pick [0, 1, 2, 5, 4] (by decide)
          have HhS2 := Lib.hid hS2; clear hS2
          go_simp
          exact hK _ _ ⟨true, true, l2, l3, l4, l5, l6, l7, l8, false, false, a8, c8, g7, c7, bn0, g7, c7, rfl, by simp, by simp, (by simp), HhS2.out⟩
        · subst hun
          go_simp
          exact hK _ _ ⟨l0, l1, true, l3, l4, l5, l6, l7, l8, l9, l10, a9, c9, g7, c7, bn0, g7, c7, rfl, hd9, hd10, (by simp), HS.out⟩
        · subst hun
          go_simp
          exact hK _ _ ⟨l0, l1, l2, true, l4, l5, l6, l7, l8, l9, l10, a9, c9, g7, c7, bn0, g7, c7, rfl, hd9, hd10, (by simp), HS.out⟩
        · obtain rfl := hall
          subst hun
          go_simp
          exact hK _ _ ⟨l0, l1, l2, true, true, l5, l6, l7, l8, l9, l10, a9, c9, g7, c7, bn0, g7, c7, rfl, hd9, hd10, (by simp), HS.out⟩
        · obtain rfl := hall
          subst hun
          go_simp
          exact hK _ _ ⟨l0, l1, l2, l3, true, true, l6, l7, l8, l9, l10, a9, c9, g7, c7, bn0, g7, c7, rfl, hd9, hd10, (by simp), HS.out⟩
        · obtain ⟨rfl, rfl⟩ := hall
          subst hun
          go_simp
          rw [if_pos (show (m : Int) < (m : Int) + 1 by omega)]
          go_simp
          exact hK _ _ ⟨l0, l1, true, l3, l4, true, true, l7, l8, l9, l10, a9, c9, g7, c7, bn0, g7, c7, rfl, hd9, hd10, (by simp), HS.out⟩
        · obtain rfl := hall
          subst hun
          obtain ⟨e0, e1⟩ := Hcell.out _ HS.out.bel
          go_simp
          exact hK _ _ ⟨l0, l1, l2, l3, l4, l5, true, true, l8, l9, l10, a9, c9, g7, c7, bn0, g7, c7, rfl, hd9, hd10, (by simp), HS.out⟩
        · obtain rfl := hall
          subst hun
          have hS2 := (HS.out.alloc _ rfl #[.int .i64 4, .int .i64 0] 39).pick [0, 1, 2, 3, 5] (by decide)
          have HhS2 := Lib.hid hS2; clear hS2
          go_simp
          exact hK _ _ ⟨l0, l1, l2, l3, l4, l5, l6, true, true, l9, l10, a9, c9, g7, c7, _, g7, c7, rfl, hd9, hd10, (by simp), HhS2.out⟩
        · obtain ⟨rfl, rfl, -⟩ := hall
          subst hun
          obtain rfl : l10 = false := by cases l10 with | false => rfl | true => simpa using hd10 rfl
          refine step_append_lies (a := ⟨_, _⟩) _ (by rfl) _ _ _ (by rfl) w.heap.size 39 i0 (PZ) 2 16 Try.underlying23 Hhi.out Hhz0.out Hhz1.out Hhz2.out (by rfl) (by omega) (.slice a9 T.length c9) T.length (T.flatMap pairCells) (by rfl) (HS.out.row 3 rfl) ⟨bn0, 0, none⟩ 1 1 [.int .i64 4, .int .i64 0] (by rfl) (by rfl) (World.news_of_block (HS.out.box 4 rfl)) (by intro u hu; simp at hu; rcases hu with rfl | rfl <;> rfl) (by omega) (by unfold maxLen; omega) (by omega) HS.out.size _ rfl ?_
          intro g8 c8 w8 hown8 hgrow8 hat8 hlt8
          have HS8 := Lib.hid (HS.out.app 3 rfl hown8 hgrow8 hat8)
          clear hown8 hgrow8 hat8
          go_simp
          exact hK _ _ ⟨l0, true, l2, l3, l4, l5, l6, l7, true, true, false, a9, c9, g8, c8, bn0, g8, c8, rfl, by simp, by simp, (by simp), HS8.out⟩
        · obtain ⟨rfl, rfl, rfl, rfl, rfl, rfl, rfl, rfl, rfl, rfl, -⟩ := hall
          subst hun
          go_simp
          exact hK _ _ ⟨true, true, true, true, true, true, true, true, true, true, true, a9, c9, g7, c7, bn0, g7, c7, rfl, by simp, by simp, (by simp), HS.out⟩
      · rintro listed a w' ⟨l0, l1, l2, l3, l4, l5, l6, l7, l8, l9, l10, a9, c9, g7, c7, bn0, g7, c7, rfl, hd9, hd10, rfl, hS⟩ hr
        have hall := ready_nilM (by kernel_rfl) rfl hr
        obtain rfl : l0 = true := by simpa using hall 0 (by simp)
        obtain rfl : l1 = true := by simpa using hall 1 (by simp)
        obtain rfl : l2 = true := by simpa using hall 2 (by simp)
        obtain rfl : l3 = true := by simpa using hall 3 (by simp)
        obtain rfl : l4 = true := by simpa using hall 4 (by simp)
        obtain rfl : l5 = true := by simpa using hall 5 (by simp)
        obtain rfl : l6 = true := by simpa using hall 6 (by simp)
        obtain rfl : l7 = true := by simpa using hall 7 (by simp)
        obtain rfl : l8 = true := by simpa using hall 8 (by simp)
        obtain rfl : l9 = true := by simpa using hall 9 (by simp)
        obtain rfl : l10 = true := by simpa using hall 10 (by simp)
        clear hall hr hd9 hd10
        simp only [↓reduceIte] at hS ⊢
        simp only [List.setIfInBounds_toArray, List.set_cons_zero, List.set_cons_succ]
        have HS9 := Lib.hid hS
        clear hS
        go_wp2
        go_ret
        have hf : St w w' [Ent.row 39 2 (.slice (some ⟨g7, 0, none⟩) (T.length + 1) c7) (T.length + 1) (T.flatMap pairCells ++ [.int .i64 4, .int .i64 0])] := HS9.out.pick [3] (by decide)
        refine ⟨some ⟨g7, 0, none⟩, c7, ?_, ?_⟩
        · rw [Hhlen.out]; rfl
        · rw [Hhlen.out, Hhcel.out]
          exact hf
      · refine ⟨false, false, false, false, false, false, false, false, false, false, false, none, 0, 0, 0, 0, 0, 0, rfl, by simp, by simp, (by simp), ?_⟩
        exact HS5.out.drew.pick [0, 1, 2, 3, 4] (by decide)
set_option maxRecDepth 100000 in
set_option maxHeartbeats 8000000 in
theorem turned_alt (ta tb : Ex) (h60 : (Ex.alt ta tb).post.length ≤ 60) (ha : TurnC ta) (hb : TurnC tb) : TurnC (Ex.alt ta tb) := by
  intro v w h
  obtain ⟨i0, hi, hz0, hz1, hz2⟩ := info_parts Try.infoPart
  have hP := h
  rw [show (Ex.alt ta tb).post = (ta.post ++ tb.post) ++ [(5, 0)] from rfl] at hP
  obtain ⟨bb, off, cap, rfl, hc1, hc2, hbl, hcell⟩ := lastP hP
  obtain ⟨m, hm⟩ : ∃ m, m = (ta.post ++ tb.post).length := ⟨_, rfl⟩
  rw [← hm] at hc1 hcell
  have hop := fun (u : World) (hu : Below w.heap.size w u) => operands2w_any ta tb (.alt ta tb) 5 0 rfl pn_alt _ u h60 (h.below hu)
  have hab : ta.post.length + tb.post.length ≤ 59 := by simp [Ex.post] at h60; omega
  have hla : (turnX ta).post.length ≤ 1000 := by rw [turnX_len]; omega
  have hlb : (turnX tb).post.length ≤ 1000 := by rw [turnX_len]; omega
  have hlab : ((turnX ta).post ++ (turnX tb).post).length ≤ 2000 := by simp; omega
  have hmI : m ≤ 59 := by rw [hm]; simp; omega
  rw [← hm] at hop
  rw [← hm]
  obtain ⟨T, hT⟩ : ∃ T, (turnX ta).post ++ (turnX tb).post = T := ⟨_, rfl⟩
  rw [hT] at hlab
  have hpo : (turnX (.alt ta tb)).post = T ++ [(5, 0)] := by rw [← hT]; rfl
  have hlen : (turnX (.alt ta tb)).post.length = T.length + 1 := by rw [hpo]; simp
  have hcel : (turnX (.alt ta tb)).post.flatMap pairCells = T.flatMap pairCells ++ [.int .i64 5, .int .i64 0] := by rw [hpo]; simp [pairCells]
  have HOP := Lib.hid hop
  have Hcell := Lib.hid hcell
  have HA := Lib.hid ha
  have HB := Lib.hid hb
  have hcw := hcell w (Below.refl _ _)
  obtain ⟨k1, k2⟩ := hcw
  have hw1 : IntKind.i64.wrap ((m : Int) + 1 - 1) = (m : Int) := by rw [IntWalk.i64_in _ (by omega)]; omega
  have Hhi := Lib.hid hi; clear hi
  have Hhz0 := Lib.hid hz0; clear hz0
  have Hhz1 := Lib.hid hz1; clear hz1
  have Hhz2 := Lib.hid hz2; clear hz2
  have Hhm := Lib.hid hm; clear hm
  have HhT := Lib.hid hT; clear hT
  have Hhpo := Lib.hid hpo; clear hpo
  have Hhlen := Lib.hid hlen; clear hlen
  have Hhcel := Lib.hid hcel; clear hcel
  clear h hP hcell hop ha hb
  go_enter Try.func32, Try.ntmps32
  go_wp2_with (go_at_call 64; refine (HOP.out _ (Below.refl _ _)).mono ?_; rintro e w1 ⟨g, va, vb, rfl, hS, hPa, hPb⟩; have HS1 := Lib.hid hS; have HPa := Lib.hid hPa; have HPb := Lib.hid hPb; clear hS hPa hPb)
  go_loopw [18] (fun i wr => (i = .int .i64 0 ∧ w1 = wr) ∨
    (∃ a1 c1, i = .int .i64 1 ∧ St w wr [Ent.row 23 1 (.slice (some ⟨g, 0, none⟩) 2 2) 2 [.slice a1 (turnX ta).post.length c1, vb], Ent.row 39 2 (.slice a1 (turnX ta).post.length c1) (turnX ta).post.length ((turnX ta).post.flatMap pairCells)]) ∨
    (∃ a1 c1 a2 c2, i = .int .i64 2 ∧ St w wr [Ent.row 23 1 (.slice (some ⟨g, 0, none⟩) 2 2) 2 [.slice a1 (turnX ta).post.length c1, .slice a2 (turnX tb).post.length c2], Ent.row 39 2 (.slice a1 (turnX ta).post.length c1) (turnX ta).post.length ((turnX ta).post.flatMap pairCells), Ent.row 39 2 (.slice a2 (turnX tb).post.length c2) (turnX tb).post.length ((turnX tb).post.flatMap pairCells)])) (fun i _ => 2 - (intOf i).toNat)
  case atStart => exact .inl ⟨rfl, rfl⟩
  case round =>
    rcases hrel with ⟨rfl, rfl⟩ | ⟨a1, c1, rfl, hS⟩ | ⟨a1, c1, a2, c2, rfl, hS⟩
    · have q0 := HS1.out.rcell (v := va) 0 0 rfl (by omega) rfl
      have f0 := HS1.out.rfr 0 0 rfl
      have HT := Lib.hid (fun (u : World) (hu : Below w.heap.size w u) => HA.out va u (HPa.out.below hu))
      go_wp2_with (go_at_call 32; refine (HT.out _ HS1.out.bel).mono ?_; rintro e w2 ⟨a3, c3, rfl, hS2⟩; have HS2 := Lib.hid (show St w w2 [Ent.row 23 1 (.slice (some ⟨g, 0, none⟩) 2 2) 2 [va, vb], Ent.row 39 2 (.slice a3 (turnX ta).post.length c3) (turnX ta).post.length ((turnX ta).post.flatMap pairCells)] from HS1.out.cat hS2); have q2 := HS2.out.rcell (v := va) 0 0 rfl (by omega) rfl; have f2 := HS2.out.rfr 0 0 rfl; clear hS2)
      go_roundw
      case rel => exact .inr (.inl ⟨a3, c3, rfl, HS2.out.store 0 rfl 0 (.slice a3 (turnX ta).post.length c3)⟩)
      case measure => simp [intOf]
    · have HS3 := Lib.hid hS
      have q0 := hS.rcell (v := vb) 0 1 rfl (by omega) rfl
      have f0 := hS.rfr 0 1 rfl
      have HT := Lib.hid (fun (u : World) (hu : Below w.heap.size w u) => HB.out vb u (HPb.out.below hu))
      clear hS
      go_wp2_with (go_at_call 32; refine (HT.out _ HS3.out.bel).mono ?_; rintro e w2 ⟨a3, c3, rfl, hS2⟩; have HS2 := Lib.hid (show St w w2 [Ent.row 23 1 (.slice (some ⟨g, 0, none⟩) 2 2) 2 [.slice a1 (turnX ta).post.length c1, vb], Ent.row 39 2 (.slice a1 (turnX ta).post.length c1) (turnX ta).post.length ((turnX ta).post.flatMap pairCells), Ent.row 39 2 (.slice a3 (turnX tb).post.length c3) (turnX tb).post.length ((turnX tb).post.flatMap pairCells)] from HS3.out.cat hS2); have q2 := HS2.out.rcell (v := vb) 0 1 rfl (by omega) rfl; have f2 := HS2.out.rfr 0 1 rfl; clear hS2)
      go_roundw
      case rel => exact .inr (.inr ⟨a1, c1, a3, c3, rfl, HS2.out.store 0 rfl 1 (.slice a3 (turnX tb).post.length c3)⟩)
      case measure => simp [intOf]
    · have HS4 := Lib.hid hS
      clear hS
      go_wp2
      have hw2 : IntKind.i64.wrap (m : Int) = (m : Int) := IntWalk.i64_in _ (by omega)
      refine wp_region_any (by kernel_rfl) ?_
      refine wpAny_invA (fun A listed a w' => ∃ (l0 l1 l2 l3 l4 l5 l6 l7 l8 l9 l10 : Bool) (a9 : Option Addr) (c9 : Nat) (g7 : Nat) (c7 : Nat) (bn0 : Nat) (g7 : Nat) (c7 : Nat), listed = #[l0, l1, l2, l3, l4, l5, l6, l7, l8, l9, l10] ∧ (l9 = true → l1 = true) ∧ (l10 = true → l9 = true) ∧
          a = ⟨(((((((((((A.tmps.setIfInBounds 41 (if l0 = true then .slice (some ⟨g, 0, none⟩) 2 2 else A.tmps.getD 41 undef)).setIfInBounds 42 (if l1 = true then .slice a9 T.length c9 else A.tmps.getD 42 undef)).setIfInBounds 43 (if l2 = true then .slice (some ⟨bb, off, none⟩) (m + 1) cap else A.tmps.getD 43 undef)).setIfInBounds 44 (if l3 = true then .slice (some ⟨bb, off, none⟩) (m + 1) cap else A.tmps.getD 44 undef)).setIfInBounds 45 (if l4 = true then .int .i64 ((m : Int) + 1) else A.tmps.getD 45 undef)).setIfInBounds 46 (if l5 = true then .int .i64 (m : Int) else A.tmps.getD 46 undef)).setIfInBounds 47 (if l6 = true then .pointer (some ⟨bb, off + m * 2, none⟩) else A.tmps.getD 47 undef)).setIfInBounds 48 (if l7 = true then .agg #[.int .i64 5, .int .i64 0] else A.tmps.getD 48 undef)).setIfInBounds 49 (if l8 = true then .slice (some ⟨bn0, 0, none⟩) 1 1 else A.tmps.getD 49 undef)).setIfInBounds 50 (if l9 = true then .slice (some ⟨g7, 0, none⟩) (T.length + 1) c7 else A.tmps.getD 50 undef)).setIfInBounds 2 (if l10 = true then .slice (some ⟨g7, 0, none⟩) (T.length + 1) c7 else A.tmps.getD 2 undef)), A.defers⟩ ∧
          St w w' [Ent.row 23 1 (.slice (some ⟨g, 0, none⟩) 2 2) 2 ([.slice a1 (turnX ta).post.length c1, .slice a2 (turnX tb).post.length c2]), Ent.row 39 2 (.slice a1 (turnX ta).post.length c1) (turnX ta).post.length ((turnX ta).post.flatMap pairCells), Ent.row 39 2 (.slice a2 (turnX tb).post.length c2) (turnX tb).post.length ((turnX tb).post.flatMap pairCells), (if l9 = true then Ent.row 39 2 (.slice (some ⟨g7, 0, none⟩) (T.length + 1) c7) (T.length + 1) (T.flatMap pairCells ++ [.int .i64 5, .int .i64 0]) else (if l1 = true then Ent.row 39 2 (.slice a9 T.length c9) T.length (T.flatMap pairCells) else Ent.nil)), (if l8 = true then Ent.box bn0 #[.int .i64 5, .int .i64 0] 39 else Ent.nil)]) ?_ ?_ ?_
      · rintro listed a w' ⟨l0, l1, l2, l3, l4, l5, l6, l7, l8, l9, l10, a9, c9, g7, c7, bn0, g7, c7, rfl, hd9, hd10, rfl, hS⟩ i hi
        obtain ⟨hun, o, ho, hall⟩ := mem_ready.1 hi
        have hlt := (Array.getElem?_eq_some_iff.1 ho).1
        refine wpOp_step ho (fun K hK => ?_)
        clear hi
        have HS := Lib.hid hS
        clear hS
        simp only [List.setIfInBounds_toArray, List.set_cons_zero, List.set_cons_succ, Array.getD_eq_getD_getElem?, List.getElem?_toArray, List.getElem?_cons_zero, List.getElem?_cons_succ, Option.getD_some]
        obtain h | h | h | h | h | h | h | h | h | h | h : i = 0 ∨ i = 1 ∨ i = 2 ∨ i = 3 ∨ i = 4 ∨ i = 5 ∨ i = 6 ∨ i = 7 ∨ i = 8 ∨ i = 9 ∨ i = 10 := by simp at hlt; omega
        all_goals subst h
        all_goals simp only [List.getElem?_toArray, List.getElem?_cons_zero, List.getElem?_cons_succ, Option.some.injEq] at ho
        all_goals subst ho
        all_goals simp [Region.binds] at hun hall
        · subst hun
          go_simp
          exact hK _ _ ⟨true, l1, l2, l3, l4, l5, l6, l7, l8, l9, l10, a9, c9, g7, c7, bn0, g7, c7, rfl, hd9, hd10, (by simp), HS.out⟩
        · obtain rfl := hall
          subst hun
          obtain rfl : l9 = false := by cases l9 with | false => rfl | true => simpa using hd9 rfl
          obtain rfl : l10 = false := by cases l10 with | false => rfl | true => simpa using hd10 rfl
          go_simp
          go_at_call 65
          refine (concat2T_any (turnX ta).post (turnX tb).post T HhT.out (.slice a1 (turnX ta).post.length c1) (.slice a2 (turnX tb).post.length c2) g 2 _ (by omega) (by omega) (HS.out.rowlt 0 rfl).2 (HS.out.rcell 0 0 rfl (by omega) rfl) (HS.out.rcell 0 1 rfl (by omega) rfl) (pairs_of_row (HS.out.row 1 rfl)) (pairs_of_row (HS.out.row 2 rfl))).mono ?_
          rintro e u1 ⟨a8, c8, rfl, hS8⟩
          have hS2 := (HS.out.cat hS8).pick [0, 1, 2, 5, 4] (by decide)
          have HhS2 := Lib.hid hS2; clear hS2
          go_simp
          exact hK _ _ ⟨true, true, l2, l3, l4, l5, l6, l7, l8, false, false, a8, c8, g7, c7, bn0, g7, c7, rfl, by simp, by simp, (by simp), HhS2.out⟩
        · subst hun
          go_simp
          exact hK _ _ ⟨l0, l1, true, l3, l4, l5, l6, l7, l8, l9, l10, a9, c9, g7, c7, bn0, g7, c7, rfl, hd9, hd10, (by simp), HS.out⟩
        · subst hun
          go_simp
          exact hK _ _ ⟨l0, l1, l2, true, l4, l5, l6, l7, l8, l9, l10, a9, c9, g7, c7, bn0, g7, c7, rfl, hd9, hd10, (by simp), HS.out⟩
        · obtain rfl := hall
          subst hun
          go_simp
          exact hK _ _ ⟨l0, l1, l2, true, true, l5, l6, l7, l8, l9, l10, a9, c9, g7, c7, bn0, g7, c7, rfl, hd9, hd10, (by simp), HS.out⟩
        · obtain rfl := hall
          subst hun
          go_simp
          exact hK _ _ ⟨l0, l1, l2, l3, true, true, l6, l7, l8, l9, l10, a9, c9, g7, c7, bn0, g7, c7, rfl, hd9, hd10, (by simp), HS.out⟩
        · obtain ⟨rfl, rfl⟩ := hall
          subst hun
          go_simp
          rw [if_pos (show (m : Int) < (m : Int) + 1 by omega)]
          go_simp
          exact hK _ _ ⟨l0, l1, true, l3, l4, true, true, l7, l8, l9, l10, a9, c9, g7, c7, bn0, g7, c7, rfl, hd9, hd10, (by simp), HS.out⟩
        · obtain rfl := hall
          subst hun
          obtain ⟨e0, e1⟩ := Hcell.out _ HS.out.bel
          go_simp
          exact hK _ _ ⟨l0, l1, l2, l3, l4, l5, true, true, l8, l9, l10, a9, c9, g7, c7, bn0, g7, c7, rfl, hd9, hd10, (by simp), HS.out⟩
        · obtain rfl := hall
          subst hun
          have hS2 := (HS.out.alloc _ rfl #[.int .i64 5, .int .i64 0] 39).pick [0, 1, 2, 3, 5] (by decide)
          have HhS2 := Lib.hid hS2; clear hS2
          go_simp
          exact hK _ _ ⟨l0, l1, l2, l3, l4, l5, l6, true, true, l9, l10, a9, c9, g7, c7, _, g7, c7, rfl, hd9, hd10, (by simp), HhS2.out⟩
        · obtain ⟨rfl, rfl, -⟩ := hall
          subst hun
          obtain rfl : l10 = false := by cases l10 with | false => rfl | true => simpa using hd10 rfl
          refine step_append_lies (a := ⟨_, _⟩) _ (by rfl) _ _ _ (by rfl) w.heap.size 39 i0 (PZ) 2 16 Try.underlying23 Hhi.out Hhz0.out Hhz1.out Hhz2.out (by rfl) (by omega) (.slice a9 T.length c9) T.length (T.flatMap pairCells) (by rfl) (HS.out.row 3 rfl) ⟨bn0, 0, none⟩ 1 1 [.int .i64 5, .int .i64 0] (by rfl) (by rfl) (World.news_of_block (HS.out.box 4 rfl)) (by intro u hu; simp at hu; rcases hu with rfl | rfl <;> rfl) (by omega) (by unfold maxLen; omega) (by omega) HS.out.size _ rfl ?_
          intro g8 c8 w8 hown8 hgrow8 hat8 hlt8
          have HS8 := Lib.hid (HS.out.app 3 rfl hown8 hgrow8 hat8)
          clear hown8 hgrow8 hat8
          go_simp
          exact hK _ _ ⟨l0, true, l2, l3, l4, l5, l6, l7, true, true, false, a9, c9, g8, c8, bn0, g8, c8, rfl, by simp, by simp, (by simp), HS8.out⟩
        · obtain ⟨rfl, rfl, rfl, rfl, rfl, rfl, rfl, rfl, rfl, rfl, -⟩ := hall
          subst hun
          go_simp
          exact hK _ _ ⟨true, true, true, true, true, true, true, true, true, true, true, a9, c9, g7, c7, bn0, g7, c7, rfl, by simp, by simp, (by simp), HS.out⟩
      · rintro listed a w' ⟨l0, l1, l2, l3, l4, l5, l6, l7, l8, l9, l10, a9, c9, g7, c7, bn0, g7, c7, rfl, hd9, hd10, rfl, hS⟩ hr
        have hall := ready_nilM (by kernel_rfl) rfl hr
        obtain rfl : l0 = true := by simpa using hall 0 (by simp)
        obtain rfl : l1 = true := by simpa using hall 1 (by simp)
        obtain rfl : l2 = true := by simpa using hall 2 (by simp)
        obtain rfl : l3 = true := by simpa using hall 3 (by simp)
        obtain rfl : l4 = true := by simpa using hall 4 (by simp)
        obtain rfl : l5 = true := by simpa using hall 5 (by simp)
        obtain rfl : l6 = true := by simpa using hall 6 (by simp)
        obtain rfl : l7 = true := by simpa using hall 7 (by simp)
        obtain rfl : l8 = true := by simpa using hall 8 (by simp)
        obtain rfl : l9 = true := by simpa using hall 9 (by simp)
        obtain rfl : l10 = true := by simpa using hall 10 (by simp)
        clear hall hr hd9 hd10
        simp only [↓reduceIte] at hS ⊢
        simp only [List.setIfInBounds_toArray, List.set_cons_zero, List.set_cons_succ]
        have HS9 := Lib.hid hS
        clear hS
        go_wp2
        go_ret
        have hf : St w w' [Ent.row 39 2 (.slice (some ⟨g7, 0, none⟩) (T.length + 1) c7) (T.length + 1) (T.flatMap pairCells ++ [.int .i64 5, .int .i64 0])] := HS9.out.pick [3] (by decide)
        refine ⟨some ⟨g7, 0, none⟩, c7, ?_, ?_⟩
        · rw [Hhlen.out]; rfl
        · rw [Hhlen.out, Hhcel.out]
          exact hf
      · refine ⟨false, false, false, false, false, false, false, false, false, false, false, none, 0, 0, 0, 0, 0, 0, rfl, by simp, by simp, (by simp), ?_⟩
        exact HS4.out.drew.pick [0, 1, 2, 3, 4] (by decide)
set_option maxRecDepth 100000 in
set_option maxHeartbeats 8000000 in
theorem turned_both (ta tb : Ex) (h60 : (Ex.both ta tb).post.length ≤ 60) (ha : TurnC ta) (hb : TurnC tb) : TurnC (Ex.both ta tb) := by
  intro v w h
  obtain ⟨i0, hi, hz0, hz1, hz2⟩ := info_parts Try.infoPart
  have hP := h
  rw [show (Ex.both ta tb).post = (ta.post ++ tb.post) ++ [(6, 0)] from rfl] at hP
  obtain ⟨bb, off, cap, rfl, hc1, hc2, hbl, hcell⟩ := lastP hP
  obtain ⟨m, hm⟩ : ∃ m, m = (ta.post ++ tb.post).length := ⟨_, rfl⟩
  rw [← hm] at hc1 hcell
  have hop := fun (u : World) (hu : Below w.heap.size w u) => operands2w_any ta tb (.both ta tb) 6 0 rfl pn_both _ u h60 (h.below hu)
  have hab : ta.post.length + tb.post.length ≤ 59 := by simp [Ex.post] at h60; omega
  have hla : (turnX ta).post.length ≤ 1000 := by rw [turnX_len]; omega
  have hlb : (turnX tb).post.length ≤ 1000 := by rw [turnX_len]; omega
  have hlab : ((turnX ta).post ++ (turnX tb).post).length ≤ 2000 := by simp; omega
  have hmI : m ≤ 59 := by rw [hm]; simp; omega
  rw [← hm] at hop
  rw [← hm]
  obtain ⟨T, hT⟩ : ∃ T, (turnX ta).post ++ (turnX tb).post = T := ⟨_, rfl⟩
  rw [hT] at hlab
  have hpo : (turnX (.both ta tb)).post = T ++ [(6, 0)] := by rw [← hT]; rfl
  have hlen : (turnX (.both ta tb)).post.length = T.length + 1 := by rw [hpo]; simp
  have hcel : (turnX (.both ta tb)).post.flatMap pairCells = T.flatMap pairCells ++ [.int .i64 6, .int .i64 0] := by rw [hpo]; simp [pairCells]
  have HOP := Lib.hid hop
  have Hcell := Lib.hid hcell
  have HA := Lib.hid ha
  have HB := Lib.hid hb
  have hcw := hcell w (Below.refl _ _)
  obtain ⟨k1, k2⟩ := hcw
  have hw1 : IntKind.i64.wrap ((m : Int) + 1 - 1) = (m : Int) := by rw [IntWalk.i64_in _ (by omega)]; omega
  have Hhi := Lib.hid hi; clear hi
  have Hhz0 := Lib.hid hz0; clear hz0
  have Hhz1 := Lib.hid hz1; clear hz1
  have Hhz2 := Lib.hid hz2; clear hz2
  have Hhm := Lib.hid hm; clear hm
  have HhT := Lib.hid hT; clear hT
  have Hhpo := Lib.hid hpo; clear hpo
  have Hhlen := Lib.hid hlen; clear hlen
  have Hhcel := Lib.hid hcel; clear hcel
  clear h hP hcell hop ha hb
  go_enter Try.func32, Try.ntmps32
  go_wp2_with (go_at_call 64; refine (HOP.out _ (Below.refl _ _)).mono ?_; rintro e w1 ⟨g, va, vb, rfl, hS, hPa, hPb⟩; have HS1 := Lib.hid hS; have HPa := Lib.hid hPa; have HPb := Lib.hid hPb; clear hS hPa hPb)
  go_loopw [18] (fun i wr => (i = .int .i64 0 ∧ w1 = wr) ∨
    (∃ a1 c1, i = .int .i64 1 ∧ St w wr [Ent.row 23 1 (.slice (some ⟨g, 0, none⟩) 2 2) 2 [.slice a1 (turnX ta).post.length c1, vb], Ent.row 39 2 (.slice a1 (turnX ta).post.length c1) (turnX ta).post.length ((turnX ta).post.flatMap pairCells)]) ∨
    (∃ a1 c1 a2 c2, i = .int .i64 2 ∧ St w wr [Ent.row 23 1 (.slice (some ⟨g, 0, none⟩) 2 2) 2 [.slice a1 (turnX ta).post.length c1, .slice a2 (turnX tb).post.length c2], Ent.row 39 2 (.slice a1 (turnX ta).post.length c1) (turnX ta).post.length ((turnX ta).post.flatMap pairCells), Ent.row 39 2 (.slice a2 (turnX tb).post.length c2) (turnX tb).post.length ((turnX tb).post.flatMap pairCells)])) (fun i _ => 2 - (intOf i).toNat)
  case atStart => exact .inl ⟨rfl, rfl⟩
  case round =>
    rcases hrel with ⟨rfl, rfl⟩ | ⟨a1, c1, rfl, hS⟩ | ⟨a1, c1, a2, c2, rfl, hS⟩
    · have q0 := HS1.out.rcell (v := va) 0 0 rfl (by omega) rfl
      have f0 := HS1.out.rfr 0 0 rfl
      have HT := Lib.hid (fun (u : World) (hu : Below w.heap.size w u) => HA.out va u (HPa.out.below hu))
      go_wp2_with (go_at_call 32; refine (HT.out _ HS1.out.bel).mono ?_; rintro e w2 ⟨a3, c3, rfl, hS2⟩; have HS2 := Lib.hid (show St w w2 [Ent.row 23 1 (.slice (some ⟨g, 0, none⟩) 2 2) 2 [va, vb], Ent.row 39 2 (.slice a3 (turnX ta).post.length c3) (turnX ta).post.length ((turnX ta).post.flatMap pairCells)] from HS1.out.cat hS2); have q2 := HS2.out.rcell (v := va) 0 0 rfl (by omega) rfl; have f2 := HS2.out.rfr 0 0 rfl; clear hS2)
      go_roundw
      case rel => exact .inr (.inl ⟨a3, c3, rfl, HS2.out.store 0 rfl 0 (.slice a3 (turnX ta).post.length c3)⟩)
      case measure => simp [intOf]
    · have HS3 := Lib.hid hS
      have q0 := hS.rcell (v := vb) 0 1 rfl (by omega) rfl
      have f0 := hS.rfr 0 1 rfl
      have HT := Lib.hid (fun (u : World) (hu : Below w.heap.size w u) => HB.out vb u (HPb.out.below hu))
      clear hS
      go_wp2_with (go_at_call 32; refine (HT.out _ HS3.out.bel).mono ?_; rintro e w2 ⟨a3, c3, rfl, hS2⟩; have HS2 := Lib.hid (show St w w2 [Ent.row 23 1 (.slice (some ⟨g, 0, none⟩) 2 2) 2 [.slice a1 (turnX ta).post.length c1, vb], Ent.row 39 2 (.slice a1 (turnX ta).post.length c1) (turnX ta).post.length ((turnX ta).post.flatMap pairCells), Ent.row 39 2 (.slice a3 (turnX tb).post.length c3) (turnX tb).post.length ((turnX tb).post.flatMap pairCells)] from HS3.out.cat hS2); have q2 := HS2.out.rcell (v := vb) 0 1 rfl (by omega) rfl; have f2 := HS2.out.rfr 0 1 rfl; clear hS2)
      go_roundw
      case rel => exact .inr (.inr ⟨a1, c1, a3, c3, rfl, HS2.out.store 0 rfl 1 (.slice a3 (turnX tb).post.length c3)⟩)
      case measure => simp [intOf]
    · have HS4 := Lib.hid hS
      clear hS
      go_wp2
      have hw2 : IntKind.i64.wrap (m : Int) = (m : Int) := IntWalk.i64_in _ (by omega)
      refine wp_region_any (by kernel_rfl) ?_
      refine wpAny_invA (fun A listed a w' => ∃ (l0 l1 l2 l3 l4 l5 l6 l7 l8 l9 l10 : Bool) (a9 : Option Addr) (c9 : Nat) (g7 : Nat) (c7 : Nat) (bn0 : Nat) (g7 : Nat) (c7 : Nat), listed = #[l0, l1, l2, l3, l4, l5, l6, l7, l8, l9, l10] ∧ (l9 = true → l1 = true) ∧ (l10 = true → l9 = true) ∧
          a = ⟨(((((((((((A.tmps.setIfInBounds 41 (if l0 = true then .slice (some ⟨g, 0, none⟩) 2 2 else A.tmps.getD 41 undef)).setIfInBounds 42 (if l1 = true then .slice a9 T.length c9 else A.tmps.getD 42 undef)).setIfInBounds 43 (if l2 = true then .slice (some ⟨bb, off, none⟩) (m + 1) cap else A.tmps.getD 43 undef)).setIfInBounds 44 (if l3 = true then .slice (some ⟨bb, off, none⟩) (m + 1) cap else A.tmps.getD 44 undef)).setIfInBounds 45 (if l4 = true then .int .i64 ((m : Int) + 1) else A.tmps.getD 45 undef)).setIfInBounds 46 (if l5 = true then .int .i64 (m : Int) else A.tmps.getD 46 undef)).setIfInBounds 47 (if l6 = true then .pointer (some ⟨bb, off + m * 2, none⟩) else A.tmps.getD 47 undef)).setIfInBounds 48 (if l7 = true then .agg #[.int .i64 6, .int .i64 0] else A.tmps.getD 48 undef)).setIfInBounds 49 (if l8 = true then .slice (some ⟨bn0, 0, none⟩) 1 1 else A.tmps.getD 49 undef)).setIfInBounds 50 (if l9 = true then .slice (some ⟨g7, 0, none⟩) (T.length + 1) c7 else A.tmps.getD 50 undef)).setIfInBounds 2 (if l10 = true then .slice (some ⟨g7, 0, none⟩) (T.length + 1) c7 else A.tmps.getD 2 undef)), A.defers⟩ ∧
          St w w' [Ent.row 23 1 (.slice (some ⟨g, 0, none⟩) 2 2) 2 ([.slice a1 (turnX ta).post.length c1, .slice a2 (turnX tb).post.length c2]), Ent.row 39 2 (.slice a1 (turnX ta).post.length c1) (turnX ta).post.length ((turnX ta).post.flatMap pairCells), Ent.row 39 2 (.slice a2 (turnX tb).post.length c2) (turnX tb).post.length ((turnX tb).post.flatMap pairCells), (if l9 = true then Ent.row 39 2 (.slice (some ⟨g7, 0, none⟩) (T.length + 1) c7) (T.length + 1) (T.flatMap pairCells ++ [.int .i64 6, .int .i64 0]) else (if l1 = true then Ent.row 39 2 (.slice a9 T.length c9) T.length (T.flatMap pairCells) else Ent.nil)), (if l8 = true then Ent.box bn0 #[.int .i64 6, .int .i64 0] 39 else Ent.nil)]) ?_ ?_ ?_
      · rintro listed a w' ⟨l0, l1, l2, l3, l4, l5, l6, l7, l8, l9, l10, a9, c9, g7, c7, bn0, g7, c7, rfl, hd9, hd10, rfl, hS⟩ i hi
        obtain ⟨hun, o, ho, hall⟩ := mem_ready.1 hi
        have hlt := (Array.getElem?_eq_some_iff.1 ho).1
        refine wpOp_step ho (fun K hK => ?_)
        clear hi
        have HS := Lib.hid hS
        clear hS
        simp only [List.setIfInBounds_toArray, List.set_cons_zero, List.set_cons_succ, Array.getD_eq_getD_getElem?, List.getElem?_toArray, List.getElem?_cons_zero, List.getElem?_cons_succ, Option.getD_some]
        obtain h | h | h | h | h | h | h | h | h | h | h : i = 0 ∨ i = 1 ∨ i = 2 ∨ i = 3 ∨ i = 4 ∨ i = 5 ∨ i = 6 ∨ i = 7 ∨ i = 8 ∨ i = 9 ∨ i = 10 := by simp at hlt; omega
        all_goals subst h
        all_goals simp only [List.getElem?_toArray, List.getElem?_cons_zero, List.getElem?_cons_succ, Option.some.injEq] at ho
        all_goals subst ho
        all_goals simp [Region.binds] at hun hall
        · subst hun
          go_simp
          exact hK _ _ ⟨true, l1, l2, l3, l4, l5, l6, l7, l8, l9, l10, a9, c9, g7, c7, bn0, g7, c7, rfl, hd9, hd10, (by simp), HS.out⟩
        · obtain rfl := hall
          subst hun
          obtain rfl : l9 = false := by cases l9 with | false => rfl | true => simpa using hd9 rfl
          obtain rfl : l10 = false := by cases l10 with | false => rfl | true => simpa using hd10 rfl
          go_simp
          go_at_call 65
          refine (concat2T_any (turnX ta).post (turnX tb).post T HhT.out (.slice a1 (turnX ta).post.length c1) (.slice a2 (turnX tb).post.length c2) g 2 _ (by omega) (by omega) (HS.out.rowlt 0 rfl).2 (HS.out.rcell 0 0 rfl (by omega) rfl) (HS.out.rcell 0 1 rfl (by omega) rfl) (pairs_of_row (HS.out.row 1 rfl)) (pairs_of_row (HS.out.row 2 rfl))).mono ?_
          rintro e u1 ⟨a8, c8, rfl, hS8⟩
          have hS2 := (HS.out.cat hS8).pick [0, 1, 2, 5, 4] (by decide)
          have HhS2 := Lib.hid hS2; clear hS2
          go_simp
          exact hK _ _ ⟨true, true, l2, l3, l4, l5, l6, l7, l8, false, false, a8, c8, g7, c7, bn0, g7, c7, rfl, by simp, by simp, (by simp), HhS2.out⟩
        · subst hun
          go_simp
          exact hK _ _ ⟨l0, l1, true, l3, l4, l5, l6, l7, l8, l9, l10, a9, c9, g7, c7, bn0, g7, c7, rfl, hd9, hd10, (by simp), HS.out⟩
        · subst hun
          go_simp
          exact hK _ _ ⟨l0, l1, l2, true, l4, l5, l6, l7, l8, l9, l10, a9, c9, g7, c7, bn0, g7, c7, rfl, hd9, hd10, (by simp), HS.out⟩
        · obtain rfl := hall
          subst hun
          go_simp
          exact hK _ _ ⟨l0, l1, l2, true, true, l5, l6, l7, l8, l9, l10, a9, c9, g7, c7, bn0, g7, c7, rfl, hd9, hd10, (by simp), HS.out⟩
        · obtain rfl := hall
          subst hun
          go_simp
          exact hK _ _ ⟨l0, l1, l2, l3, true, true, l6, l7, l8, l9, l10, a9, c9, g7, c7, bn0, g7, c7, rfl, hd9, hd10, (by simp), HS.out⟩
        · obtain ⟨rfl, rfl⟩ := hall
          subst hun
          go_simp
          rw [if_pos (show (m : Int) < (m : Int) + 1 by omega)]
          go_simp
          exact hK _ _ ⟨l0, l1, true, l3, l4, true, true, l7, l8, l9, l10, a9, c9, g7, c7, bn0, g7, c7, rfl, hd9, hd10, (by simp), HS.out⟩
        · obtain rfl := hall
          subst hun
          obtain ⟨e0, e1⟩ := Hcell.out _ HS.out.bel
          go_simp
          exact hK _ _ ⟨l0, l1, l2, l3, l4, l5, true, true, l8, l9, l10, a9, c9, g7, c7, bn0, g7, c7, rfl, hd9, hd10, (by simp), HS.out⟩
        · obtain rfl := hall
          subst hun
          have hS2 := (HS.out.alloc _ rfl #[.int .i64 6, .int .i64 0] 39).pick [0, 1, 2, 3, 5] (by decide)
          have HhS2 := Lib.hid hS2; clear hS2
          go_simp
          exact hK _ _ ⟨l0, l1, l2, l3, l4, l5, l6, true, true, l9, l10, a9, c9, g7, c7, _, g7, c7, rfl, hd9, hd10, (by simp), HhS2.out⟩
        · obtain ⟨rfl, rfl, -⟩ := hall
          subst hun
          obtain rfl : l10 = false := by cases l10 with | false => rfl | true => simpa using hd10 rfl
          refine step_append_lies (a := ⟨_, _⟩) _ (by rfl) _ _ _ (by rfl) w.heap.size 39 i0 (PZ) 2 16 Try.underlying23 Hhi.out Hhz0.out Hhz1.out Hhz2.out (by rfl) (by omega) (.slice a9 T.length c9) T.length (T.flatMap pairCells) (by rfl) (HS.out.row 3 rfl) ⟨bn0, 0, none⟩ 1 1 [.int .i64 6, .int .i64 0] (by rfl) (by rfl) (World.news_of_block (HS.out.box 4 rfl)) (by intro u hu; simp at hu; rcases hu with rfl | rfl <;> rfl) (by omega) (by unfold maxLen; omega) (by omega) HS.out.size _ rfl ?_
          intro g8 c8 w8 hown8 hgrow8 hat8 hlt8
          have HS8 := Lib.hid (HS.out.app 3 rfl hown8 hgrow8 hat8)
          clear hown8 hgrow8 hat8
          go_simp
          exact hK _ _ ⟨l0, true, l2, l3, l4, l5, l6, l7, true, true, false, a9, c9, g8, c8, bn0, g8, c8, rfl, by simp, by simp, (by simp), HS8.out⟩
        · obtain ⟨rfl, rfl, rfl, rfl, rfl, rfl, rfl, rfl, rfl, rfl, -⟩ := hall
          subst hun
          go_simp
          exact hK _ _ ⟨true, true, true, true, true, true, true, true, true, true, true, a9, c9, g7, c7, bn0, g7, c7, rfl, by simp, by simp, (by simp), HS.out⟩
      · rintro listed a w' ⟨l0, l1, l2, l3, l4, l5, l6, l7, l8, l9, l10, a9, c9, g7, c7, bn0, g7, c7, rfl, hd9, hd10, rfl, hS⟩ hr
        have hall := ready_nilM (by kernel_rfl) rfl hr
        obtain rfl : l0 = true := by simpa using hall 0 (by simp)
        obtain rfl : l1 = true := by simpa using hall 1 (by simp)
        obtain rfl : l2 = true := by simpa using hall 2 (by simp)
        obtain rfl : l3 = true := by simpa using hall 3 (by simp)
        obtain rfl : l4 = true := by simpa using hall 4 (by simp)
        obtain rfl : l5 = true := by simpa using hall 5 (by simp)
        obtain rfl : l6 = true := by simpa using hall 6 (by simp)
        obtain rfl : l7 = true := by simpa using hall 7 (by simp)
        obtain rfl : l8 = true := by simpa using hall 8 (by simp)
        obtain rfl : l9 = true := by simpa using hall 9 (by simp)
        obtain rfl : l10 = true := by simpa using hall 10 (by simp)
        clear hall hr hd9 hd10
        simp only [↓reduceIte] at hS ⊢
        simp only [List.setIfInBounds_toArray, List.set_cons_zero, List.set_cons_succ]
        have HS9 := Lib.hid hS
        clear hS
        go_wp2
        go_ret
        have hf : St w w' [Ent.row 39 2 (.slice (some ⟨g7, 0, none⟩) (T.length + 1) c7) (T.length + 1) (T.flatMap pairCells ++ [.int .i64 6, .int .i64 0])] := HS9.out.pick [3] (by decide)
        refine ⟨some ⟨g7, 0, none⟩, c7, ?_, ?_⟩
        · rw [Hhlen.out]; rfl
        · rw [Hhlen.out, Hhcel.out]
          exact hf
      · refine ⟨false, false, false, false, false, false, false, false, false, false, false, none, 0, 0, 0, 0, 0, 0, rfl, by simp, by simp, (by simp), ?_⟩
        exact HS4.out.drew.pick [0, 1, 2, 3, 4] (by decide)
set_option maxRecDepth 100000 in
set_option maxHeartbeats 8000000 in
theorem turned_neg (ta : Ex) (h60 : (Ex.neg ta).post.length ≤ 60) (ha : TurnC ta) : TurnC (Ex.neg ta) := by
  intro v w h
  obtain ⟨i0, hi, hz0, hz1, hz2⟩ := info_parts Try.infoPart
  have hP := h
  rw [show (Ex.neg ta).post = (ta.post) ++ [(7, 0)] from rfl] at hP
  obtain ⟨bb, off, cap, rfl, hc1, hc2, hbl, hcell⟩ := lastP hP
  obtain ⟨m, hm⟩ : ∃ m, m = (ta.post).length := ⟨_, rfl⟩
  rw [← hm] at hc1 hcell
  have hop := fun (u : World) (hu : Below w.heap.size w u) => operands1w_any ta (.neg ta) 7 0 rfl pn_neg _ u h60 (h.below hu)
  have hab : ta.post.length ≤ 59 := by simp [Ex.post] at h60; omega
  have hla : (turnX ta).post.length ≤ 1000 := by rw [turnX_len]; omega
  have hmI : m ≤ 59 := by rw [hm]; omega
  rw [← hm] at hop
  rw [← hm]
  have hpo : (turnX (.neg ta)).post = (turnX ta).post ++ [(7, 0)] := rfl
  have hlen : (turnX (.neg ta)).post.length = (turnX ta).post.length + 1 := by rw [hpo]; simp
  have hcel : (turnX (.neg ta)).post.flatMap pairCells = (turnX ta).post.flatMap pairCells ++ [.int .i64 7, .int .i64 0] := by rw [hpo]; simp [pairCells]
  have HOP := Lib.hid hop
  have Hcell := Lib.hid hcell
  have HA := Lib.hid ha
  have hcw := hcell w (Below.refl _ _)
  obtain ⟨k1, k2⟩ := hcw
  have hw1 : IntKind.i64.wrap ((m : Int) + 1 - 1) = (m : Int) := by rw [IntWalk.i64_in _ (by omega)]; omega
  have Hhi := Lib.hid hi; clear hi
  have Hhz0 := Lib.hid hz0; clear hz0
  have Hhz1 := Lib.hid hz1; clear hz1
  have Hhz2 := Lib.hid hz2; clear hz2
  have Hhm := Lib.hid hm; clear hm
  have Hhpo := Lib.hid hpo; clear hpo
  have Hhlen := Lib.hid hlen; clear hlen
  have Hhcel := Lib.hid hcel; clear hcel
  clear h hP hcell hop ha
  go_enter Try.func32, Try.ntmps32
  go_wp2_with (go_at_call 64; refine (HOP.out _ (Below.refl _ _)).mono ?_; rintro e w1 ⟨g, va, rfl, hS, hPa⟩; have HS1 := Lib.hid hS; have HPa := Lib.hid hPa; clear hS hPa)
  go_loopw [18] (fun i wr => (i = .int .i64 0 ∧ w1 = wr) ∨
    (∃ a1 c1, i = .int .i64 1 ∧ St w wr [Ent.row 23 1 (.slice (some ⟨g, 0, none⟩) 1 1) 1 [.slice a1 (turnX ta).post.length c1], Ent.row 39 2 (.slice a1 (turnX ta).post.length c1) (turnX ta).post.length ((turnX ta).post.flatMap pairCells)])) (fun i _ => 1 - (intOf i).toNat)
  case atStart => exact .inl ⟨rfl, rfl⟩
  case round =>
    rcases hrel with ⟨rfl, rfl⟩ | ⟨a1, c1, rfl, hS⟩
    · have q0 := HS1.out.rcell (v := va) 0 0 rfl (by omega) rfl
      have f0 := HS1.out.rfr 0 0 rfl
      have HT := Lib.hid (fun (u : World) (hu : Below w.heap.size w u) => HA.out va u (HPa.out.below hu))
      go_wp2_with (go_at_call 32; refine (HT.out _ HS1.out.bel).mono ?_; rintro e w2 ⟨a3, c3, rfl, hS2⟩; have HS2 := Lib.hid (show St w w2 [Ent.row 23 1 (.slice (some ⟨g, 0, none⟩) 1 1) 1 [va], Ent.row 39 2 (.slice a3 (turnX ta).post.length c3) (turnX ta).post.length ((turnX ta).post.flatMap pairCells)] from HS1.out.cat hS2); have q2 := HS2.out.rcell (v := va) 0 0 rfl (by omega) rfl; have f2 := HS2.out.rfr 0 0 rfl; clear hS2)
      go_roundw
      case rel => exact .inr ⟨a3, c3, rfl, HS2.out.store 0 rfl 0 (.slice a3 (turnX ta).post.length c3)⟩
      case measure => simp [intOf]
    · have HS4 := Lib.hid hS
      clear hS
      go_wp2
      have hw2 : IntKind.i64.wrap (m : Int) = (m : Int) := IntWalk.i64_in _ (by omega)
      refine wp_region_any (by kernel_rfl) ?_
      refine wpAny_invA (fun A listed a w' => ∃ (l0 l1 l2 l3 l4 l5 l6 l7 l8 l9 l10 : Bool) (a9 : Option Addr) (c9 : Nat) (g7 : Nat) (c7 : Nat) (bn0 : Nat) (g7 : Nat) (c7 : Nat), listed = #[l0, l1, l2, l3, l4, l5, l6, l7, l8, l9, l10] ∧ (l9 = true → l1 = true) ∧ (l10 = true → l9 = true) ∧
          a = ⟨(((((((((((A.tmps.setIfInBounds 41 (if l0 = true then .slice (some ⟨g, 0, none⟩) 1 1 else A.tmps.getD 41 undef)).setIfInBounds 42 (if l1 = true then .slice a9 (turnX ta).post.length c9 else A.tmps.getD 42 undef)).setIfInBounds 43 (if l2 = true then .slice (some ⟨bb, off, none⟩) (m + 1) cap else A.tmps.getD 43 undef)).setIfInBounds 44 (if l3 = true then .slice (some ⟨bb, off, none⟩) (m + 1) cap else A.tmps.getD 44 undef)).setIfInBounds 45 (if l4 = true then .int .i64 ((m : Int) + 1) else A.tmps.getD 45 undef)).setIfInBounds 46 (if l5 = true then .int .i64 (m : Int) else A.tmps.getD 46 undef)).setIfInBounds 47 (if l6 = true then .pointer (some ⟨bb, off + m * 2, none⟩) else A.tmps.getD 47 undef)).setIfInBounds 48 (if l7 = true then .agg #[.int .i64 7, .int .i64 0] else A.tmps.getD 48 undef)).setIfInBounds 49 (if l8 = true then .slice (some ⟨bn0, 0, none⟩) 1 1 else A.tmps.getD 49 undef)).setIfInBounds 50 (if l9 = true then .slice (some ⟨g7, 0, none⟩) ((turnX ta).post.length + 1) c7 else A.tmps.getD 50 undef)).setIfInBounds 2 (if l10 = true then .slice (some ⟨g7, 0, none⟩) ((turnX ta).post.length + 1) c7 else A.tmps.getD 2 undef)), A.defers⟩ ∧
          St w w' [Ent.row 23 1 (.slice (some ⟨g, 0, none⟩) 1 1) 1 ([.slice a1 (turnX ta).post.length c1]), Ent.row 39 2 (.slice a1 (turnX ta).post.length c1) (turnX ta).post.length ((turnX ta).post.flatMap pairCells), (if l9 = true then Ent.row 39 2 (.slice (some ⟨g7, 0, none⟩) ((turnX ta).post.length + 1) c7) ((turnX ta).post.length + 1) ((turnX ta).post.flatMap pairCells ++ [.int .i64 7, .int .i64 0]) else (if l1 = true then Ent.row 39 2 (.slice a9 (turnX ta).post.length c9) (turnX ta).post.length ((turnX ta).post.flatMap pairCells) else Ent.nil)), (if l8 = true then Ent.box bn0 #[.int .i64 7, .int .i64 0] 39 else Ent.nil)]) ?_ ?_ ?_
      · rintro listed a w' ⟨l0, l1, l2, l3, l4, l5, l6, l7, l8, l9, l10, a9, c9, g7, c7, bn0, g7, c7, rfl, hd9, hd10, rfl, hS⟩ i hi
        obtain ⟨hun, o, ho, hall⟩ := mem_ready.1 hi
        have hlt := (Array.getElem?_eq_some_iff.1 ho).1
        refine wpOp_step ho (fun K hK => ?_)
        clear hi
        have HS := Lib.hid hS
        clear hS
        simp only [List.setIfInBounds_toArray, List.set_cons_zero, List.set_cons_succ, Array.getD_eq_getD_getElem?, List.getElem?_toArray, List.getElem?_cons_zero, List.getElem?_cons_succ, Option.getD_some]
        obtain h | h | h | h | h | h | h | h | h | h | h : i = 0 ∨ i = 1 ∨ i = 2 ∨ i = 3 ∨ i = 4 ∨ i = 5 ∨ i = 6 ∨ i = 7 ∨ i = 8 ∨ i = 9 ∨ i = 10 := by simp at hlt; omega
        all_goals subst h
        all_goals simp only [List.getElem?_toArray, List.getElem?_cons_zero, List.getElem?_cons_succ, Option.some.injEq] at ho
        all_goals subst ho
        all_goals simp [Region.binds] at hun hall
        · subst hun
          go_simp
          exact hK _ _ ⟨true, l1, l2, l3, l4, l5, l6, l7, l8, l9, l10, a9, c9, g7, c7, bn0, g7, c7, rfl, hd9, hd10, (by simp), HS.out⟩
        · obtain rfl := hall
          subst hun
          obtain rfl : l9 = false := by cases l9 with | false => rfl | true => simpa using hd9 rfl
          obtain rfl : l10 = false := by cases l10 with | false => rfl | true => simpa using hd10 rfl
          go_simp
          go_at_call 65
          refine (concat1_any (turnX ta).post (.slice a1 (turnX ta).post.length c1) g 1 _ (by omega) (HS.out.rowlt 0 rfl).2 (HS.out.rcell 0 0 rfl (by omega) rfl) (pairs_of_row (HS.out.row 1 rfl))).mono ?_
          rintro e u1 ⟨a8, c8, rfl, hS8⟩
          have hS2 := (HS.out.cat hS8).pick [0, 1, 4, 3] (by decide)
          have HhS2 := Lib.hid hS2; clear hS2
          go_simp
          exact hK _ _ ⟨true, true, l2, l3, l4, l5, l6, l7, l8, false, false, a8, c8, g7, c7, bn0, g7, c7, rfl, by simp, by simp, (by simp), HhS2.out⟩
        · subst hun
          go_simp
          exact hK _ _ ⟨l0, l1, true, l3, l4, l5, l6, l7, l8, l9, l10, a9, c9, g7, c7, bn0, g7, c7, rfl, hd9, hd10, (by simp), HS.out⟩
        · subst hun
          go_simp
          exact hK _ _ ⟨l0, l1, l2, true, l4, l5, l6, l7, l8, l9, l10, a9, c9, g7, c7, bn0, g7, c7, rfl, hd9, hd10, (by simp), HS.out⟩
        · obtain rfl := hall
          subst hun
          go_simp
          exact hK _ _ ⟨l0, l1, l2, true, true, l5, l6, l7, l8, l9, l10, a9, c9, g7, c7, bn0, g7, c7, rfl, hd9, hd10, (by simp), HS.out⟩
        · obtain rfl := hall
          subst hun
          go_simp
          exact hK _ _ ⟨l0, l1, l2, l3, true, true, l6, l7, l8, l9, l10, a9, c9, g7, c7, bn0, g7, c7, rfl, hd9, hd10, (by simp), HS.out⟩
        · obtain ⟨rfl, rfl⟩ := hall
          subst hun
          go_simp
          rw [if_pos (show (m : Int) < (m : Int) + 1 by omega)]
          go_simp
          exact hK _ _ ⟨l0, l1, true, l3, l4, true, true, l7, l8, l9, l10, a9, c9, g7, c7, bn0, g7, c7, rfl, hd9, hd10, (by simp), HS.out⟩
        · obtain rfl := hall
          subst hun
          obtain ⟨e0, e1⟩ := Hcell.out _ HS.out.bel
          go_simp
          exact hK _ _ ⟨l0, l1, l2, l3, l4, l5, true, true, l8, l9, l10, a9, c9, g7, c7, bn0, g7, c7, rfl, hd9, hd10, (by simp), HS.out⟩
        · obtain rfl := hall
          subst hun
          have hS2 := (HS.out.alloc _ rfl #[.int .i64 7, .int .i64 0] 39).pick [0, 1, 2, 4] (by decide)
          have HhS2 := Lib.hid hS2; clear hS2
          go_simp
          exact hK _ _ ⟨l0, l1, l2, l3, l4, l5, l6, true, true, l9, l10, a9, c9, g7, c7, _, g7, c7, rfl, hd9, hd10, (by simp), HhS2.out⟩
        · obtain ⟨rfl, rfl, -⟩ := hall
          subst hun
          obtain rfl : l10 = false := by cases l10 with | false => rfl | true => simpa using hd10 rfl
          refine step_append_lies (a := ⟨_, _⟩) _ (by rfl) _ _ _ (by rfl) w.heap.size 39 i0 (PZ) 2 16 Try.underlying23 Hhi.out Hhz0.out Hhz1.out Hhz2.out (by rfl) (by omega) (.slice a9 (turnX ta).post.length c9) (turnX ta).post.length ((turnX ta).post.flatMap pairCells) (by rfl) (HS.out.row 2 rfl) ⟨bn0, 0, none⟩ 1 1 [.int .i64 7, .int .i64 0] (by rfl) (by rfl) (World.news_of_block (HS.out.box 3 rfl)) (by intro u hu; simp at hu; rcases hu with rfl | rfl <;> rfl) (by omega) (by unfold maxLen; omega) (by omega) HS.out.size _ rfl ?_
          intro g8 c8 w8 hown8 hgrow8 hat8 hlt8
          have HS8 := Lib.hid (HS.out.app 2 rfl hown8 hgrow8 hat8)
          clear hown8 hgrow8 hat8
          go_simp
          exact hK _ _ ⟨l0, true, l2, l3, l4, l5, l6, l7, true, true, false, a9, c9, g8, c8, bn0, g8, c8, rfl, by simp, by simp, (by simp), HS8.out⟩
        · obtain ⟨rfl, rfl, rfl, rfl, rfl, rfl, rfl, rfl, rfl, rfl, -⟩ := hall
          subst hun
          go_simp
          exact hK _ _ ⟨true, true, true, true, true, true, true, true, true, true, true, a9, c9, g7, c7, bn0, g7, c7, rfl, by simp, by simp, (by simp), HS.out⟩
      · rintro listed a w' ⟨l0, l1, l2, l3, l4, l5, l6, l7, l8, l9, l10, a9, c9, g7, c7, bn0, g7, c7, rfl, hd9, hd10, rfl, hS⟩ hr
        have hall := ready_nilM (by kernel_rfl) rfl hr
        obtain rfl : l0 = true := by simpa using hall 0 (by simp)
        obtain rfl : l1 = true := by simpa using hall 1 (by simp)
        obtain rfl : l2 = true := by simpa using hall 2 (by simp)
        obtain rfl : l3 = true := by simpa using hall 3 (by simp)
        obtain rfl : l4 = true := by simpa using hall 4 (by simp)
        obtain rfl : l5 = true := by simpa using hall 5 (by simp)
        obtain rfl : l6 = true := by simpa using hall 6 (by simp)
        obtain rfl : l7 = true := by simpa using hall 7 (by simp)
        obtain rfl : l8 = true := by simpa using hall 8 (by simp)
        obtain rfl : l9 = true := by simpa using hall 9 (by simp)
        obtain rfl : l10 = true := by simpa using hall 10 (by simp)
        clear hall hr hd9 hd10
        simp only [↓reduceIte] at hS ⊢
        simp only [List.setIfInBounds_toArray, List.set_cons_zero, List.set_cons_succ]
        have HS9 := Lib.hid hS
        clear hS
        go_wp2
        go_ret
        have hf : St w w' [Ent.row 39 2 (.slice (some ⟨g7, 0, none⟩) ((turnX ta).post.length + 1) c7) ((turnX ta).post.length + 1) ((turnX ta).post.flatMap pairCells ++ [.int .i64 7, .int .i64 0])] := HS9.out.pick [2] (by decide)
        refine ⟨some ⟨g7, 0, none⟩, c7, ?_, ?_⟩
        · rw [Hhlen.out]; rfl
        · rw [Hhlen.out, Hhcel.out]
          exact hf
      · refine ⟨false, false, false, false, false, false, false, false, false, false, false, none, 0, 0, 0, 0, 0, 0, rfl, by simp, by simp, (by simp), ?_⟩
        exact HS4.out.drew.pick [0, 1, 2, 3] (by decide)
set_option maxRecDepth 100000 in
set_option maxHeartbeats 8000000 in
theorem turned_star (ta : Ex) (h60 : (Ex.star ta).post.length ≤ 60) (ha : TurnC ta) : TurnC (Ex.star ta) := by
  intro v w h
  obtain ⟨i0, hi, hz0, hz1, hz2⟩ := info_parts Try.infoPart
  have hP := h
  rw [show (Ex.star ta).post = (ta.post) ++ [(8, 0)] from rfl] at hP
  obtain ⟨bb, off, cap, rfl, hc1, hc2, hbl, hcell⟩ := lastP hP
  obtain ⟨m, hm⟩ : ∃ m, m = (ta.post).length := ⟨_, rfl⟩
  rw [← hm] at hc1 hcell
  have hop := fun (u : World) (hu : Below w.heap.size w u) => operands1w_any ta (.star ta) 8 0 rfl pn_star _ u h60 (h.below hu)
  have hab : ta.post.length ≤ 59 := by simp [Ex.post] at h60; omega
  have hla : (turnX ta).post.length ≤ 1000 := by rw [turnX_len]; omega
  have hmI : m ≤ 59 := by rw [hm]; omega
  rw [← hm] at hop
  rw [← hm]
  have hpo : (turnX (.star ta)).post = (turnX ta).post ++ [(8, 0)] := rfl
  have hlen : (turnX (.star ta)).post.length = (turnX ta).post.length + 1 := by rw [hpo]; simp
  have hcel : (turnX (.star ta)).post.flatMap pairCells = (turnX ta).post.flatMap pairCells ++ [.int .i64 8, .int .i64 0] := by rw [hpo]; simp [pairCells]
  have HOP := Lib.hid hop
  have Hcell := Lib.hid hcell
  have HA := Lib.hid ha
  have hcw := hcell w (Below.refl _ _)
  obtain ⟨k1, k2⟩ := hcw
  have hw1 : IntKind.i64.wrap ((m : Int) + 1 - 1) = (m : Int) := by rw [IntWalk.i64_in _ (by omega)]; omega
  have Hhi := Lib.hid hi; clear hi
  have Hhz0 := Lib.hid hz0; clear hz0
  have Hhz1 := Lib.hid hz1; clear hz1
  have Hhz2 := Lib.hid hz2; clear hz2
  have Hhm := Lib.hid hm; clear hm
  have Hhpo := Lib.hid hpo; clear hpo
  have Hhlen := Lib.hid hlen; clear hlen
  have Hhcel := Lib.hid hcel; clear hcel
  clear h hP hcell hop ha
  go_enter Try.func32, Try.ntmps32
  go_wp2_with (go_at_call 64; refine (HOP.out _ (Below.refl _ _)).mono ?_; rintro e w1 ⟨g, va, rfl, hS, hPa⟩; have HS1 := Lib.hid hS; have HPa := Lib.hid hPa; clear hS hPa)
  go_loopw [18] (fun i wr => (i = .int .i64 0 ∧ w1 = wr) ∨
    (∃ a1 c1, i = .int .i64 1 ∧ St w wr [Ent.row 23 1 (.slice (some ⟨g, 0, none⟩) 1 1) 1 [.slice a1 (turnX ta).post.length c1], Ent.row 39 2 (.slice a1 (turnX ta).post.length c1) (turnX ta).post.length ((turnX ta).post.flatMap pairCells)])) (fun i _ => 1 - (intOf i).toNat)
  case atStart => exact .inl ⟨rfl, rfl⟩
  case round =>
    rcases hrel with ⟨rfl, rfl⟩ | ⟨a1, c1, rfl, hS⟩
    · have q0 := HS1.out.rcell (v := va) 0 0 rfl (by omega) rfl
      have f0 := HS1.out.rfr 0 0 rfl
      have HT := Lib.hid (fun (u : World) (hu : Below w.heap.size w u) => HA.out va u (HPa.out.below hu))
      go_wp2_with (go_at_call 32; refine (HT.out _ HS1.out.bel).mono ?_; rintro e w2 ⟨a3, c3, rfl, hS2⟩; have HS2 := Lib.hid (show St w w2 [Ent.row 23 1 (.slice (some ⟨g, 0, none⟩) 1 1) 1 [va], Ent.row 39 2 (.slice a3 (turnX ta).post.length c3) (turnX ta).post.length ((turnX ta).post.flatMap pairCells)] from HS1.out.cat hS2); have q2 := HS2.out.rcell (v := va) 0 0 rfl (by omega) rfl; have f2 := HS2.out.rfr 0 0 rfl; clear hS2)
      go_roundw
      case rel => exact .inr ⟨a3, c3, rfl, HS2.out.store 0 rfl 0 (.slice a3 (turnX ta).post.length c3)⟩
      case measure => simp [intOf]
    · have HS4 := Lib.hid hS
      clear hS
      go_wp2
      have hw2 : IntKind.i64.wrap (m : Int) = (m : Int) := IntWalk.i64_in _ (by omega)
      refine wp_region_any (by kernel_rfl) ?_
      refine wpAny_invA (fun A listed a w' => ∃ (l0 l1 l2 l3 l4 l5 l6 l7 l8 l9 l10 : Bool) (a9 : Option Addr) (c9 : Nat) (g7 : Nat) (c7 : Nat) (bn0 : Nat) (g7 : Nat) (c7 : Nat), listed = #[l0, l1, l2, l3, l4, l5, l6, l7, l8, l9, l10] ∧ (l9 = true → l1 = true) ∧ (l10 = true → l9 = true) ∧
          a = ⟨(((((((((((A.tmps.setIfInBounds 41 (if l0 = true then .slice (some ⟨g, 0, none⟩) 1 1 else A.tmps.getD 41 undef)).setIfInBounds 42 (if l1 = true then .slice a9 (turnX ta).post.length c9 else A.tmps.getD 42 undef)).setIfInBounds 43 (if l2 = true then .slice (some ⟨bb, off, none⟩) (m + 1) cap else A.tmps.getD 43 undef)).setIfInBounds 44 (if l3 = true then .slice (some ⟨bb, off, none⟩) (m + 1) cap else A.tmps.getD 44 undef)).setIfInBounds 45 (if l4 = true then .int .i64 ((m : Int) + 1) else A.tmps.getD 45 undef)).setIfInBounds 46 (if l5 = true then .int .i64 (m : Int) else A.tmps.getD 46 undef)).setIfInBounds 47 (if l6 = true then .pointer (some ⟨bb, off + m * 2, none⟩) else A.tmps.getD 47 undef)).setIfInBounds 48 (if l7 = true then .agg #[.int .i64 8, .int .i64 0] else A.tmps.getD 48 undef)).setIfInBounds 49 (if l8 = true then .slice (some ⟨bn0, 0, none⟩) 1 1 else A.tmps.getD 49 undef)).setIfInBounds 50 (if l9 = true then .slice (some ⟨g7, 0, none⟩) ((turnX ta).post.length + 1) c7 else A.tmps.getD 50 undef)).setIfInBounds 2 (if l10 = true then .slice (some ⟨g7, 0, none⟩) ((turnX ta).post.length + 1) c7 else A.tmps.getD 2 undef)), A.defers⟩ ∧
          St w w' [Ent.row 23 1 (.slice (some ⟨g, 0, none⟩) 1 1) 1 ([.slice a1 (turnX ta).post.length c1]), Ent.row 39 2 (.slice a1 (turnX ta).post.length c1) (turnX ta).post.length ((turnX ta).post.flatMap pairCells), (if l9 = true then Ent.row 39 2 (.slice (some ⟨g7, 0, none⟩) ((turnX ta).post.length + 1) c7) ((turnX ta).post.length + 1) ((turnX ta).post.flatMap pairCells ++ [.int .i64 8, .int .i64 0]) else (if l1 = true then Ent.row 39 2 (.slice a9 (turnX ta).post.length c9) (turnX ta).post.length ((turnX ta).post.flatMap pairCells) else Ent.nil)), (if l8 = true then Ent.box bn0 #[.int .i64 8, .int .i64 0] 39 else Ent.nil)]) ?_ ?_ ?_
      · rintro listed a w' ⟨l0, l1, l2, l3, l4, l5, l6, l7, l8, l9, l10, a9, c9, g7, c7, bn0, g7, c7, rfl, hd9, hd10, rfl, hS⟩ i hi
        obtain ⟨hun, o, ho, hall⟩ := mem_ready.1 hi
        have hlt := (Array.getElem?_eq_some_iff.1 ho).1
        refine wpOp_step ho (fun K hK => ?_)
        clear hi
        have HS := Lib.hid hS
        clear hS
        simp only [List.setIfInBounds_toArray, List.set_cons_zero, List.set_cons_succ, Array.getD_eq_getD_getElem?, List.getElem?_toArray, List.getElem?_cons_zero, List.getElem?_cons_succ, Option.getD_some]
        obtain h | h | h | h | h | h | h | h | h | h | h : i = 0 ∨ i = 1 ∨ i = 2 ∨ i = 3 ∨ i = 4 ∨ i = 5 ∨ i = 6 ∨ i = 7 ∨ i = 8 ∨ i = 9 ∨ i = 10 := by simp at hlt; omega
        all_goals subst h
        all_goals simp only [List.getElem?_toArray, List.getElem?_cons_zero, List.getElem?_cons_succ, Option.some.injEq] at ho
        all_goals subst ho
        all_goals simp [Region.binds] at hun hall
        · subst hun
          go_simp
          exact hK _ _ ⟨true, l1, l2, l3, l4, l5, l6, l7, l8, l9, l10, a9, c9, g7, c7, bn0, g7, c7, rfl, hd9, hd10, (by simp), HS.out⟩
        · obtain rfl := hall
          subst hun
          obtain rfl : l9 = false := by cases l9 with | false => rfl | true => simpa using hd9 rfl
          obtain rfl : l10 = false := by cases l10 with | false => rfl | true => simpa using hd10 rfl
          go_simp
          go_at_call 65
          refine (concat1_any (turnX ta).post (.slice a1 (turnX ta).post.length c1) g 1 _ (by omega) (HS.out.rowlt 0 rfl).2 (HS.out.rcell 0 0 rfl (by omega) rfl) (pairs_of_row (HS.out.row 1 rfl))).mono ?_
          rintro e u1 ⟨a8, c8, rfl, hS8⟩
          have hS2 := (HS.out.cat hS8).pick [0, 1, 4, 3] (by decide)
          have HhS2 := Lib.hid hS2; clear hS2
          go_simp
          exact hK _ _ ⟨true, true, l2, l3, l4, l5, l6, l7, l8, false, false, a8, c8, g7, c7, bn0, g7, c7, rfl, by simp, by simp, (by simp), HhS2.out⟩
        · subst hun
          go_simp
          exact hK _ _ ⟨l0, l1, true, l3, l4, l5, l6, l7, l8, l9, l10, a9, c9, g7, c7, bn0, g7, c7, rfl, hd9, hd10, (by simp), HS.out⟩
        · subst hun
          go_simp
          exact hK _ _ ⟨l0, l1, l2, true, l4, l5, l6, l7, l8, l9, l10, a9, c9, g7, c7, bn0, g7, c7, rfl, hd9, hd10, (by simp), HS.out⟩
        · obtain rfl := hall
          subst hun
          go_simp
          exact hK _ _ ⟨l0, l1, l2, true, true, l5, l6, l7, l8, l9, l10, a9, c9, g7, c7, bn0, g7, c7, rfl, hd9, hd10, (by simp), HS.out⟩
        · obtain rfl := hall
          subst hun
          go_simp
          exact hK _ _ ⟨l0, l1, l2, l3, true, true, l6, l7, l8, l9, l10, a9, c9, g7, c7, bn0, g7, c7, rfl, hd9, hd10, (by simp), HS.out⟩
        · obtain ⟨rfl, rfl⟩ := hall
          subst hun
          go_simp
          rw [if_pos (show (m : Int) < (m : Int) + 1 by omega)]
          go_simp
          exact hK _ _ ⟨l0, l1, true, l3, l4, true, true, l7, l8, l9, l10, a9, c9, g7, c7, bn0, g7, c7, rfl, hd9, hd10, (by simp), HS.out⟩
        · obtain rfl := hall
          subst hun
          obtain ⟨e0, e1⟩ := Hcell.out _ HS.out.bel
          go_simp
          exact hK _ _ ⟨l0, l1, l2, l3, l4, l5, true, true, l8, l9, l10, a9, c9, g7, c7, bn0, g7, c7, rfl, hd9, hd10, (by simp), HS.out⟩
        · obtain rfl := hall
          subst hun
          have hS2 := (HS.out.alloc _ rfl #[.int .i64 8, .int .i64 0] 39).pick [0, 1, 2, 4] (by decide)
          have HhS2 := Lib.hid hS2; clear hS2
          go_simp
          exact hK _ _ ⟨l0, l1, l2, l3, l4, l5, l6, true, true, l9, l10, a9, c9, g7, c7, _, g7, c7, rfl, hd9, hd10, (by simp), HhS2.out⟩
        · obtain ⟨rfl, rfl, -⟩ := hall
          subst hun
          obtain rfl : l10 = false := by cases l10 with | false => rfl | true => simpa using hd10 rfl
          refine step_append_lies (a := ⟨_, _⟩) _ (by rfl) _ _ _ (by rfl) w.heap.size 39 i0 (PZ) 2 16 Try.underlying23 Hhi.out Hhz0.out Hhz1.out Hhz2.out (by rfl) (by omega) (.slice a9 (turnX ta).post.length c9) (turnX ta).post.length ((turnX ta).post.flatMap pairCells) (by rfl) (HS.out.row 2 rfl) ⟨bn0, 0, none⟩ 1 1 [.int .i64 8, .int .i64 0] (by rfl) (by rfl) (World.news_of_block (HS.out.box 3 rfl)) (by intro u hu; simp at hu; rcases hu with rfl | rfl <;> rfl) (by omega) (by unfold maxLen; omega) (by omega) HS.out.size _ rfl ?_
          intro g8 c8 w8 hown8 hgrow8 hat8 hlt8
          have HS8 := Lib.hid (HS.out.app 2 rfl hown8 hgrow8 hat8)
          clear hown8 hgrow8 hat8
          go_simp
          exact hK _ _ ⟨l0, true, l2, l3, l4, l5, l6, l7, true, true, false, a9, c9, g8, c8, bn0, g8, c8, rfl, by simp, by simp, (by simp), HS8.out⟩
        · obtain ⟨rfl, rfl, rfl, rfl, rfl, rfl, rfl, rfl, rfl, rfl, -⟩ := hall
          subst hun
          go_simp
          exact hK _ _ ⟨true, true, true, true, true, true, true, true, true, true, true, a9, c9, g7, c7, bn0, g7, c7, rfl, by simp, by simp, (by simp), HS.out⟩
      · rintro listed a w' ⟨l0, l1, l2, l3, l4, l5, l6, l7, l8, l9, l10, a9, c9, g7, c7, bn0, g7, c7, rfl, hd9, hd10, rfl, hS⟩ hr
        have hall := ready_nilM (by kernel_rfl) rfl hr
        obtain rfl : l0 = true := by simpa using hall 0 (by simp)
        obtain rfl : l1 = true := by simpa using hall 1 (by simp)
        obtain rfl : l2 = true := by simpa using hall 2 (by simp)
        obtain rfl : l3 = true := by simpa using hall 3 (by simp)
        obtain rfl : l4 = true := by simpa using hall 4 (by simp)
        obtain rfl : l5 = true := by simpa using hall 5 (by simp)
        obtain rfl : l6 = true := by simpa using hall 6 (by simp)
        obtain rfl : l7 = true := by simpa using hall 7 (by simp)
        obtain rfl : l8 = true := by simpa using hall 8 (by simp)
        obtain rfl : l9 = true := by simpa using hall 9 (by simp)
        obtain rfl : l10 = true := by simpa using hall 10 (by simp)
        clear hall hr hd9 hd10
        simp only [↓reduceIte] at hS ⊢
        simp only [List.setIfInBounds_toArray, List.set_cons_zero, List.set_cons_succ]
        have HS9 := Lib.hid hS
        clear hS
        go_wp2
        go_ret
        have hf : St w w' [Ent.row 39 2 (.slice (some ⟨g7, 0, none⟩) ((turnX ta).post.length + 1) c7) ((turnX ta).post.length + 1) ((turnX ta).post.flatMap pairCells ++ [.int .i64 8, .int .i64 0])] := HS9.out.pick [2] (by decide)
        refine ⟨some ⟨g7, 0, none⟩, c7, ?_, ?_⟩
        · rw [Hhlen.out]; rfl
        · rw [Hhlen.out, Hhcel.out]
          exact hf
      · refine ⟨false, false, false, false, false, false, false, false, false, false, false, none, 0, 0, 0, 0, 0, 0, rfl, by simp, by simp, (by simp), ?_⟩
        exact HS4.out.drew.pick [0, 1, 2, 3] (by decide)
set_option maxRecDepth 100000 in
set_option maxHeartbeats 8000000 in
theorem turned_zero : TurnC (Ex.zero) := by
  intro v w h
  obtain ⟨i0, hi, hz0, hz1, hz2⟩ := info_parts Try.infoPart
  have hP := h
  rw [show (Ex.zero).post = ([] : List (Int × Int)) ++ [(1, 0)] from rfl] at hP
  obtain ⟨bb, off, cap, rfl, hc1, hc2, hbl, hcell⟩ := lastP hP
  obtain ⟨m, hm⟩ : ∃ m, m = ([] : List (Int × Int)).length := ⟨_, rfl⟩
  rw [← hm] at hc1 hcell
  have hop := fun (u : World) (hu : Below w.heap.size w u) => operands0_any (Ex.zero) 1 0 rfl pn_leaf1 _ u (h.below hu)
  have hmI : m ≤ 59 := by rw [hm]; simp
  rw [← hm] at hop
  rw [← hm]
  have hlen : (turnX (Ex.zero)).post.length = 0 + 1 := rfl
  have hcel : (turnX (Ex.zero)).post.flatMap pairCells = [] ++ [.int .i64 1, .int .i64 0] := rfl
  have HOP := Lib.hid hop
  have Hcell := Lib.hid hcell
  have hcw := hcell w (Below.refl _ _)
  obtain ⟨k1, k2⟩ := hcw
  have hw1 : IntKind.i64.wrap ((m : Int) + 1 - 1) = (m : Int) := by rw [IntWalk.i64_in _ (by omega)]; omega
  have Hhi := Lib.hid hi; clear hi
  have Hhz0 := Lib.hid hz0; clear hz0
  have Hhz1 := Lib.hid hz1; clear hz1
  have Hhz2 := Lib.hid hz2; clear hz2
  have Hhm := Lib.hid hm; clear hm
  have Hhlen := Lib.hid hlen; clear hlen
  have Hhcel := Lib.hid hcel; clear hcel
  clear h hP hcell hop
  go_enter Try.func32, Try.ntmps32
  go_wp2_with (go_at_call 64; refine (HOP.out _ (Below.refl _ _)).mono ?_; rintro e w1 ⟨rfl, hb1⟩; have HS4 := Lib.hid ((St.start w).call hb1); clear hb1)
  go_loopw [18] (fun i wr => i = .int .i64 0 ∧ w1 = wr) (fun i _ => 1 - (intOf i).toNat)
  case atStart => exact ⟨rfl, rfl⟩
  case round =>
    obtain ⟨rfl, rfl⟩ := hrel
    go_wp2
    have hw2 : IntKind.i64.wrap (m : Int) = (m : Int) := IntWalk.i64_in _ (by omega)
    refine wp_region_any (by kernel_rfl) ?_
    refine wpAny_invA (fun A listed a w' => ∃ (l0 l1 l2 l3 l4 l5 l6 l7 l8 l9 l10 : Bool) (a9 : Option Addr) (c9 : Nat) (g7 : Nat) (c7 : Nat) (bn0 : Nat) (g7 : Nat) (c7 : Nat), listed = #[l0, l1, l2, l3, l4, l5, l6, l7, l8, l9, l10] ∧ (l9 = true → l1 = true) ∧ (l10 = true → l9 = true) ∧
        a = ⟨(((((((((((A.tmps.setIfInBounds 41 (if l0 = true then .slice none 0 0 else A.tmps.getD 41 undef)).setIfInBounds 42 (if l1 = true then .slice a9 0 c9 else A.tmps.getD 42 undef)).setIfInBounds 43 (if l2 = true then .slice (some ⟨bb, off, none⟩) (m + 1) cap else A.tmps.getD 43 undef)).setIfInBounds 44 (if l3 = true then .slice (some ⟨bb, off, none⟩) (m + 1) cap else A.tmps.getD 44 undef)).setIfInBounds 45 (if l4 = true then .int .i64 ((m : Int) + 1) else A.tmps.getD 45 undef)).setIfInBounds 46 (if l5 = true then .int .i64 (m : Int) else A.tmps.getD 46 undef)).setIfInBounds 47 (if l6 = true then .pointer (some ⟨bb, off + m * 2, none⟩) else A.tmps.getD 47 undef)).setIfInBounds 48 (if l7 = true then .agg #[.int .i64 1, .int .i64 0] else A.tmps.getD 48 undef)).setIfInBounds 49 (if l8 = true then .slice (some ⟨bn0, 0, none⟩) 1 1 else A.tmps.getD 49 undef)).setIfInBounds 50 (if l9 = true then .slice (some ⟨g7, 0, none⟩) (0 + 1) c7 else A.tmps.getD 50 undef)).setIfInBounds 2 (if l10 = true then .slice (some ⟨g7, 0, none⟩) (0 + 1) c7 else A.tmps.getD 2 undef)), A.defers⟩ ∧
        St w w' [(if l9 = true then Ent.row 39 2 (.slice (some ⟨g7, 0, none⟩) (0 + 1) c7) (0 + 1) ([] ++ [.int .i64 1, .int .i64 0]) else (if l1 = true then Ent.row 39 2 (.slice a9 0 c9) 0 ([]) else Ent.nil)), (if l8 = true then Ent.box bn0 #[.int .i64 1, .int .i64 0] 39 else Ent.nil)]) ?_ ?_ ?_
    · rintro listed a w' ⟨l0, l1, l2, l3, l4, l5, l6, l7, l8, l9, l10, a9, c9, g7, c7, bn0, g7, c7, rfl, hd9, hd10, rfl, hS⟩ i hi
      obtain ⟨hun, o, ho, hall⟩ := mem_ready.1 hi
      have hlt := (Array.getElem?_eq_some_iff.1 ho).1
      refine wpOp_step ho (fun K hK => ?_)
      clear hi
      have HS := Lib.hid hS
      clear hS
      simp only [List.setIfInBounds_toArray, List.set_cons_zero, List.set_cons_succ, Array.getD_eq_getD_getElem?, List.getElem?_toArray, List.getElem?_cons_zero, List.getElem?_cons_succ, Option.getD_some]
      obtain h | h | h | h | h | h | h | h | h | h | h : i = 0 ∨ i = 1 ∨ i = 2 ∨ i = 3 ∨ i = 4 ∨ i = 5 ∨ i = 6 ∨ i = 7 ∨ i = 8 ∨ i = 9 ∨ i = 10 := by simp at hlt; omega
      all_goals subst h
      all_goals simp only [List.getElem?_toArray, List.getElem?_cons_zero, List.getElem?_cons_succ, Option.some.injEq] at ho
      all_goals subst ho
      all_goals simp [Region.binds] at hun hall
      · subst hun
        go_simp
        exact hK _ _ ⟨true, l1, l2, l3, l4, l5, l6, l7, l8, l9, l10, a9, c9, g7, c7, bn0, g7, c7, rfl, hd9, hd10, (by simp), HS.out⟩
      · obtain rfl := hall
        subst hun
        obtain rfl : l9 = false := by cases l9 with | false => rfl | true => simpa using hd9 rfl
        obtain rfl : l10 = false := by cases l10 with | false => rfl | true => simpa using hd10 rfl
        go_simp
        go_at_call 65
        refine (concat0_any _).mono ?_
        rintro e u1 ⟨a8, c8, rfl, hS8⟩
        have hS2 := (HS.out.cat hS8).pick [2, 1] (by decide)
        have HhS2 := Lib.hid hS2; clear hS2
        go_simp
        exact hK _ _ ⟨true, true, l2, l3, l4, l5, l6, l7, l8, false, false, a8, c8, g7, c7, bn0, g7, c7, rfl, by simp, by simp, (by simp), HhS2.out⟩
      · subst hun
        go_simp
        exact hK _ _ ⟨l0, l1, true, l3, l4, l5, l6, l7, l8, l9, l10, a9, c9, g7, c7, bn0, g7, c7, rfl, hd9, hd10, (by simp), HS.out⟩
      · subst hun
        go_simp
        exact hK _ _ ⟨l0, l1, l2, true, l4, l5, l6, l7, l8, l9, l10, a9, c9, g7, c7, bn0, g7, c7, rfl, hd9, hd10, (by simp), HS.out⟩
      · obtain rfl := hall
        subst hun
        go_simp
        exact hK _ _ ⟨l0, l1, l2, true, true, l5, l6, l7, l8, l9, l10, a9, c9, g7, c7, bn0, g7, c7, rfl, hd9, hd10, (by simp), HS.out⟩
      · obtain rfl := hall
        subst hun
        go_simp
        exact hK _ _ ⟨l0, l1, l2, l3, true, true, l6, l7, l8, l9, l10, a9, c9, g7, c7, bn0, g7, c7, rfl, hd9, hd10, (by simp), HS.out⟩
      · obtain ⟨rfl, rfl⟩ := hall
        subst hun
        go_simp
        rw [if_pos (show (m : Int) < (m : Int) + 1 by omega)]
        go_simp
        exact hK _ _ ⟨l0, l1, true, l3, l4, true, true, l7, l8, l9, l10, a9, c9, g7, c7, bn0, g7, c7, rfl, hd9, hd10, (by simp), HS.out⟩
      · obtain rfl := hall
        subst hun
        obtain ⟨e0, e1⟩ := Hcell.out _ HS.out.bel
        go_simp
        exact hK _ _ ⟨l0, l1, l2, l3, l4, l5, true, true, l8, l9, l10, a9, c9, g7, c7, bn0, g7, c7, rfl, hd9, hd10, (by simp), HS.out⟩
      · obtain rfl := hall
        subst hun
        have hS2 := (HS.out.alloc _ rfl #[.int .i64 1, .int .i64 0] 39).pick [0, 2] (by decide)
        have HhS2 := Lib.hid hS2; clear hS2
        go_simp
        exact hK _ _ ⟨l0, l1, l2, l3, l4, l5, l6, true, true, l9, l10, a9, c9, g7, c7, _, g7, c7, rfl, hd9, hd10, (by simp), HhS2.out⟩
      · obtain ⟨rfl, rfl, -⟩ := hall
        subst hun
        obtain rfl : l10 = false := by cases l10 with | false => rfl | true => simpa using hd10 rfl
        refine step_append_lies (a := ⟨_, _⟩) _ (by rfl) _ _ _ (by rfl) w.heap.size 39 i0 (PZ) 2 16 Try.underlying23 Hhi.out Hhz0.out Hhz1.out Hhz2.out (by rfl) (by omega) (.slice a9 0 c9) 0 ([]) (by rfl) (HS.out.row 0 rfl) ⟨bn0, 0, none⟩ 1 1 [.int .i64 1, .int .i64 0] (by rfl) (by rfl) (World.news_of_block (HS.out.box 1 rfl)) (by intro u hu; simp at hu; rcases hu with rfl | rfl <;> rfl) (by omega) (by unfold maxLen; omega) (by omega) HS.out.size _ rfl ?_
        intro g8 c8 w8 hown8 hgrow8 hat8 hlt8
        have HS8 := Lib.hid (HS.out.app 0 rfl hown8 hgrow8 hat8)
        clear hown8 hgrow8 hat8
        go_simp
        exact hK _ _ ⟨l0, true, l2, l3, l4, l5, l6, l7, true, true, false, a9, c9, g8, c8, bn0, g8, c8, rfl, by simp, by simp, (by simp), HS8.out⟩
      · obtain ⟨rfl, rfl, rfl, rfl, rfl, rfl, rfl, rfl, rfl, rfl, -⟩ := hall
        subst hun
        go_simp
        exact hK _ _ ⟨true, true, true, true, true, true, true, true, true, true, true, a9, c9, g7, c7, bn0, g7, c7, rfl, by simp, by simp, (by simp), HS.out⟩
    · rintro listed a w' ⟨l0, l1, l2, l3, l4, l5, l6, l7, l8, l9, l10, a9, c9, g7, c7, bn0, g7, c7, rfl, hd9, hd10, rfl, hS⟩ hr
      have hall := ready_nilM (by kernel_rfl) rfl hr
      obtain rfl : l0 = true := by simpa using hall 0 (by simp)
      obtain rfl : l1 = true := by simpa using hall 1 (by simp)
      obtain rfl : l2 = true := by simpa using hall 2 (by simp)
      obtain rfl : l3 = true := by simpa using hall 3 (by simp)
      obtain rfl : l4 = true := by simpa using hall 4 (by simp)
      obtain rfl : l5 = true := by simpa using hall 5 (by simp)
      obtain rfl : l6 = true := by simpa using hall 6 (by simp)
      obtain rfl : l7 = true := by simpa using hall 7 (by simp)
      obtain rfl : l8 = true := by simpa using hall 8 (by simp)
      obtain rfl : l9 = true := by simpa using hall 9 (by simp)
      obtain rfl : l10 = true := by simpa using hall 10 (by simp)
      clear hall hr hd9 hd10
      simp only [↓reduceIte] at hS ⊢
      simp only [List.setIfInBounds_toArray, List.set_cons_zero, List.set_cons_succ]
      have HS9 := Lib.hid hS
      clear hS
      go_wp2
      go_ret
      have hf : St w w' [Ent.row 39 2 (.slice (some ⟨g7, 0, none⟩) (0 + 1) c7) (0 + 1) ([] ++ [.int .i64 1, .int .i64 0])] := HS9.out.pick [0] (by decide)
      refine ⟨some ⟨g7, 0, none⟩, c7, ?_, ?_⟩
      · rw [Hhlen.out]; rfl
      · rw [Hhlen.out, Hhcel.out]
        exact hf
    · refine ⟨false, false, false, false, false, false, false, false, false, false, false, none, 0, 0, 0, 0, 0, 0, rfl, by simp, by simp, (by simp), ?_⟩
      exact HS4.out.drew.pick [0, 1] (by decide)
set_option maxRecDepth 100000 in
set_option maxHeartbeats 8000000 in
theorem turned_one : TurnC (Ex.one) := by
  intro v w h
  obtain ⟨i0, hi, hz0, hz1, hz2⟩ := info_parts Try.infoPart
  have hP := h
  rw [show (Ex.one).post = ([] : List (Int × Int)) ++ [(2, 0)] from rfl] at hP
  obtain ⟨bb, off, cap, rfl, hc1, hc2, hbl, hcell⟩ := lastP hP
  obtain ⟨m, hm⟩ : ∃ m, m = ([] : List (Int × Int)).length := ⟨_, rfl⟩
  rw [← hm] at hc1 hcell
  have hop := fun (u : World) (hu : Below w.heap.size w u) => operands0_any (Ex.one) 2 0 rfl pn_leaf2 _ u (h.below hu)
  have hmI : m ≤ 59 := by rw [hm]; simp
  rw [← hm] at hop
  rw [← hm]
  have hlen : (turnX (Ex.one)).post.length = 0 + 1 := rfl
  have hcel : (turnX (Ex.one)).post.flatMap pairCells = [] ++ [.int .i64 2, .int .i64 0] := rfl
  have HOP := Lib.hid hop
  have Hcell := Lib.hid hcell
  have hcw := hcell w (Below.refl _ _)
  obtain ⟨k1, k2⟩ := hcw
  have hw1 : IntKind.i64.wrap ((m : Int) + 1 - 1) = (m : Int) := by rw [IntWalk.i64_in _ (by omega)]; omega
  have Hhi := Lib.hid hi; clear hi
  have Hhz0 := Lib.hid hz0; clear hz0
  have Hhz1 := Lib.hid hz1; clear hz1
  have Hhz2 := Lib.hid hz2; clear hz2
  have Hhm := Lib.hid hm; clear hm
  have Hhlen := Lib.hid hlen; clear hlen
  have Hhcel := Lib.hid hcel; clear hcel
  clear h hP hcell hop
  go_enter Try.func32, Try.ntmps32
  go_wp2_with (go_at_call 64; refine (HOP.out _ (Below.refl _ _)).mono ?_; rintro e w1 ⟨rfl, hb1⟩; have HS4 := Lib.hid ((St.start w).call hb1); clear hb1)
  go_loopw [18] (fun i wr => i = .int .i64 0 ∧ w1 = wr) (fun i _ => 1 - (intOf i).toNat)
  case atStart => exact ⟨rfl, rfl⟩
  case round =>
    obtain ⟨rfl, rfl⟩ := hrel
    go_wp2
    have hw2 : IntKind.i64.wrap (m : Int) = (m : Int) := IntWalk.i64_in _ (by omega)
    refine wp_region_any (by kernel_rfl) ?_
    refine wpAny_invA (fun A listed a w' => ∃ (l0 l1 l2 l3 l4 l5 l6 l7 l8 l9 l10 : Bool) (a9 : Option Addr) (c9 : Nat) (g7 : Nat) (c7 : Nat) (bn0 : Nat) (g7 : Nat) (c7 : Nat), listed = #[l0, l1, l2, l3, l4, l5, l6, l7, l8, l9, l10] ∧ (l9 = true → l1 = true) ∧ (l10 = true → l9 = true) ∧
        a = ⟨(((((((((((A.tmps.setIfInBounds 41 (if l0 = true then .slice none 0 0 else A.tmps.getD 41 undef)).setIfInBounds 42 (if l1 = true then .slice a9 0 c9 else A.tmps.getD 42 undef)).setIfInBounds 43 (if l2 = true then .slice (some ⟨bb, off, none⟩) (m + 1) cap else A.tmps.getD 43 undef)).setIfInBounds 44 (if l3 = true then .slice (some ⟨bb, off, none⟩) (m + 1) cap else A.tmps.getD 44 undef)).setIfInBounds 45 (if l4 = true then .int .i64 ((m : Int) + 1) else A.tmps.getD 45 undef)).setIfInBounds 46 (if l5 = true then .int .i64 (m : Int) else A.tmps.getD 46 undef)).setIfInBounds 47 (if l6 = true then .pointer (some ⟨bb, off + m * 2, none⟩) else A.tmps.getD 47 undef)).setIfInBounds 48 (if l7 = true then .agg #[.int .i64 2, .int .i64 0] else A.tmps.getD 48 undef)).setIfInBounds 49 (if l8 = true then .slice (some ⟨bn0, 0, none⟩) 1 1 else A.tmps.getD 49 undef)).setIfInBounds 50 (if l9 = true then .slice (some ⟨g7, 0, none⟩) (0 + 1) c7 else A.tmps.getD 50 undef)).setIfInBounds 2 (if l10 = true then .slice (some ⟨g7, 0, none⟩) (0 + 1) c7 else A.tmps.getD 2 undef)), A.defers⟩ ∧
        St w w' [(if l9 = true then Ent.row 39 2 (.slice (some ⟨g7, 0, none⟩) (0 + 1) c7) (0 + 1) ([] ++ [.int .i64 2, .int .i64 0]) else (if l1 = true then Ent.row 39 2 (.slice a9 0 c9) 0 ([]) else Ent.nil)), (if l8 = true then Ent.box bn0 #[.int .i64 2, .int .i64 0] 39 else Ent.nil)]) ?_ ?_ ?_
    · rintro listed a w' ⟨l0, l1, l2, l3, l4, l5, l6, l7, l8, l9, l10, a9, c9, g7, c7, bn0, g7, c7, rfl, hd9, hd10, rfl, hS⟩ i hi
      obtain ⟨hun, o, ho, hall⟩ := mem_ready.1 hi
      have hlt := (Array.getElem?_eq_some_iff.1 ho).1
      refine wpOp_step ho (fun K hK => ?_)
      clear hi
      have HS := Lib.hid hS
      clear hS
      simp only [List.setIfInBounds_toArray, List.set_cons_zero, List.set_cons_succ, Array.getD_eq_getD_getElem?, List.getElem?_toArray, List.getElem?_cons_zero, List.getElem?_cons_succ, Option.getD_some]
      obtain h | h | h | h | h | h | h | h | h | h | h : i = 0 ∨ i = 1 ∨ i = 2 ∨ i = 3 ∨ i = 4 ∨ i = 5 ∨ i = 6 ∨ i = 7 ∨ i = 8 ∨ i = 9 ∨ i = 10 := by simp at hlt; omega
      all_goals subst h
      all_goals simp only [List.getElem?_toArray, List.getElem?_cons_zero, List.getElem?_cons_succ, Option.some.injEq] at ho
      all_goals subst ho
      all_goals simp [Region.binds] at hun hall
      · subst hun
        go_simp
        exact hK _ _ ⟨true, l1, l2, l3, l4, l5, l6, l7, l8, l9, l10, a9, c9, g7, c7, bn0, g7, c7, rfl, hd9, hd10, (by simp), HS.out⟩
      · obtain rfl := hall
        subst hun
        obtain rfl : l9 = false := by cases l9 with | false => rfl | true => simpa using hd9 rfl
        obtain rfl : l10 = false := by cases l10 with | false => rfl | true => simpa using hd10 rfl
        go_simp
        go_at_call 65
        refine (concat0_any _).mono ?_
        rintro e u1 ⟨a8, c8, rfl, hS8⟩
        have hS2 := (HS.out.cat hS8).pick [2, 1] (by decide)
        have HhS2 := Lib.hid hS2; clear hS2
        go_simp
        exact hK _ _ ⟨true, true, l2, l3, l4, l5, l6, l7, l8, false, false, a8, c8, g7, c7, bn0, g7, c7, rfl, by simp, by simp, (by simp), HhS2.out⟩
      · subst hun
        go_simp
        exact hK _ _ ⟨l0, l1, true, l3, l4, l5, l6, l7, l8, l9, l10, a9, c9, g7, c7, bn0, g7, c7, rfl, hd9, hd10, (by simp), HS.out⟩
      · subst hun
        go_simp
        exact hK _ _ ⟨l0, l1, l2, true, l4, l5, l6, l7, l8, l9, l10, a9, c9, g7, c7, bn0, g7, c7, rfl, hd9, hd10, (by simp), HS.out⟩
      · obtain rfl := hall
        subst hun
        go_simp
        exact hK _ _ ⟨l0, l1, l2, true, true, l5, l6, l7, l8, l9, l10, a9, c9, g7, c7, bn0, g7, c7, rfl, hd9, hd10, (by simp), HS.out⟩
      · obtain rfl := hall
        subst hun
        go_simp
        exact hK _ _ ⟨l0, l1, l2, l3, true, true, l6, l7, l8, l9, l10, a9, c9, g7, c7, bn0, g7, c7, rfl, hd9, hd10, (by simp), HS.out⟩
      · obtain ⟨rfl, rfl⟩ := hall
        subst hun
        go_simp
        rw [if_pos (show (m : Int) < (m : Int) + 1 by omega)]
        go_simp
        exact hK _ _ ⟨l0, l1, true, l3, l4, true, true, l7, l8, l9, l10, a9, c9, g7, c7, bn0, g7, c7, rfl, hd9, hd10, (by simp), HS.out⟩
      · obtain rfl := hall
        subst hun
        obtain ⟨e0, e1⟩ := Hcell.out _ HS.out.bel
        go_simp
        exact hK _ _ ⟨l0, l1, l2, l3, l4, l5, true, true, l8, l9, l10, a9, c9, g7, c7, bn0, g7, c7, rfl, hd9, hd10, (by simp), HS.out⟩
      · obtain rfl := hall
        subst hun
        have hS2 := (HS.out.alloc _ rfl #[.int .i64 2, .int .i64 0] 39).pick [0, 2] (by decide)
        have HhS2 := Lib.hid hS2; clear hS2
        go_simp
        exact hK _ _ ⟨l0, l1, l2, l3, l4, l5, l6, true, true, l9, l10, a9, c9, g7, c7, _, g7, c7, rfl, hd9, hd10, (by simp), HhS2.out⟩
      · obtain ⟨rfl, rfl, -⟩ := hall
        subst hun
        obtain rfl : l10 = false := by cases l10 with | false => rfl | true => simpa using hd10 rfl
        refine step_append_lies (a := ⟨_, _⟩) _ (by rfl) _ _ _ (by rfl) w.heap.size 39 i0 (PZ) 2 16 Try.underlying23 Hhi.out Hhz0.out Hhz1.out Hhz2.out (by rfl) (by omega) (.slice a9 0 c9) 0 ([]) (by rfl) (HS.out.row 0 rfl) ⟨bn0, 0, none⟩ 1 1 [.int .i64 2, .int .i64 0] (by rfl) (by rfl) (World.news_of_block (HS.out.box 1 rfl)) (by intro u hu; simp at hu; rcases hu with rfl | rfl <;> rfl) (by omega) (by unfold maxLen; omega) (by omega) HS.out.size _ rfl ?_
        intro g8 c8 w8 hown8 hgrow8 hat8 hlt8
        have HS8 := Lib.hid (HS.out.app 0 rfl hown8 hgrow8 hat8)
        clear hown8 hgrow8 hat8
        go_simp
        exact hK _ _ ⟨l0, true, l2, l3, l4, l5, l6, l7, true, true, false, a9, c9, g8, c8, bn0, g8, c8, rfl, by simp, by simp, (by simp), HS8.out⟩
      · obtain ⟨rfl, rfl, rfl, rfl, rfl, rfl, rfl, rfl, rfl, rfl, -⟩ := hall
        subst hun
        go_simp
        exact hK _ _ ⟨true, true, true, true, true, true, true, true, true, true, true, a9, c9, g7, c7, bn0, g7, c7, rfl, by simp, by simp, (by simp), HS.out⟩
    · rintro listed a w' ⟨l0, l1, l2, l3, l4, l5, l6, l7, l8, l9, l10, a9, c9, g7, c7, bn0, g7, c7, rfl, hd9, hd10, rfl, hS⟩ hr
      have hall := ready_nilM (by kernel_rfl) rfl hr
      obtain rfl : l0 = true := by simpa using hall 0 (by simp)
      obtain rfl : l1 = true := by simpa using hall 1 (by simp)
      obtain rfl : l2 = true := by simpa using hall 2 (by simp)
      obtain rfl : l3 = true := by simpa using hall 3 (by simp)
      obtain rfl : l4 = true := by simpa using hall 4 (by simp)
      obtain rfl : l5 = true := by simpa using hall 5 (by simp)
      obtain rfl : l6 = true := by simpa using hall 6 (by simp)
      obtain rfl : l7 = true := by simpa using hall 7 (by simp)
      obtain rfl : l8 = true := by simpa using hall 8 (by simp)
      obtain rfl : l9 = true := by simpa using hall 9 (by simp)
      obtain rfl : l10 = true := by simpa using hall 10 (by simp)
      clear hall hr hd9 hd10
      simp only [↓reduceIte] at hS ⊢
      simp only [List.setIfInBounds_toArray, List.set_cons_zero, List.set_cons_succ]
      have HS9 := Lib.hid hS
      clear hS
      go_wp2
      go_ret
      have hf : St w w' [Ent.row 39 2 (.slice (some ⟨g7, 0, none⟩) (0 + 1) c7) (0 + 1) ([] ++ [.int .i64 2, .int .i64 0])] := HS9.out.pick [0] (by decide)
      refine ⟨some ⟨g7, 0, none⟩, c7, ?_, ?_⟩
      · rw [Hhlen.out]; rfl
      · rw [Hhlen.out, Hhcel.out]
        exact hf
    · refine ⟨false, false, false, false, false, false, false, false, false, false, false, none, 0, 0, 0, 0, 0, 0, rfl, by simp, by simp, (by simp), ?_⟩
      exact HS4.out.drew.pick [0, 1] (by decide)
set_option maxRecDepth 100000 in
set_option maxHeartbeats 8000000 in
theorem turned_ltr (ch : Fin 3) : TurnC (Ex.ltr ch) := by
  intro v w h
  obtain ⟨i0, hi, hz0, hz1, hz2⟩ := info_parts Try.infoPart
  have hP := h
  rw [show (Ex.ltr ch).post = ([] : List (Int × Int)) ++ [(3, (ch.val : Int))] from rfl] at hP
  obtain ⟨bb, off, cap, rfl, hc1, hc2, hbl, hcell⟩ := lastP hP
  obtain ⟨m, hm⟩ : ∃ m, m = ([] : List (Int × Int)).length := ⟨_, rfl⟩
  rw [← hm] at hc1 hcell
  have hop := fun (u : World) (hu : Below w.heap.size w u) => operands0_any (Ex.ltr ch) 3 (ch.val : Int) rfl (pn_leaf3 ch) _ u (h.below hu)
  have hmI : m ≤ 59 := by rw [hm]; simp
  rw [← hm] at hop
  rw [← hm]
  have hlen : (turnX (Ex.ltr ch)).post.length = 0 + 1 := rfl
  have hcel : (turnX (Ex.ltr ch)).post.flatMap pairCells = [] ++ [.int .i64 3, .int .i64 (ch.val : Int)] := rfl
  have HOP := Lib.hid hop
  have Hcell := Lib.hid hcell
  have hcw := hcell w (Below.refl _ _)
  obtain ⟨k1, k2⟩ := hcw
  have hw1 : IntKind.i64.wrap ((m : Int) + 1 - 1) = (m : Int) := by rw [IntWalk.i64_in _ (by omega)]; omega
  have Hhi := Lib.hid hi; clear hi
  have Hhz0 := Lib.hid hz0; clear hz0
  have Hhz1 := Lib.hid hz1; clear hz1
  have Hhz2 := Lib.hid hz2; clear hz2
  have Hhm := Lib.hid hm; clear hm
  have Hhlen := Lib.hid hlen; clear hlen
  have Hhcel := Lib.hid hcel; clear hcel
  clear h hP hcell hop
  go_enter Try.func32, Try.ntmps32
  go_wp2_with (go_at_call 64; refine (HOP.out _ (Below.refl _ _)).mono ?_; rintro e w1 ⟨rfl, hb1⟩; have HS4 := Lib.hid ((St.start w).call hb1); clear hb1)
  go_loopw [18] (fun i wr => i = .int .i64 0 ∧ w1 = wr) (fun i _ => 1 - (intOf i).toNat)
  case atStart => exact ⟨rfl, rfl⟩
  case round =>
    obtain ⟨rfl, rfl⟩ := hrel
    go_wp2
    have hw2 : IntKind.i64.wrap (m : Int) = (m : Int) := IntWalk.i64_in _ (by omega)
    refine wp_region_any (by kernel_rfl) ?_
    refine wpAny_invA (fun A listed a w' => ∃ (l0 l1 l2 l3 l4 l5 l6 l7 l8 l9 l10 : Bool) (a9 : Option Addr) (c9 : Nat) (g7 : Nat) (c7 : Nat) (bn0 : Nat) (g7 : Nat) (c7 : Nat), listed = #[l0, l1, l2, l3, l4, l5, l6, l7, l8, l9, l10] ∧ (l9 = true → l1 = true) ∧ (l10 = true → l9 = true) ∧
        a = ⟨(((((((((((A.tmps.setIfInBounds 41 (if l0 = true then .slice none 0 0 else A.tmps.getD 41 undef)).setIfInBounds 42 (if l1 = true then .slice a9 0 c9 else A.tmps.getD 42 undef)).setIfInBounds 43 (if l2 = true then .slice (some ⟨bb, off, none⟩) (m + 1) cap else A.tmps.getD 43 undef)).setIfInBounds 44 (if l3 = true then .slice (some ⟨bb, off, none⟩) (m + 1) cap else A.tmps.getD 44 undef)).setIfInBounds 45 (if l4 = true then .int .i64 ((m : Int) + 1) else A.tmps.getD 45 undef)).setIfInBounds 46 (if l5 = true then .int .i64 (m : Int) else A.tmps.getD 46 undef)).setIfInBounds 47 (if l6 = true then .pointer (some ⟨bb, off + m * 2, none⟩) else A.tmps.getD 47 undef)).setIfInBounds 48 (if l7 = true then .agg #[.int .i64 3, .int .i64 (ch.val : Int)] else A.tmps.getD 48 undef)).setIfInBounds 49 (if l8 = true then .slice (some ⟨bn0, 0, none⟩) 1 1 else A.tmps.getD 49 undef)).setIfInBounds 50 (if l9 = true then .slice (some ⟨g7, 0, none⟩) (0 + 1) c7 else A.tmps.getD 50 undef)).setIfInBounds 2 (if l10 = true then .slice (some ⟨g7, 0, none⟩) (0 + 1) c7 else A.tmps.getD 2 undef)), A.defers⟩ ∧
        St w w' [(if l9 = true then Ent.row 39 2 (.slice (some ⟨g7, 0, none⟩) (0 + 1) c7) (0 + 1) ([] ++ [.int .i64 3, .int .i64 (ch.val : Int)]) else (if l1 = true then Ent.row 39 2 (.slice a9 0 c9) 0 ([]) else Ent.nil)), (if l8 = true then Ent.box bn0 #[.int .i64 3, .int .i64 (ch.val : Int)] 39 else Ent.nil)]) ?_ ?_ ?_
    · rintro listed a w' ⟨l0, l1, l2, l3, l4, l5, l6, l7, l8, l9, l10, a9, c9, g7, c7, bn0, g7, c7, rfl, hd9, hd10, rfl, hS⟩ i hi
      obtain ⟨hun, o, ho, hall⟩ := mem_ready.1 hi
      have hlt := (Array.getElem?_eq_some_iff.1 ho).1
      refine wpOp_step ho (fun K hK => ?_)
      clear hi
      have HS := Lib.hid hS
      clear hS
      simp only [List.setIfInBounds_toArray, List.set_cons_zero, List.set_cons_succ, Array.getD_eq_getD_getElem?, List.getElem?_toArray, List.getElem?_cons_zero, List.getElem?_cons_succ, Option.getD_some]
      obtain h | h | h | h | h | h | h | h | h | h | h : i = 0 ∨ i = 1 ∨ i = 2 ∨ i = 3 ∨ i = 4 ∨ i = 5 ∨ i = 6 ∨ i = 7 ∨ i = 8 ∨ i = 9 ∨ i = 10 := by simp at hlt; omega
      all_goals subst h
      all_goals simp only [List.getElem?_toArray, List.getElem?_cons_zero, List.getElem?_cons_succ, Option.some.injEq] at ho
      all_goals subst ho
      all_goals simp [Region.binds] at hun hall
      · subst hun
        go_simp
        exact hK _ _ ⟨true, l1, l2, l3, l4, l5, l6, l7, l8, l9, l10, a9, c9, g7, c7, bn0, g7, c7, rfl, hd9, hd10, (by simp), HS.out⟩
      · obtain rfl := hall
        subst hun
        obtain rfl : l9 = false := by cases l9 with | false => rfl | true => simpa using hd9 rfl
        obtain rfl : l10 = false := by cases l10 with | false => rfl | true => simpa using hd10 rfl
        go_simp
        go_at_call 65
        refine (concat0_any _).mono ?_
        rintro e u1 ⟨a8, c8, rfl, hS8⟩
        have hS2 := (HS.out.cat hS8).pick [2, 1] (by decide)
        have HhS2 := Lib.hid hS2; clear hS2
        go_simp
        exact hK _ _ ⟨true, true, l2, l3, l4, l5, l6, l7, l8, false, false, a8, c8, g7, c7, bn0, g7, c7, rfl, by simp, by simp, (by simp), HhS2.out⟩
      · subst hun
        go_simp
        exact hK _ _ ⟨l0, l1, true, l3, l4, l5, l6, l7, l8, l9, l10, a9, c9, g7, c7, bn0, g7, c7, rfl, hd9, hd10, (by simp), HS.out⟩
      · subst hun
        go_simp
        exact hK _ _ ⟨l0, l1, l2, true, l4, l5, l6, l7, l8, l9, l10, a9, c9, g7, c7, bn0, g7, c7, rfl, hd9, hd10, (by simp), HS.out⟩
      · obtain rfl := hall
        subst hun
        go_simp
        exact hK _ _ ⟨l0, l1, l2, true, true, l5, l6, l7, l8, l9, l10, a9, c9, g7, c7, bn0, g7, c7, rfl, hd9, hd10, (by simp), HS.out⟩
      · obtain rfl := hall
        subst hun
        go_simp
        exact hK _ _ ⟨l0, l1, l2, l3, true, true, l6, l7, l8, l9, l10, a9, c9, g7, c7, bn0, g7, c7, rfl, hd9, hd10, (by simp), HS.out⟩
      · obtain ⟨rfl, rfl⟩ := hall
        subst hun
        go_simp
        rw [if_pos (show (m : Int) < (m : Int) + 1 by omega)]
        go_simp
        exact hK _ _ ⟨l0, l1, true, l3, l4, true, true, l7, l8, l9, l10, a9, c9, g7, c7, bn0, g7, c7, rfl, hd9, hd10, (by simp), HS.out⟩
      · obtain rfl := hall
        subst hun
        obtain ⟨e0, e1⟩ := Hcell.out _ HS.out.bel
        go_simp
        exact hK _ _ ⟨l0, l1, l2, l3, l4, l5, true, true, l8, l9, l10, a9, c9, g7, c7, bn0, g7, c7, rfl, hd9, hd10, (by simp), HS.out⟩
      · obtain rfl := hall
        subst hun
        have hS2 := (HS.out.alloc _ rfl #[.int .i64 3, .int .i64 (ch.val : Int)] 39).pick [0, 2] (by decide)
        have HhS2 := Lib.hid hS2; clear hS2
        go_simp
        exact hK _ _ ⟨l0, l1, l2, l3, l4, l5, l6, true, true, l9, l10, a9, c9, g7, c7, _, g7, c7, rfl, hd9, hd10, (by simp), HhS2.out⟩
      · obtain ⟨rfl, rfl, -⟩ := hall
        subst hun
        obtain rfl : l10 = false := by cases l10 with | false => rfl | true => simpa using hd10 rfl
        refine step_append_lies (a := ⟨_, _⟩) _ (by rfl) _ _ _ (by rfl) w.heap.size 39 i0 (PZ) 2 16 Try.underlying23 Hhi.out Hhz0.out Hhz1.out Hhz2.out (by rfl) (by omega) (.slice a9 0 c9) 0 ([]) (by rfl) (HS.out.row 0 rfl) ⟨bn0, 0, none⟩ 1 1 [.int .i64 3, .int .i64 (ch.val : Int)] (by rfl) (by rfl) (World.news_of_block (HS.out.box 1 rfl)) (by intro u hu; simp at hu; rcases hu with rfl | rfl <;> rfl) (by omega) (by unfold maxLen; omega) (by omega) HS.out.size _ rfl ?_
        intro g8 c8 w8 hown8 hgrow8 hat8 hlt8
        have HS8 := Lib.hid (HS.out.app 0 rfl hown8 hgrow8 hat8)
        clear hown8 hgrow8 hat8
        go_simp
        exact hK _ _ ⟨l0, true, l2, l3, l4, l5, l6, l7, true, true, false, a9, c9, g8, c8, bn0, g8, c8, rfl, by simp, by simp, (by simp), HS8.out⟩
      · obtain ⟨rfl, rfl, rfl, rfl, rfl, rfl, rfl, rfl, rfl, rfl, -⟩ := hall
        subst hun
        go_simp
        exact hK _ _ ⟨true, true, true, true, true, true, true, true, true, true, true, a9, c9, g7, c7, bn0, g7, c7, rfl, by simp, by simp, (by simp), HS.out⟩
    · rintro listed a w' ⟨l0, l1, l2, l3, l4, l5, l6, l7, l8, l9, l10, a9, c9, g7, c7, bn0, g7, c7, rfl, hd9, hd10, rfl, hS⟩ hr
      have hall := ready_nilM (by kernel_rfl) rfl hr
      obtain rfl : l0 = true := by simpa using hall 0 (by simp)
      obtain rfl : l1 = true := by simpa using hall 1 (by simp)
      obtain rfl : l2 = true := by simpa using hall 2 (by simp)
      obtain rfl : l3 = true := by simpa using hall 3 (by simp)
      obtain rfl : l4 = true := by simpa using hall 4 (by simp)
      obtain rfl : l5 = true := by simpa using hall 5 (by simp)
      obtain rfl : l6 = true := by simpa using hall 6 (by simp)
      obtain rfl : l7 = true := by simpa using hall 7 (by simp)
      obtain rfl : l8 = true := by simpa using hall 8 (by simp)
      obtain rfl : l9 = true := by simpa using hall 9 (by simp)
      obtain rfl : l10 = true := by simpa using hall 10 (by simp)
      clear hall hr hd9 hd10
      simp only [↓reduceIte] at hS ⊢
      simp only [List.setIfInBounds_toArray, List.set_cons_zero, List.set_cons_succ]
      have HS9 := Lib.hid hS
      clear hS
      go_wp2
      go_ret
      have hf : St w w' [Ent.row 39 2 (.slice (some ⟨g7, 0, none⟩) (0 + 1) c7) (0 + 1) ([] ++ [.int .i64 3, .int .i64 (ch.val : Int)])] := HS9.out.pick [0] (by decide)
      refine ⟨some ⟨g7, 0, none⟩, c7, ?_, ?_⟩
      · rw [Hhlen.out]; rfl
      · rw [Hhlen.out, Hhcel.out]
        exact hf
    · refine ⟨false, false, false, false, false, false, false, false, false, false, false, none, 0, 0, 0, 0, 0, 0, rfl, by simp, by simp, (by simp), ?_⟩
      exact HS4.out.drew.pick [0, 1] (by decide)
theorem turned_all : ∀ t : Ex, t.post.length ≤ 60 → TurnC t := by
  intro t
  induction t with
  | zero => exact fun _ => turned_zero
  | one => exact fun _ => turned_one
  | ltr ch => exact fun _ => turned_ltr ch
  | join p q hp hq => exact fun h => turned_join p q h (hp (by simp [Ex.post] at h; omega)) (hq (by simp [Ex.post] at h; omega))
  | alt p q hp hq => exact fun h => turned_alt p q h (hp (by simp [Ex.post] at h; omega)) (hq (by simp [Ex.post] at h; omega))
  | both p q hp hq => exact fun h => turned_both p q h (hp (by simp [Ex.post] at h; omega)) (hq (by simp [Ex.post] at h; omega))
  | neg p hp => exact fun h => turned_neg p h (hp (by simp [Ex.post] at h; omega))
  | star p hp => exact fun h => turned_star p h (hp (by simp [Ex.post] at h; omega))
end Go.Proofs.Ytfgpkadhegdffaa
