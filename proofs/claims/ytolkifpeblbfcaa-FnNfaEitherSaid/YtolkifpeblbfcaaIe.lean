/-
  The walks over slices.Grow of nothing and slices.Concat of two slices of numbers, as the program calls them.
  Conditions: the slices are readable.
-/
import Derived.Test.YtolkifpeblbfcaaIj
import Derived.Test.YtolkifpeblbfcaaNd
import Derived.Lib.AppendZerosOnto
namespace Go.Proofs.Ytolkifpeblbfcaa
open Go.RowKit

set_option maxRecDepth 100000 in
set_option maxHeartbeats 4000000 in
theorem grow_any (n : Nat) (w : World) (hn : n ≤ 100000) :
    Calls Try.prog 163 #[.slice none 0 0, .int .i64 (n : Int)] w fun e w' => ∃ a c, e = .returned (.slice a 0 c) ∧ St w w' [Ent.row 3 1 (.slice a 0 c) 0 []] := by
  obtain ⟨j0, hj, hy0, hy1, hy2⟩ := info_parts Try.infoInt
  have h1 : ¬ ((n : Int) < 0) := by omega
  by_cases h0 : n = 0
  · subst h0
    have hS0 := (St.start w).nilRow 3 1
    have HhS0 := Lib.hid hS0; clear hS0
    go_enter Try.func163, Try.ntmps163
    go_wp2
    go_ret
    exact ⟨none, 0, rfl, HhS0.out⟩
  · have hrz : ∀ ty, (Builtin.append_ #[44, 3] ty #[.slice none 0 0, .int .i64 (n : Int)]).run Try.prog w =
        .ok (.slice (some ⟨w.heap.size, 0, none⟩) n (grownCap w n 0 3)) (w.drew.alloc (.cells (Builtin.zeroCells (Value.int .i64 0).cells n ++ Builtin.zeroCells (Value.int .i64 0).cells (grownCap w n 0 3 - n)) 3)) := fun ty => by
      have h := Lib.run_append_grow_zeros w 44 3 ty 3 j0 (.int .i64 0) .i64 .i64 Try.underlying44 Try.underlying3 hj hy0 none 0 0 [] (run_firstCells_none w.drew j0.size 0 0 0) n (by omega) (by omega) (by omega) (by omega) (by rw [hy2]; omega) (by rw [hy2]; exact growslice_fits (by omega) (by omega))
      simpa using h
    have hGn : n ≤ grownCap w n 0 3 := grownCap_ge w _ _ _
    have hG63 : grownCap w n 0 3 ≤ maxLen := grownCap_le_maxLen w n 0 3 (by unfold maxLen; omega)
    obtain ⟨G, hG⟩ : ∃ G, G = grownCap w n 0 3 := ⟨_, rfl⟩
    obtain ⟨cur, hcur⟩ : ∃ cur, cur = Builtin.zeroCells (Value.int .i64 0).cells n ++ Builtin.zeroCells (Value.int .i64 0).cells (G - n) := ⟨_, rfl⟩
    have hcs : cur.size = G * 1 := by
      rw [hcur, Array.size_append, size_zeroCells, size_zeroCells]
      show n * 1 + (G - n) * 1 = G * 1
      omega
    rw [← hG] at hrz hGn hG63
    rw [← hcur] at hrz
    have hown : (w.drew.alloc (.cells cur 3)).ownsRow w.heap.size 3 1 (.slice (some ⟨w.heap.size, 0, none⟩) 0 G) 0 [] :=
      ⟨rfl, .inr ⟨w.heap.size, G, cur, rfl, Nat.le_refl _, heap_alloc_new w.drew _, Nat.zero_le _, hG63, hcs, by simp⟩⟩
    have hS0 := (St.start w).made ((Below.refl _ _).drew.alloc (Nat.le_refl _) (.cells cur 3)) hown
    have hG63' : G ≤ 9223372036854775807 := by unfold maxLen at hG63; omega
    have HhG := Lib.hid hG; clear hG
    have Hhcur := Lib.hid hcur; clear hcur
    have Hhcs := Lib.hid hcs; clear hcs
    have Hhown := Lib.hid hown; clear hown
    have HhS0 := Lib.hid hS0; clear hS0
    go_enter Try.func163, Try.ntmps163
    go_wp2_with (at_builtin; refine Lib.wpList_append_run _ rfl _ _ _ _ rfl _ _ rfl rfl _ _ (hrz _) ?_)
    go_ret
    exact ⟨_, G, rfl, HhS0.out⟩
set_option maxRecDepth 100000 in
set_option maxHeartbeats 4000000 in
theorem concat_any (xs ys : List Int) (va vb : Value) (b cap : Nat) (w : World) (hxl : xs.length ≤ 1000) (hyl : ys.length ≤ 1000) (hb : b < w.heap.size) (c0 : w.cell? ⟨b, 0, none⟩ = some va) (c1 : w.cell? ⟨b, 1, none⟩ = some vb) (hx : Ints 0 w va xs) (hy : Ints 0 w vb ys) :
    Calls Try.prog 153 #[.slice (some ⟨b, 0, none⟩) 2 cap] w fun e w' => ∃ a c, e = .returned (.slice a (xs.length + ys.length) c) ∧ St w w' [Ent.row 3 1 (.slice a (xs.length + ys.length) c) (xs.length + ys.length) (intCells (xs ++ ys))] := by
  obtain ⟨j0, hj, hy0, hy1, hy2⟩ := info_parts Try.infoInt
  have HX := Lib.hid hx
  have HY := Lib.hid hy
  obtain ⟨ax, cx, rfl, -, -, -⟩ := hx.form
  obtain ⟨ay, cy, rfl, -, -, -⟩ := hy.form
  obtain ⟨L1, hL1⟩ : ∃ L, L = xs.length := ⟨_, rfl⟩
  obtain ⟨L2, hL2⟩ : ∃ L, L = ys.length := ⟨_, rfl⟩
  rw [← hL1] at hxl c0 HX
  rw [← hL2] at hyl c1 HY
  rw [← hL1, ← hL2]
  have C0 := Lib.hid c0
  have C1 := Lib.hid c1
  have HhL1 := Lib.hid hL1; clear hL1
  have HhL2 := Lib.hid hL2; clear hL2
  clear hx hy
  go_enter Try.func153, Try.ntmps153
  go_wp2
  go_loopw [3, 11] (fun n i wr => ∃ k s : Nat, i = .int .i64 k ∧ n = .int .i64 s ∧ k ≤ 2 ∧ (k = 0 → s = 0) ∧ (k = 1 → s = L1) ∧ (k = 2 → s = L1 + L2) ∧ w = wr) (fun _ i _ => 2 - (intOf i).toNat)
  case atStart => exact ⟨0, 0, rfl, rfl, by omega, fun _ => rfl, fun h => by omega, fun h => by omega, rfl⟩
  case round =>
    obtain ⟨k, s, rfl, rfl, hk, hk0, hk1, hk2, rfl⟩ := hrel
    obtain rfl | rfl | rfl : k = 0 ∨ k = 1 ∨ k = 2 := by omega
    · obtain rfl := hk0 rfl
      clear hk hk0 hk1 hk2
      have hw : IntKind.i64.wrap (L1 : Int) = (L1 : Int) := IntWalk.i64_in _ (by omega)
      have hng : ¬ (L1 : Int) < 0 := by omega
      go_wp2
      go_roundw
      case rel => exact ⟨1, L1, rfl, rfl, by omega, fun h => by omega, fun _ => rfl, fun h => by omega, trivial⟩
      case measure => simp [intOf]
    · obtain rfl := hk1 rfl
      clear hk hk0 hk1 hk2
      have hw : IntKind.i64.wrap ((s : Int) + (L2 : Int)) = (s : Int) + (L2 : Int) := IntWalk.i64_in _ (by omega)
      have hng : ¬ (s : Int) + (L2 : Int) < 0 := by omega
      go_wp2
      go_roundw
      case rel => exact ⟨2, s + L2, rfl, by congr 1, by omega, fun h => by omega, fun h => by omega, fun _ => rfl, trivial⟩
      case measure => simp [intOf]
    · obtain rfl := hk2 rfl
      clear hk hk0 hk1 hk2 c0 c1
      go_wp2_with fail
      refine (grow_any (L1 + L2) _ (by omega)).mono ?_
      rintro e w1 ⟨a6, c6, rfl, hS'⟩
      have HS1 := Lib.hid hS'
      clear hS'
      go_wp2
      go_loopw [6, 27] (fun vo i wr => ∃ (k N : Nat) (Z : List Int) (a : Option Addr) (c : Nat), i = .int .i64 k ∧ vo = .slice a N c ∧ k ≤ 2 ∧ (k = 0 → N = 0 ∧ Z = []) ∧ (k = 1 → N = L1 ∧ Z = xs) ∧ (k = 2 → N = L1 + L2 ∧ Z = xs ++ ys) ∧ St w wr [Ent.row 3 1 (.slice a N c) N (intCells Z)]) (fun _ i _ => 2 - (intOf i).toNat)
      case atStart => exact ⟨0, 0, [], a6, c6, rfl, rfl, by omega, fun _ => ⟨rfl, rfl⟩, fun h => by omega, fun h => by omega, HS1.out⟩
      case round =>
        obtain ⟨k, N, Z, a, c, rfl, rfl, hk, hk0, hk1, hk2, hS⟩ := hrel
        obtain rfl | rfl | rfl : k = 0 ∨ k = 1 ∨ k = 2 := by omega
        · obtain ⟨rfl, rfl⟩ := hk0 rfl
          clear hk hk0 hk1 hk2
          have m0 := (bcell hS.bel b 0 hb).trans C0.out
          have HS := Lib.hid hS
          have HR := Lib.hid (hS.row 0 rfl)
          have HXw : Hid (Sl 0 wr (.slice ax L1 cx) L1 1 (intCells xs)) := Lib.hid (by have := HX.out.below hS.bel; unfold Ints at this; rwa [← HhL1.out] at this)
          clear hS
          go_wp2_with (at_builtin; refine wpList_append_sl _ rfl _ _ _ rfl _ 3 j0 (.int .i64 0) 1 8 Try.underlying44 hj hy0 hy1 hy2 rfl (by omega) _ 0 _ rfl HR.out _ L1 (intCells xs) rfl HXw.out on_is (by unfold maxLen; omega) (by omega) HS.out.size ?_; intro a6 c6 w6 hown6 hgrow6 hat6; have HS6 := Lib.hid (HS.out.appS 0 rfl hown6 hgrow6 hat6); clear hown6 hgrow6 hat6)
          go_roundw
          case rel => exact ⟨1, L1, xs, a6, c6, rfl, rfl, by omega, fun h => by omega, fun _ => ⟨rfl, rfl⟩, fun h => by omega, by have h : St w w6 [Ent.row 3 1 (.slice a6 (0 + L1) c6) (0 + L1) (intCells xs)] := HS6.out; rwa [Nat.zero_add] at h⟩
          case measure => simp [intOf]
        · obtain ⟨rfl, rfl⟩ := hk1 rfl
          clear hk hk0 hk1 hk2
          have m0 := (bcell hS.bel b 1 hb).trans C1.out
          have HS := Lib.hid hS
          have HR := Lib.hid (hS.row 0 rfl)
          have HXw : Hid (Sl 0 wr (.slice ay L2 cy) L2 1 (intCells ys)) := Lib.hid (by have := HY.out.below hS.bel; unfold Ints at this; rwa [← HhL2.out] at this)
          clear hS
          go_wp2_with (at_builtin; refine wpList_append_sl _ rfl _ _ _ rfl _ 3 j0 (.int .i64 0) 1 8 Try.underlying44 hj hy0 hy1 hy2 rfl (by omega) _ N _ rfl HR.out _ L2 (intCells ys) rfl HXw.out on_is (by unfold maxLen; omega) (by omega) HS.out.size ?_; intro a6 c6 w6 hown6 hgrow6 hat6; have HS6 := Lib.hid (HS.out.appS 0 rfl hown6 hgrow6 hat6); clear hown6 hgrow6 hat6)
          go_roundw
          case rel => exact ⟨2, N + L2, Z ++ ys, a6, c6, rfl, rfl, by omega, fun h => by omega, fun h => by omega, fun _ => ⟨rfl, rfl⟩, by unfold intCells; rw [List.map_append]; exact HS6.out⟩
          case measure => simp [intOf]
        · obtain ⟨rfl, rfl⟩ := hk2 rfl
          have HS := Lib.hid hS
          clear hk hk0 hk1 hk2 hS
          go_wp2
          go_ret
          exact ⟨a, c, rfl, HS.out⟩
end Go.Proofs.Ytolkifpeblbfcaa
