/-
  The walk over the reference's l7Order: the states in the order in which they are met.
  Condition: the automaton is valid and reads as such.
-/
import Derived.Test.YtclhcfmlkfiidaaPk14
import Derived.Test.YtclhcfmlkfiidaaS10
namespace Go.Proofs.Ytclhcfmlkfiidaa
open Go.RowKit

/-- Which of the numbers below n are in a list. -/
def inL (M : List Int) (n : Nat) : List Bool := (List.range n).map fun (s : Nat) => decide ((s : Int) ∈ M)
theorem inL_len (M : List Int) (n : Nat) : (inL M n).length = n := by simp [inL]
theorem inL_at {M : List Int} {n s : Nat} (h : s < n) : (inL M n).getD s false = decide ((s : Int) ∈ M) := by simp [inL, h]
theorem inL_snoc (M : List Int) (n x : Nat) : inL (M ++ [(x : Int)]) n = (inL M n).set x true := by
  apply List.ext_getElem?
  intro i
  rw [List.getElem?_set]
  by_cases hin : i < n
  · by_cases hx : x = i
    · subst hx
      simp [inL, hin]
    · have : ¬ (i : Int) = (x : Int) := by omega
      simp [inL, hin, hx, this]
  · by_cases hx : x = i
    · subst hx
      simp [inL, hin]
    · simp [inL, hin, hx]
theorem inL_nil (n : Nat) : inL [] n = List.replicate n false := by
  apply List.ext_getElem?
  intro i
  by_cases hin : i < n <;> simp [inL, hin]
theorem inL_cell {M : List Int} {n s : Nat} (h : s < n) : (boolCells (inL M n))[s]? = some (.bool (decide ((s : Int) ∈ M))) := by simp [inL, h]
theorem inL_set {M : List Int} {n x : Nat} : (boolCells (inL M n)).set x (.bool true) = boolCells (inL (M ++ [(x : Int)]) n) := by
  rw [inL_snoc]
  simp [boolCells, List.map_set]
theorem made_inL {w : World} {B n : Nat} {v : Value} (h : w.ownsRow B 4 1 v n (madeCells (Value.bool false).cells (n * 1)).toList) : w.ownsRow B 4 1 v n (boolCells (inL [] n)) := by
  have e : (madeCells (Value.bool false).cells (n * 1)).toList = boolCells (inL [] n) := by
    rw [inL_nil]
    simp [madeCells, Value.cells, boolCells, Nat.mod_one, List.map_const']
  rwa [e] at h
set_option maxRecDepth 100000 in
set_option maxHeartbeats 4000000 in
theorem l7Order_any (d : DfaD) (v : Value) (w : World) (hd : dfaOk d.next d.ends = true) (h : DfaR 0 w v d) (F : List Int) (hF : (bat (dnx d) 0 d.next.length).met = F) :
    Calls Try.prog 94 #[v] w fun e w' => ∃ a c, e = .returned (.slice a F.length c) ∧ St w w' [Ent.row 3 1 (.slice a F.length c) F.length (intCells F)] := by
  obtain ⟨v1, v2, rfl, q1, q2⟩ := h
  have hf := fine_of hd
  obtain ⟨L, hL⟩ : ∃ L, L = d.next.length := ⟨_, rfl⟩
  obtain ⟨hl1, hl2, -⟩ := dfaOk_len hd
  have hrow := fun (i : Nat) (hi : i < d.next.length) => (dfaOk_row hd hi).1
  have hnx := fun (i c : Nat) (hi : i < d.next.length) (h3 : c < 3) => (nxD_lt hf hi h3)
  have hmet := fun (K : Nat) => met_facts hf K
  obtain ⟨av, cvv, rfl, hc1, hc2, hr1⟩ := q1.formI
  obtain ⟨b1, o1, rfl, -, hb1, hcs1⟩ := hr1 (by omega)
  obtain ⟨i0, hi, hz0, hz1, hz2⟩ := info_parts Try.infoBool
  obtain ⟨j0, hj, hy0, hy1, hy2⟩ := info_parts Try.infoInt
  have hS0 := (((St.start w).alloc _ rfl #[.slice (some ⟨b1, o1, none⟩) d.next.length cvv, v2] 32).alloc (w.heap.size + 1) (by simp) #[.int .i64 0] 3).boxrow 1 1 1 [.int .i64 0] rfl rfl (by unfold maxLen; omega)
  rw [← hL] at hl1 hl2 hS0 hF
  rw [← hL]
  have hL0 : (0 : Int) < L := by omega
  have hL00 : 0 < L := by omega
  have Hrow := Lib.hid hrow
  have Hnx := Lib.hid hnx
  have Hmet := Lib.hid hmet
  have Hcs1 := Lib.hid hcs1
  have HhS0 := Lib.hid hS0; clear hS0
  have HhL := Lib.hid hL; clear hL
  have HhF := Lib.hid hF; clear hF
  have Hhi := Lib.hid hi; clear hi
  have Hhz0 := Lib.hid hz0; clear hz0
  have Hhz1 := Lib.hid hz1; clear hz1
  have Hhz2 := Lib.hid hz2; clear hz2
  have Hhj := Lib.hid hj; clear hj
  have Hhy0 := Lib.hid hy0; clear hy0
  have Hhy1 := Lib.hid hy1; clear hy1
  have Hhy2 := Lib.hid hy2; clear hy2
  clear hrow hnx hmet hcs1 hr1 q1 q2 hf hd
  go_enter Try.func94, Try.ntmps94
  have HD := Lib.hid (show ∀ w1 : World, w1.ownsRow ((w.alloc (.cells #[.slice (some ⟨b1, o1, none⟩) L cvv, v2] 32)).alloc (.cells #[.int .i64 0] 3)).heap.size 4 1 (.slice (some ⟨w.heap.size + 1 + 1, 0, none⟩) L L) L (boolCells (inL [] L)) → Below ((w.alloc (.cells #[.slice (some ⟨b1, o1, none⟩) L cvv, v2] 32)).alloc (.cells #[.int .i64 0] 3)).heap.size ((w.alloc (.cells #[.slice (some ⟨b1, o1, none⟩) L cvv, v2] 32)).alloc (.cells #[.int .i64 0] 3)) w1 →
      St w w1 [Ent.box w.heap.size #[.slice (some ⟨b1, o1, none⟩) L cvv, v2] 32, Ent.row 3 1 (.slice (some ⟨w.heap.size + 1, 0, none⟩) 1 1) 1 [.int .i64 0], Ent.row 4 1 (.slice (some ⟨w.heap.size + 1 + 1, 0, none⟩) L L) L (boolCells (inL [] L))] from fun w1 h1 h2 => HhS0.out.made h2 h1)
  go_wp2_with (at_make; refine wpList_make_full _ rfl _ _ 23 rfl _ 4 i0 (.bool false) 1 Try.underlying23 Hhi.out Hhz0.out Hhz1.out .i64 .i64 _ _ L rfl rfl rfl rfl (by rw [Hhz2.out]; omega) (by unfold maxLen; omega) (Nat.le_refl _) ?_; intro w1 hown hgrow; have hm := made_inL hown; simp only [World.size_alloc] at hm; have HS1 := Lib.hid (HD.out w1 (by simpa only [World.size_alloc] using hm) ((Below.refl _ _).grown hgrow (Nat.le_refl _) (fun _ h => by cases h))); have f0 := HS1.out.rfr 2 0 rfl; have k0 := HS1.out.rcell (v := .bool false) 2 0 rfl (by omega) (by rw [inL_cell (by omega)]; simp); clear hown hgrow hm)
  clear f0 k0
  go_loopw [3, 5] (fun vo i wr => ∃ (k : Nat) (g cap : Nat), i = .int .i64 k ∧ vo = .slice (some ⟨g, 0, none⟩) (bat (dnx d) 0 k).met.length cap ∧ k ≤ (bat (dnx d) 0 k).met.length ∧
      St w wr [Ent.box w.heap.size #[.slice (some ⟨b1, o1, none⟩) L cvv, v2] 32, Ent.row 3 1 (.slice (some ⟨g, 0, none⟩) (bat (dnx d) 0 k).met.length cap) (bat (dnx d) 0 k).met.length (intCells (bat (dnx d) 0 k).met), Ent.row 4 1 (.slice (some ⟨w.heap.size + 1 + 1, 0, none⟩) L L) L (boolCells (inL (bat (dnx d) 0 k).met L))])
    (fun _ i _ => L + 1 - (intOf i).toNat)
  case atStart =>
    refine ⟨0, _, _, rfl, rfl, Nat.zero_le _, ?_⟩
    have h := HS1.out.store 2 rfl 0 (.bool true)
    have e := inL_set (M := []) (n := L) (x := 0)
    rw [e] at h
    exact h
  case round =>
    obtain ⟨k, g, cap, rfl, rfl, hk, hS⟩ := hrel
    obtain ⟨S, hSS⟩ : ∃ S, S = bat (dnx d) 0 k := ⟨_, rfl⟩
    have hML := (Hmet.out k).2
    have hMi := (Hmet.out k).1
    rw [← hSS] at hk hS hML hMi
    rw [← hSS]
    rw [← HhL.out] at hML hMi
    by_cases hlt : k < S.met.length
    · have hlt2 : (k : Int) < S.met.length := by omega
      have hkS : k < (bat (dnx d) 0 k).met.length := by rw [← hSS]; exact hlt
      obtain ⟨x, hx⟩ : ∃ x : Nat, S.met.getD k 0 = (x : Int) := ⟨(S.met.getD k 0).toNat, by have := (hMi _ (mem_getD hlt (d := 0))).1; omega⟩
      have hxL : x < L := by have := (hMi _ (mem_getD hlt (d := 0))).2; omega
      have hxb : (bat (dnx d) 0 k).met.getD k 0 = (x : Int) := by rw [← hSS]; exact hx
      obtain ⟨ax, cx, hks, -, -, hIs⟩ := Hcs1.out x (by rw [← HhL.out]; exact hxL)
      have hr3 := Hrow.out x (by rw [← HhL.out]; exact hxL)
      rw [hr3] at hks hIs
      obtain ⟨_, _, hform, -, -, hrs⟩ := hIs.form
      rw [hr3] at hform hrs
      simp only [Value.slice.injEq, true_and] at hform
      obtain ⟨rfl, rfl⟩ := hform
      obtain ⟨b3, o3, rfl, -, hb3, hcs3⟩ := hrs (by omega)
      have Hcs3 := Lib.hid hcs3
      have hxI : (x : Int) < L := by omega
      have HhS := Lib.hid hS; clear hS
      have HhSS := Lib.hid hSS; clear hSS
      have HhMi := Lib.hid hMi; clear hMi
      have HhkS := Lib.hid hkS; clear hkS
      have Hhx := Lib.hid hx; clear hx
      have Hhxb := Lib.hid hxb; clear hxb
      have Hhr3 := Lib.hid hr3; clear hr3
      have Hhks := Lib.hid hks; clear hks
      clear hIs hrs hcs3
      go_wp2
      go_loopw [3, 6] (fun vo i wi => ∃ (c : Nat) (g cap : Nat), i = .int .i64 c ∧ vo = .slice (some ⟨g, 0, none⟩) (bpart (dnx d) 0 k c).met.length cap ∧ c ≤ 3 ∧
          St w wi [Ent.box w.heap.size #[.slice (some ⟨b1, o1, none⟩) L cvv, v2] 32, Ent.row 3 1 (.slice (some ⟨g, 0, none⟩) (bpart (dnx d) 0 k c).met.length cap) (bpart (dnx d) 0 k c).met.length (intCells (bpart (dnx d) 0 k c).met), Ent.row 4 1 (.slice (some ⟨w.heap.size + 1 + 1, 0, none⟩) L L) L (boolCells (inL (bpart (dnx d) 0 k c).met L))])
        (fun _ i _ => 3 - (intOf i).toNat)
      case atStart =>
        refine ⟨0, g, cap, rfl, by rw [bpart_zero, ← HhSS.out], by omega, ?_⟩
        rw [bpart_zero, ← HhSS.out]
        exact HhS.out
      case round =>
        obtain ⟨c, g, cap, rfl, rfl, hc3, hSi⟩ := hrel
        obtain ⟨wp, hwp⟩ : ∃ wp : World, wp = wr := ⟨_, rfl⟩
        subst hwp
        by_cases hc : c < 3
        · have hTS := (bpart_le (nx := dnx d) (a := 0) (k := k) (Nat.zero_le c)).1
          rw [bpart_zero, ← HhSS.out] at hTS
          have hold := bpart_old (nx := dnx d) (a := 0) (k := k) (n := c)
          have hnew := bpart_new (nx := dnx d) (a := 0) (k := k) (n := c)
          rw [Hhxb.out] at hold hnew
          obtain ⟨hyL, hyx⟩ := Hnx.out x c (by rw [← HhL.out]; exact hxL) hc
          have hval : (d.next.getD x []).getD c 0 = ((nxD d x c : Nat) : Int) := by
            unfold dnx at hyx
            rwa [Int.toNat_natCast] at hyx
          rw [hyx] at hold hnew
          rw [← HhL.out] at hyL
          obtain ⟨y, hy⟩ : ∃ y, y = nxD d x c := ⟨_, rfl⟩
          rw [← hy] at hold hnew hval hyL
          have hold' : (y : Int) ∈ (bpart (dnx d) 0 k c).met → (bpart (dnx d) 0 k (c + 1)).met = (bpart (dnx d) 0 k c).met := fun h => by rw [hold h]
          have hnew' : (y : Int) ∉ (bpart (dnx d) 0 k c).met → (bpart (dnx d) 0 k (c + 1)).met = (bpart (dnx d) 0 k c).met ++ [(y : Int)] := fun h => by rw [hnew h]
          clear hold hnew
          have hle := (bpart_le_bat (nx := dnx d) (a := 0) (m := k + 1) HhkS.out (show c ≤ 3 by omega) (by omega)).1.length_le
          have hML2 := (Hmet.out (k + 1)).2
          rw [← HhL.out] at hML2
          obtain ⟨T1, hT1⟩ : ∃ T1, T1 = (bpart (dnx d) 0 k (c + 1)).met := ⟨_, rfl⟩
          obtain ⟨T, hT⟩ : ∃ T, T = (bpart (dnx d) 0 k c).met := ⟨_, rfl⟩
          rw [← hT] at hSi hTS hold' hnew' hle
          rw [← hT1] at hold' hnew'
          rw [← hT]
          have hTL : T.length ≤ L := by omega
          have hkT : k < T.length := Nat.lt_of_lt_of_le hlt hTS.length_le
          have hxT : T.getD k 0 = (x : Int) := (prefix_getD hTS hlt _).trans Hhx.out
          have e0 := hSi.cell (v := .slice (some ⟨b1, o1, none⟩) L cvv) 0 0 rfl rfl
          have e1 := hSi.rcell (v := .int .i64 (x : Int)) 1 k rfl (by omega) (by rw [← hxT]; simp [intCells, hkT])
          have e2 := (bcell hSi.bel b1 _ hb1).trans Hhks.out
          have e3 := (bcell hSi.bel b3 _ hb3).trans (Hcs3.out c hc)
          rw [hval] at e3
          have e4 := hSi.rcell (v := .bool (decide ((y : Int) ∈ T))) 2 y rfl (by omega) (inL_cell hyL)
          have e5 := hSi.rfr 2 y rfl
          have hc4 : (c : Int) < 3 := by omega
          have hyI : (y : Int) < L := by omega
          have hkT2 : (k : Int) < T.length := by omega
          have hset := inL_set (M := T) (n := L) (x := y)
          clear hle hML2
          have HhSi := Lib.hid hSi; clear hSi
          have Hhy := Lib.hid hy; clear hy
          have Hhold' := Lib.hid hold'; clear hold'
          have Hhnew' := Lib.hid hnew'; clear hnew'
          have HhT1 := Lib.hid hT1; clear hT1
          have HhT := Lib.hid hT; clear hT
          have HhTS := Lib.hid hTS; clear hTS
          have HhxT := Lib.hid hxT; clear hxT
          have Hhval := Lib.hid hval; clear hval
          have Hhyx := Lib.hid hyx; clear hyx
          have Hhset := Lib.hid hset; clear hset
          by_cases hmem : (y : Int) ∈ T
          · have hdm : decide ((y : Int) ∈ T) = true := by simpa using hmem
            rw [hdm] at e4
            have hT1o := Hhold'.out hmem
            have HhT1o := Lib.hid hT1o; clear hT1o
            have Hhdm := Lib.hid hdm; clear hdm
            have Hhmem := Lib.hid hmem; clear hmem
            go_wp2
            go_quiet (fail)
            go_wp2
            go_roundw
            case rel =>
              refine ⟨c + 1, g, cap, by go_num, by rw [← HhT1.out, HhT1o.out], by omega, ?_⟩
              rw [← HhT1.out, HhT1o.out]
              exact HhSi.out.drewN _
            case measure => simp [intOf]; omega
          · have hdm : decide ((y : Int) ∈ T) = false := by simpa using hmem
            rw [hdm] at e4
            have hT1n := Hhnew'.out hmem
            have HhT1n := Lib.hid hT1n; clear hT1n
            have Hhdm := Lib.hid hdm; clear hdm
            have Hhmem := Lib.hid hmem; clear hmem
            go_wp2
            go_quiet (fail)
            have hSs := ((HhSi.out.drewN nq).store 2 rfl y (.bool true)).alloc_ (.cells #[.int .i64 (y : Int)] 3)
            rw [Hhset.out] at hSs
            have hR := hSs.row 1 rfl
            have hal := heap_alloc_new ((wp.drewN nq).setCell ⟨w.heap.size + 1 + 1, y, none⟩ (.bool true)) (.cells #[.int .i64 (y : Int)] 3)
            rw [setCell_size, show (wp.drewN nq).heap.size = wp.heap.size from rfl] at hal
            have Hhal := Lib.hid hal; clear hal
            have HhSs := Lib.hid hSs; clear hSs
            have HhR := Lib.hid hR; clear hR
            go_wp2_with (at_builtin; refine wpList_append_lies _ rfl _ _ _ rfl _ 3 j0 (.int .i64 0) 1 8 Try.underlying44 Hhj.out Hhy0.out Hhy1.out Hhy2.out rfl (by omega) _ T.length _ rfl HhR.out ⟨wp.heap.size, 0, none⟩ 1 1 [.int .i64 (y : Int)] rfl rfl (World.news_of_block Hhal.out) one_int (by omega) (by unfold maxLen; omega) (by omega) HhSs.out.size _ rfl ?_; intro g6 c6 w6 hown6 hgrow6 hat6 hlt6; have HS6 := Lib.hid (HhSs.out.app 1 rfl hown6 hgrow6 hat6); clear hown6 hgrow6 hat6 hlt6)
            go_roundw
            case rel =>
              refine ⟨c + 1, g6, c6, by go_num, by rw [← HhT1.out, HhT1n.out, List.length_append]; rfl, by omega, ?_⟩
              rw [← HhT1.out, HhT1n.out, List.length_append, intCells_snoc]
              exact HS6.out
            case measure => simp [intOf]; omega
        · obtain rfl : c = 3 := by omega
          have hbs : bat (dnx d) 0 (k + 1) = bpart (dnx d) 0 k 3 := bat_succ HhkS.out
          have hTS := (bpart_le (nx := dnx d) (a := 0) (k := k) (Nat.zero_le 3)).1.length_le
          rw [bpart_zero, ← HhSS.out] at hTS
          have Hhbs := Lib.hid hbs; clear hbs
          have HhSi := Lib.hid hSi; clear hSi
          go_wp2
          go_roundw
          case rel => exact ⟨k + 1, g, cap, by go_num, by rw [Hhbs.out], by rw [Hhbs.out]; omega, by rw [Hhbs.out]; exact HhSi.out⟩
          case measure => simp [intOf]; omega
    · obtain rfl : k = S.met.length := by omega
      have hfin : F = S.met := by
        have h := bat_done (nx := dnx d) (a := 0) (k := S.met.length) (m := L) (by rw [← hSS]; omega) hML
        rw [← HhF.out, h, ← hSS]
      subst hfin
      have HhS := Lib.hid hS; clear hS
      have HhSS := Lib.hid hSS; clear hSS
      go_wp2
      go_ret
      exact ⟨_, _, rfl, HhS.out.pick [1] (by decide)⟩
end Go.Proofs.Ytclhcfmlkfiidaa
