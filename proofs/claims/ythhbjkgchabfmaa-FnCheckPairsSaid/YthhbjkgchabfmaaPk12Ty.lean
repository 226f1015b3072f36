/-
  The walk over the reference's l7Name.
  Condition: the list reads as such.
-/
import Derived.Test.YthhbjkgchabfmaaPk09Dx
namespace Go.Proofs.Ythhbjkgchabfmaa
open Go.RowKit
def nameOf (l : List Int) (x : Int) : Int := if x ∈ l then ((l.idxOf x : Nat) : Int) else -1
theorem nameOf_at {l : List Int} {x : Int} {k : Nat} (hk : k < l.length) (hn : x ∉ l.take k) (h : l.getD k 0 = x) : nameOf l x = (k : Int) := by
  have hx : l[k] = x := by simpa [hk] using h
  have hm : x ∈ l := by rw [← hx]; exact List.getElem_mem hk
  unfold nameOf
  rw [if_pos hm]
  have e : l = l.take k ++ (x :: l.drop (k + 1)) := by
    rw [← hx, List.getElem_cons_drop, List.take_append_drop]
  have : l.idxOf x = k := by
    rw [e, List.idxOf_append, if_neg hn]
    simp
    omega
  rw [this]
set_option maxHeartbeats 1600000 in
theorem l7Name_any (l : List Int) (x : Int) (v : Value) (w : World) (hl : l.length ≤ 1000000) (h : Ints 0 w v l) :
    Calls Try.prog 119 #[v, .int .i64 x] w fun e w' => e = .returned (.int .i64 (nameOf l x)) ∧ Below w.heap.size w w' := by
  obtain ⟨a, c, rfl, hc1, hc2, hr⟩ := h.form
  have Hr := Lib.hid hr
  clear hr h
  go_enter Try.func119, Try.ntmps119
  go_wp2
  go_loopw [5] (fun i wr => ∃ k : Nat, i = .int .i64 k ∧ k ≤ l.length ∧ x ∉ l.take k ∧ Below w.heap.size w wr) (fun i _ => l.length - (intOf i).toNat)
  case atStart => exact ⟨0, rfl, Nat.zero_le _, by simp, Below.refl _ _⟩
  case round =>
    obtain ⟨k, rfl, hk, hn, hb⟩ := hrel
    by_cases hlt : k < l.length
    · have hlt2 : (k : Int) < l.length := by omega
      obtain ⟨b, o, rfl, -, hbl, hcs⟩ := Hr.out (by omega)
      have k1 := (bcell hb b _ hbl).trans (hcs k hlt)
      have htk : l.take (k + 1) = l.take k ++ [l.getD k 0] := by rw [List.take_succ_eq_append_getElem hlt]; simp [hlt]
      obtain ⟨y, hy⟩ : ∃ y, y = l.getD k 0 := ⟨_, rfl⟩
      rw [← hy] at k1 htk
      have Hhy := Lib.hid hy; clear hy
      have Hhb := Lib.hid hb; clear hb
      have Hhtk := Lib.hid htk; clear htk
      clear hcs
      by_cases he : y = x
      · subst he
        have hnm : nameOf l y = (k : Int) := nameOf_at hlt hn Hhy.out.symm
        have Hhn := Lib.hid hn; clear hn
        have Hhnm := Lib.hid hnm; clear hnm
        go_wp2
        go_ret
        refine ⟨?_, Hhb.out⟩
        rw [Hhnm.out]
        rfl
      · have he2 : (y = x) = False := by simp [he]
        have he3 : (y == x) = false := by simpa using he
        have Hhn := Lib.hid hn; clear hn
        have Hhe := Lib.hid he; clear he
        go_wp2
        go_roundw
        case rel => exact ⟨k + 1, by go_num, by omega, by rw [Hhtk.out]; simp only [List.mem_append, List.mem_singleton, not_or]; exact ⟨Hhn.out, fun e => Hhe.out e.symm⟩, Hhb.out⟩
        case measure => simp [intOf]; omega
    · obtain rfl : k = l.length := by omega
      rw [List.take_length] at hn
      have hnm : nameOf l x = -1 := by unfold nameOf; rw [if_neg hn]
      have Hhn := Lib.hid hn; clear hn
      have Hhb := Lib.hid hb; clear hb
      have Hhnm := Lib.hid hnm; clear hnm
      go_wp2
      go_ret
      refine ⟨?_, Hhb.out⟩
      rw [Hhnm.out]
      rfl
section
variable {n : Nat} {nx : Nat → Nat → Nat}
def clR (n : Nat) (nx : Nat → Nat → Nat) (en : Nat → Bool) : Nat → Nat → Nat
  | 0 => fun s => if en s = true then 1 else 0
  | i + 1 => refineC n nx (clR n nx en i)
theorem refine_part (hnx : ∀ s c, s < n → c < 3 → nx s c < n) {cl cl' : Nat → Nat} (h : ∀ s t, s < n → t < n → (cl s = cl t ↔ cl' s = cl' t)) {s : Nat} (hs : s < n) : refineC n nx cl s = refineC n nx cl' s := by
  unfold refineC
  refine leastN_congr fun t ht => ?_
  rw [Bool.eq_iff_iff, sameAt_iff, sameAt_iff, h t s ht hs]
  constructor
  · rintro ⟨a, b⟩
    exact ⟨a, fun c hc => (h _ _ (hnx t c ht hc) (hnx s c hs hc)).1 (b c hc)⟩
  · rintro ⟨a, b⟩
    exact ⟨a, fun c hc => (h _ _ (hnx t c ht hc) (hnx s c hs hc)).2 (b c hc)⟩
theorem clR_at (hnx : ∀ s c, s < n → c < 3 → nx s c < n) (en : Nat → Bool) : ∀ i, (∀ s t, s < n → t < n → (clR n nx en i s = clR n nx en i t ↔ clAt n nx en i s = clAt n nx en i t)) ∧ (0 < i → ∀ s, s < n → clR n nx en i s = clAt n nx en i s)
  | 0 => ⟨fun s t hs ht => by
      rw [cl0_eq hs ht]
      unfold clR
      cases en s <;> cases en t <;> simp, fun h => absurd h (by omega)⟩
  | i + 1 => by
    have ih := (clR_at hnx en i).1
    have h2 : ∀ s, s < n → clR n nx en (i + 1) s = clAt n nx en (i + 1) s := fun s hs => refine_part hnx ih hs
    exact ⟨fun s t hs ht => by rw [h2 s hs, h2 t ht], fun _ => h2⟩
theorem stays_part (hnx : ∀ s c, s < n → c < 3 → nx s c < n) (en : Nat → Bool) (i : Nat) : stays n nx en i ↔ ∀ k j, k < n → j < k → (clR n nx en i j = clR n nx en i k ↔ clR n nx en (i + 1) j = clR n nx en (i + 1) k) := by
  have h0 := (clR_at hnx en i).1
  have h1 := (clR_at hnx en (i + 1)).1
  constructor
  · intro h k j hk hj
    rw [h0 j k (by omega) hk, h1 j k (by omega) hk, h j (by omega), h k hk]
  · intro h
    have key : ∀ k j, k < n → j ≤ k → (clAt n nx en i j = clAt n nx en i k ↔ clAt n nx en (i + 1) j = clAt n nx en (i + 1) k) := fun k j hk hj => by
      by_cases e : j = k
      · rw [e]
        exact ⟨fun _ => rfl, fun _ => rfl⟩
      · have := h k j hk (by omega)
        rwa [h0 j k (by omega) hk, h1 j k (by omega) hk] at this
    intro s hs
    have g0 := clAt_good (n := n) (nx := nx) en i
    have g1 := clAt_good (n := n) (nx := nx) en (i + 1)
    have a1 := g1.le s hs
    have b1 := g0.le s hs
    have a2 := (key s _ hs a1).2 (g1.id s hs)
    have b2 := (key s _ hs b1).1 (g0.id s hs)
    have a3 := g0.le (clAt n nx en (i + 1) s) (by omega)
    have b3 := g1.le (clAt n nx en i s) (by omega)
    omega
theorem name_good {cl : Nat → Nat} (hg : GoodC n cl) {k : Nat} (hk : k < n) : nameOf (clsL n cl) (cl k : Int) = (cl k : Int) := by
  have h1 := hg.le k hk
  have h2 := hg.id k hk
  refine nameOf_at (by rw [clsL_len]; omega) (fun hm => ?_) (by rw [clsL_at cl (by omega), h2])
  obtain ⟨i, hi, e⟩ := List.getElem_of_mem hm
  simp only [List.length_take, clsL_len] at hi
  rw [List.getElem_take] at e
  simp only [clsL, List.getElem_map, List.getElem_range] at e
  have := hg.le i (by omega)
  omega
def lowK (n : Nat) (nx : Nat → Nat → Nat) (cl : Nat → Nat) (k m x : Nat) : Prop := x = refineC n nx cl k ∨ (x = k ∧ ∀ t, m ≤ t → t < k → sameAt nx cl t k = false)
theorem lowK_start (cl : Nat → Nat) (k : Nat) : lowK n nx cl k k k := Or.inr ⟨rfl, fun t h1 h2 => by omega⟩
theorem lowK_yes {cl : Nat → Nat} {k m : Nat} (hk : k < n) (hm : m < n) (h : sameAt nx cl m k = true) : lowK n nx cl k m (refineC n nx cl m) := Or.inl ((refine_eq hm hk).2 h)
theorem lowK_no {cl : Nat → Nat} {k m x : Nat} (h : sameAt nx cl m k = false) (hl : lowK n nx cl k (m + 1) x) : lowK n nx cl k m x := by
  rcases hl with h1 | ⟨h1, h2⟩
  · exact Or.inl h1
  · refine Or.inr ⟨h1, fun t a b => ?_⟩
    by_cases e : t = m
    · rw [e]
      exact h
    · exact h2 t (by omega) b
theorem lowK_end {cl : Nat → Nat} {k x : Nat} (hk : k < n) (hl : lowK n nx cl k 0 x) : x = refineC n nx cl k := by
  rcases hl with h1 | ⟨h1, h2⟩
  · exact h1
  · obtain ⟨a1, a2, a3⟩ := refine_facts (nx := nx) (cl := cl) hk
    by_cases e : refineC n nx cl k < k
    · have := h2 _ (Nat.zero_le _) e
      rw [this] at a2
      exact absurd a2 (by simp)
    · omega
end
theorem clsL_congr {n : Nat} {cl cl' : Nat → Nat} (h : ∀ s, s < n → cl s = cl' s) : clsL n cl = clsL n cl' := List.map_congr_left fun s hs => by rw [h s (List.mem_range.1 hs)]
theorem clsL_snoc (k : Nat) (cl : Nat → Nat) : clsL (k + 1) cl = clsL k cl ++ [(cl k : Int)] := by
  unfold clsL
  rw [List.range_succ, List.map_append]
  rfl
theorem sameAt_R (d : DfaD) (cl : Nat → Nat) (t s : Nat) : sameAt (nxD d) cl t s = (decide (cl t = cl s) && sameR d cl t s 3) := rfl
def inL (M : List Int) (n : Nat) : List Bool := (List.range n).map fun (s : Nat) => decide ((s : Int) ∈ M)
theorem inL_snoc (M : List Int) (n x : Nat) : inL (M ++ [(x : Int)]) n = (inL M n).set x true := by
  apply List.ext_getElem?
  intro i
  rw [List.getElem?_set]
  by_cases hin : i < n
  · by_cases hx : x = i
    · subst hx
      simp [inL, hin]
    · have : ¬ (i : Int) = (x : Int) := by omega
      simp [inL, hin, hx, this]
  · by_cases hx : x = i
    · subst hx
      simp [inL, hin]
    · simp [inL, hin, hx]
theorem inL_nil (n : Nat) : inL [] n = List.replicate n false := by
  apply List.ext_getElem?
  intro i
  by_cases hin : i < n <;> simp [inL, hin]
theorem inL_cell {M : List Int} {n s : Nat} (h : s < n) : (boolCells (inL M n))[s]? = some (.bool (decide ((s : Int) ∈ M))) := by simp [inL, h]
theorem inL_set {M : List Int} {n x : Nat} : (boolCells (inL M n)).set x (.bool true) = boolCells (inL (M ++ [(x : Int)]) n) := by
  rw [inL_snoc]
  simp [boolCells, List.map_set]
theorem made_inL {w : World} {B n : Nat} {v : Value} (h : w.ownsRow B 4 1 v n (madeCells (Value.bool false).cells (n * 1)).toList) : w.ownsRow B 4 1 v n (boolCells (inL [] n)) := by
  have e : (madeCells (Value.bool false).cells (n * 1)).toList = boolCells (inL [] n) := by
    rw [inL_nil]
    simp [madeCells, Value.cells, boolCells, Nat.mod_one, List.map_const']
  rwa [e] at h
set_option maxRecDepth 100000 in
set_option maxHeartbeats 4000000 in
theorem l7Order_any (d : DfaD) (v : Value) (w : World) (hd : dfaOk d.next d.ends = true) (h : DfaR 0 w v d) (F : List Int) (hF : (bat (dnx d) 0 d.next.length).met = F) :
    Calls Try.prog 118 #[v] w fun e w' => ∃ a c, e = .returned (.slice a F.length c) ∧ St w w' [Ent.row 3 1 (.slice a F.length c) F.length (intCells F)] := by
  obtain ⟨v1, v2, rfl, q1, q2⟩ := h
  have hf := fine_of hd
  obtain ⟨L, hL⟩ : ∃ L, L = d.next.length := ⟨_, rfl⟩
  obtain ⟨hl1, hl2, -⟩ := dfaOk_len hd
  have hrow := fun (i : Nat) (hi : i < d.next.length) => (dfaOk_row hd hi).1
  have hnx := fun (i c : Nat) (hi : i < d.next.length) (h3 : c < 3) => (nxD_lt hf hi h3)
  have hmet := fun (K : Nat) => met_facts hf K
  obtain ⟨av, cvv, rfl, hc1, hc2, hr1⟩ := q1.formI
  obtain ⟨b1, o1, rfl, -, hb1, hcs1⟩ := hr1 (by omega)
  obtain ⟨i0, hi, hz0, hz1, hz2⟩ := info_parts Try.infoBool
  obtain ⟨j0, hj, hy0, hy1, hy2⟩ := info_parts Try.infoInt
  have hS0 := (((St.start w).alloc _ rfl #[.slice (some ⟨b1, o1, none⟩) d.next.length cvv, v2] 26).alloc (w.heap.size + 1) (by simp) #[.int .i64 0] 3).boxrow 1 1 1 [.int .i64 0] rfl rfl (by unfold maxLen; omega)
  rw [← hL] at hl1 hl2 hS0 hF
  rw [← hL]
  have hL0 : (0 : Int) < L := by omega
  have hL00 : 0 < L := by omega
  have Hrow := Lib.hid hrow
  have Hnx := Lib.hid hnx
  have Hmet := Lib.hid hmet
  have Hcs1 := Lib.hid hcs1
  have HhS0 := Lib.hid hS0; clear hS0
  have HhL := Lib.hid hL; clear hL
  have HhF := Lib.hid hF; clear hF
  have Hhi := Lib.hid hi; clear hi
  have Hhz0 := Lib.hid hz0; clear hz0
  have Hhz1 := Lib.hid hz1; clear hz1
  have Hhz2 := Lib.hid hz2; clear hz2
  have Hhj := Lib.hid hj; clear hj
  have Hhy0 := Lib.hid hy0; clear hy0
  have Hhy1 := Lib.hid hy1; clear hy1
  have Hhy2 := Lib.hid hy2; clear hy2
  clear hrow hnx hmet hcs1 hr1 q1 q2 hf hd
  go_enter Try.func118, Try.ntmps118
  have HD := Lib.hid (show ∀ w1 : World, w1.ownsRow ((w.alloc (.cells #[.slice (some ⟨b1, o1, none⟩) L cvv, v2] 26)).alloc (.cells #[.int .i64 0] 3)).heap.size 4 1 (.slice (some ⟨w.heap.size + 1 + 1, 0, none⟩) L L) L (boolCells (inL [] L)) → Below ((w.alloc (.cells #[.slice (some ⟨b1, o1, none⟩) L cvv, v2] 26)).alloc (.cells #[.int .i64 0] 3)).heap.size ((w.alloc (.cells #[.slice (some ⟨b1, o1, none⟩) L cvv, v2] 26)).alloc (.cells #[.int .i64 0] 3)) w1 →
      St w w1 [Ent.box w.heap.size #[.slice (some ⟨b1, o1, none⟩) L cvv, v2] 26, Ent.row 3 1 (.slice (some ⟨w.heap.size + 1, 0, none⟩) 1 1) 1 [.int .i64 0], Ent.row 4 1 (.slice (some ⟨w.heap.size + 1 + 1, 0, none⟩) L L) L (boolCells (inL [] L))] from fun w1 h1 h2 => HhS0.out.made h2 h1)
  go_wp2_with (at_make; refine wpList_make_full _ rfl _ _ 24 rfl _ 4 i0 (.bool false) 1 Try.underlying24 Hhi.out Hhz0.out Hhz1.out .i64 .i64 _ _ L rfl rfl rfl rfl (by rw [Hhz2.out]; omega) (by unfold maxLen; omega) (Nat.le_refl _) ?_; intro w1 hown hgrow; have hm := made_inL hown; simp only [World.size_alloc] at hm; have HS1 := Lib.hid (HD.out w1 (by simpa only [World.size_alloc] using hm) ((Below.refl _ _).grown hgrow (Nat.le_refl _) (fun _ h => by cases h))); have f0 := HS1.out.rfr 2 0 rfl; have k0 := HS1.out.rcell (v := .bool false) 2 0 rfl (by omega) (by rw [inL_cell (by omega)]; simp); clear hown hgrow hm)
  clear f0 k0
  go_loopw [3, 5] (fun vo i wr => ∃ (k : Nat) (g cap : Nat), i = .int .i64 k ∧ vo = .slice (some ⟨g, 0, none⟩) (bat (dnx d) 0 k).met.length cap ∧ k ≤ (bat (dnx d) 0 k).met.length ∧
      St w wr [Ent.box w.heap.size #[.slice (some ⟨b1, o1, none⟩) L cvv, v2] 26, Ent.row 3 1 (.slice (some ⟨g, 0, none⟩) (bat (dnx d) 0 k).met.length cap) (bat (dnx d) 0 k).met.length (intCells (bat (dnx d) 0 k).met), Ent.row 4 1 (.slice (some ⟨w.heap.size + 1 + 1, 0, none⟩) L L) L (boolCells (inL (bat (dnx d) 0 k).met L))])
    (fun _ i _ => L + 1 - (intOf i).toNat)
  case atStart =>
    refine ⟨0, _, _, rfl, rfl, Nat.zero_le _, ?_⟩
    have h := HS1.out.store 2 rfl 0 (.bool true)
    have e := inL_set (M := []) (n := L) (x := 0)
    rw [e] at h
    exact h
  case round =>
    obtain ⟨k, g, cap, rfl, rfl, hk, hS⟩ := hrel
    obtain ⟨S, hSS⟩ : ∃ S, S = bat (dnx d) 0 k := ⟨_, rfl⟩
    have hML := (Hmet.out k).2
    have hMi := (Hmet.out k).1
    rw [← hSS] at hk hS hML hMi
    rw [← hSS]
    rw [← HhL.out] at hML hMi
    by_cases hlt : k < S.met.length
    · have hlt2 : (k : Int) < S.met.length := by omega
      have hkS : k < (bat (dnx d) 0 k).met.length := by rw [← hSS]; exact hlt
      obtain ⟨x, hx⟩ : ∃ x : Nat, S.met.getD k 0 = (x : Int) := ⟨(S.met.getD k 0).toNat, by have := (hMi _ (mem_getD hlt (d := 0))).1; omega⟩
      have hxL : x < L := by have := (hMi _ (mem_getD hlt (d := 0))).2; omega
      have hxb : (bat (dnx d) 0 k).met.getD k 0 = (x : Int) := by rw [← hSS]; exact hx
      obtain ⟨ax, cx, hks, -, -, hIs⟩ := Hcs1.out x (by rw [← HhL.out]; exact hxL)
      have hr3 := Hrow.out x (by rw [← HhL.out]; exact hxL)
      rw [hr3] at hks hIs
      obtain ⟨_, _, hform, -, -, hrs⟩ := hIs.form
      rw [hr3] at hform hrs
      simp only [Value.slice.injEq, true_and] at hform
      obtain ⟨rfl, rfl⟩ := hform
      obtain ⟨b3, o3, rfl, -, hb3, hcs3⟩ := hrs (by omega)
      have Hcs3 := Lib.hid hcs3
      have hxI : (x : Int) < L := by omega
      have HhS := Lib.hid hS; clear hS
      have HhSS := Lib.hid hSS; clear hSS
      have HhMi := Lib.hid hMi; clear hMi
      have HhkS := Lib.hid hkS; clear hkS
      have Hhx := Lib.hid hx; clear hx
      have Hhxb := Lib.hid hxb; clear hxb
      have Hhr3 := Lib.hid hr3; clear hr3
      have Hhks := Lib.hid hks; clear hks
      clear hIs hrs hcs3
      go_wp2
      go_loopw [3, 6] (fun vo i wi => ∃ (c : Nat) (g cap : Nat), i = .int .i64 c ∧ vo = .slice (some ⟨g, 0, none⟩) (bpart (dnx d) 0 k c).met.length cap ∧ c ≤ 3 ∧
          St w wi [Ent.box w.heap.size #[.slice (some ⟨b1, o1, none⟩) L cvv, v2] 26, Ent.row 3 1 (.slice (some ⟨g, 0, none⟩) (bpart (dnx d) 0 k c).met.length cap) (bpart (dnx d) 0 k c).met.length (intCells (bpart (dnx d) 0 k c).met), Ent.row 4 1 (.slice (some ⟨w.heap.size + 1 + 1, 0, none⟩) L L) L (boolCells (inL (bpart (dnx d) 0 k c).met L))])
        (fun _ i _ => 3 - (intOf i).toNat)
      case atStart =>
        refine ⟨0, g, cap, rfl, by rw [bpart_zero, ← HhSS.out], by omega, ?_⟩
        rw [bpart_zero, ← HhSS.out]
        exact HhS.out
      case round =>
        obtain ⟨c, g, cap, rfl, rfl, hc3, hSi⟩ := hrel
        obtain ⟨wp, hwp⟩ : ∃ wp : World, wp = wr := ⟨_, rfl⟩
        subst hwp
        by_cases hc : c < 3
        · have hTS := (bpart_le (nx := dnx d) (a := 0) (k := k) (Nat.zero_le c)).1
          rw [bpart_zero, ← HhSS.out] at hTS
          have hold := bpart_old (nx := dnx d) (a := 0) (k := k) (n := c)
          have hnew := bpart_new (nx := dnx d) (a := 0) (k := k) (n := c)
          rw [Hhxb.out] at hold hnew
          obtain ⟨hyL, hyx⟩ := Hnx.out x c (by rw [← HhL.out]; exact hxL) hc
          have hval : (d.next.getD x []).getD c 0 = ((nxD d x c : Nat) : Int) := by
            unfold dnx at hyx
            rwa [Int.toNat_natCast] at hyx
          rw [hyx] at hold hnew
          rw [← HhL.out] at hyL
          obtain ⟨y, hy⟩ : ∃ y, y = nxD d x c := ⟨_, rfl⟩
          rw [← hy] at hold hnew hval hyL
          have hold' : (y : Int) ∈ (bpart (dnx d) 0 k c).met → (bpart (dnx d) 0 k (c + 1)).met = (bpart (dnx d) 0 k c).met := fun h => by rw [hold h]
          have hnew' : (y : Int) ∉ (bpart (dnx d) 0 k c).met → (bpart (dnx d) 0 k (c + 1)).met = (bpart (dnx d) 0 k c).met ++ [(y : Int)] := fun h => by rw [hnew h]
          clear hold hnew
          have hle := (bpart_le_bat (nx := dnx d) (a := 0) (m := k + 1) HhkS.out (show c ≤ 3 by omega) (by omega)).1.length_le
          have hML2 := (Hmet.out (k + 1)).2
          rw [← HhL.out] at hML2
          obtain ⟨T1, hT1⟩ : ∃ T1, T1 = (bpart (dnx d) 0 k (c + 1)).met := ⟨_, rfl⟩
          obtain ⟨T, hT⟩ : ∃ T, T = (bpart (dnx d) 0 k c).met := ⟨_, rfl⟩
          rw [← hT] at hSi hTS hold' hnew' hle
          rw [← hT1] at hold' hnew'
          rw [← hT]
          have hTL : T.length ≤ L := by omega
          have hkT : k < T.length := Nat.lt_of_lt_of_le hlt hTS.length_le
          have hxT : T.getD k 0 = (x : Int) := (prefix_getD hTS hlt _).trans Hhx.out
          have e0 := hSi.cell (v := .slice (some ⟨b1, o1, none⟩) L cvv) 0 0 rfl rfl
          have e1 := hSi.rcell (v := .int .i64 (x : Int)) 1 k rfl (by omega) (by rw [← hxT]; simp [intCells, hkT])
          have e2 := (bcell hSi.bel b1 _ hb1).trans Hhks.out
          have e3 := (bcell hSi.bel b3 _ hb3).trans (Hcs3.out c hc)
          rw [hval] at e3
          have e4 := hSi.rcell (v := .bool (decide ((y : Int) ∈ T))) 2 y rfl (by omega) (inL_cell hyL)
          have e5 := hSi.rfr 2 y rfl
          have hc4 : (c : Int) < 3 := by omega
          have hyI : (y : Int) < L := by omega
          have hkT2 : (k : Int) < T.length := by omega
          have hset := inL_set (M := T) (n := L) (x := y)
          clear hle hML2
          have HhSi := Lib.hid hSi; clear hSi
          have Hhy := Lib.hid hy; clear hy
          have Hhold' := Lib.hid hold'; clear hold'
          have Hhnew' := Lib.hid hnew'; clear hnew'
          have HhT1 := Lib.hid hT1; clear hT1
          have HhT := Lib.hid hT; clear hT
          have HhTS := Lib.hid hTS; clear hTS
          have HhxT := Lib.hid hxT; clear hxT
          have Hhval := Lib.hid hval; clear hval
          have Hhyx := Lib.hid hyx; clear hyx
          have Hhset := Lib.hid hset; clear hset
          by_cases hmem : (y : Int) ∈ T
          · have hdm : decide ((y : Int) ∈ T) = true := by simpa using hmem
            rw [hdm] at e4
            have hT1o := Hhold'.out hmem
            have HhT1o := Lib.hid hT1o; clear hT1o
            have Hhdm := Lib.hid hdm; clear hdm
            have Hhmem := Lib.hid hmem; clear hmem
            go_wp2
            go_quiet (fail)
            go_wp2
            go_roundw
            case rel =>
              refine ⟨c + 1, g, cap, by go_num, by rw [← HhT1.out, HhT1o.out], by omega, ?_⟩
              rw [← HhT1.out, HhT1o.out]
              exact HhSi.out.drewN _
            case measure => simp [intOf]; omega
          · have hdm : decide ((y : Int) ∈ T) = false := by simpa using hmem
            rw [hdm] at e4
            have hT1n := Hhnew'.out hmem
            have HhT1n := Lib.hid hT1n; clear hT1n
            have Hhdm := Lib.hid hdm; clear hdm
            have Hhmem := Lib.hid hmem; clear hmem
            go_wp2
            go_quiet (fail)
            have hSs := ((HhSi.out.drewN nq).store 2 rfl y (.bool true)).alloc_ (.cells #[.int .i64 (y : Int)] 3)
            rw [Hhset.out] at hSs
            have hR := hSs.row 1 rfl
            have hal := heap_alloc_new ((wp.drewN nq).setCell ⟨w.heap.size + 1 + 1, y, none⟩ (.bool true)) (.cells #[.int .i64 (y : Int)] 3)
            rw [setCell_size, show (wp.drewN nq).heap.size = wp.heap.size from rfl] at hal
            have Hhal := Lib.hid hal; clear hal
            have HhSs := Lib.hid hSs; clear hSs
            have HhR := Lib.hid hR; clear hR
            go_wp2_with (at_builtin; refine wpList_append_lies _ rfl _ _ _ rfl _ 3 j0 (.int .i64 0) 1 8 Try.underlying29 Hhj.out Hhy0.out Hhy1.out Hhy2.out rfl (by omega) _ T.length _ rfl HhR.out ⟨wp.heap.size, 0, none⟩ 1 1 [.int .i64 (y : Int)] rfl rfl (World.news_of_block Hhal.out) one_int (by omega) (by unfold maxLen; omega) (by omega) HhSs.out.size _ rfl ?_; intro g6 c6 w6 hown6 hgrow6 hat6 hlt6; have HS6 := Lib.hid (HhSs.out.app 1 rfl hown6 hgrow6 hat6); clear hown6 hgrow6 hat6 hlt6)
            go_roundw
            case rel =>
              refine ⟨c + 1, g6, c6, by go_num, by rw [← HhT1.out, HhT1n.out, List.length_append]; rfl, by omega, ?_⟩
              rw [← HhT1.out, HhT1n.out, List.length_append, intCells_snoc]
              exact HS6.out
            case measure => simp [intOf]; omega
        · obtain rfl : c = 3 := by omega
          have hbs : bat (dnx d) 0 (k + 1) = bpart (dnx d) 0 k 3 := bat_succ HhkS.out
          have hTS := (bpart_le (nx := dnx d) (a := 0) (k := k) (Nat.zero_le 3)).1.length_le
          rw [bpart_zero, ← HhSS.out] at hTS
          have Hhbs := Lib.hid hbs; clear hbs
          have HhSi := Lib.hid hSi; clear hSi
          go_wp2
          go_roundw
          case rel => exact ⟨k + 1, g, cap, by go_num, by rw [Hhbs.out], by rw [Hhbs.out]; omega, by rw [Hhbs.out]; exact HhSi.out⟩
          case measure => simp [intOf]; omega
    · obtain rfl : k = S.met.length := by omega
      have hfin : F = S.met := by
        have h := bat_done (nx := dnx d) (a := 0) (k := S.met.length) (m := L) (by rw [← hSS]; omega) hML
        rw [← HhF.out, h, ← hSS]
      subst hfin
      have HhS := Lib.hid hS; clear hS
      have HhSS := Lib.hid hSS; clear hSS
      go_wp2
      go_ret
      exact ⟨_, _, rfl, HhS.out.pick [1] (by decide)⟩
theorem met_closed {d : DfaD} (hd : dfaOk d.next d.ends = true) {k c : Nat} (hk : k < (bat (dnx d) 0 d.next.length).met.length) (hc : c < 3) : dnx d ((bat (dnx d) 0 d.next.length).met.getD k 0) c ∈ (bat (dnx d) 0 d.next.length).met := by
  have hm := (met_facts (fine_of hd) d.next.length).2
  have hkl : k < d.next.length := by omega
  have hkk : k < (bat (dnx d) 0 k).met.length := by
    by_cases h : k < (bat (dnx d) 0 k).met.length
    · exact h
    · have := bat_done (nx := dnx d) (a := 0) (k := k) (m := d.next.length) (by omega) (by omega)
      rw [this] at hk
      omega
  have hp := (bat_le (nx := dnx d) (a := (0 : Int)) (k := k) (m := d.next.length) (by omega)).1
  rw [prefix_getD hp hkk]
  have h1 := bpart_mem (nx := dnx d) (a := (0 : Int)) (k := k) (n := 3) hc
  have h2 := (bpart_le_bat (nx := dnx d) (a := (0 : Int)) (m := d.next.length) hkk (Nat.le_refl 3) hkl).1
  exact h2.subset h1
theorem met_nat {d : DfaD} (hd : dfaOk d.next d.ends = true) {k : Nat} (hk : k < (bat (dnx d) 0 d.next.length).met.length) : ∃ x : Nat, (bat (dnx d) 0 d.next.length).met.getD k 0 = (x : Int) ∧ x < d.next.length ∧ ∀ c, c < 3 → ((nxD d x c : Nat) : Int) ∈ (bat (dnx d) 0 d.next.length).met := by
  have h := (met_facts (fine_of hd) d.next.length).1 _ (mem_getD hk (d := 0))
  refine ⟨((bat (dnx d) 0 d.next.length).met.getD k 0).toNat, by omega, by omega, fun c hc => ?_⟩
  have h1 := met_closed hd hk hc
  have e : (bat (dnx d) 0 d.next.length).met.getD k 0 = ((((bat (dnx d) 0 d.next.length).met.getD k 0).toNat : Nat) : Int) := by omega
  rw [e, (nxD_lt (fine_of hd) (by omega) hc).2] at h1
  exact h1
theorem nameOf_mem {l : List Int} {x : Int} (h : x ∈ l) : nameOf l x = (placeOf l x : Int) := by
  unfold nameOf placeOf
  rw [if_pos h]
theorem clsL_cell {n s : Nat} (cl : Nat → Nat) (h : s < n) : (intCells (clsL n cl))[s]? = some (.int .i64 ((cl s : Nat) : Int)) := by simp [intCells, clsL, h]
theorem St.intsC {w0 w : World} {L : List Ent} (h : St w0 w L) (i : Nat) {v : Value} {n : Nat} {cl : Nat → Nat} (hx : L[i]? = some (Ent.row 3 1 v n (intCells (clsL n cl)))) : Ints 0 w v (clsL n cl) :=
  ints_of_row' (B := w0.heap.size) (e := 3) (by rw [clsL_len]; exact h.row i hx)
def natAt (w : World) (b j : Nat) : Nat := match w.cell? ⟨b, j, none⟩ with
  | some v => (intOf v).toNat
  | none => 0
theorem natAt_of {w : World} {b j t : Nat} (h : w.cell? ⟨b, j, none⟩ = some (.int .i64 ((t : Nat) : Int))) : natAt w b j = t := by
  unfold natAt
  rw [h]
  simp [intOf]
def blockOf : Value → Nat
  | .slice (some a) _ _ => a.block
  | _ => 0
def isYes : Value → Bool
  | .bool b => b
  | _ => false
def RCl (d : DfaD) (w : World) (e : Ending) (w' : World) : Prop := ∃ b c, e = .returned (.slice (some ⟨b, 0, none⟩) d.next.length c) ∧ St w w' [Ent.row 3 1 (.slice (some ⟨b, 0, none⟩) d.next.length c) d.next.length (intCells (clsL d.next.length (clD d)))]
def dif (a b : Nat → Nat) (j k : Nat) : Bool := decide (a j = a k) != decide (b j = b k)
def difs (a b : Nat → Nat) (k m : Nat) : Bool := (List.range m).any fun j => dif a b j k
def difK (a b : Nat → Nat) (k : Nat) : Bool := (List.range k).any fun x => difs a b x x
theorem difs_succ (a b : Nat → Nat) (k m : Nat) : difs a b k (m + 1) = (difs a b k m || dif a b m k) := by
  unfold difs
  rw [List.range_succ, List.any_append]
  simp
theorem difK_succ (a b : Nat → Nat) (k : Nat) : difK a b (k + 1) = (difK a b k || difs a b k k) := by
  unfold difK
  rw [List.range_succ, List.any_append]
  simp
theorem difK_false {a b : Nat → Nat} {n : Nat} : difK a b n = false ↔ ∀ k j, k < n → j < k → (a j = a k ↔ b j = b k) := by
  constructor
  · intro h k j hk hj
    have h1 : difs a b k k = false := by simpa using List.any_eq_false.1 h k (List.mem_range.2 hk)
    have h2 : dif a b j k = false := by simpa using List.any_eq_false.1 h1 j (List.mem_range.2 hj)
    simpa [dif] using h2
  · intro h
    refine List.any_eq_false.2 fun k hk => ?_
    simp only [Bool.not_eq_true]
    refine List.any_eq_false.2 fun j hj => ?_
    simp only [Bool.not_eq_true]
    have := h k j (List.mem_range.1 hk) (List.mem_range.1 hj)
    simpa [dif] using this
def apart (n : Nat) (cl : Nat → Nat) : Nat := ((List.range (n * n)).filter fun x => decide (cl (x / n) ≠ cl (x % n))).length
theorem apart_le (n : Nat) (cl : Nat → Nat) : apart n cl ≤ n * n := by
  have := List.length_filter_le (fun x => decide (cl (x / n) ≠ cl (x % n))) (List.range (n * n))
  simpa [apart] using this
theorem apart_more {n : Nat} {nx : Nat → Nat → Nat} {cl : Nat → Nat} {j k : Nat} (hj : j < n) (hk : k < n) (h0 : cl j = cl k) (h1 : refineC n nx cl j ≠ refineC n nx cl k) : apart n cl < apart n (refineC n nx cl) := by
  have hn : 0 < n := by omega
  have e1 : (k + n * j) / n = j := by rw [Nat.add_mul_div_left _ _ hn, Nat.div_eq_of_lt hk, Nat.zero_add]
  have e2 : (k + n * j) % n = k := by rw [Nat.add_mul_mod_self_left, Nat.mod_eq_of_lt hk]
  refine filter_lt (a := k + n * j) (by rw [e1, e2]; simpa using h0) (by rw [e1, e2]; simpa using h1) ?_ fun x hx h => ?_
  · rw [List.mem_range]
    have : n * j + n ≤ n * n := by
      have := Nat.mul_le_mul_left n (show j + 1 ≤ n by omega)
      rwa [Nat.mul_add, Nat.mul_one] at this
    omega
  · have hx := List.mem_range.1 hx
    have h2 : x / n < n := (Nat.div_lt_iff_lt_mul hn).2 hx
    have h3 : x % n < n := Nat.mod_lt _ hn
    simp only [decide_eq_true_eq] at h ⊢
    intro he
    exact h ((sameAt_iff nx).1 ((refine_eq h2 h3).1 he)).1
theorem apart_round {n : Nat} {nx : Nat → Nat → Nat} {en : Nat → Bool} (hnx : ∀ s c, s < n → c < 3 → nx s c < n) {i : Nat} (h : ¬ stays n nx en i) : apart n (clR n nx en i) < apart n (clR n nx en (i + 1)) := by
  have hp := stays_part hnx en i
  have hex : ∃ k j, k < n ∧ j < k ∧ ¬ (clR n nx en i j = clR n nx en i k ↔ clR n nx en (i + 1) j = clR n nx en (i + 1) k) := by
    apply Classical.byContradiction
    intro hc
    refine h (hp.2 fun k j hk hj => ?_)
    apply Classical.byContradiction
    intro hcx
    exact hc ⟨k, j, hk, hj, hcx⟩
  obtain ⟨k, j, hk, hj, hne⟩ := hex
  have hdown : clR n nx en (i + 1) j = clR n nx en (i + 1) k → clR n nx en i j = clR n nx en i k := fun he => ((sameAt_iff nx).1 ((refine_eq (by omega) hk).1 he)).1
  by_cases h0 : clR n nx en i j = clR n nx en i k
  · refine apart_more (j := j) (k := k) (by omega) hk h0 fun h1 => hne ⟨fun _ => h1, fun _ => h0⟩
  · exact absurd ⟨fun h1 => absurd h1 h0, fun h1 => absurd (hdown h1) h0⟩ hne
def apartW (w : World) (b n : Nat) : Nat := ((List.range (n * n)).filter fun x => decide (natAt w b (x / n) ≠ natAt w b (x % n))).length
theorem apartW_of {w : World} {b n : Nat} {cl : Nat → Nat} (h : ∀ s, s < n → w.cell? ⟨b, s, none⟩ = some (.int .i64 ((cl s : Nat) : Int))) : apartW w b n = apart n cl := by
  unfold apartW apart
  congr 1
  refine List.filter_congr fun x hx => ?_
  have hx := List.mem_range.1 hx
  have hn : 0 < n := by
    rcases Nat.eq_zero_or_pos n with e | e
    · rw [e] at hx
      simp at hx
    · exact e
  rw [natAt_of (h _ ((Nat.div_lt_iff_lt_mul hn).2 hx)), natAt_of (h _ (Nat.mod_lt _ hn))]
theorem snoc_set {l : List Value} {k : Nat} {x y : Value} (h : l.length = k) : (l ++ [x]).set k y = l ++ [y] := by
  rw [List.set_append_right _ _ (by omega), show k - l.length = 0 by omega]
  rfl
set_option maxRecDepth 100000 in
set_option maxHeartbeats 8000000 in
theorem l10Classes_any (d : DfaD) (v : Value) (w : World) (hd : dfaOk d.next d.ends = true) (h : DfaR 0 w v d) :
    Calls Try.prog 120 #[v] w fun e w' => RCl d w e w' := by
  obtain ⟨b1, o1, cv, b2, o2, cw, rfl, hC⟩ := dfa_open hd h
  have hnx : ∀ s c, s < d.next.length → c < 3 → nxD d s c < d.next.length := fun s c hs hc => hC.lt s c hs hc
  obtain ⟨N, hN, hNs, hNo⟩ := stays_ex (n := d.next.length) (nx := nxD d) (enD d)
  have hap := fun (i : Nat) (h : ¬ stays d.next.length (nxD d) (enD d) i) => apart_round hnx h
  have hpt := fun (i : Nat) => stays_part hnx (enD d) i
  obtain ⟨C, hCC⟩ : ∃ C, C = clR d.next.length (nxD d) (enD d) := ⟨_, rfl⟩
  rw [← hCC] at hap hpt
  have hfin : ∀ s, s < d.next.length → C (N + 1) s = clD d s := fun s hs => by
    rw [hCC, (clR_at hnx (enD d) (N + 1)).2 (by omega) s hs, hNs s hs]
    exact (clEnd_at hnx hN hNs hs).symm
  have hgood : GoodC d.next.length (C (N + 1)) := by rw [hCC]; exact refine_good
  have hc0 : ∀ s, C 0 s = if enD d s = true then 1 else 0 := fun s => by rw [hCC]; rfl
  have hstep : ∀ i, C (i + 1) = refineC d.next.length (nxD d) (C i) := fun i => by rw [hCC]; rfl
  obtain ⟨L, hL⟩ : ∃ L, L = d.next.length := ⟨_, rfl⟩
  have hl1 := hC.l1
  have hl2 := hC.l2
  have hS0 := (((St.start w).alloc _ rfl #[.slice (some ⟨b1, o1, none⟩) L cv, .slice (some ⟨b2, o2, none⟩) L cw] 26).alloc (w.heap.size + 1) (by simp) #[] 3).boxrow 1 0 1 [] rfl rfl (Nat.zero_le _)
  unfold RCl
  rw [← hL] at hl1 hl2 hN hgood hfin hap hpt hstep
  rw [← hL]
  obtain ⟨i0, hi, hz0, hz1, hz2⟩ := info_parts Try.infoInt
  have HC := Lib.hid hC
  have Hgood := Lib.hid hgood
  have Hc0 := Lib.hid hc0
  have Hfin := Lib.hid hfin
  have HNo := Lib.hid hNo
  have HNs := Lib.hid hNs
  have Hap := Lib.hid hap
  have Hpt := Lib.hid hpt
  have Hstep := Lib.hid hstep
  have HhS0 := Lib.hid hS0; clear hS0
  have HhL := Lib.hid hL; clear hL
  have HhCC := Lib.hid hCC; clear hCC
  have Hhi := Lib.hid hi; clear hi
  have Hhz0 := Lib.hid hz0; clear hz0
  have Hhz1 := Lib.hid hz1; clear hz1
  have Hhz2 := Lib.hid hz2; clear hz2
  clear hC hgood hc0 hfin hNo hNs hnx hap hpt hstep h
  go_enter Try.func120, Try.ntmps120
  go_wp2
  go_loopw [3, 4] (fun vc i wr => ∃ (k g c : Nat), i = .int .i64 k ∧ vc = .slice (some ⟨g, 0, none⟩) k c ∧ k ≤ L ∧ St w wr [Ent.box w.heap.size #[.slice (some ⟨b1, o1, none⟩) L cv, .slice (some ⟨b2, o2, none⟩) L cw] 26, Ent.row 3 1 (.slice (some ⟨g, 0, none⟩) k c) k (intCells (clsL k (C 0)))]) (fun _ i _ => L - (intOf i).toNat)
  case atStart => exact ⟨0, _, _, rfl, rfl, Nat.zero_le _, HhS0.out⟩
  case round =>
    obtain ⟨k, g, c, rfl, rfl, hk, hS⟩ := hrel
    have e0 := hS.cell (v := .slice (some ⟨b1, o1, none⟩) L cv) 0 0 rfl rfl
    by_cases hlt : k < L
    · have hlt2 : (k : Int) < L := by omega
      have hkn : k < d.next.length := by have := HhL.out; omega
      have hen := HC.out.en k hkn
      have hck := Hc0.out k
      have hcs := clsL_snoc k (C 0)
      have hil : (intCells (clsL k (C 0))).length = k := by simp [intCells, clsL_len]
      obtain ⟨z, hz⟩ : ∃ z, z = enD d k := ⟨_, rfl⟩
      rw [← hz] at hen hck
      have hSa := hS.alloc_ (.cells #[.int .i64 0] 3)
      have hR := hSa.row 1 rfl
      have Hen := Lib.hid hen
      have HhS := Lib.hid hS; clear hS
      have HhSa := Lib.hid hSa; clear hSa
      have HhR := Lib.hid hR; clear hR
      have Hhz := Lib.hid hz; clear hz
      have Hhck := Lib.hid hck; clear hck
      have Hhcs := Lib.hid hcs; clear hcs
      have Hhil := Lib.hid hil; clear hil
      clear hen
      cases z
      all_goals go_wp2_with (at_builtin; refine wpList_append_lies _ rfl _ _ _ rfl _ 3 i0 (.int .i64 0) 1 8 Try.underlying29 Hhi.out Hhz0.out Hhz1.out Hhz2.out rfl (by omega) _ k _ rfl HhR.out ⟨wr.heap.size, 0, none⟩ 1 1 [.int .i64 0] rfl rfl (World.news_of_block (heap_alloc_new wr _)) one_int (by omega) (by unfold maxLen; omega) (by omega) HhSa.out.size _ rfl ?_; intro g6 c6 w6 hown6 hgrow6 hat6 hlt6; have HS6 := Lib.hid (HhSa.out.app 1 rfl hown6 hgrow6 hat6); have e1 := HS6.out.cell (v := .slice (some ⟨b2, o2, none⟩) L cw) 0 1 rfl rfl; have e2 := (bcell HS6.out.bel b2 _ HC.out.hb2).trans Hen.out; have f6 := HS6.out.rfr 1 k rfl; have e6 := HS6.out.rcell (v := .int .i64 0) 1 k rfl (by omega) (by rw [List.getElem?_append_right (by rw [Hhil.out]; exact Nat.le_refl _), Hhil.out, Nat.sub_self]; rfl); clear hown6 hgrow6 hat6 hlt6)
      · go_roundw
        case rel =>
          refine ⟨k + 1, g6, c6, by go_num, rfl, by omega, ?_⟩
          have hck : C 0 k = 0 := Hhck.out
          rw [Hhcs.out, intCells_snoc, hck]
          exact HS6.out
        case measure => simp [intOf]; omega
      · go_roundw
        case rel =>
          refine ⟨k + 1, g6, c6, by go_num, rfl, by omega, ?_⟩
          have hck : C 0 k = 1 := Hhck.out
          have h := HS6.out.store 1 rfl k (.int .i64 1)
          rw [snoc_set Hhil.out] at h
          rw [Hhcs.out, intCells_snoc, hck]
          exact h
        case measure => simp [intOf]; omega
    · obtain rfl : L = k := by omega
      have HS2 := Lib.hid hS
      clear hS
      go_wp2
      go_loopw [3, 5] (fun vc va wr => ∃ (i gc cc : Nat) (ag : Bool), vc = .slice (some ⟨gc, 0, none⟩) L cc ∧ va = .bool ag ∧ ((ag = true ∧ i ≤ N) ∨ (ag = false ∧ i = N + 1)) ∧
          St w wr [Ent.box w.heap.size #[.slice (some ⟨b1, o1, none⟩) L cv, .slice (some ⟨b2, o2, none⟩) L cw] 26, Ent.row 3 1 (.slice (some ⟨gc, 0, none⟩) L cc) L (intCells (clsL L (C i)))])
        (fun vc va wr => if isYes va = true then L * L + 1 - apartW wr (blockOf vc) L else 0)
      case atStart => exact ⟨0, _, _, true, rfl, rfl, Or.inl ⟨rfl, Nat.zero_le _⟩, HS2.out⟩
      case round =>
        obtain ⟨i, gc, cc, ag, rfl, rfl, hag, hS⟩ := hrel
        obtain ⟨wo, hwo⟩ : ∃ wo : World, wo = wr := ⟨_, rfl⟩
        subst hwo
        rcases hag with ⟨rfl, hiN⟩ | ⟨rfl, rfl⟩
        · have hSn := (hS.alloc _ rfl #[] 3).boxrow 2 0 1 [] rfl rfl (Nat.zero_le _)
          have HS3 := Lib.hid hS
          have HS4 := Lib.hid hSn
          have hcells : ∀ (w' : World) (_ : St w w' [Ent.box w.heap.size #[.slice (some ⟨b1, o1, none⟩) L cv, .slice (some ⟨b2, o2, none⟩) L cw] 26, Ent.row 3 1 (.slice (some ⟨gc, 0, none⟩) L cc) L (intCells (clsL L (C i)))]) x, x < L → w'.cell? ⟨gc, x, none⟩ = some (.int .i64 ((C i x : Nat) : Int)) := fun w' h' x hx => h'.rcell 1 x rfl (by omega) (clsL_cell (C i) hx)
          have hm0 := apartW_of (w := wo) (b := gc) (n := L) (cl := C i) (hcells wo hS)
          have Hcells := Lib.hid hcells
          have Hm0 := Lib.hid hm0
          clear hS hSn hcells hm0
          go_wp2
          go_loopw [6, 7] (fun vn j wi => ∃ (k gn cn : Nat), j = .int .i64 k ∧ vn = .slice (some ⟨gn, 0, none⟩) k cn ∧ k ≤ L ∧ St w wi [Ent.box w.heap.size #[.slice (some ⟨b1, o1, none⟩) L cv, .slice (some ⟨b2, o2, none⟩) L cw] 26, Ent.row 3 1 (.slice (some ⟨gc, 0, none⟩) L cc) L (intCells (clsL L (C i))), Ent.row 3 1 (.slice (some ⟨gn, 0, none⟩) k cn) k (intCells (clsL k (C (i + 1))))]) (fun _ j _ => L - (intOf j).toNat)
          case atStart => exact ⟨0, _, _, rfl, rfl, Nat.zero_le _, HS4.out⟩
          case round =>
            obtain ⟨k, gn, cn, rfl, rfl, hk, hS⟩ := hrel
            by_cases hlt : k < L
            · have HS5 := Lib.hid hS
              have hlt2 : (k : Int) < L := by omega
              have hkn : k < d.next.length := by have := HhL.out; omega
              clear hS
              go_wp2
              go_loopw [8, 9] (fun vs j wj => ∃ (m x : Nat), vs = .int .i64 x ∧ j = .int .i64 ((m : Int) - 1) ∧ m ≤ k ∧ lowK L (nxD d) (C i) k m x ∧ x ≤ L ∧ St w wj [Ent.box w.heap.size #[.slice (some ⟨b1, o1, none⟩) L cv, .slice (some ⟨b2, o2, none⟩) L cw] 26, Ent.row 3 1 (.slice (some ⟨gc, 0, none⟩) L cc) L (intCells (clsL L (C i))), Ent.row 3 1 (.slice (some ⟨gn, 0, none⟩) k cn) k (intCells (clsL k (C (i + 1))))]) (fun _ j _ => (intOf j + 1).toNat)
              case atStart => exact ⟨k, k, rfl, rfl, Nat.le_refl _, lowK_start _ _, by omega, HS5.out⟩
              case round =>
                obtain ⟨m, x, rfl, rfl, hm, hlow, hxL, hS⟩ := hrel
                obtain ⟨wm, hwm⟩ : ∃ wm : World, wm = wr := ⟨_, rfl⟩
                subst hwm
                by_cases hm0 : 0 < m
                · obtain ⟨j, rfl⟩ : ∃ j, m = j + 1 := ⟨m - 1, by omega⟩
                  rw [show (((j + 1 : Nat) : Int) - 1) = (j : Int) by omega]
                  have hjk : j < k := by omega
                  have hjL : j < L := by omega
                  have hj0 : (0 : Int) ≤ j := by omega
                  have hjI : (j : Int) < L := by omega
                  have hjkI : (j : Int) < k := by omega
                  have hjn : j < d.next.length := by omega
                  obtain ⟨b3, o3, c3, hb3, -, -, r1, r2⟩ := HC.out.row j hjn
                  obtain ⟨b4, o4, c4, hb4, -, -, r3, r4⟩ := HC.out.row k hkn
                  have c1 := Hcells.out _ (hS.pick [0, 1] (by decide)) j hjL
                  have c2 := Hcells.out _ (hS.pick [0, 1] (by decide)) k hlt
                  obtain ⟨z0, hz0⟩ : ∃ z0, z0 = decide (C i j = C i k) := ⟨_, rfl⟩
                  obtain ⟨p, hp⟩ : ∃ p, p = C i j := ⟨_, rfl⟩
                  obtain ⟨q, hq⟩ : ∃ q, q = C i k := ⟨_, rfl⟩
                  rw [← hp] at c1
                  rw [← hq] at c2
                  have g1 : ((p : Int) == (q : Int)) = z0 := by rw [hz0, hp, hq, Bool.eq_iff_iff]; simp only [beq_iff_eq, decide_eq_true_eq]; omega
                  have g2 : decide ((p : Int) = (q : Int)) = z0 := by rw [hz0, hp, hq, decide_eq_decide]; omega
                  have HS6 := Lib.hid hS
                  have Hlow := Lib.hid hlow
                  have Hr1 := Lib.hid r1
                  have Hr2 := Lib.hid r2
                  have Hr3 := Lib.hid r3
                  have Hr4 := Lib.hid r4
                  have Hhz0 := Lib.hid hz0; clear hz0
                  have Hhp := Lib.hid hp; clear hp
                  have Hhq := Lib.hid hq; clear hq
                  clear hS hlow r1 r2 r3 r4
                  go_wp2
                  go_quiet (fail)
                  go_wp2
                  have HS7 := Lib.hid (HS6.out.drewN nq)
                  clear HS6 c1 c2 g1 g2
                  go_loopw [10, 11] (fun vz ic wc => ∃ c : Nat, ic = .int .i64 c ∧ c ≤ 3 ∧ vz = .bool (z0 && sameR d (C i) j k c) ∧ St w wc [Ent.box w.heap.size #[.slice (some ⟨b1, o1, none⟩) L cv, .slice (some ⟨b2, o2, none⟩) L cw] 26, Ent.row 3 1 (.slice (some ⟨gc, 0, none⟩) L cc) L (intCells (clsL L (C i))), Ent.row 3 1 (.slice (some ⟨gn, 0, none⟩) k cn) k (intCells (clsL k (C (i + 1))))]) (fun _ ic _ => 3 - (intOf ic).toNat)
                  case atStart => exact ⟨0, rfl, by omega, by simp [sameR], HS7.out⟩
                  case round =>
                    obtain ⟨c, rfl, hc, rfl, hS⟩ := hrel
                    obtain ⟨wc, hwc⟩ : ∃ wc : World, wc = wr := ⟨_, rfl⟩
                    subst hwc
                    by_cases hc3 : c < 3
                    · have hc4 : (c : Int) < 3 := by omega
                      have hsu := sameR_succ d (C i) j k c
                      obtain ⟨z, hz⟩ : ∃ z, z = (z0 && sameR d (C i) j k c) := ⟨_, rfl⟩
                      rw [← hz]
                      have hnew : (z0 && sameR d (C i) j k (c + 1)) = (z && decide (C i (nxD d j c) = C i (nxD d k c))) := by rw [hsu, hz, Bool.and_assoc]
                      have e0 := hS.cell (v := .slice (some ⟨b1, o1, none⟩) L cv) 0 0 rfl rfl
                      have e1 := (bcell hS.bel b1 _ HC.out.hb1).trans Hr1.out
                      have e2 := (bcell hS.bel b3 _ hb3).trans (Hr2.out c hc3)
                      have e3 := (bcell hS.bel b1 _ HC.out.hb1).trans Hr3.out
                      have e4 := (bcell hS.bel b4 _ hb4).trans (Hr4.out c hc3)
                      have hy1 := HC.out.lt j c hjn hc3
                      have hy2 := HC.out.lt k c hkn hc3
                      rw [← HhL.out] at hy1 hy2
                      obtain ⟨y1, hyy1⟩ : ∃ y1, y1 = nxD d j c := ⟨_, rfl⟩
                      obtain ⟨y2, hyy2⟩ : ∃ y2, y2 = nxD d k c := ⟨_, rfl⟩
                      rw [← hyy1] at e2 hy1 hnew
                      rw [← hyy2] at e4 hy2 hnew
                      have e5 := Hcells.out _ (hS.pick [0, 1] (by decide)) y1 hy1
                      have e6 := Hcells.out _ (hS.pick [0, 1] (by decide)) y2 hy2
                      obtain ⟨p1, hp1⟩ : ∃ p1, p1 = C i y1 := ⟨_, rfl⟩
                      obtain ⟨p2, hp2⟩ : ∃ p2, p2 = C i y2 := ⟨_, rfl⟩
                      rw [← hp1] at e5 hnew
                      rw [← hp2] at e6 hnew
                      have hyI1 : (y1 : Int) < L := by omega
                      have hyI2 : (y2 : Int) < L := by omega
                      have HS8 := Lib.hid hS
                      have Hhyy1 := Lib.hid hyy1; clear hyy1
                      have Hhyy2 := Lib.hid hyy2; clear hyy2
                      have Hhp1 := Lib.hid hp1; clear hp1
                      have Hhp2 := Lib.hid hp2; clear hp2
                      have Hhz := Lib.hid hz; clear hz
                      clear hS hsu
                      cases z
                      · have Hnew := Lib.hid hnew
                        clear hnew
                        go_wp2
                        go_quiet (fail)
                        go_wp2
                        go_roundw
                        case rel => exact ⟨c + 1, by go_num, by omega, by rw [Hnew.out]; rfl, HS8.out.drewN _⟩
                        case measure => simp [intOf]; omega
                      · by_cases he : p1 = p2
                        · have g1 : ((p1 : Int) == (p2 : Int)) = true := by rw [he]; simp
                          have g2 : ((p1 : Int) = (p2 : Int)) = True := by simp [he]
                          rw [decide_eq_true he] at hnew
                          have Hnew := Lib.hid hnew
                          have Hhe := Lib.hid he; clear he
                          clear hnew
                          go_wp2
                          go_quiet (fail)
                          go_wp2
                          go_roundw
                          case rel => exact ⟨c + 1, by go_num, by omega, by rw [Hnew.out]; rfl, HS8.out.drewN _⟩
                          case measure => simp [intOf]; omega
                        · have g1 : ((p1 : Int) == (p2 : Int)) = false := by simp; omega
                          have g2 : ((p1 : Int) = (p2 : Int)) = False := by simp; omega
                          rw [decide_eq_false he] at hnew
                          have Hnew := Lib.hid hnew
                          have Hhe := Lib.hid he; clear he
                          clear hnew
                          go_wp2
                          go_quiet (fail)
                          go_wp2
                          go_roundw
                          case rel => exact ⟨c + 1, by go_num, by omega, by rw [Hnew.out]; rfl, HS8.out.drewN _⟩
                          case measure => simp [intOf]; omega
                    · obtain rfl : c = 3 := by omega
                      have hsa : sameAt (nxD d) (C i) j k = (z0 && sameR d (C i) j k 3) := by rw [sameAt_R, Hhz0.out]
                      obtain ⟨z, hz⟩ : ∃ z, z = (z0 && sameR d (C i) j k 3) := ⟨_, rfl⟩
                      rw [← hz] at hsa
                      rw [← hz]
                      have e7 := hS.rcell (v := .int .i64 ((C (i + 1) j : Nat) : Int)) 2 j rfl (by omega) (clsL_cell (C (i + 1)) hjk)
                      have hCj : C (i + 1) j = refineC L (nxD d) (C i) j := by rw [Hstep.out i]
                      have hCjL : C (i + 1) j ≤ L := by rw [hCj]; have := (refine_facts (nx := nxD d) (cl := C i) hjL).1; omega
                      obtain ⟨u, hu⟩ : ∃ u, u = C (i + 1) j := ⟨_, rfl⟩
                      rw [← hu] at e7 hCj hCjL
                      have HS8 := Lib.hid hS
                      have Hsa := Lib.hid hsa
                      have HhCj := Lib.hid hCj; clear hCj
                      have Hhu := Lib.hid hu; clear hu
                      have Hhz := Lib.hid hz; clear hz
                      clear hS hsa
                      cases z
                      · go_wp2
                        go_roundw
                        case rel => exact ⟨j, x, rfl, by go_num, by omega, lowK_no Hsa.out Hlow.out, hxL, HS8.out⟩
                        case measure => simp [intOf]
                      · go_wp2
                        go_roundw
                        case rel => exact ⟨j, u, rfl, by go_num, by omega, by rw [HhCj.out]; exact lowK_yes hlt hjL Hsa.out, hCjL, HS8.out⟩
                        case measure => simp [intOf]
                · obtain rfl : m = 0 := by omega
                  have hx := lowK_end hlt hlow
                  rw [← Hstep.out i] at hx
                  rw [show (((0 : Nat) : Int) - 1) = (-1 : Int) by omega]
                  have hcs := clsL_snoc k (C (i + 1))
                  rw [← hx] at hcs
                  have hSa := hS.alloc_ (.cells #[.int .i64 ((x : Nat) : Int)] 3)
                  have hR := hSa.row 2 rfl
                  have Hhx := Lib.hid hx; clear hx
                  have Hhcs := Lib.hid hcs; clear hcs
                  have HhSa := Lib.hid hSa; clear hSa
                  have HhR := Lib.hid hR; clear hR
                  clear hS hlow
                  go_wp2_with (at_builtin; refine wpList_append_lies _ rfl _ _ _ rfl _ 3 i0 (.int .i64 0) 1 8 Try.underlying29 Hhi.out Hhz0.out Hhz1.out Hhz2.out rfl (by omega) _ k _ rfl HhR.out ⟨wm.heap.size, 0, none⟩ 1 1 [.int .i64 ((x : Nat) : Int)] rfl rfl (World.news_of_block (heap_alloc_new wm _)) one_int (by omega) (by unfold maxLen; omega) (by omega) HhSa.out.size _ rfl ?_; intro g6 c6 w6 hown6 hgrow6 hat6 hlt6; have HS6 := Lib.hid (HhSa.out.app 2 rfl hown6 hgrow6 hat6); clear hown6 hgrow6 hat6 hlt6)
                  go_roundw
                  case rel =>
                    refine ⟨k + 1, g6, c6, by go_num, rfl, by omega, ?_⟩
                    rw [Hhcs.out, intCells_snoc]
                    exact HS6.out
                  case measure => simp [intOf]; omega
            · obtain rfl : L = k := by omega
              have HS5 := Lib.hid hS
              clear hS
              go_wp2
              go_loopw [5, 12] (fun va jk w6 => ∃ k : Nat, jk = .int .i64 k ∧ k ≤ L ∧ va = .bool (difK (C i) (C (i + 1)) k) ∧ St w w6 [Ent.box w.heap.size #[.slice (some ⟨b1, o1, none⟩) L cv, .slice (some ⟨b2, o2, none⟩) L cw] 26, Ent.row 3 1 (.slice (some ⟨gc, 0, none⟩) L cc) L (intCells (clsL L (C i))), Ent.row 3 1 (.slice (some ⟨gn, 0, none⟩) L cn) L (intCells (clsL L (C (i + 1))))]) (fun _ jk _ => L - (intOf jk).toNat)
              case atStart => exact ⟨0, rfl, Nat.zero_le _, rfl, HS5.out⟩
              case round =>
                obtain ⟨k, rfl, hk, rfl, hS⟩ := hrel
                by_cases hlt : k < L
                · have hlt2 : (k : Int) < L := by omega
                  obtain ⟨zk, hzk⟩ : ∃ zk, zk = difK (C i) (C (i + 1)) k := ⟨_, rfl⟩
                  rw [← hzk]
                  have HS6 := Lib.hid hS
                  have Hhzk := Lib.hid hzk; clear hzk
                  clear hS
                  go_wp2
                  go_loopw [5, 13] (fun va jm w7 => ∃ m : Nat, jm = .int .i64 m ∧ m ≤ k ∧ va = .bool (zk || difs (C i) (C (i + 1)) k m) ∧ St w w7 [Ent.box w.heap.size #[.slice (some ⟨b1, o1, none⟩) L cv, .slice (some ⟨b2, o2, none⟩) L cw] 26, Ent.row 3 1 (.slice (some ⟨gc, 0, none⟩) L cc) L (intCells (clsL L (C i))), Ent.row 3 1 (.slice (some ⟨gn, 0, none⟩) L cn) L (intCells (clsL L (C (i + 1))))]) (fun _ jm _ => k - (intOf jm).toNat)
                  case atStart => exact ⟨0, rfl, Nat.zero_le _, by simp [difs], HS6.out⟩
                  case round =>
                    obtain ⟨m, rfl, hm, rfl, hS⟩ := hrel
                    by_cases hmk : m < k
                    · have hmI : (m : Int) < k := by omega
                      have hmL : (m : Int) < L := by omega
                      have hsu := difs_succ (C i) (C (i + 1)) k m
                      obtain ⟨z, hz⟩ : ∃ z, z = (zk || difs (C i) (C (i + 1)) k m) := ⟨_, rfl⟩
                      rw [← hz]
                      have hnew : (zk || difs (C i) (C (i + 1)) k (m + 1)) = (z || dif (C i) (C (i + 1)) m k) := by rw [hsu, hz, Bool.or_assoc]
                      have e1 := Hcells.out _ (hS.pick [0, 1] (by decide)) m (by omega)
                      have e2 := Hcells.out _ (hS.pick [0, 1] (by decide)) k hlt
                      have e3 := hS.rcell (v := .int .i64 ((C (i + 1) m : Nat) : Int)) 2 m rfl (by omega) (clsL_cell (C (i + 1)) (by omega))
                      have e4 := hS.rcell (v := .int .i64 ((C (i + 1) k : Nat) : Int)) 2 k rfl (by omega) (clsL_cell (C (i + 1)) hlt)
                      unfold dif at hnew
                      obtain ⟨p1, hp1⟩ : ∃ p1, p1 = C i m := ⟨_, rfl⟩
                      obtain ⟨p2, hp2⟩ : ∃ p2, p2 = C i k := ⟨_, rfl⟩
                      obtain ⟨p3, hp3⟩ : ∃ p3, p3 = C (i + 1) m := ⟨_, rfl⟩
                      obtain ⟨p4, hp4⟩ : ∃ p4, p4 = C (i + 1) k := ⟨_, rfl⟩
                      rw [← hp1] at e1 hnew
                      rw [← hp2] at e2 hnew
                      rw [← hp3] at e3 hnew
                      rw [← hp4] at e4 hnew
                      have HS8 := Lib.hid hS
                      have Hhp1 := Lib.hid hp1; clear hp1
                      have Hhp2 := Lib.hid hp2; clear hp2
                      have Hhp3 := Lib.hid hp3; clear hp3
                      have Hhp4 := Lib.hid hp4; clear hp4
                      have Hhz := Lib.hid hz; clear hz
                      clear hS hsu
                      cases z
                      · obtain ⟨u1, hu1⟩ : ∃ u1, u1 = decide (p1 = p2) := ⟨_, rfl⟩
                        obtain ⟨u2, hu2⟩ : ∃ u2, u2 = decide (p3 = p4) := ⟨_, rfl⟩
                        rw [← hu1, ← hu2] at hnew
                        have g1 : ((p1 : Int) == (p2 : Int)) = u1 := by rw [hu1, Bool.eq_iff_iff]; simp only [beq_iff_eq, decide_eq_true_eq]; omega
                        have g2 : decide ((p1 : Int) = (p2 : Int)) = u1 := by rw [hu1, decide_eq_decide]; omega
                        have g3 : ((p3 : Int) == (p4 : Int)) = u2 := by rw [hu2, Bool.eq_iff_iff]; simp only [beq_iff_eq, decide_eq_true_eq]; omega
                        have g4 : decide ((p3 : Int) = (p4 : Int)) = u2 := by rw [hu2, decide_eq_decide]; omega
                        have Hnew := Lib.hid hnew
                        have Hhu1 := Lib.hid hu1; clear hu1
                        have Hhu2 := Lib.hid hu2; clear hu2
                        clear hnew
                        cases u1 <;> cases u2
                        all_goals
                          go_wp2
                          go_quiet (fail)
                          go_wp2
                          go_roundw
                          case rel => exact ⟨m + 1, by go_num, by omega, by rw [Hnew.out]; rfl, HS8.out.drewN _⟩
                          case measure => simp [intOf]; omega
                      · have Hnew := Lib.hid hnew
                        clear hnew
                        go_wp2
                        go_quiet (fail)
                        go_wp2
                        go_roundw
                        case rel => exact ⟨m + 1, by go_num, by omega, by rw [Hnew.out]; rfl, HS8.out.drewN _⟩
                        case measure => simp [intOf]; omega
                    · obtain rfl : m = k := by omega
                      have hsu := difK_succ (C i) (C (i + 1)) m
                      rw [← Hhzk.out] at hsu
                      rw [← hsu]
                      have HS8 := Lib.hid hS
                      have Hhsu := Lib.hid hsu; clear hsu
                      clear hS
                      go_wp2
                      go_roundw
                      case rel => exact ⟨m + 1, by go_num, by omega, rfl, HS8.out⟩
                      case measure => simp [intOf]; omega
                · obtain rfl : L = k := by omega
                  have HS6 := Lib.hid hS
                  clear hS
                  have hdk : difK (C i) (C (i + 1)) L = false ↔ stays L (nxD d) (enD d) i := difK_false.trans (Hpt.out i).symm
                  by_cases hiN : i = N
                  · have h0 : difK (C i) (C (i + 1)) L = false := by rw [hdk, hiN, HhL.out]; exact HNs.out
                    rw [h0]
                    have Hh0 := Lib.hid h0
                    clear h0 hdk
                    go_wp2
                    go_roundw
                    case rel => exact ⟨i + 1, _, _, false, rfl, rfl, Or.inr ⟨rfl, by omega⟩, HS6.out.pick [0, 2] (by decide)⟩
                    case measure =>
                      have := apart_le L (C i)
                      simp only [isYes, blockOf, ↓reduceIte, Bool.false_eq_true, Hm0.out]
                      omega
                  · have hns : ¬ stays L (nxD d) (enD d) i := by rw [HhL.out]; exact HNo.out i (by omega)
                    have h0 : difK (C i) (C (i + 1)) L = true := by
                      cases h : difK (C i) (C (i + 1)) L
                      · exact absurd (hdk.1 h) hns
                      · rfl
                    have hmore := Hap.out i hns
                    rw [h0]
                    have Hh0 := Lib.hid h0
                    have Hmore := Lib.hid hmore
                    have Hhns := Lib.hid hns; clear hns
                    clear h0 hdk hmore
                    go_wp2
                    go_roundw
                    case rel => exact ⟨i + 1, _, _, true, rfl, rfl, Or.inl ⟨rfl, by omega⟩, HS6.out.pick [0, 2] (by decide)⟩
                    case measure =>
                      have h2 := apartW_of (w := wr) (b := gn) (n := L) (cl := C (i + 1)) fun x hx => HS6.out.rcell 2 x rfl (by omega) (clsL_cell (C (i + 1)) hx)
                      have h3 := Hmore.out
                      have h4 := apart_le L (C (i + 1))
                      simp only [isYes, blockOf, ↓reduceIte, Hm0.out, h2]
                      omega
        · have hcl : intCells (clsL L (C (N + 1))) = intCells (clsL L (clD d)) := by rw [clsL_congr Hfin.out]
          have HS3 := Lib.hid hS
          have Hhcl := Lib.hid hcl; clear hcl
          clear hS
          go_wp2
          have HSf := Lib.hid ((HS3.out.alloc _ rfl #[] 3).boxrow 2 0 1 [] rfl rfl (Nat.zero_le _))
          go_loopw [14, 15] (fun vf jk w8 => ∃ (k gf cf : Nat), jk = .int .i64 k ∧ vf = .slice (some ⟨gf, 0, none⟩) k cf ∧ k ≤ L ∧ St w w8 [Ent.box w.heap.size #[.slice (some ⟨b1, o1, none⟩) L cv, .slice (some ⟨b2, o2, none⟩) L cw] 26, Ent.row 3 1 (.slice (some ⟨gc, 0, none⟩) L cc) L (intCells (clsL L (C (N + 1)))), Ent.row 3 1 (.slice (some ⟨gf, 0, none⟩) k cf) k (intCells (clsL k (C (N + 1))))]) (fun _ jk _ => L - (intOf jk).toNat)
          case atStart => exact ⟨0, _, _, rfl, rfl, Nat.zero_le _, HSf.out⟩
          case round =>
            obtain ⟨k, gf, cf, rfl, rfl, hk, hS⟩ := hrel
            by_cases hlt : k < L
            · have hlt2 : (k : Int) < L := by omega
              have e1 := hS.rcell (v := .int .i64 ((C (N + 1) k : Nat) : Int)) 1 k rfl (by omega) (clsL_cell (C (N + 1)) hlt)
              have hnm := name_good (cl := C (N + 1)) Hgood.out (k := k) hlt
              have hcall := l7Name_any (clsL L (C (N + 1))) ((C (N + 1) k : Nat) : Int) (.slice (some ⟨gc, 0, none⟩) L cc) wr (by rw [clsL_len]; omega) (hS.intsC 1 rfl)
              rw [hnm] at hcall
              have hcs := clsL_snoc k (C (N + 1))
              obtain ⟨x, hx⟩ : ∃ x, x = C (N + 1) k := ⟨_, rfl⟩
              rw [← hx] at hcall hcs e1
              have Hcall := Lib.hid hcall
              have HS6 := Lib.hid hS
              have Hhx := Lib.hid hx; clear hx
              have Hhnm := Lib.hid hnm; clear hnm
              have Hhcs := Lib.hid hcs; clear hcs
              clear hcall hS
              go_wp2_with fail
              refine Hcall.out.mono ?_
              rintro e w5 ⟨rfl, hb5⟩
              have hSa := (HS6.out.call hb5).alloc_ (.cells #[.int .i64 ((x : Nat) : Int)] 3)
              have hR := hSa.row 2 rfl
              have HhSa := Lib.hid hSa; clear hSa
              have HhR := Lib.hid hR; clear hR
              clear hb5 e1 HS6
              go_wp2_with (at_builtin; refine wpList_append_lies _ rfl _ _ _ rfl _ 3 i0 (.int .i64 0) 1 8 Try.underlying29 Hhi.out Hhz0.out Hhz1.out Hhz2.out rfl (by omega) _ k _ rfl HhR.out ⟨w5.heap.size, 0, none⟩ 1 1 [.int .i64 ((x : Nat) : Int)] rfl rfl (World.news_of_block (heap_alloc_new w5 _)) one_int (by omega) (by unfold maxLen; omega) (by omega) HhSa.out.size _ rfl ?_; intro g6 c6 w6 hown6 hgrow6 hat6 hlt6; have HS6 := Lib.hid (HhSa.out.app 2 rfl hown6 hgrow6 hat6); clear hown6 hgrow6 hat6 hlt6)
              go_roundw
              case rel =>
                refine ⟨k + 1, g6, c6, by go_num, rfl, by omega, ?_⟩
                rw [Hhcs.out, intCells_snoc]
                exact HS6.out
              case measure => simp [intOf]; omega
            · obtain rfl : L = k := by omega
              rw [Hhcl.out] at hS
              have HS6 := Lib.hid (hS.pick [2] (by decide))
              clear hS
              go_wp2
              go_ret
              exact ⟨gf, cf, rfl, HS6.out⟩
theorem specDfaValidD2_any (d : DfaD) (v : Value) (w : World) (h : DfaR 0 w v d) (r : Bool) (hr : dfaOk d.next d.ends = r) :
    Calls Try.prog 19 #[v] w fun e w' => e = .returned (.bool r) ∧ Below w.heap.size w w' := by
  obtain ⟨v1, v2, rfl, q1, q2⟩ := h
  exact specDfaValid_any d.next d.ends v1 v2 w q1 q2 r hr
end Go.Proofs.Ythhbjkgchabfmaa
