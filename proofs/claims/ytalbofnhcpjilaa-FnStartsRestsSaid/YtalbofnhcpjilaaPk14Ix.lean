/-
  The walk over the reference's l7Name.
  Condition: the list reads as such.
-/
import Derived.Test.YtalbofnhcpjilaaPk10Tv
namespace Go.Proofs.Ytalbofnhcpjilaa
open Go.RowKit
def nameOf (l : List Int) (x : Int) : Int := if x ∈ l then ((l.idxOf x : Nat) : Int) else -1
theorem nameOf_at {l : List Int} {x : Int} {k : Nat} (hk : k < l.length) (hn : x ∉ l.take k) (h : l.getD k 0 = x) : nameOf l x = (k : Int) := by
 have hx : l[k] = x := by simpa [hk] using h
 have hm : x ∈ l := by rw [← hx]; exact List.getElem_mem hk
 unfold nameOf
 rw [if_pos hm]
 have e : l = l.take k ++ (x :: l.drop (k + 1)) := by
  rw [← hx, List.getElem_cons_drop, List.take_append_drop]
 have : l.idxOf x = k := by
  rw [e, List.idxOf_append, if_neg hn]
  simp
  omega
 rw [this]
set_option maxHeartbeats 1600000 in
theorem l7Name_any (l : List Int) (x : Int) (v : Value) (w : World) (hl : l.length ≤ 1000000) (h : Ints 0 w v l) :
  Calls Try.prog 115 #[v, .int .i64 x] w fun e w' => e = .returned (.int .i64 (nameOf l x)) ∧ Below w.heap.size w w' := by
 obtain ⟨a, c, rfl, hc1, hc2, hr⟩ := h.form
 have Hr := Lib.hid hr
 clear hr h
 go_enter Try.func115, Try.ntmps115
 go_wp2
 go_loopw [5] (fun i wr => ∃ k : Nat, i = .int .i64 k ∧ k ≤ l.length ∧ x ∉ l.take k ∧ Below w.heap.size w wr) (fun i _ => l.length - (intOf i).toNat)
 case atStart => exact ⟨0, rfl, Nat.zero_le _, by simp, Below.refl _ _⟩
 case round =>
  obtain ⟨k, rfl, hk, hn, hb⟩ := hrel
  by_cases hlt : k < l.length
  ·have hlt2 : (k : Int) < l.length := by omega
   obtain ⟨b, o, rfl, -, hbl, hcs⟩ := Hr.out (by omega)
   have k1 := (bcell hb b _ hbl).trans (hcs k hlt)
   have htk : l.take (k + 1) = l.take k ++ [l.getD k 0] := by rw [List.take_succ_eq_append_getElem hlt]; simp [hlt]
   obtain ⟨y, hy⟩ : ∃ y, y = l.getD k 0 := ⟨_, rfl⟩
   rw [← hy] at k1 htk
   have Hhy := Lib.hid hy; clear hy
   have Hhb := Lib.hid hb; clear hb
   have Hhtk := Lib.hid htk; clear htk
   clear hcs
   by_cases he : y = x
   ·subst he
    have hnm : nameOf l y = (k : Int) := nameOf_at hlt hn Hhy.out.symm
    have Hhn := Lib.hid hn; clear hn
    have Hhnm := Lib.hid hnm; clear hnm
    go_wp2
    go_ret
    refine ⟨?_, Hhb.out⟩
    rw [Hhnm.out]
    rfl
   ·have he2 : (y = x) = False := by simp [he]
    have he3 : (y == x) = false := by simpa using he
    have Hhn := Lib.hid hn; clear hn
    have Hhe := Lib.hid he; clear he
    go_wp2
    go_roundw
    case rel => exact ⟨k + 1, by go_num, by omega, by rw [Hhtk.out]; simp only [List.mem_append, List.mem_singleton, not_or]; exact ⟨Hhn.out, fun e => Hhe.out e.symm⟩, Hhb.out⟩
    case measure => simp [intOf]; omega
  ·obtain rfl : k = l.length := by omega
   rw [List.take_length] at hn
   have hnm : nameOf l x = -1 := by unfold nameOf; rw [if_neg hn]
   have Hhn := Lib.hid hn; clear hn
   have Hhb := Lib.hid hb; clear hb
   have Hhnm := Lib.hid hnm; clear hnm
   go_wp2
   go_ret
   refine ⟨?_, Hhb.out⟩
   rw [Hhnm.out]
   rfl
section
variable {n : Nat} {nx : Nat → Nat → Nat}
def clR (n : Nat) (nx : Nat → Nat → Nat) (en : Nat → Bool) : Nat → Nat → Nat
 | 0 => fun s => if en s = true then 1 else 0
 | i + 1 => refineC n nx (clR n nx en i)
theorem refine_part (hnx : ∀ s c, s < n → c < 3 → nx s c < n) {cl cl' : Nat → Nat} (h : ∀ s t, s < n → t < n → (cl s = cl t ↔ cl' s = cl' t)) {s : Nat} (hs : s < n) : refineC n nx cl s = refineC n nx cl' s := by
 unfold refineC
 refine leastN_congr fun t ht => ?_
 rw [Bool.eq_iff_iff, sameAt_iff, sameAt_iff, h t s ht hs]
 constructor
 ·rintro ⟨a, b⟩
  exact ⟨a, fun c hc => (h _ _ (hnx t c ht hc) (hnx s c hs hc)).1 (b c hc)⟩
 ·rintro ⟨a, b⟩
  exact ⟨a, fun c hc => (h _ _ (hnx t c ht hc) (hnx s c hs hc)).2 (b c hc)⟩
theorem clR_at (hnx : ∀ s c, s < n → c < 3 → nx s c < n) (en : Nat → Bool) : ∀ i, (∀ s t, s < n → t < n → (clR n nx en i s = clR n nx en i t ↔ clAt n nx en i s = clAt n nx en i t)) ∧ (0 < i → ∀ s, s < n → clR n nx en i s = clAt n nx en i s)
 | 0 => ⟨fun s t hs ht => by
   rw [cl0_eq hs ht]
   unfold clR
   cases en s <;> cases en t <;> simp, fun h => absurd h (by omega)⟩
 | i + 1 => by
  have ih := (clR_at hnx en i).1
  have h2 : ∀ s, s < n → clR n nx en (i + 1) s = clAt n nx en (i + 1) s := fun s hs => refine_part hnx ih hs
  exact ⟨fun s t hs ht => by rw [h2 s hs, h2 t ht], fun _ => h2⟩
theorem stays_part (hnx : ∀ s c, s < n → c < 3 → nx s c < n) (en : Nat → Bool) (i : Nat) : stays n nx en i ↔ ∀ k j, k < n → j < k → (clR n nx en i j = clR n nx en i k ↔ clR n nx en (i + 1) j = clR n nx en (i + 1) k) := by
 have h0 := (clR_at hnx en i).1
 have h1 := (clR_at hnx en (i + 1)).1
 constructor
 ·intro h k j hk hj
  rw [h0 j k (by omega) hk, h1 j k (by omega) hk, h j (by omega), h k hk]
 ·intro h
  have key : ∀ k j, k < n → j ≤ k → (clAt n nx en i j = clAt n nx en i k ↔ clAt n nx en (i + 1) j = clAt n nx en (i + 1) k) := fun k j hk hj => by
   by_cases e : j = k
   ·rw [e]
    exact ⟨fun _ => rfl, fun _ => rfl⟩
   ·have := h k j hk (by omega)
    rwa [h0 j k (by omega) hk, h1 j k (by omega) hk] at this
  intro s hs
  have g0 := clAt_good (n := n) (nx := nx) en i
  have g1 := clAt_good (n := n) (nx := nx) en (i + 1)
  have a1 := g1.le s hs
  have b1 := g0.le s hs
  have a2 := (key s _ hs a1).2 (g1.id s hs)
  have b2 := (key s _ hs b1).1 (g0.id s hs)
  have a3 := g0.le (clAt n nx en (i + 1) s) (by omega)
  have b3 := g1.le (clAt n nx en i s) (by omega)
  omega
theorem name_good {cl : Nat → Nat} (hg : GoodC n cl) {k : Nat} (hk : k < n) : nameOf (clsL n cl) (cl k : Int) = (cl k : Int) := by
 have h1 := hg.le k hk
 have h2 := hg.id k hk
 refine nameOf_at (by rw [clsL_len]; omega) (fun hm => ?_) (by rw [clsL_at cl (by omega), h2])
 obtain ⟨i, hi, e⟩ := List.getElem_of_mem hm
 simp only [List.length_take, clsL_len] at hi
 rw [List.getElem_take] at e
 simp only [clsL, List.getElem_map, List.getElem_range] at e
 have := hg.le i (by omega)
 omega
def lowK (n : Nat) (nx : Nat → Nat → Nat) (cl : Nat → Nat) (k m x : Nat) : Prop := x = refineC n nx cl k ∨ (x = k ∧ ∀ t, m ≤ t → t < k → sameAt nx cl t k = false)
theorem lowK_start (cl : Nat → Nat) (k : Nat) : lowK n nx cl k k k := Or.inr ⟨rfl, fun t h1 h2 => by omega⟩
theorem lowK_yes {cl : Nat → Nat} {k m : Nat} (hk : k < n) (hm : m < n) (h : sameAt nx cl m k = true) : lowK n nx cl k m (refineC n nx cl m) := Or.inl ((refine_eq hm hk).2 h)
theorem lowK_no {cl : Nat → Nat} {k m x : Nat} (h : sameAt nx cl m k = false) (hl : lowK n nx cl k (m + 1) x) : lowK n nx cl k m x := by
 rcases hl with h1 | ⟨h1, h2⟩
 ·exact Or.inl h1
 ·refine Or.inr ⟨h1, fun t a b => ?_⟩
  by_cases e : t = m
  ·rw [e]
   exact h
  ·exact h2 t (by omega) b
theorem lowK_end {cl : Nat → Nat} {k x : Nat} (hk : k < n) (hl : lowK n nx cl k 0 x) : x = refineC n nx cl k := by
 rcases hl with h1 | ⟨h1, h2⟩
 ·exact h1
 ·obtain ⟨a1, a2, a3⟩ := refine_facts (nx := nx) (cl := cl) hk
  by_cases e : refineC n nx cl k < k
  ·have := h2 _ (Nat.zero_le _) e
   rw [this] at a2
   exact absurd a2 (by simp)
  ·omega
end
theorem clsL_congr {n : Nat} {cl cl' : Nat → Nat} (h : ∀ s, s < n → cl s = cl' s) : clsL n cl = clsL n cl' := List.map_congr_left fun s hs => by rw [h s (List.mem_range.1 hs)]
theorem clsL_snoc (k : Nat) (cl : Nat → Nat) : clsL (k + 1) cl = clsL k cl ++ [(cl k : Int)] := by
 unfold clsL
 rw [List.range_succ, List.map_append]
 rfl
theorem sameAt_R (d : DfaD) (cl : Nat → Nat) (t s : Nat) : sameAt (nxD d) cl t s = (decide (cl t = cl s) && sameR d cl t s 3) := rfl
def inL (M : List Int) (n : Nat) : List Bool := (List.range n).map fun (s : Nat) => decide ((s : Int) ∈ M)
theorem inL_snoc (M : List Int) (n x : Nat) : inL (M ++ [(x : Int)]) n = (inL M n).set x true := by
 apply List.ext_getElem?
 intro i
 rw [List.getElem?_set]
 by_cases hin : i < n
 ·by_cases hx : x = i
  ·subst hx
   simp [inL, hin]
  ·have : ¬ (i : Int) = (x : Int) := by omega
   simp [inL, hin, hx, this]
 ·by_cases hx : x = i
  ·subst hx
   simp [inL, hin]
  ·simp [inL, hin, hx]
theorem inL_nil (n : Nat) : inL [] n = List.replicate n false := by
 apply List.ext_getElem?
 intro i
 by_cases hin : i < n <;> simp [inL, hin]
theorem inL_cell {M : List Int} {n s : Nat} (h : s < n) : (boolCells (inL M n))[s]? = some (.bool (decide ((s : Int) ∈ M))) := by simp [inL, h]
theorem inL_set {M : List Int} {n x : Nat} : (boolCells (inL M n)).set x (.bool true) = boolCells (inL (M ++ [(x : Int)]) n) := by
 rw [inL_snoc]
 simp [boolCells, List.map_set]
theorem made_inL {w : World} {B n : Nat} {v : Value} (h : w.ownsRow B 4 1 v n (madeCells (Value.bool false).cells (n * 1)).toList) : w.ownsRow B 4 1 v n (boolCells (inL [] n)) := by
 have e : (madeCells (Value.bool false).cells (n * 1)).toList = boolCells (inL [] n) := by
  rw [inL_nil]
  simp [madeCells, Value.cells, boolCells, Nat.mod_one, List.map_const']
 rwa [e] at h
set_option maxRecDepth 100000 in
set_option maxHeartbeats 4000000 in
theorem l7Order_any (d : DfaD) (v : Value) (w : World) (hd : dfaOk d.next d.ends = true) (h : DfaR 0 w v d) (F : List Int) (hF : (bat (dnx d) 0 d.next.length).met = F) :
  Calls Try.prog 114 #[v] w fun e w' => ∃ a c, e = .returned (.slice a F.length c) ∧ St w w' [Ent.row 3 1 (.slice a F.length c) F.length (intCells F)] := by
 obtain ⟨v1, v2, rfl, q1, q2⟩ := h
 have hf := fine_of hd
 obtain ⟨L, hL⟩ : ∃ L, L = d.next.length := ⟨_, rfl⟩
 obtain ⟨hl1, hl2, -⟩ := dfaOk_len hd
 have hrow := fun (i : Nat) (hi : i < d.next.length) => (dfaOk_row hd hi).1
 have hnx := fun (i c : Nat) (hi : i < d.next.length) (h3 : c < 3) => (nxD_lt hf hi h3)
 have hmet := fun (K : Nat) => met_facts hf K
 obtain ⟨av, cvv, rfl, hc1, hc2, hr1⟩ := q1.formI
 obtain ⟨b1, o1, rfl, -, hb1, hcs1⟩ := hr1 (by omega)
 obtain ⟨i0, hi, hz0, hz1, hz2⟩ := info_parts Try.infoBool
 obtain ⟨j0, hj, hy0, hy1, hy2⟩ := info_parts Try.infoInt
 have hS0 := (((St.start w).alloc _ rfl #[.slice (some ⟨b1, o1, none⟩) d.next.length cvv, v2] 27).alloc (w.heap.size + 1) (by simp) #[.int .i64 0] 3).boxrow 1 1 1 [.int .i64 0] rfl rfl (by unfold maxLen; omega)
 rw [← hL] at hl1 hl2 hS0 hF
 rw [← hL]
 have hL0 : (0 : Int) < L := by omega
 have hL00 : 0 < L := by omega
 have Hrow := Lib.hid hrow
 have Hnx := Lib.hid hnx
 have Hmet := Lib.hid hmet
 have Hcs1 := Lib.hid hcs1
 have HhS0 := Lib.hid hS0; clear hS0
 have HhL := Lib.hid hL; clear hL
 have HhF := Lib.hid hF; clear hF
 have Hhi := Lib.hid hi; clear hi
 have Hhz0 := Lib.hid hz0; clear hz0
 have Hhz1 := Lib.hid hz1; clear hz1
 have Hhz2 := Lib.hid hz2; clear hz2
 have Hhj := Lib.hid hj; clear hj
 have Hhy0 := Lib.hid hy0; clear hy0
 have Hhy1 := Lib.hid hy1; clear hy1
 have Hhy2 := Lib.hid hy2; clear hy2
 clear hrow hnx hmet hcs1 hr1 q1 q2 hf hd
 go_enter Try.func114, Try.ntmps114
 have HD := Lib.hid (show ∀ w1 : World, w1.ownsRow ((w.alloc (.cells #[.slice (some ⟨b1, o1, none⟩) L cvv, v2] 27)).alloc (.cells #[.int .i64 0] 3)).heap.size 4 1 (.slice (some ⟨w.heap.size + 1 + 1, 0, none⟩) L L) L (boolCells (inL [] L)) → Below ((w.alloc (.cells #[.slice (some ⟨b1, o1, none⟩) L cvv, v2] 27)).alloc (.cells #[.int .i64 0] 3)).heap.size ((w.alloc (.cells #[.slice (some ⟨b1, o1, none⟩) L cvv, v2] 27)).alloc (.cells #[.int .i64 0] 3)) w1 →
   St w w1 [Ent.box w.heap.size #[.slice (some ⟨b1, o1, none⟩) L cvv, v2] 27, Ent.row 3 1 (.slice (some ⟨w.heap.size + 1, 0, none⟩) 1 1) 1 [.int .i64 0], Ent.row 4 1 (.slice (some ⟨w.heap.size + 1 + 1, 0, none⟩) L L) L (boolCells (inL [] L))] from fun w1 h1 h2 => HhS0.out.made h2 h1)
 go_wp2_with (at_make; refine wpList_make_full _ rfl _ _ 25 rfl _ 4 i0 (.bool false) 1 Try.underlying25 Hhi.out Hhz0.out Hhz1.out .i64 .i64 _ _ L rfl rfl rfl rfl (by rw [Hhz2.out]; omega) (by unfold maxLen; omega) (Nat.le_refl _) ?_; intro w1 hown hgrow; have hm := made_inL hown; simp only [World.size_alloc] at hm; have HS1 := Lib.hid (HD.out w1 (by simpa only [World.size_alloc] using hm) ((Below.refl _ _).grown hgrow (Nat.le_refl _) (fun _ h => by cases h))); have f0 := HS1.out.rfr 2 0 rfl; have k0 := HS1.out.rcell (v := .bool false) 2 0 rfl (by omega) (by rw [inL_cell (by omega)]; simp); clear hown hgrow hm)
 clear f0 k0
 go_loopw [3, 5] (fun vo i wr => ∃ (k : Nat) (g cap : Nat), i = .int .i64 k ∧ vo = .slice (some ⟨g, 0, none⟩) (bat (dnx d) 0 k).met.length cap ∧ k ≤ (bat (dnx d) 0 k).met.length ∧
   St w wr [Ent.box w.heap.size #[.slice (some ⟨b1, o1, none⟩) L cvv, v2] 27, Ent.row 3 1 (.slice (some ⟨g, 0, none⟩) (bat (dnx d) 0 k).met.length cap) (bat (dnx d) 0 k).met.length (intCells (bat (dnx d) 0 k).met), Ent.row 4 1 (.slice (some ⟨w.heap.size + 1 + 1, 0, none⟩) L L) L (boolCells (inL (bat (dnx d) 0 k).met L))])
  (fun _ i _ => L + 1 - (intOf i).toNat)
 case atStart =>
  refine ⟨0, _, _, rfl, rfl, Nat.zero_le _, ?_⟩
  have h := HS1.out.store 2 rfl 0 (.bool true)
  have e := inL_set (M := []) (n := L) (x := 0)
  rw [e] at h
  exact h
 case round =>
  obtain ⟨k, g, cap, rfl, rfl, hk, hS⟩ := hrel
  obtain ⟨S, hSS⟩ : ∃ S, S = bat (dnx d) 0 k := ⟨_, rfl⟩
  have hML := (Hmet.out k).2
  have hMi := (Hmet.out k).1
  rw [← hSS] at hk hS hML hMi
  rw [← hSS]
  rw [← HhL.out] at hML hMi
  by_cases hlt : k < S.met.length
  ·have hlt2 : (k : Int) < S.met.length := by omega
   have hkS : k < (bat (dnx d) 0 k).met.length := by rw [← hSS]; exact hlt
   obtain ⟨x, hx⟩ : ∃ x : Nat, S.met.getD k 0 = (x : Int) := ⟨(S.met.getD k 0).toNat, by have := (hMi _ (mem_getD hlt (d := 0))).1; omega⟩
   have hxL : x < L := by have := (hMi _ (mem_getD hlt (d := 0))).2; omega
   have hxb : (bat (dnx d) 0 k).met.getD k 0 = (x : Int) := by rw [← hSS]; exact hx
   obtain ⟨ax, cx, hks, -, -, hIs⟩ := Hcs1.out x (by rw [← HhL.out]; exact hxL)
   have hr3 := Hrow.out x (by rw [← HhL.out]; exact hxL)
   rw [hr3] at hks hIs
   obtain ⟨_, _, hform, -, -, hrs⟩ := hIs.form
   rw [hr3] at hform hrs
   simp only [Value.slice.injEq, true_and] at hform
   obtain ⟨rfl, rfl⟩ := hform
   obtain ⟨b3, o3, rfl, -, hb3, hcs3⟩ := hrs (by omega)
   have Hcs3 := Lib.hid hcs3
   have hxI : (x : Int) < L := by omega
   have HhS := Lib.hid hS; clear hS
   have HhSS := Lib.hid hSS; clear hSS
   have HhMi := Lib.hid hMi; clear hMi
   have HhkS := Lib.hid hkS; clear hkS
   have Hhx := Lib.hid hx; clear hx
   have Hhxb := Lib.hid hxb; clear hxb
   have Hhr3 := Lib.hid hr3; clear hr3
   have Hhks := Lib.hid hks; clear hks
   clear hIs hrs hcs3
   go_wp2
   go_loopw [3, 6] (fun vo i wi => ∃ (c : Nat) (g cap : Nat), i = .int .i64 c ∧ vo = .slice (some ⟨g, 0, none⟩) (bpart (dnx d) 0 k c).met.length cap ∧ c ≤ 3 ∧
     St w wi [Ent.box w.heap.size #[.slice (some ⟨b1, o1, none⟩) L cvv, v2] 27, Ent.row 3 1 (.slice (some ⟨g, 0, none⟩) (bpart (dnx d) 0 k c).met.length cap) (bpart (dnx d) 0 k c).met.length (intCells (bpart (dnx d) 0 k c).met), Ent.row 4 1 (.slice (some ⟨w.heap.size + 1 + 1, 0, none⟩) L L) L (boolCells (inL (bpart (dnx d) 0 k c).met L))])
    (fun _ i _ => 3 - (intOf i).toNat)
   case atStart =>
    refine ⟨0, g, cap, rfl, by rw [bpart_zero, ← HhSS.out], by omega, ?_⟩
    rw [bpart_zero, ← HhSS.out]
    exact HhS.out
   case round =>
    obtain ⟨c, g, cap, rfl, rfl, hc3, hSi⟩ := hrel
    obtain ⟨wp, hwp⟩ : ∃ wp : World, wp = wr := ⟨_, rfl⟩
    subst hwp
    by_cases hc : c < 3
    ·have hTS := (bpart_le (nx := dnx d) (a := 0) (k := k) (Nat.zero_le c)).1
     rw [bpart_zero, ← HhSS.out] at hTS
     have hold := bpart_old (nx := dnx d) (a := 0) (k := k) (n := c)
     have hnew := bpart_new (nx := dnx d) (a := 0) (k := k) (n := c)
     rw [Hhxb.out] at hold hnew
     obtain ⟨hyL, hyx⟩ := Hnx.out x c (by rw [← HhL.out]; exact hxL) hc
     have hval : (d.next.getD x []).getD c 0 = ((nxD d x c : Nat) : Int) := by
      unfold dnx at hyx
      rwa [Int.toNat_natCast] at hyx
     rw [hyx] at hold hnew
     rw [← HhL.out] at hyL
     obtain ⟨y, hy⟩ : ∃ y, y = nxD d x c := ⟨_, rfl⟩
     rw [← hy] at hold hnew hval hyL
     have hold' : (y : Int) ∈ (bpart (dnx d) 0 k c).met → (bpart (dnx d) 0 k (c + 1)).met = (bpart (dnx d) 0 k c).met := fun h => by rw [hold h]
     have hnew' : (y : Int) ∉ (bpart (dnx d) 0 k c).met → (bpart (dnx d) 0 k (c + 1)).met = (bpart (dnx d) 0 k c).met ++ [(y : Int)] := fun h => by rw [hnew h]
     clear hold hnew
     have hle := (bpart_le_bat (nx := dnx d) (a := 0) (m := k + 1) HhkS.out (show c ≤ 3 by omega) (by omega)).1.length_le
     have hML2 := (Hmet.out (k + 1)).2
     rw [← HhL.out] at hML2
     obtain ⟨T1, hT1⟩ : ∃ T1, T1 = (bpart (dnx d) 0 k (c + 1)).met := ⟨_, rfl⟩
     obtain ⟨T, hT⟩ : ∃ T, T = (bpart (dnx d) 0 k c).met := ⟨_, rfl⟩
     rw [← hT] at hSi hTS hold' hnew' hle
     rw [← hT1] at hold' hnew'
     rw [← hT]
     have hTL : T.length ≤ L := by omega
     have hkT : k < T.length := Nat.lt_of_lt_of_le hlt hTS.length_le
     have hxT : T.getD k 0 = (x : Int) := (prefix_getD hTS hlt _).trans Hhx.out
     have e0 := hSi.cell (v := .slice (some ⟨b1, o1, none⟩) L cvv) 0 0 rfl rfl
     have e1 := hSi.rcell (v := .int .i64 (x : Int)) 1 k rfl (by omega) (by rw [← hxT]; simp [intCells, hkT])
     have e2 := (bcell hSi.bel b1 _ hb1).trans Hhks.out
     have e3 := (bcell hSi.bel b3 _ hb3).trans (Hcs3.out c hc)
     rw [hval] at e3
     have e4 := hSi.rcell (v := .bool (decide ((y : Int) ∈ T))) 2 y rfl (by omega) (inL_cell hyL)
     have e5 := hSi.rfr 2 y rfl
     have hc4 : (c : Int) < 3 := by omega
     have hyI : (y : Int) < L := by omega
     have hkT2 : (k : Int) < T.length := by omega
     have hset := inL_set (M := T) (n := L) (x := y)
     clear hle hML2
     have HhSi := Lib.hid hSi; clear hSi
     have Hhy := Lib.hid hy; clear hy
     have Hhold' := Lib.hid hold'; clear hold'
     have Hhnew' := Lib.hid hnew'; clear hnew'
     have HhT1 := Lib.hid hT1; clear hT1
     have HhT := Lib.hid hT; clear hT
     have HhTS := Lib.hid hTS; clear hTS
     have HhxT := Lib.hid hxT; clear hxT
     have Hhval := Lib.hid hval; clear hval
     have Hhyx := Lib.hid hyx; clear hyx
     have Hhset := Lib.hid hset; clear hset
     by_cases hmem : (y : Int) ∈ T
     ·have hdm : decide ((y : Int) ∈ T) = true := by simpa using hmem
      rw [hdm] at e4
      have hT1o := Hhold'.out hmem
      have HhT1o := Lib.hid hT1o; clear hT1o
      have Hhdm := Lib.hid hdm; clear hdm
      have Hhmem := Lib.hid hmem; clear hmem
      go_wp2
      go_quiet (fail)
      go_wp2
      go_roundw
      case rel =>
       refine ⟨c + 1, g, cap, by go_num, by rw [← HhT1.out, HhT1o.out], by omega, ?_⟩
       rw [← HhT1.out, HhT1o.out]
       exact HhSi.out.drewN _
      case measure => simp [intOf]; omega
     ·have hdm : decide ((y : Int) ∈ T) = false := by simpa using hmem
      rw [hdm] at e4
      have hT1n := Hhnew'.out hmem
      have HhT1n := Lib.hid hT1n; clear hT1n
      have Hhdm := Lib.hid hdm; clear hdm
      have Hhmem := Lib.hid hmem; clear hmem
      go_wp2
      go_quiet (fail)
      have hSs := ((HhSi.out.drewN nq).store 2 rfl y (.bool true)).alloc_ (.cells #[.int .i64 (y : Int)] 3)
      rw [Hhset.out] at hSs
      have hR := hSs.row 1 rfl
      have hal := heap_alloc_new ((wp.drewN nq).setCell ⟨w.heap.size + 1 + 1, y, none⟩ (.bool true)) (.cells #[.int .i64 (y : Int)] 3)
      rw [setCell_size, show (wp.drewN nq).heap.size = wp.heap.size from rfl] at hal
      have Hhal := Lib.hid hal; clear hal
      have HhSs := Lib.hid hSs; clear hSs
      have HhR := Lib.hid hR; clear hR
      go_wp2_with (at_builtin; refine wpList_append_lies _ rfl _ _ _ rfl _ 3 j0 (.int .i64 0) 1 8 Try.underlying48 Hhj.out Hhy0.out Hhy1.out Hhy2.out rfl (by omega) _ T.length _ rfl HhR.out ⟨wp.heap.size, 0, none⟩ 1 1 [.int .i64 (y : Int)] rfl rfl (World.news_of_block Hhal.out) one_int (by omega) (by unfold maxLen; omega) (by omega) HhSs.out.size _ rfl ?_; intro g6 c6 w6 hown6 hgrow6 hat6 hlt6; have HS6 := Lib.hid (HhSs.out.app 1 rfl hown6 hgrow6 hat6); clear hown6 hgrow6 hat6 hlt6)
      go_roundw
      case rel =>
       refine ⟨c + 1, g6, c6, by go_num, by rw [← HhT1.out, HhT1n.out, List.length_append]; rfl, by omega, ?_⟩
       rw [← HhT1.out, HhT1n.out, List.length_append, intCells_snoc]
       exact HS6.out
      case measure => simp [intOf]; omega
    ·obtain rfl : c = 3 := by omega
     have hbs : bat (dnx d) 0 (k + 1) = bpart (dnx d) 0 k 3 := bat_succ HhkS.out
     have hTS := (bpart_le (nx := dnx d) (a := 0) (k := k) (Nat.zero_le 3)).1.length_le
     rw [bpart_zero, ← HhSS.out] at hTS
     have Hhbs := Lib.hid hbs; clear hbs
     have HhSi := Lib.hid hSi; clear hSi
     go_wp2
     go_roundw
     case rel => exact ⟨k + 1, g, cap, by go_num, by rw [Hhbs.out], by rw [Hhbs.out]; omega, by rw [Hhbs.out]; exact HhSi.out⟩
     case measure => simp [intOf]; omega
  ·obtain rfl : k = S.met.length := by omega
   have hfin : F = S.met := by
    have h := bat_done (nx := dnx d) (a := 0) (k := S.met.length) (m := L) (by rw [← hSS]; omega) hML
    rw [← HhF.out, h, ← hSS]
   subst hfin
   have HhS := Lib.hid hS; clear hS
   have HhSS := Lib.hid hSS; clear hSS
   go_wp2
   go_ret
   exact ⟨_, _, rfl, HhS.out.pick [1] (by decide)⟩
theorem met_closed {d : DfaD} (hd : dfaOk d.next d.ends = true) {k c : Nat} (hk : k < (bat (dnx d) 0 d.next.length).met.length) (hc : c < 3) : dnx d ((bat (dnx d) 0 d.next.length).met.getD k 0) c ∈ (bat (dnx d) 0 d.next.length).met := by
 have hm := (met_facts (fine_of hd) d.next.length).2
 have hkl : k < d.next.length := by omega
 have hkk : k < (bat (dnx d) 0 k).met.length := by
  by_cases h : k < (bat (dnx d) 0 k).met.length
  ·exact h
  ·have := bat_done (nx := dnx d) (a := 0) (k := k) (m := d.next.length) (by omega) (by omega)
   rw [this] at hk
   omega
 have hp := (bat_le (nx := dnx d) (a := (0 : Int)) (k := k) (m := d.next.length) (by omega)).1
 rw [prefix_getD hp hkk]
 have h1 := bpart_mem (nx := dnx d) (a := (0 : Int)) (k := k) (n := 3) hc
 have h2 := (bpart_le_bat (nx := dnx d) (a := (0 : Int)) (m := d.next.length) hkk (Nat.le_refl 3) hkl).1
 exact h2.subset h1
theorem met_nat {d : DfaD} (hd : dfaOk d.next d.ends = true) {k : Nat} (hk : k < (bat (dnx d) 0 d.next.length).met.length) : ∃ x : Nat, (bat (dnx d) 0 d.next.length).met.getD k 0 = (x : Int) ∧ x < d.next.length ∧ ∀ c, c < 3 → ((nxD d x c : Nat) : Int) ∈ (bat (dnx d) 0 d.next.length).met := by
 have h := (met_facts (fine_of hd) d.next.length).1 _ (mem_getD hk (d := 0))
 refine ⟨((bat (dnx d) 0 d.next.length).met.getD k 0).toNat, by omega, by omega, fun c hc => ?_⟩
 have h1 := met_closed hd hk hc
 have e : (bat (dnx d) 0 d.next.length).met.getD k 0 = ((((bat (dnx d) 0 d.next.length).met.getD k 0).toNat : Nat) : Int) := by omega
 rw [e, (nxD_lt (fine_of hd) (by omega) hc).2] at h1
 exact h1
theorem nameOf_mem {l : List Int} {x : Int} (h : x ∈ l) : nameOf l x = (placeOf l x : Int) := by
 unfold nameOf placeOf
 rw [if_pos h]
def padL (n s : Nat) (cl : Nat → Nat) : List Int := clsL s cl ++ List.replicate (n - s) 0
def padT (n s : Nat) (cl : Nat → Nat) (t : Nat) : List Int := clsL s cl ++ ((t : Nat) : Int) :: List.replicate (n - s - 1) 0
theorem padL_zero (n : Nat) (cl : Nat → Nat) : padL n 0 cl = List.replicate n 0 := by simp [padL, clsL]
theorem padL_end (n : Nat) (cl : Nat → Nat) : padL n n cl = clsL n cl := by simp [padL]
theorem padL_T {n s : Nat} (cl : Nat → Nat) (h : s < n) : padL n s cl = padT n s cl 0 := by
 unfold padL padT
 rw [show n - s = (n - s - 1) + 1 by omega, List.replicate_succ]
 rfl
theorem padT_end {n s : Nat} (cl : Nat → Nat) : padT n s cl (cl s) = padL n (s + 1) cl := by
 unfold padL padT
 rw [clsL_snoc, List.append_assoc, show n - (s + 1) = n - s - 1 by omega]
 rfl
theorem padT_set {n s : Nat} (cl : Nat → Nat) (t t' : Nat) : (intCells (padT n s cl t)).set s (.int .i64 ((t' : Nat) : Int)) = intCells (padT n s cl t') := by
 unfold intCells
 rw [← List.map_set (f := fun x => Value.int .i64 x)]
 congr 1
 unfold padT
 rw [List.set_append_right _ _ (by rw [clsL_len]; exact Nat.le_refl _), clsL_len, Nat.sub_self]
 rfl
theorem padT_at {n s : Nat} (cl : Nat → Nat) (t : Nat) : (intCells (padT n s cl t))[s]? = some (.int .i64 ((t : Nat) : Int)) := by
 simp [intCells, padT, clsL_len]
theorem clsL_cell {n s : Nat} (cl : Nat → Nat) (h : s < n) : (intCells (clsL n cl))[s]? = some (.int .i64 ((cl s : Nat) : Int)) := by simp [intCells, clsL, h]
theorem made_ints {w : World} {B n : Nat} {v : Value} (cl : Nat → Nat) (h : w.ownsRow B 3 1 v n (madeCells (Value.int .i64 0).cells (n * 1)).toList) : w.ownsRow B 3 1 v n (intCells (padL n 0 cl)) := by
 have e : (madeCells (Value.int .i64 0).cells (n * 1)).toList = intCells (padL n 0 cl) := by
  rw [padL_zero]
  simp [madeCells, Value.cells, intCells, Nat.mod_one, List.map_const']
 rwa [e] at h
theorem clsL_inj {n : Nat} {a b : Nat → Nat} : clsL n a = clsL n b ↔ ∀ s, s < n → a s = b s := by
 constructor
 ·intro h s hs
  have := congrArg (fun l => l.getD s 0) h
  simp only [clsL_at a hs, clsL_at b hs] at this
  omega
 ·exact clsL_congr
theorem St.intsC {w0 w : World} {L : List Ent} (h : St w0 w L) (i : Nat) {v : Value} {n : Nat} {cl : Nat → Nat} (hx : L[i]? = some (Ent.row 3 1 v n (intCells (clsL n cl)))) : Ints 0 w v (clsL n cl) :=
 ints_of_row' (B := w0.heap.size) (e := 3) (by rw [clsL_len]; exact h.row i hx)
set_option maxHeartbeats 1600000 in
theorem indexB_any (xs : List Bool) (y : Bool) (p : Nat) (v : Value) (w : World) (h1 : Bools 0 w v xs) (hp : p < xs.length) (hy : xs.getD p false = y) (hno : ∀ j, j < p → xs.getD j false ≠ y) :
  Calls Try.prog 150 #[v, .bool y] w fun e w' => e = .returned (.int .i64 (p : Nat)) ∧ Below w.heap.size w w' := by
 obtain ⟨a1, c1, rfl, hc1, hm1, hr1⟩ := h1.form
 obtain ⟨b1, o1, rfl, -, hbl1, hcs1⟩ := hr1 (by omega)
 have Hcs := Lib.hid hcs1
 have Hno := Lib.hid hno
 have Hhy := Lib.hid hy; clear hy
 clear hr1 hcs1 hno h1
 go_enter Try.func150, Try.ntmps150
 go_wp2
 go_loopw [4, 8] (fun r i wr => ∃ k : Nat, k ≤ p ∧ i = .int .i64 k ∧ Below w.heap.size w wr) (fun _ i _ => p + 1 - (intOf i).toNat)
 case atStart => exact ⟨0, Nat.zero_le _, rfl, Below.refl _ _⟩
 case round =>
  obtain ⟨k, hk, rfl, hb⟩ := hrel
  have hkl : (k : Int) < xs.length := by omega
  have k1 := (bcell hb b1 (o1 + k) hbl1).trans (Hcs.out k (by omega))
  obtain ⟨z, hz⟩ : ∃ z, z = xs.getD k false := ⟨_, rfl⟩
  rw [← hz] at k1
  have Hhb := Lib.hid hb; clear hb
  by_cases he : k = p
  ·subst he
   have hzy : z = y := by rw [hz]; exact Hhy.out
   subst hzy
   have Hhz := Lib.hid hz; clear hz
   go_wp2
   go_ret
   exact ⟨rfl, Hhb.out⟩
  ·have hne : z ≠ y := by rw [hz]; exact Hno.out k (by omega)
   have g1 : (y == z) = false := by simpa using hne.symm
   have g2 : (z == y) = false := by simpa using hne
   have Hhz := Lib.hid hz; clear hz
   have Hhne := Lib.hid hne; clear hne
   go_wp2
   go_roundw
   case rel => exact ⟨k + 1, by omega, by go_num, Hhb.out⟩
   case measure => simp [intOf]; omega
set_option maxHeartbeats 1600000 in
theorem equalI_any (xs ys : List Int) (n : Nat) (v1 v2 : Value) (w : World) (hx : xs.length = n) (hy : ys.length = n) (h1 : Ints 0 w v1 xs) (h2 : Ints 0 w v2 ys) (r : Bool) (hr : decide (xs = ys) = r) :
  Calls Try.prog 152 #[v1, v2] w fun e w' => e = .returned (.bool r) ∧ Below w.heap.size w w' := by
 obtain ⟨a1, c1, rfl, hc1, hm1, hr1⟩ := h1.form
 obtain ⟨a2, c2, rfl, hc2, hm2, hr2⟩ := h2.form
 rw [hx] at hc1 hr1
 rw [hy] at hc2 hr2
 rw [hx, hy]
 have hnn : ((n : Int) != n) = false := by simp
 have Hhx := Lib.hid hx; clear hx
 have Hhy := Lib.hid hy; clear hy
 have Hhr := Lib.hid hr; clear hr
 clear h1 h2
 go_enter Try.func152, Try.ntmps152
 go_wp2
 go_loopw [4, 13] (fun r i wr => ∃ k : Nat, k ≤ n ∧ i = .int .i64 k ∧ xs.take k = ys.take k ∧ Below w.heap.size w wr) (fun _ i _ => n - (intOf i).toNat)
 case atStart => exact ⟨0, Nat.zero_le _, rfl, rfl, Below.refl _ _⟩
 case round =>
  obtain ⟨k, hk, rfl, htk, hb⟩ := hrel
  have Hhtk := Lib.hid htk; clear htk
  by_cases hlt : k < n
  ·obtain ⟨b1, o1, rfl, -, hbl1, hcs1⟩ := hr1 (by omega)
   obtain ⟨b2, o2, rfl, -, hbl2, hcs2⟩ := hr2 (by omega)
   have k1 := (bcell hb b1 (o1 + k) hbl1).trans (hcs1 k hlt)
   have k2 := (bcell hb b2 (o2 + k) hbl2).trans (hcs2 k hlt)
   obtain ⟨p, hp⟩ : ∃ p, p = xs.getD k 0 := ⟨_, rfl⟩
   obtain ⟨q, hq⟩ : ∃ q, q = ys.getD k 0 := ⟨_, rfl⟩
   rw [← hp] at k1
   rw [← hq] at k2
   have Hhp := Lib.hid hp; clear hp
   have Hhq := Lib.hid hq; clear hq
   have Hhb := Lib.hid hb; clear hb
   clear hcs1 hcs2 hr1 hr2
   by_cases hpq : p = q
   ·have g1 : (p != q) = false := by simpa using hpq
    have g2 : (!(p == q)) = false := by simpa using hpq
    have g3 : (p = q) = True := by simpa using hpq
    have Hhpq := Lib.hid hpq; clear hpq
    go_wp2
    go_quiet (fail)
    go_wp2
    go_roundw
    case rel => exact ⟨k + 1, by omega, by go_num, take_snoc_eq (d := 0) (by rw [Hhx.out]; exact hlt) (by rw [Hhy.out]; exact hlt) Hhtk.out (by rw [← Hhp.out, ← Hhq.out]; exact Hhpq.out), below_drewN Hhb.out _⟩
    case measure => simp [intOf]; omega
   ·have g1 : (p != q) = true := by simpa using hpq
    have g2 : (!(p == q)) = true := by simpa using hpq
    have g3 : (p = q) = False := by simpa using hpq
    have Hhpq := Lib.hid hpq; clear hpq
    go_wp2
    go_quiet (fail)
    go_wp2
    go_ret
    exact ⟨by rw [← Hhr.out, decide_eq_false (ne_of_getD (k := k) (d := 0) (by rw [← Hhp.out, ← Hhq.out]; exact Hhpq.out))]; rfl, below_drewN Hhb.out _⟩
  ·obtain rfl : k = n := by omega
   have Hhb := Lib.hid hb; clear hb
   clear hr1 hr2
   go_wp2
   go_ret
   refine ⟨?_, Hhb.out⟩
   have h := Hhtk.out
   rw [List.take_of_length_le (by rw [Hhx.out]; exact Nat.le_refl _), List.take_of_length_le (by rw [Hhy.out]; exact Nat.le_refl _)] at h
   rw [← Hhr.out, decide_eq_true h]
   rfl
end Go.Proofs.Ytalbofnhcpjilaa
