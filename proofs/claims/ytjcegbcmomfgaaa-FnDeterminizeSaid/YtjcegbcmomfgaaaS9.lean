/-
  The walks over the reference's comparison of rows of truth values and its search for a row in a list of rows: l9Same, l9Find.
  Conditions: the arguments read as such data; all rows are equally long, at most 1000000.
-/
import Derived.Test.YtjcegbcmomfgaaaCtx
import Derived.Test.YtjcegbcmomfgaaaDvi
import Derived.Test.YtjcegbcmomfgaaaFwp
namespace Go.Proofs.Ytjcegbcmomfgaaa
open Go.RowKit

/-- A slice of slices of bools. -/
def BoolSS (B : Nat) (w : World) (v : Value) (xss : List (List Bool)) : Prop :=
  ∃ vs : List Value, Sl B w v xss.length 1 vs ∧ ∀ i, i < xss.length → Bools B w (vs.getD i undef) (xss.getD i [])
theorem BoolSS.below {B : Nat} {w w' : World} {v : Value} {xss : List (List Bool)} (h : BoolSS B w v xss) (he : Below w.heap.size w w') : BoolSS B w' v xss := by
  obtain ⟨vs, h1, h2⟩ := h
  exact ⟨vs, h1.below he, fun i hi => (h2 i hi).below he⟩
theorem BoolSS.form {B : Nat} {w : World} {v : Value} {xss : List (List Bool)} (h : BoolSS B w v xss) : ∃ a cap, v = .slice a xss.length cap ∧ xss.length ≤ cap ∧ cap ≤ 9223372036854775807 ∧
    (0 < xss.length → ∃ b off, a = some ⟨b, off, none⟩ ∧ b < w.heap.size ∧ ∀ i, i < xss.length → ∃ a' cap', w.cell? ⟨b, off + i, none⟩ = some (.slice a' (xss.getD i []).length cap') ∧ Bools B w (.slice a' (xss.getD i []).length cap') (xss.getD i [])) := by
  obtain ⟨vs, ⟨hl, a, cap, hv, h1, h2, h3⟩, hr⟩ := h
  refine ⟨a, cap, hv, h1, h2, fun hn => ?_⟩
  obtain ⟨b, off, ha, hb, hlt, hc⟩ := h3 hn
  refine ⟨b, off, ha, hlt, fun i hi => ?_⟩
  obtain ⟨a', cap', hv', -⟩ := (hr i hi).form
  refine ⟨a', cap', ?_, ?_⟩
  · rw [hc i (by omega), ← hv']
    simp at hl
    simp [show i < vs.length by omega]
  · rw [← hv']
    exact hr i hi
/-- The rows of a list that the walk has made. -/
theorem St.boolSS {w0 w : World} {L : List Ent} (h : St w0 w L) (i : Nat) {es e : Nat} {v : Value} {vs : List Value} {xss : List (List Bool)} (hx : L[i]? = some (Ent.rows es e v vs (xss.map boolCells))) : BoolSS 0 w v xss := by
  obtain ⟨p1, p2, -⟩ := h.rows i hx
  rw [List.length_map] at p1 p2
  refine ⟨vs, ((own_of_row p1).sl (by omega)).mono (Nat.zero_le _), fun i hi => ?_⟩
  have := p2 i hi
  have e1 : (xss.map boolCells).getD i [] = boolCells (xss.getD i []) := by simp [hi]
  rw [e1] at this
  have := ((own_of_row this).sl (by omega)).mono (Nat.zero_le _)
  simpa [Bools] using this

theorem St.bools {w0 w : World} {L : List Ent} (h : St w0 w L) (i : Nat) {e : Nat} {v : Value} {xs : List Bool} {n : Nat} (hx : L[i]? = some (Ent.row e 1 v n (boolCells xs))) : Bools 0 w v xs := by
  have hr := h.row i hx
  have e1 : n = xs.length := by have := hr.1; simp at this; omega
  subst e1
  exact ((own_of_row hr).sl (by omega)).mono (Nat.zero_le _)
theorem St.intsR {w0 w : World} {L : List Ent} (h : St w0 w L) (i : Nat) {e : Nat} {v : Value} {xs : List Int} {n : Nat} (hx : L[i]? = some (Ent.row e 1 v n (intCells xs))) : Ints 0 w v xs := by
  have hr := h.row i hx
  have e1 : n = xs.length := by have := hr.1; simp at this; omega
  subst e1
  exact ((own_of_row hr).sl (by omega)).mono (Nat.zero_le _)

theorem bools_of_row {w : World} {B e n : Nat} {v : Value} {xs : List Bool} (hr : w.ownsRow B e 1 v n (boolCells xs)) : Bools 0 w v xs := by
  have e1 : n = xs.length := by have := hr.1; simp at this; omega
  subst e1
  exact ((own_of_row hr).sl (by omega)).mono (Nat.zero_le _)
theorem boolsB_of_row {w : World} {B e n : Nat} {v : Value} {xs : List Bool} (hr : w.ownsRow B e 1 v n (boolCells xs)) : Bools B w v xs := by
  have e1 : n = xs.length := by have := hr.1; simp at this; omega
  subst e1
  exact (own_of_row hr).sl (by omega)
theorem ints_of_row {w : World} {B e n : Nat} {v : Value} {xs : List Int} (hr : w.ownsRow B e 1 v n (intCells xs)) : Ints 0 w v xs := by
  have e1 : n = xs.length := by have := hr.1; simp at this; omega
  subst e1
  exact ((own_of_row hr).sl (by omega)).mono (Nat.zero_le _)
/-- A row of a list of rows, and the cell that holds it. -/
theorem St.rowAt {w0 w : World} {L : List Ent} (h : St w0 w L) (i : Nat) {es e g n cap : Nat} {vs : List Value} {css : List (List Value)} (hx : L[i]? = some (Ent.rows es e (.slice (some ⟨g, 0, none⟩) n cap) vs css)) (hn : css.length = n) {k : Nat} (hk : k < n) :
    ∃ a c, w.cell? ⟨g, k, none⟩ = some (.slice a (css.getD k []).length c) ∧ w.ownsRow w0.heap.size e 1 (.slice a (css.getD k []).length c) (css.getD k []).length (css.getD k []) ∧ (css.getD k []).length ≤ c ∧ c ≤ 9223372036854775807 ∧ n ≤ cap ∧ cap ≤ 9223372036854775807 ∧ g < w.heap.size := by
  obtain ⟨p1, p2, -⟩ := h.rows i hx
  subst hn
  have hv : vs.length = css.length := by have := p1.1; omega
  have h2 := p2 k hk
  have hc := p1.cellAt k (by omega)
  have hgl := (p1.lt g rfl).2
  obtain ⟨a, c, hva, h3, h4⟩ : ∃ a c, vs.getD k undef = .slice a (css.getD k []).length c ∧ (css.getD k []).length ≤ c ∧ c ≤ 9223372036854775807 := by
    rcases h2.2 with ⟨h5, h6⟩ | ⟨g', cap', cur, h5, -, -, h6, h7, -⟩
    · exact ⟨none, 0, by rw [h5, h6], by omega, by omega⟩
    · exact ⟨_, _, h5, h6, h7⟩
  rw [hva] at h2
  refine ⟨a, c, ?_, h2, h3, h4, ?_⟩
  · rw [hc, ← hva]
    simp [show k < vs.length by omega]
  · rcases p1.2 with ⟨h5, -⟩ | ⟨g', cap', cur, h5, -, -, h6, h7, -⟩
    · cases h5
    · simp only [Value.slice.injEq, true_and] at h5
      obtain ⟨-, rfl⟩ := h5
      exact ⟨h6, h7, hgl⟩

set_option maxHeartbeats 1600000 in
theorem l9Same_any (xs ys : List Bool) (n : Nat) (v1 v2 : Value) (w : World) (hx : xs.length = n) (hy : ys.length = n) (h1 : Bools 0 w v1 xs) (h2 : Bools 0 w v2 ys) (r : Bool) (hr : decide (xs = ys) = r) :
    Calls Try.prog 83 #[v1, v2] w fun e w' => e = .returned (.bool r) ∧ Below w.heap.size w w' := by
  obtain ⟨a1, c1, rfl, hc1, hm1, hr1⟩ := h1.form
  obtain ⟨a2, c2, rfl, hc2, hm2, hr2⟩ := h2.form
  rw [hx] at hc1 hr1
  rw [hy] at hc2 hr2
  rw [hx, hy]
  have Hhx := Lib.hid hx; clear hx
  have Hhy := Lib.hid hy; clear hy
  have Hhr := Lib.hid hr; clear hr
  clear h1 h2
  go_enter Try.func83, Try.ntmps83
  go_wp2
  go_loopw [4, 5] (fun r i wr => ∃ k : Nat, k ≤ n ∧ i = .int .i64 k ∧ xs.take k = ys.take k ∧ Below w.heap.size w wr) (fun _ i _ => n - (intOf i).toNat)
  case atStart => exact ⟨0, Nat.zero_le _, rfl, rfl, Below.refl _ _⟩
  case round =>
    obtain ⟨k, hk, rfl, htk, hb⟩ := hrel
    have Hhtk := Lib.hid htk; clear htk
    by_cases hlt : k < n
    · obtain ⟨b1, o1, rfl, -, hbl1, hcs1⟩ := hr1 (by omega)
      obtain ⟨b2, o2, rfl, -, hbl2, hcs2⟩ := hr2 (by omega)
      have k1 := (bcell hb b1 (o1 + k) hbl1).trans (hcs1 k hlt)
      have k2 := (bcell hb b2 (o2 + k) hbl2).trans (hcs2 k hlt)
      obtain ⟨p, hp⟩ : ∃ p, p = xs.getD k false := ⟨_, rfl⟩
      obtain ⟨q, hq⟩ : ∃ q, q = ys.getD k false := ⟨_, rfl⟩
      rw [← hp] at k1
      rw [← hq] at k2
      have Hhp := Lib.hid hp; clear hp
      have Hhq := Lib.hid hq; clear hq
      have Hhb := Lib.hid hb; clear hb
      clear hcs1 hcs2 hr1 hr2
      by_cases hpq : p = q
      · have g1 : (p != q) = false := by simpa using hpq
        have g2 : (!(p == q)) = false := by simpa using hpq
        have Hhpq := Lib.hid hpq; clear hpq
        go_wp2
        go_quiet (fail)
        go_wp2
        go_roundw
        case rel => exact ⟨k + 1, by omega, by go_num, take_snoc_eq (d := false) (by rw [Hhx.out]; exact hlt) (by rw [Hhy.out]; exact hlt) Hhtk.out (by rw [← Hhp.out, ← Hhq.out]; exact Hhpq.out), below_drewN Hhb.out _⟩
        case measure => simp [intOf]; omega
      · have g1 : (p != q) = true := by simpa using hpq
        have g2 : (!(p == q)) = true := by simpa using hpq
        have Hhpq := Lib.hid hpq; clear hpq
        go_wp2
        go_quiet (fail)
        go_wp2
        go_ret
        exact ⟨by rw [← Hhr.out, decide_eq_false (ne_of_getD (k := k) (d := false) (by rw [← Hhp.out, ← Hhq.out]; exact Hhpq.out))]; rfl, below_drewN Hhb.out _⟩
    · obtain rfl : k = n := by omega
      have Hhb := Lib.hid hb; clear hb
      clear hr1 hr2
      go_wp2
      go_ret
      refine ⟨?_, Hhb.out⟩
      have h := Hhtk.out
      rw [List.take_of_length_le (by rw [Hhx.out]; exact Nat.le_refl _), List.take_of_length_le (by rw [Hhy.out]; exact Nat.le_refl _)] at h
      rw [← Hhr.out, decide_eq_true h]
      rfl

/-- The place of a row in a list of rows, or -1. -/
def findB (S : List (List Bool)) (x : List Bool) : Int := if x ∈ S then (placeOf S x : Int) else -1
theorem findB_at {S : List (List Bool)} {x : List Bool} {k : Nat} (hk : k < S.length) (hn : x ∉ S.take k) (h : S.getD k [] = x) : findB S x = (k : Int) := by
  have hm : x ∈ S := by rw [← h]; exact memD hk
  have hp : S.take k ++ [x] <+: S := by
    rw [← h, show S.getD k [] = S[k] from by simp [hk], ← List.take_succ_eq_append_getElem hk]
    exact List.take_prefix _ _
  have hi := idx_snoc hp hn
  unfold findB
  rw [if_pos hm, hi]
  simp
  omega
theorem findB_none {S : List (List Bool)} {x : List Bool} (h : x ∉ S) : findB S x = -1 := by
  unfold findB
  rw [if_neg h]
theorem take_snoc_mem {α : Type} {S : List α} {k : Nat} (hk : k < S.length) (x : α) {d : α} (h : x ∈ S.take (k + 1)) : x ∈ S.take k ∨ x = S.getD k d := by
  rw [List.take_succ_eq_append_getElem hk, List.mem_append, List.mem_singleton] at h
  rcases h with h | h
  · exact Or.inl h
  · right
    rw [h]
    simp [hk]
set_option maxHeartbeats 1600000 in
theorem l9Find_any (S : List (List Bool)) (x : List Bool) (n : Nat) (v1 v2 : Value) (w : World) (hS : ∀ y ∈ S, y.length = n) (hx : x.length = n) (hl : S.length ≤ 1000000) (h1 : BoolSS 0 w v1 S) (h2 : Bools 0 w v2 x) :
    Calls Try.prog 67 #[v1, v2] w fun e w' => e = .returned (.int .i64 (findB S x)) ∧ Below w.heap.size w w' := by
  obtain ⟨a1, c1, rfl, hc1, hm1, hr1⟩ := h1.form
  have H2 := Lib.hid h2
  obtain ⟨a2, c2, rfl, hc2, hm2, -⟩ := h2.form
  have HhS := Lib.hid hS; clear hS
  have Hhx := Lib.hid hx; clear hx
  clear h1 h2
  go_enter Try.func67, Try.ntmps67
  go_wp2
  go_loopw [4, 5] (fun r i wr => ∃ k : Nat, k ≤ S.length ∧ i = .int .i64 k ∧ x ∉ S.take k ∧ Below w.heap.size w wr) (fun _ i _ => S.length - (intOf i).toNat)
  case atStart => exact ⟨0, Nat.zero_le _, rfl, by simp, Below.refl _ _⟩
  case round =>
    obtain ⟨k, hk, rfl, htk, hb⟩ := hrel
    have Hhtk := Lib.hid htk; clear htk
    by_cases hlt : k < S.length
    · obtain ⟨b1, o1, rfl, hbl1, hcs1⟩ := hr1 (by omega)
      obtain ⟨a3, c3, k1, hrow⟩ := hcs1 k hlt
      replace k1 := (bcell hb b1 (o1 + k) hbl1).trans k1
      have hrow' := hrow.below hb
      have hyl := HhS.out _ (memD (d := []) hlt)
      have hin := fun h => take_snoc_mem (d := []) hlt x h
      obtain ⟨y, hy⟩ : ∃ y, y = S.getD k [] := ⟨_, rfl⟩
      rw [← hy] at k1 hrow' hyl hin
      have Hhrow' := Lib.hid hrow'; clear hrow'
      have Hhyl := Lib.hid hyl; clear hyl
      have Hhin := Lib.hid hin; clear hin
      have Hhy := Lib.hid hy; clear hy
      have Hhb := Lib.hid hb; clear hb
      clear hcs1 hr1 hrow
      cases hd : decide (y = x)
      all_goals
        have Hhd := Lib.hid hd; clear hd
        go_wp2_with fail
        refine (l9Same_any y x n _ _ _ Hhyl.out Hhx.out Hhrow'.out (H2.out.below Hhb.out) _ Hhd.out).mono ?_
        rintro e w2 ⟨rfl, hb2⟩
        have hb3 := Hhb.out.trans (hb2.mono Hhb.out.size)
        have Hhb3 := Lib.hid hb3; clear hb3
        clear hb2
        go_wp2
      · go_roundw
        case rel => exact ⟨k + 1, by omega, by go_num, fun h => by rcases Hhin.out h with h | h; exact Hhtk.out h; exact of_decide_eq_false Hhd.out h.symm, Hhb3.out⟩
        case measure => simp [intOf]; omega
      · go_ret
        exact ⟨ret_int (by rw [findB_at hlt Hhtk.out (by rw [← Hhy.out]; exact of_decide_eq_true Hhd.out)]), Hhb3.out⟩
    · obtain rfl : k = S.length := by omega
      have Hhb := Lib.hid hb; clear hb
      clear hr1
      go_wp2
      go_ret
      refine ⟨ret_int (by rw [findB_none]; have h := Hhtk.out; rwa [List.take_length] at h), Hhb.out⟩
end Go.Proofs.Ytjcegbcmomfgaaa
