/-
  The walks over the functions that copy an argument of a law into new memory.
  Conditions: the argument reads as a list; its length is at most 1048576.
-/
import Derived.Test.YtclhcfmlkfiidaaProg
import Derived.Test.YtclhcfmlkfiidaaOwn
import Derived.Deep.RegionHeld3
import Derived.BigQuiet
namespace Go.Proofs.Ytclhcfmlkfiidaa
open Go.RowKit

theorem Try.infoInt : (Try.prog.info? 3).map (fun i => (i.zero, i.size, i.bytes)) = some (some (.int .i64 0), 1, 8) := by kernel_rfl
theorem Try.infoBool : (Try.prog.info? 4).map (fun i => (i.zero, i.size, i.bytes)) = some (some (.bool false), 1, 1) := by kernel_rfl
theorem Try.infoInts : (Try.prog.info? 44).map (fun i => (i.zero, i.size, i.bytes)) = some (some (.slice none 0 0), 1, 24) := by kernel_rfl

/-- The first k of a list, and then others. -/
theorem cells_set {xs : List Value} {n k : Nat} {cs : List Value} {u : Value} (hl : cs.length = n) (hx : xs.length = n) (hk : k < n) (h : cs.take k = xs.take k) (hu : xs[k]? = some u) :
    (cs.set k u).take (k + 1) = xs.take (k + 1) := by
  apply List.ext_getElem?
  intro j
  rw [List.getElem?_take, List.getElem?_take]
  by_cases hj : j < k + 1
  · rw [if_pos hj, if_pos hj, List.getElem?_set]
    by_cases he : k = j
    · subst he
      rw [if_pos rfl, if_pos (by omega), hu]
    · rw [if_neg he]
      have := congrArg (fun l => l[j]?) h
      simpa [List.getElem?_take, show j < k by omega] using this
  · rw [if_neg hj, if_neg hj]

/-- What such a call hands back. -/
def RInts (e lo : Nat) (xs : List Int) (en : Ending) (w' : World) : Prop := ∃ a cap, en = .returned (.slice a xs.length cap) ∧ OInts e lo w'.heap.size w' (.slice a xs.length cap) xs
def RIntSS (es e lo : Nat) (xss : List (List Int)) (en : Ending) (w' : World) : Prop := ∃ a cap, en = .returned (.slice a xss.length cap) ∧ OIntSS es e lo w'.heap.size w' (.slice a xss.length cap) xss
def RBools (e lo : Nat) (xs : List Bool) (en : Ending) (w' : World) : Prop := ∃ a cap, en = .returned (.slice a xs.length cap) ∧ OBools e lo w'.heap.size w' (.slice a xs.length cap) xs


set_option maxHeartbeats 800000 in
theorem toIntS_any (xs : List Int) (v : Value) (w : World) (hx : xs.length ≤ 1048576) (h1 : Ints 0 w v xs) :
    Calls Try.prog 69 #[v] w fun e w' => RInts 3 w.heap.size xs e w' ∧ Below w.heap.size w w' := by
  obtain ⟨a1, c1, rfl, hc1, hm1, hr1⟩ := h1.form
  obtain ⟨i0, hi, hz0, hz1, hz2⟩ := info_parts Try.infoInt
  clear h1
  go_enter Try.func69, Try.ntmps69
  go_wp2_with (at_make; refine wpList_make_full _ rfl _ _ 44 rfl w.heap.size 3 i0 (.int .i64 0) 1 Try.underlying44 hi hz0 hz1 .i64 .i64 _ _ xs.length rfl rfl rfl rfl (by rw [hz2]; omega) (by unfold maxLen; omega) (Nat.le_refl _) ?_; intro w1 hown hgrow)
  have hb1 : Below w.heap.size w w1 := (Below.refl _ _).grown hgrow (Nat.le_refl _) (fun _ h => by cases h)
  have Hown := Lib.hid hown
  clear hown hgrow hi hz0 hz1 hz2
  go_loopw [4] (fun i wr => ∃ k : Nat, k ≤ xs.length ∧ i = .int .i64 k ∧ Below w.heap.size w wr ∧ ∃ cs, wr.ownsRow w.heap.size 3 1 (.slice (some ⟨w.heap.size, 0, none⟩) xs.length xs.length) xs.length cs ∧ cs.take k = (intCells xs).take k)
    (fun i _ => xs.length - (intOf i).toNat)
  case atStart => exact ⟨0, Nat.zero_le _, rfl, hb1, _, Hown.out, rfl⟩
  case round =>
    obtain ⟨k, hk, rfl, hb, cs, hown, htk⟩ := hrel
    have hlen := hown.1
    have Hhtk := Lib.hid htk; clear htk
    have Hhown := Lib.hid hown; clear hown
    have Hhb := Lib.hid hb; clear hb
    by_cases hlt : k < xs.length
    · obtain ⟨b1, o1, rfl, hB1, hbl1, hcs1⟩ := hr1 (by omega)
      have hx1 := (bcell Hhb.out b1 (o1 + k) hbl1).trans (hcs1 k hlt)
      obtain ⟨x, hxx⟩ : ∃ x, x = xs.getD k 0 := ⟨_, rfl⟩
      rw [← hxx] at hx1
      obtain ⟨u0, hold⟩ := row_some Hhown.out k (by omega)
      have hfr : wr.frozen? ⟨w.heap.size, k, none⟩ = false := Hhown.out.frozenAt k
      have Hhxx := Lib.hid hxx; clear hxx
      have Hhlen := Lib.hid hlen; clear hlen
      clear hcs1 hr1
      go_wp2
      go_roundw
      case rel =>
        refine ⟨k + 1, by omega, by go_num, Hhb.out.setCell (Nat.le_refl _) _, _, (Hhown.out.stored k _).1, ?_⟩
        exact cells_set (n := xs.length) (by have := Hhlen.out; omega) (by simp) hlt Hhtk.out (by rw [Hhxx.out]; simp [hlt])
      case measure => simp [intOf]; omega
    · clear hr1
      have Hhlen := Lib.hid hlen; clear hlen
      go_wp2
      go_ret
      have he : cs = intCells xs := by
        have h := Hhtk.out
        rwa [List.take_of_length_le (by have := Hhlen.out; omega), List.take_of_length_le (by simp; omega)] at h
      exact ⟨⟨_, _, rfl, own_of_row (by rw [← he]; exact Hhown.out)⟩, Hhb.out⟩
set_option maxHeartbeats 800000 in
theorem toBoolS_any (xs : List Bool) (v : Value) (w : World) (hx : xs.length ≤ 1048576) (h1 : Bools 0 w v xs) :
    Calls Try.prog 40 #[v] w fun e w' => RBools 4 w.heap.size xs e w' ∧ Below w.heap.size w w' := by
  obtain ⟨a1, c1, rfl, hc1, hm1, hr1⟩ := h1.form
  obtain ⟨i0, hi, hz0, hz1, hz2⟩ := info_parts Try.infoBool
  clear h1
  go_enter Try.func40, Try.ntmps40
  go_wp2_with (at_make; refine wpList_make_full _ rfl _ _ 23 rfl w.heap.size 4 i0 (.bool false) 1 Try.underlying23 hi hz0 hz1 .i64 .i64 _ _ xs.length rfl rfl rfl rfl (by rw [hz2]; omega) (by unfold maxLen; omega) (Nat.le_refl _) ?_; intro w1 hown hgrow)
  have hb1 : Below w.heap.size w w1 := (Below.refl _ _).grown hgrow (Nat.le_refl _) (fun _ h => by cases h)
  have Hown := Lib.hid hown
  clear hown hgrow hi hz0 hz1 hz2
  go_loopw [4] (fun i wr => ∃ k : Nat, k ≤ xs.length ∧ i = .int .i64 k ∧ Below w.heap.size w wr ∧ ∃ cs, wr.ownsRow w.heap.size 4 1 (.slice (some ⟨w.heap.size, 0, none⟩) xs.length xs.length) xs.length cs ∧ cs.take k = (boolCells xs).take k)
    (fun i _ => xs.length - (intOf i).toNat)
  case atStart => exact ⟨0, Nat.zero_le _, rfl, hb1, _, Hown.out, rfl⟩
  case round =>
    obtain ⟨k, hk, rfl, hb, cs, hown, htk⟩ := hrel
    have hlen := hown.1
    have Hhtk := Lib.hid htk; clear htk
    have Hhown := Lib.hid hown; clear hown
    have Hhb := Lib.hid hb; clear hb
    by_cases hlt : k < xs.length
    · obtain ⟨b1, o1, rfl, hB1, hbl1, hcs1⟩ := hr1 (by omega)
      have hx1 := (bcell Hhb.out b1 (o1 + k) hbl1).trans (hcs1 k hlt)
      obtain ⟨x, hxx⟩ : ∃ x, x = xs.getD k false := ⟨_, rfl⟩
      rw [← hxx] at hx1
      obtain ⟨u0, hold⟩ := row_some Hhown.out k (by omega)
      have hfr : wr.frozen? ⟨w.heap.size, k, none⟩ = false := Hhown.out.frozenAt k
      have Hhxx := Lib.hid hxx; clear hxx
      have Hhlen := Lib.hid hlen; clear hlen
      clear hcs1 hr1
      go_wp2
      go_roundw
      case rel =>
        refine ⟨k + 1, by omega, by go_num, Hhb.out.setCell (Nat.le_refl _) _, _, (Hhown.out.stored k _).1, ?_⟩
        exact cells_set (n := xs.length) (by have := Hhlen.out; omega) (by simp) hlt Hhtk.out (by rw [Hhxx.out]; simp [hlt])
      case measure => simp [intOf]; omega
    · clear hr1
      have Hhlen := Lib.hid hlen; clear hlen
      go_wp2
      go_ret
      have he : cs = boolCells xs := by
        have h := Hhtk.out
        rwa [List.take_of_length_le (by have := Hhlen.out; omega), List.take_of_length_le (by simp; omega)] at h
      exact ⟨⟨_, _, rfl, own_of_row (by rw [← he]; exact Hhown.out)⟩, Hhb.out⟩
set_option maxHeartbeats 800000 in
theorem toIntSS_any (xss : List (List Int)) (v : Value) (w : World) (hx : xss.length ≤ 1048576) (hxs : ∀ i, i < xss.length → (xss.getD i []).length ≤ 1048576) (h1 : IntSS 0 w v xss) :
    Calls Try.prog 39 #[v] w fun e w' => RIntSS 44 3 w.heap.size xss e w' ∧ Below w.heap.size w w' := by
  obtain ⟨a1, c1, rfl, hc1, hm1, hr1⟩ := h1.formI
  obtain ⟨i0, hi, hz0, hz1, hz2⟩ := info_parts Try.infoInts
  clear h1
  go_enter Try.func39, Try.ntmps39
  go_wp2_with (at_make; refine wpList_make_full _ rfl _ _ 22 rfl w.heap.size 44 i0 (.slice none 0 0) 1 Try.underlying22 hi hz0 hz1 .i64 .i64 _ _ xss.length rfl rfl rfl rfl (by rw [hz2]; omega) (by unfold maxLen; omega) (Nat.le_refl _) ?_; intro w1 hown hgrow)
  have hb1 : Below w.heap.size w w1 := (Below.refl _ _).grown hgrow (Nat.le_refl _) (fun _ h => by cases h)
  have Hown := Lib.hid hown
  have Hhxs := Lib.hid hxs; clear hxs
  clear hown hgrow hi hz0 hz1 hz2
  go_loopw [4] (fun i wr => ∃ k : Nat, k ≤ xss.length ∧ i = .int .i64 k ∧ Below w.heap.size w wr ∧ ∃ cs, RowsTo 44 3 w.heap.size xss.length xss k wr cs)
    (fun i _ => xss.length - (intOf i).toNat)
  case atStart => exact ⟨0, Nat.zero_le _, rfl, hb1, _, Hown.out, fun i hi => absurd hi (by omega), fun i j b _ hj => absurd hj (by omega)⟩
  case round =>
    obtain ⟨k, hk, rfl, hb, cs, hown⟩ := hrel
    have hlen := hown.1.1
    have hBw := (hown.1.lt w.heap.size rfl).2
    have Hhown := Lib.hid hown; clear hown
    have Hhb := Lib.hid hb; clear hb
    by_cases hlt : k < xss.length
    · obtain ⟨b1, o1, rfl, hB1, hbl1, hcs1⟩ := hr1 (by omega)
      obtain ⟨ax, cx, hxc, hxl, hxm, hxi⟩ := hcs1 k hlt
      have hx1 := (bcell Hhb.out b1 (o1 + k) hbl1).trans hxc
      have hxk := Hhxs.out k hlt
      obtain ⟨x, hxx⟩ : ∃ x, x = xss.getD k [] := ⟨_, rfl⟩
      rw [← hxx] at hx1 hxi hxl hxk
      have Hxi := Lib.hid (hxi.below Hhb.out)
      have Hhxx := Lib.hid hxx; clear hxx
      clear hcs1 hr1 hxc hxi
      go_wp2_with (go_at_call 69; refine (toIntS_any x _ _ hxk Hxi.out).mono ?_; rintro e w2 ⟨⟨a2, p2, rfl, hv2⟩, hb2⟩; have Hb2 := Lib.hid hb2; have Hv2 := Lib.hid hv2; clear hb2 hv2; have hrow := (Own.below (own_of_row Hhown.out.1) Hb2.out).1; obtain ⟨u0, hold⟩ := row_some hrow k (by omega); have hfr : w2.frozen? ⟨w.heap.size, k, none⟩ = false := hrow.frozenAt k; clear hrow)
      go_roundw
      case rel => exact ⟨k + 1, by omega, by go_num, (Hhb.out.trans (Hb2.out.mono Hhb.out.size)).setCell (Nat.le_refl _) _, _, Hhown.out.step hBw hlt Hb2.out (by rw [← Hhxx.out]; exact Hv2.out)⟩
      case measure => simp [intOf]; omega
    · clear hr1
      obtain rfl : k = xss.length := by omega
      go_wp2
      go_ret
      exact ⟨⟨_, _, rfl, Hhown.out.done⟩, Hhb.out⟩

/-- The result lies in a variable of its own. -/
def RDfa (tS tI tB lo : Nat) (d : DfaD) (en : Ending) (w' : World) : Prop := ∃ a1 c1 a2 c2, en = .returned (.agg #[.slice a1 d.next.length c1, .slice a2 d.ends.length c2]) ∧ DfaO tS tI tB lo w'.heap.size w' (.agg #[.slice a1 d.next.length c1, .slice a2 d.ends.length c2]) d
def small (d : DfaD) : Prop := d.next.length ≤ 1048576 ∧ (∀ i, i < d.next.length → (d.next.getD i []).length ≤ 1048576) ∧ d.ends.length ≤ 1048576

set_option maxHeartbeats 800000 in
theorem toDfa_any (d : DfaD) (v : Value) (w : World) (hs : small d) (h : DfaR 0 w v d) :
    Calls Try.prog 12 #[v] w fun e w' => RDfa 44 3 4 w.heap.size d e w' ∧ Below w.heap.size w w' := by
  obtain ⟨v1, v2, rfl, h1, h2⟩ := h
  obtain ⟨hs1, hs2, hs3⟩ := hs
  obtain ⟨a1, c1, rfl, hc1, hm1, hr1⟩ := h1.form
  obtain ⟨a2, c2, rfl, hc2, hm2, hr2⟩ := h2.form
  have H1 := Lib.hid h1
  have H2 := Lib.hid h2
  have Hhs2 := Lib.hid hs2; clear hs2
  clear h1 h2 hr1 hr2
  go_enter Try.func12, Try.ntmps12
  go_wp2_with fail
  refine (toIntSS_any d.next _ _ hs1 Hhs2.out (H1.out.below ((((Below.refl _ _).alloc (Nat.le_refl _) _).alloc (by simp) _).alloc (by simp; omega) _))).mono ?_
  rintro e w2 ⟨⟨a3, p3, rfl, ho⟩, hb2⟩
  have hbw : Below w.heap.size w w2 := ((((Below.refl _ _).alloc (Nat.le_refl _) _).alloc (by simp) _).alloc (by simp; omega) _).trans (hb2.mono (by simp; omega))
  have x0 := (((Bx.new w _ _).alloc _).alloc _).below hb2 (by simp; omega)
  have x1 := ((Bx.new (w.alloc _) _ _).alloc _).below hb2 (by simp)
  have x2 := (Bx.new ((w.alloc _).alloc _) _ _).below hb2 (by simp)
  have hz : w.heap.size + 3 ≤ w2.heap.size := by have := hb2.size; simpa using this
  simp only [World.size_alloc] at x0 x1 x2
  have c20 := x2.cell 0
  have c21 := x2.cell 1
  have f20 := x2.fr 0
  have c01 := x0.cell 1
  simp only [List.getElem?_toArray, List.getElem?_cons_zero, List.getElem?_cons_succ] at c20 c21 c01
  have Hhbw := Lib.hid hbw; clear hbw
  have Hhb2 := Lib.hid hb2; clear hb2
  have Hho := Lib.hid ho; clear ho
  have Hx0 := Lib.hid x0; clear x0
  have Hx1 := Lib.hid x1; clear x1
  have Hx2 := Lib.hid x2; clear x2
  go_wp2_with fail
  refine (toBoolS_any d.ends _ _ hs3 (H2.out.below (Hhbw.out.setCell (by simp; omega) _))).mono ?_
  rintro e w3 ⟨⟨a4, p4, rfl, ho2⟩, hb3⟩
  have y1 := (Hx1.out.set_ne ⟨w.heap.size + 1 + 1, 0, none⟩ (.slice a3 d.next.length p3) (by simp)).below hb3 (by simp [World.setCell]; omega)
  have y2 := (Hx2.out.set 0 (.slice a3 d.next.length p3)).below hb3 (by simp [World.setCell]; omega)
  have hz2 : w2.heap.size ≤ w3.heap.size := by have := hb3.size; simpa [World.setCell] using this
  have d0 := y2.cell 0
  have d1 := y2.cell 1
  have e0 := y1.cell 0
  have e1 := y1.cell 1
  have f21 := y2.fr 1
  have f10 := y1.fr 0
  have f11 := y1.fr 1
  simp only [List.getElem?_toArray, List.getElem?_cons_zero, List.getElem?_cons_succ, List.setIfInBounds_toArray, List.set_cons_zero] at d0 d1 e0 e1
  have Hhb3 := Lib.hid hb3; clear hb3
  have Hho2 := Lib.hid ho2; clear ho2
  have Hy1 := Lib.hid y1; clear y1
  have Hy2 := Lib.hid y2; clear y2
  clear c20 c21 c01 f20
  go_wp2
  have z1 := ((Hy1.out.set_ne ⟨w.heap.size + 1 + 1, 1, none⟩ (.slice a4 d.ends.length p4) (by simp)).set 0 (.slice a3 d.next.length p3)).set 1 (.slice a4 d.ends.length p4)
  have r0 := z1.cell 0
  have r1 := z1.cell 1
  simp only [List.getElem?_toArray, List.getElem?_cons_zero, List.getElem?_cons_succ, List.setIfInBounds_toArray, List.set_cons_zero, List.set_cons_succ] at r0 r1
  refine bodyPost_ret (v := .agg #[.slice a3 d.next.length p3, .slice a4 d.ends.length p4]) (by simp [results, Try.results12, go_sem, r0, r1]) rfl ⟨⟨_, _, _, _, rfl, _, _, rfl, ?_, ?_⟩, ?_⟩
  · refine (OIntSS.only (lo' := w.heap.size + 1) (hi' := w.heap.size + 3) Hho.out ?_ (Or.inr (by simp))).mono (by simp; omega) (by simp only [setCell_size]; omega)
    exact ((((Only.refl _ _ _).setCell (by simp) (by simp) _).next Hhb3.out).setCell (by simp) (by simp) _).setCell (by simp) (by simp) _ |>.setCell (by simp) (by simp) _
  · refine (OBools.only (lo' := w.heap.size + 1) (hi' := w.heap.size + 3) Hho2.out ?_ (Or.inr (by simp only [setCell_size]; omega))).mono (by simp only [setCell_size]; omega) (by simp only [setCell_size]; omega)
    exact (((Only.refl _ _ _).setCell (by simp) (by simp) _).setCell (by simp) (by simp) _).setCell (by simp) (by simp) _
  · exact ((((Hhbw.out.setCell (by simp; omega) _).trans (Hhb3.out.mono (by simp only [setCell_size]; omega))).setCell (by simp; omega) _).setCell (by simp) _).setCell (by simp) _

set_option maxHeartbeats 800000 in
theorem toPair_any (x : Int × Int) (w : World) :
    Calls Try.prog 41 #[.agg #[.int .i64 x.1, .int .i64 x.2]] w fun e w' => e = .returned (.agg #[.int .i64 x.1, .int .i64 x.2]) ∧ Below w.heap.size w w' := by
  go_enter Try.func41, Try.ntmps41
  go_wp2
  refine bodyPost_ret (v := .agg #[.int .i64 x.1, .int .i64 x.2]) (by simp [results, Try.results41, go_sem]) rfl ⟨rfl, ?_⟩
  repeat (first | exact Below.refl _ _ | (refine Below.setCell ?_ (by simp) _) | (refine Below.alloc ?_ (by simp <;> omega) _))

theorem Try.infoPair : (Try.prog.info? 55).map (fun i => (i.zero, i.size, i.bytes)) = some (some (.agg #[.int .i64 0, .int .i64 0]), 2, 16) := by kernel_rfl
def RPairs (e lo : Nat) (xs : List (Int × Int)) (en : Ending) (w' : World) : Prop := ∃ a cap, en = .returned (.slice a xs.length cap) ∧ OPairs e lo w'.heap.size w' (.slice a xs.length cap) xs
theorem flatP_len (xs : List (Int × Int)) : (xs.flatMap pairCells).length = xs.length * 2 := flat_len pairCells 2 (fun _ => rfl) xs
theorem flatP_get (xs : List (Int × Int)) (k : Nat) (hk : k < xs.length) : (xs.flatMap pairCells)[k * 2]? = some (.int .i64 (xs.getD k (0, 0)).1) ∧ (xs.flatMap pairCells)[k * 2 + 1]? = some (.int .i64 (xs.getD k (0, 0)).2) := by
  have h0 := flat_get pairCells 2 (fun _ => rfl) xs k 0 (0, 0) hk (by omega)
  have h1 := flat_get pairCells 2 (fun _ => rfl) xs k 1 (0, 0) hk (by omega)
  exact ⟨by simpa [pairCells] using h0, by simpa [pairCells] using h1⟩
set_option maxHeartbeats 1600000 in
theorem toPairS_any (xs : List (Int × Int)) (v : Value) (w : World) (hx : xs.length ≤ 1048576) (h1 : Pairs 0 w v xs) :
    Calls Try.prog 13 #[v] w fun e w' => RPairs 55 w.heap.size xs e w' ∧ Below w.heap.size w w' := by
  obtain ⟨a1, c1, rfl, hc1, hm1, hr1⟩ := h1.form
  obtain ⟨i0, hi, hz0, hz1, hz2⟩ := info_parts Try.infoPair
  clear h1
  go_enter Try.func13, Try.ntmps13
  go_wp2_with (at_make; refine wpList_make_full _ rfl _ _ 29 rfl w.heap.size 55 i0 (.agg #[.int .i64 0, .int .i64 0]) 2 Try.underlying29 hi hz0 hz1 .i64 .i64 _ _ xs.length rfl rfl rfl rfl (by rw [hz2]; omega) (by unfold maxLen; omega) (Nat.le_refl _) ?_; intro w1 hown hgrow)
  have hb1 : Below w.heap.size w w1 := (Below.refl _ _).grown hgrow (Nat.le_refl _) (fun _ h => by cases h)
  have Hown := Lib.hid hown
  clear hown hgrow hi hz0 hz1 hz2
  go_loopw [4] (fun i wr => ∃ k : Nat, k ≤ xs.length ∧ i = .int .i64 k ∧ Below w.heap.size w wr ∧ ∃ cs, wr.ownsRow w.heap.size 55 2 (.slice (some ⟨w.heap.size, 0, none⟩) xs.length xs.length) xs.length cs ∧ cs.take (k * 2) = (xs.flatMap pairCells).take (k * 2))
    (fun i _ => xs.length - (intOf i).toNat)
  case atStart => exact ⟨0, Nat.zero_le _, rfl, hb1, _, Hown.out, rfl⟩
  case round =>
    obtain ⟨k, hk, rfl, hb, cs, hown, htk⟩ := hrel
    have hlen := hown.1
    have hBw := (hown.lt w.heap.size rfl).2
    have Hhtk := Lib.hid htk; clear htk
    have Hhown := Lib.hid hown; clear hown
    have Hhb := Lib.hid hb; clear hb
    have Hhlen := Lib.hid hlen; clear hlen
    by_cases hlt : k < xs.length
    · obtain ⟨b1, o1, rfl, hB1, hbl1, hcs1⟩ := hr1 (by omega)
      have hx1 := (bcell Hhb.out b1 (o1 + k * 2) hbl1).trans (hcs1 k hlt).1
      have hx2 := (bcell Hhb.out b1 (o1 + k * 2 + 1) hbl1).trans (hcs1 k hlt).2
      have hfl := flatP_get xs k hlt
      obtain ⟨x, hxx⟩ : ∃ x, x = xs.getD k (0, 0) := ⟨_, rfl⟩
      rw [← hxx] at hx1 hx2 hfl
      have Hhxx := Lib.hid hxx; clear hxx
      have Hhfl := Lib.hid hfl; clear hfl
      clear hcs1 hr1
      go_wp2_with (go_at_call 41; refine (toPair_any x _).mono ?_; rintro e w2 ⟨rfl, hb2⟩; have Hb2 := Lib.hid hb2; clear hb2; have hrow := (Own.below (own_of_row Hhown.out) Hb2.out).1; obtain ⟨u0, hold0⟩ := row_some hrow (k * 2) (by omega); obtain ⟨u1, hold1⟩ := row_some hrow (k * 2 + 1) (by omega); have hfr0 : w2.frozen? ⟨w.heap.size, k * 2, none⟩ = false := hrow.frozenAt _; have hfr1 : w2.frozen? ⟨w.heap.size, k * 2 + 1, none⟩ = false := hrow.frozenAt _; have Hrow := Lib.hid hrow; clear hrow)
      go_roundw
      case rel =>
        refine ⟨k + 1, by omega, by go_num, ((Hhb.out.trans (Hb2.out.mono Hhb.out.size)).setCell (Nat.le_refl _) _).setCell (Nat.le_refl _) _, _, (((Hrow.out.stored (k * 2) _).1).stored (k * 2 + 1) _).1, ?_⟩
        have s1 := cells_set (n := xs.length * 2) (k := k * 2) Hhlen.out (flatP_len xs) (by omega) Hhtk.out Hhfl.out.1
        have s2 := cells_set (n := xs.length * 2) (k := k * 2 + 1) (by simpa using Hhlen.out) (flatP_len xs) (by omega) s1 Hhfl.out.2
        rw [show (k + 1) * 2 = k * 2 + 1 + 1 from by omega]
        exact s2
      case measure => simp [intOf]; omega
    · clear hr1
      go_wp2
      go_ret
      have he : cs = xs.flatMap pairCells := by
        have h := Hhtk.out
        rwa [List.take_of_length_le (by have := Hhlen.out; omega), List.take_of_length_le (by rw [flatP_len]; omega)] at h
      exact ⟨⟨_, _, rfl, own_of_row (by rw [← he]; exact Hhown.out)⟩, Hhb.out⟩
end Go.Proofs.Ytclhcfmlkfiidaa
