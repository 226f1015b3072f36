/-
  The walks over the functions that copy an argument of a law into new memory.
  Conditions: the argument reads as a list; its length is at most 1048576.
  What lies in memory while states are explored: the states met, their numbers in a map, the automaton that grows.
  Conditions: the things met lie in blocks of a type of their own.
  The walks over the functions of the laws that write numbers into what a call has handed back, and look for them again.
  Conditions: what is written is the call's own; the numbers stay below ten thousand million.
-/
import Derived.Test.YthigcohfjoodlaaProg
import Derived.Test.YthigcohfjoodlaaGrow
import Derived.Deep.RegionHeld3
import Derived.BigQuiet
import Derived.Test.YthigcohfjoodlaaFwp
namespace Go.Proofs.Ythigcohfjoodlaa
open Go.RowKit

theorem Try.infoInt : (Try.prog.info? 3).map (fun i => (i.zero, i.size, i.bytes)) = some (some (.int .i64 0), 1, 8) := by kernel_rfl
theorem Try.infoBool : (Try.prog.info? 4).map (fun i => (i.zero, i.size, i.bytes)) = some (some (.bool false), 1, 1) := by kernel_rfl
theorem Try.infoInts : (Try.prog.info? 43).map (fun i => (i.zero, i.size, i.bytes)) = some (some (.slice none 0 0), 1, 24) := by kernel_rfl

/-- The first k of a list, and then others. -/
theorem cells_set {xs : List Value} {n k : Nat} {cs : List Value} {u : Value} (hl : cs.length = n) (hx : xs.length = n) (hk : k < n) (h : cs.take k = xs.take k) (hu : xs[k]? = some u) :
    (cs.set k u).take (k + 1) = xs.take (k + 1) := by
  apply List.ext_getElem?
  intro j
  rw [List.getElem?_take, List.getElem?_take]
  by_cases hj : j < k + 1
  · rw [if_pos hj, if_pos hj, List.getElem?_set]
    by_cases he : k = j
    · subst he
      rw [if_pos rfl, if_pos (by omega), hu]
    · rw [if_neg he]
      have := congrArg (fun l => l[j]?) h
      simpa [List.getElem?_take, show j < k by omega] using this
  · rw [if_neg hj, if_neg hj]

/-- What such a call hands back. -/
def RInts (e lo : Nat) (xs : List Int) (en : Ending) (w' : World) : Prop := ∃ a cap, en = .returned (.slice a xs.length cap) ∧ OInts e lo w'.heap.size w' (.slice a xs.length cap) xs
def RIntSS (es e lo : Nat) (xss : List (List Int)) (en : Ending) (w' : World) : Prop := ∃ a cap, en = .returned (.slice a xss.length cap) ∧ OIntSS es e lo w'.heap.size w' (.slice a xss.length cap) xss
def RBools (e lo : Nat) (xs : List Bool) (en : Ending) (w' : World) : Prop := ∃ a cap, en = .returned (.slice a xs.length cap) ∧ OBools e lo w'.heap.size w' (.slice a xs.length cap) xs


set_option maxHeartbeats 800000 in
theorem toIntS_any (xs : List Int) (v : Value) (w : World) (hx : xs.length ≤ 1048576) (h1 : Ints 0 w v xs) :
    Calls Try.prog 96 #[v] w fun e w' => RInts 3 w.heap.size xs e w' ∧ Below w.heap.size w w' := by
  obtain ⟨a1, c1, rfl, hc1, hm1, hr1⟩ := h1.form
  obtain ⟨i0, hi, hz0, hz1, hz2⟩ := info_parts Try.infoInt
  clear h1
  go_enter Try.func96, Try.ntmps96
  go_wp2_with (at_make; refine wpList_make_full _ rfl _ _ 43 rfl w.heap.size 3 i0 (.int .i64 0) 1 Try.underlying43 hi hz0 hz1 .i64 .i64 _ _ xs.length rfl rfl rfl rfl (by rw [hz2]; omega) (by unfold maxLen; omega) (Nat.le_refl _) ?_; intro w1 hown hgrow)
  have hb1 : Below w.heap.size w w1 := (Below.refl _ _).grown hgrow (Nat.le_refl _) (fun _ h => by cases h)
  have Hown := Lib.hid hown
  clear hown hgrow hi hz0 hz1 hz2
  go_loopw [4] (fun i wr => ∃ k : Nat, k ≤ xs.length ∧ i = .int .i64 k ∧ Below w.heap.size w wr ∧ ∃ cs, wr.ownsRow w.heap.size 3 1 (.slice (some ⟨w.heap.size, 0, none⟩) xs.length xs.length) xs.length cs ∧ cs.take k = (intCells xs).take k)
    (fun i _ => xs.length - (intOf i).toNat)
  case atStart => exact ⟨0, Nat.zero_le _, rfl, hb1, _, Hown.out, rfl⟩
  case round =>
    obtain ⟨k, hk, rfl, hb, cs, hown, htk⟩ := hrel
    have hlen := hown.1
    have Hhtk := Lib.hid htk; clear htk
    have Hhown := Lib.hid hown; clear hown
    have Hhb := Lib.hid hb; clear hb
    by_cases hlt : k < xs.length
    · obtain ⟨b1, o1, rfl, hB1, hbl1, hcs1⟩ := hr1 (by omega)
      have hx1 := (bcell Hhb.out b1 (o1 + k) hbl1).trans (hcs1 k hlt)
      obtain ⟨x, hxx⟩ : ∃ x, x = xs.getD k 0 := ⟨_, rfl⟩
      rw [← hxx] at hx1
      obtain ⟨u0, hold⟩ := row_some Hhown.out k (by omega)
      have hfr : wr.frozen? ⟨w.heap.size, k, none⟩ = false := Hhown.out.frozenAt k
      have Hhxx := Lib.hid hxx; clear hxx
      have Hhlen := Lib.hid hlen; clear hlen
      clear hcs1 hr1
      go_wp2
      go_roundw
      case rel =>
        refine ⟨k + 1, by omega, by go_num, Hhb.out.setCell (Nat.le_refl _) _, _, (Hhown.out.stored k _).1, ?_⟩
        exact cells_set (n := xs.length) (by have := Hhlen.out; omega) (by simp) hlt Hhtk.out (by rw [Hhxx.out]; simp [hlt])
      case measure => simp [intOf]; omega
    · clear hr1
      have Hhlen := Lib.hid hlen; clear hlen
      go_wp2
      go_ret
      have he : cs = intCells xs := by
        have h := Hhtk.out
        rwa [List.take_of_length_le (by have := Hhlen.out; omega), List.take_of_length_le (by simp; omega)] at h
      exact ⟨⟨_, _, rfl, own_of_row (by rw [← he]; exact Hhown.out)⟩, Hhb.out⟩
set_option maxHeartbeats 800000 in
theorem toBoolS_any (xs : List Bool) (v : Value) (w : World) (hx : xs.length ≤ 1048576) (h1 : Bools 0 w v xs) :
    Calls Try.prog 80 #[v] w fun e w' => RBools 4 w.heap.size xs e w' ∧ Below w.heap.size w w' := by
  obtain ⟨a1, c1, rfl, hc1, hm1, hr1⟩ := h1.form
  obtain ⟨i0, hi, hz0, hz1, hz2⟩ := info_parts Try.infoBool
  clear h1
  go_enter Try.func80, Try.ntmps80
  go_wp2_with (at_make; refine wpList_make_full _ rfl _ _ 23 rfl w.heap.size 4 i0 (.bool false) 1 Try.underlying23 hi hz0 hz1 .i64 .i64 _ _ xs.length rfl rfl rfl rfl (by rw [hz2]; omega) (by unfold maxLen; omega) (Nat.le_refl _) ?_; intro w1 hown hgrow)
  have hb1 : Below w.heap.size w w1 := (Below.refl _ _).grown hgrow (Nat.le_refl _) (fun _ h => by cases h)
  have Hown := Lib.hid hown
  clear hown hgrow hi hz0 hz1 hz2
  go_loopw [4] (fun i wr => ∃ k : Nat, k ≤ xs.length ∧ i = .int .i64 k ∧ Below w.heap.size w wr ∧ ∃ cs, wr.ownsRow w.heap.size 4 1 (.slice (some ⟨w.heap.size, 0, none⟩) xs.length xs.length) xs.length cs ∧ cs.take k = (boolCells xs).take k)
    (fun i _ => xs.length - (intOf i).toNat)
  case atStart => exact ⟨0, Nat.zero_le _, rfl, hb1, _, Hown.out, rfl⟩
  case round =>
    obtain ⟨k, hk, rfl, hb, cs, hown, htk⟩ := hrel
    have hlen := hown.1
    have Hhtk := Lib.hid htk; clear htk
    have Hhown := Lib.hid hown; clear hown
    have Hhb := Lib.hid hb; clear hb
    by_cases hlt : k < xs.length
    · obtain ⟨b1, o1, rfl, hB1, hbl1, hcs1⟩ := hr1 (by omega)
      have hx1 := (bcell Hhb.out b1 (o1 + k) hbl1).trans (hcs1 k hlt)
      obtain ⟨x, hxx⟩ : ∃ x, x = xs.getD k false := ⟨_, rfl⟩
      rw [← hxx] at hx1
      obtain ⟨u0, hold⟩ := row_some Hhown.out k (by omega)
      have hfr : wr.frozen? ⟨w.heap.size, k, none⟩ = false := Hhown.out.frozenAt k
      have Hhxx := Lib.hid hxx; clear hxx
      have Hhlen := Lib.hid hlen; clear hlen
      clear hcs1 hr1
      go_wp2
      go_roundw
      case rel =>
        refine ⟨k + 1, by omega, by go_num, Hhb.out.setCell (Nat.le_refl _) _, _, (Hhown.out.stored k _).1, ?_⟩
        exact cells_set (n := xs.length) (by have := Hhlen.out; omega) (by simp) hlt Hhtk.out (by rw [Hhxx.out]; simp [hlt])
      case measure => simp [intOf]; omega
    · clear hr1
      have Hhlen := Lib.hid hlen; clear hlen
      go_wp2
      go_ret
      have he : cs = boolCells xs := by
        have h := Hhtk.out
        rwa [List.take_of_length_le (by have := Hhlen.out; omega), List.take_of_length_le (by simp; omega)] at h
      exact ⟨⟨_, _, rfl, own_of_row (by rw [← he]; exact Hhown.out)⟩, Hhb.out⟩
set_option maxHeartbeats 800000 in
theorem toIntSS_any (xss : List (List Int)) (v : Value) (w : World) (hx : xss.length ≤ 1048576) (hxs : ∀ i, i < xss.length → (xss.getD i []).length ≤ 1048576) (h1 : IntSS 0 w v xss) :
    Calls Try.prog 79 #[v] w fun e w' => RIntSS 43 3 w.heap.size xss e w' ∧ Below w.heap.size w w' := by
  obtain ⟨a1, c1, rfl, hc1, hm1, hr1⟩ := h1.formI
  obtain ⟨i0, hi, hz0, hz1, hz2⟩ := info_parts Try.infoInts
  clear h1
  go_enter Try.func79, Try.ntmps79
  go_wp2_with (at_make; refine wpList_make_full _ rfl _ _ 22 rfl w.heap.size 43 i0 (.slice none 0 0) 1 Try.underlying22 hi hz0 hz1 .i64 .i64 _ _ xss.length rfl rfl rfl rfl (by rw [hz2]; omega) (by unfold maxLen; omega) (Nat.le_refl _) ?_; intro w1 hown hgrow)
  have hb1 : Below w.heap.size w w1 := (Below.refl _ _).grown hgrow (Nat.le_refl _) (fun _ h => by cases h)
  have Hown := Lib.hid hown
  have Hhxs := Lib.hid hxs; clear hxs
  clear hown hgrow hi hz0 hz1 hz2
  go_loopw [4] (fun i wr => ∃ k : Nat, k ≤ xss.length ∧ i = .int .i64 k ∧ Below w.heap.size w wr ∧ ∃ cs, RowsTo 43 3 w.heap.size xss.length xss k wr cs)
    (fun i _ => xss.length - (intOf i).toNat)
  case atStart => exact ⟨0, Nat.zero_le _, rfl, hb1, _, Hown.out, fun i hi => absurd hi (by omega), fun i j b _ hj => absurd hj (by omega)⟩
  case round =>
    obtain ⟨k, hk, rfl, hb, cs, hown⟩ := hrel
    have hlen := hown.1.1
    have hBw := (hown.1.lt w.heap.size rfl).2
    have Hhown := Lib.hid hown; clear hown
    have Hhb := Lib.hid hb; clear hb
    by_cases hlt : k < xss.length
    · obtain ⟨b1, o1, rfl, hB1, hbl1, hcs1⟩ := hr1 (by omega)
      obtain ⟨ax, cx, hxc, hxl, hxm, hxi⟩ := hcs1 k hlt
      have hx1 := (bcell Hhb.out b1 (o1 + k) hbl1).trans hxc
      have hxk := Hhxs.out k hlt
      obtain ⟨x, hxx⟩ : ∃ x, x = xss.getD k [] := ⟨_, rfl⟩
      rw [← hxx] at hx1 hxi hxl hxk
      have Hxi := Lib.hid (hxi.below Hhb.out)
      have Hhxx := Lib.hid hxx; clear hxx
      clear hcs1 hr1 hxc hxi
      go_wp2_with (go_at_call 96; refine (toIntS_any x _ _ hxk Hxi.out).mono ?_; rintro e w2 ⟨⟨a2, p2, rfl, hv2⟩, hb2⟩; have Hb2 := Lib.hid hb2; have Hv2 := Lib.hid hv2; clear hb2 hv2; have hrow := (Own.below (own_of_row Hhown.out.1) Hb2.out).1; obtain ⟨u0, hold⟩ := row_some hrow k (by omega); have hfr : w2.frozen? ⟨w.heap.size, k, none⟩ = false := hrow.frozenAt k; clear hrow)
      go_roundw
      case rel => exact ⟨k + 1, by omega, by go_num, (Hhb.out.trans (Hb2.out.mono Hhb.out.size)).setCell (Nat.le_refl _) _, _, Hhown.out.step hBw hlt Hb2.out (by rw [← Hhxx.out]; exact Hv2.out)⟩
      case measure => simp [intOf]; omega
    · clear hr1
      obtain rfl : k = xss.length := by omega
      go_wp2
      go_ret
      exact ⟨⟨_, _, rfl, Hhown.out.done⟩, Hhb.out⟩

/-- The result lies in a variable of its own. -/
def RDfa (tS tI tB lo : Nat) (d : DfaD) (en : Ending) (w' : World) : Prop := ∃ a1 c1 a2 c2, en = .returned (.agg #[.slice a1 d.next.length c1, .slice a2 d.ends.length c2]) ∧ DfaO tS tI tB lo w'.heap.size w' (.agg #[.slice a1 d.next.length c1, .slice a2 d.ends.length c2]) d
def small (d : DfaD) : Prop := d.next.length ≤ 1048576 ∧ (∀ i, i < d.next.length → (d.next.getD i []).length ≤ 1048576) ∧ d.ends.length ≤ 1048576

set_option maxHeartbeats 800000 in
theorem toDfa_any (d : DfaD) (v : Value) (w : World) (hs : small d) (h : DfaR 0 w v d) :
    Calls Try.prog 18 #[v] w fun e w' => RDfa 43 3 4 w.heap.size d e w' ∧ Below w.heap.size w w' := by
  obtain ⟨v1, v2, rfl, h1, h2⟩ := h
  obtain ⟨hs1, hs2, hs3⟩ := hs
  obtain ⟨a1, c1, rfl, hc1, hm1, hr1⟩ := h1.form
  obtain ⟨a2, c2, rfl, hc2, hm2, hr2⟩ := h2.form
  have H1 := Lib.hid h1
  have H2 := Lib.hid h2
  have Hhs2 := Lib.hid hs2; clear hs2
  clear h1 h2 hr1 hr2
  go_enter Try.func18, Try.ntmps18
  go_wp2_with fail
  refine (toIntSS_any d.next _ _ hs1 Hhs2.out (H1.out.below ((((Below.refl _ _).alloc (Nat.le_refl _) _).alloc (by simp) _).alloc (by simp; omega) _))).mono ?_
  rintro e w2 ⟨⟨a3, p3, rfl, ho⟩, hb2⟩
  have hbw : Below w.heap.size w w2 := ((((Below.refl _ _).alloc (Nat.le_refl _) _).alloc (by simp) _).alloc (by simp; omega) _).trans (hb2.mono (by simp; omega))
  have x0 := (((Bx.new w _ _).alloc _).alloc _).below hb2 (by simp; omega)
  have x1 := ((Bx.new (w.alloc _) _ _).alloc _).below hb2 (by simp)
  have x2 := (Bx.new ((w.alloc _).alloc _) _ _).below hb2 (by simp)
  have hz : w.heap.size + 3 ≤ w2.heap.size := by have := hb2.size; simpa using this
  simp only [World.size_alloc] at x0 x1 x2
  have c20 := x2.cell 0
  have c21 := x2.cell 1
  have f20 := x2.fr 0
  have c01 := x0.cell 1
  simp only [List.getElem?_toArray, List.getElem?_cons_zero, List.getElem?_cons_succ] at c20 c21 c01
  have Hhbw := Lib.hid hbw; clear hbw
  have Hhb2 := Lib.hid hb2; clear hb2
  have Hho := Lib.hid ho; clear ho
  have Hx0 := Lib.hid x0; clear x0
  have Hx1 := Lib.hid x1; clear x1
  have Hx2 := Lib.hid x2; clear x2
  go_wp2_with fail
  refine (toBoolS_any d.ends _ _ hs3 (H2.out.below (Hhbw.out.setCell (by simp; omega) _))).mono ?_
  rintro e w3 ⟨⟨a4, p4, rfl, ho2⟩, hb3⟩
  have y1 := (Hx1.out.set_ne ⟨w.heap.size + 1 + 1, 0, none⟩ (.slice a3 d.next.length p3) (by simp)).below hb3 (by simp [World.setCell]; omega)
  have y2 := (Hx2.out.set 0 (.slice a3 d.next.length p3)).below hb3 (by simp [World.setCell]; omega)
  have hz2 : w2.heap.size ≤ w3.heap.size := by have := hb3.size; simpa [World.setCell] using this
  have d0 := y2.cell 0
  have d1 := y2.cell 1
  have e0 := y1.cell 0
  have e1 := y1.cell 1
  have f21 := y2.fr 1
  have f10 := y1.fr 0
  have f11 := y1.fr 1
  simp only [List.getElem?_toArray, List.getElem?_cons_zero, List.getElem?_cons_succ, List.setIfInBounds_toArray, List.set_cons_zero] at d0 d1 e0 e1
  have Hhb3 := Lib.hid hb3; clear hb3
  have Hho2 := Lib.hid ho2; clear ho2
  have Hy1 := Lib.hid y1; clear y1
  have Hy2 := Lib.hid y2; clear y2
  clear c20 c21 c01 f20
  go_wp2
  have z1 := ((Hy1.out.set_ne ⟨w.heap.size + 1 + 1, 1, none⟩ (.slice a4 d.ends.length p4) (by simp)).set 0 (.slice a3 d.next.length p3)).set 1 (.slice a4 d.ends.length p4)
  have r0 := z1.cell 0
  have r1 := z1.cell 1
  simp only [List.getElem?_toArray, List.getElem?_cons_zero, List.getElem?_cons_succ, List.setIfInBounds_toArray, List.set_cons_zero, List.set_cons_succ] at r0 r1
  refine bodyPost_ret (v := .agg #[.slice a3 d.next.length p3, .slice a4 d.ends.length p4]) (by simp [results, Try.results18, go_sem, r0, r1]) rfl ⟨⟨_, _, _, _, rfl, _, _, rfl, ?_, ?_⟩, ?_⟩
  · refine (OIntSS.only (lo' := w.heap.size + 1) (hi' := w.heap.size + 3) Hho.out ?_ (Or.inr (by simp))).mono (by simp; omega) (by simp only [setCell_size]; omega)
    exact ((((Only.refl _ _ _).setCell (by simp) (by simp) _).next Hhb3.out).setCell (by simp) (by simp) _).setCell (by simp) (by simp) _ |>.setCell (by simp) (by simp) _
  · refine (OBools.only (lo' := w.heap.size + 1) (hi' := w.heap.size + 3) Hho2.out ?_ (Or.inr (by simp only [setCell_size]; omega))).mono (by simp only [setCell_size]; omega) (by simp only [setCell_size]; omega)
    exact (((Only.refl _ _ _).setCell (by simp) (by simp) _).setCell (by simp) (by simp) _).setCell (by simp) (by simp) _
  · exact ((((Hhbw.out.setCell (by simp; omega) _).trans (Hhb3.out.mono (by simp only [setCell_size]; omega))).setCell (by simp; omega) _).setCell (by simp) _).setCell (by simp) _

set_option maxHeartbeats 800000 in
theorem toPair_any (x : Int × Int) (w : World) :
    Calls Try.prog 81 #[.agg #[.int .i64 x.1, .int .i64 x.2]] w fun e w' => e = .returned (.agg #[.int .i64 x.1, .int .i64 x.2]) ∧ Below w.heap.size w w' := by
  go_enter Try.func81, Try.ntmps81
  go_wp2
  refine bodyPost_ret (v := .agg #[.int .i64 x.1, .int .i64 x.2]) (by simp [results, Try.results81, go_sem]) rfl ⟨rfl, ?_⟩
  repeat (first | exact Below.refl _ _ | (refine Below.setCell ?_ (by simp) _) | (refine Below.alloc ?_ (by simp <;> omega) _))

theorem Try.infoPair : (Try.prog.info? 88).map (fun i => (i.zero, i.size, i.bytes)) = some (some (.agg #[.int .i64 0, .int .i64 0]), 2, 16) := by kernel_rfl
def RPairs (e lo : Nat) (xs : List (Int × Int)) (en : Ending) (w' : World) : Prop := ∃ a cap, en = .returned (.slice a xs.length cap) ∧ OPairs e lo w'.heap.size w' (.slice a xs.length cap) xs
theorem flatP_len (xs : List (Int × Int)) : (xs.flatMap pairCells).length = xs.length * 2 := flat_len pairCells 2 (fun _ => rfl) xs
theorem flatP_get (xs : List (Int × Int)) (k : Nat) (hk : k < xs.length) : (xs.flatMap pairCells)[k * 2]? = some (.int .i64 (xs.getD k (0, 0)).1) ∧ (xs.flatMap pairCells)[k * 2 + 1]? = some (.int .i64 (xs.getD k (0, 0)).2) := by
  have h0 := flat_get pairCells 2 (fun _ => rfl) xs k 0 (0, 0) hk (by omega)
  have h1 := flat_get pairCells 2 (fun _ => rfl) xs k 1 (0, 0) hk (by omega)
  exact ⟨by simpa [pairCells] using h0, by simpa [pairCells] using h1⟩
set_option maxHeartbeats 1600000 in
theorem toPairS_any (xs : List (Int × Int)) (v : Value) (w : World) (hx : xs.length ≤ 1048576) (h1 : Pairs 0 w v xs) :
    Calls Try.prog 19 #[v] w fun e w' => RPairs 88 w.heap.size xs e w' ∧ Below w.heap.size w w' := by
  obtain ⟨a1, c1, rfl, hc1, hm1, hr1⟩ := h1.form
  obtain ⟨i0, hi, hz0, hz1, hz2⟩ := info_parts Try.infoPair
  clear h1
  go_enter Try.func19, Try.ntmps19
  go_wp2_with (at_make; refine wpList_make_full _ rfl _ _ 32 rfl w.heap.size 88 i0 (.agg #[.int .i64 0, .int .i64 0]) 2 Try.underlying32 hi hz0 hz1 .i64 .i64 _ _ xs.length rfl rfl rfl rfl (by rw [hz2]; omega) (by unfold maxLen; omega) (Nat.le_refl _) ?_; intro w1 hown hgrow)
  have hb1 : Below w.heap.size w w1 := (Below.refl _ _).grown hgrow (Nat.le_refl _) (fun _ h => by cases h)
  have Hown := Lib.hid hown
  clear hown hgrow hi hz0 hz1 hz2
  go_loopw [4] (fun i wr => ∃ k : Nat, k ≤ xs.length ∧ i = .int .i64 k ∧ Below w.heap.size w wr ∧ ∃ cs, wr.ownsRow w.heap.size 88 2 (.slice (some ⟨w.heap.size, 0, none⟩) xs.length xs.length) xs.length cs ∧ cs.take (k * 2) = (xs.flatMap pairCells).take (k * 2))
    (fun i _ => xs.length - (intOf i).toNat)
  case atStart => exact ⟨0, Nat.zero_le _, rfl, hb1, _, Hown.out, rfl⟩
  case round =>
    obtain ⟨k, hk, rfl, hb, cs, hown, htk⟩ := hrel
    have hlen := hown.1
    have hBw := (hown.lt w.heap.size rfl).2
    have Hhtk := Lib.hid htk; clear htk
    have Hhown := Lib.hid hown; clear hown
    have Hhb := Lib.hid hb; clear hb
    have Hhlen := Lib.hid hlen; clear hlen
    by_cases hlt : k < xs.length
    · obtain ⟨b1, o1, rfl, hB1, hbl1, hcs1⟩ := hr1 (by omega)
      have hx1 := (bcell Hhb.out b1 (o1 + k * 2) hbl1).trans (hcs1 k hlt).1
      have hx2 := (bcell Hhb.out b1 (o1 + k * 2 + 1) hbl1).trans (hcs1 k hlt).2
      have hfl := flatP_get xs k hlt
      obtain ⟨x, hxx⟩ : ∃ x, x = xs.getD k (0, 0) := ⟨_, rfl⟩
      rw [← hxx] at hx1 hx2 hfl
      have Hhxx := Lib.hid hxx; clear hxx
      have Hhfl := Lib.hid hfl; clear hfl
      clear hcs1 hr1
      go_wp2_with (go_at_call 81; refine (toPair_any x _).mono ?_; rintro e w2 ⟨rfl, hb2⟩; have Hb2 := Lib.hid hb2; clear hb2; have hrow := (Own.below (own_of_row Hhown.out) Hb2.out).1; obtain ⟨u0, hold0⟩ := row_some hrow (k * 2) (by omega); obtain ⟨u1, hold1⟩ := row_some hrow (k * 2 + 1) (by omega); have hfr0 : w2.frozen? ⟨w.heap.size, k * 2, none⟩ = false := hrow.frozenAt _; have hfr1 : w2.frozen? ⟨w.heap.size, k * 2 + 1, none⟩ = false := hrow.frozenAt _; have Hrow := Lib.hid hrow; clear hrow)
      go_roundw
      case rel =>
        refine ⟨k + 1, by omega, by go_num, ((Hhb.out.trans (Hb2.out.mono Hhb.out.size)).setCell (Nat.le_refl _) _).setCell (Nat.le_refl _) _, _, (((Hrow.out.stored (k * 2) _).1).stored (k * 2 + 1) _).1, ?_⟩
        have s1 := cells_set (n := xs.length * 2) (k := k * 2) Hhlen.out (flatP_len xs) (by omega) Hhtk.out Hhfl.out.1
        have s2 := cells_set (n := xs.length * 2) (k := k * 2 + 1) (by simpa using Hhlen.out) (flatP_len xs) (by omega) s1 Hhfl.out.2
        rw [show (k + 1) * 2 = k * 2 + 1 + 1 from by omega]
        exact s2
      case measure => simp [intOf]; omega
    · clear hr1
      go_wp2
      go_ret
      have he : cs = xs.flatMap pairCells := by
        have h := Hhtk.out
        rwa [List.take_of_length_le (by have := Hhlen.out; omega), List.take_of_length_le (by rw [flatP_len]; omega)] at h
      exact ⟨⟨_, _, rfl, own_of_row (by rw [← he]; exact Hhown.out)⟩, Hhb.out⟩
end Go.Proofs.Ythigcohfjoodlaa
namespace Go.Proofs.Ythigcohfjoodlaa
open Go.RowKit Go.Maps

section
variable {α : Type}
structure ExW (kt sz : Nat) (enc : α → Value) (cel : α → List Value) (B B1 B2 B4 hi : Nat) (w : World) (met : List α) (rows : List (List Int)) (ends : List Bool) (vm vn ve : Value) : Prop where
  m : w.ownsRow B kt sz vm met.length (met.flatMap cel)
  n : MapL Try.prog kt enc w B2 (numbered met)
  r : Bx w B1 #[.slice none 0 0, .slice none 0 0] 30
  d : Bx w B4 #[vn, ve] 30
  nx : OIntSS 43 3 B hi w vn rows
  en : w.ownsRow B 4 1 ve ends.length (boolCells ends)
  ne : B1 ≠ B4

variable {kt sz B B1 B2 B4 hi : Nat} {enc : α → Value} {cel : α → List Value} {w w' : World} {met : List α} {rows : List (List Int)} {ends : List Bool} {vm vn ve : Value}
theorem ExW.below (h : ExW kt sz enc cel B B1 B2 B4 hi w met rows ends vm vn ve) (hb : Below w.heap.size w w') : ExW kt sz enc cel B B1 B2 B4 hi w' met rows ends vm vn ve :=
  ⟨(Own.below (own_of_row h.m) hb).1, h.n.below hb, h.r.below hb h.r.lt, h.d.below hb h.d.lt, h.nx.below hb, (Own.below (own_of_row h.en) hb).1, h.ne⟩
theorem ExW.up {hi' : Nat} (h : ExW kt sz enc cel B B1 B2 B4 hi w met rows ends vm vn ve) (hh : hi ≤ hi') : ExW kt sz enc cel B B1 B2 B4 hi' w met rows ends vm vn ve :=
  ⟨h.m, h.n, h.r, h.d, h.nx.mono (Nat.le_refl _) hh, h.en, h.ne⟩
/-- The type of the things met is none of the automaton's. -/
def Own4 (kt : Nat) : Prop := kt ≠ 3 ∧ kt ≠ 43 ∧ kt ≠ 4 ∧ kt ≠ 30
/-- A new state has its number in the map, and the list has grown by it. -/
theorem ExW.newState (hk : Own4 kt) (h : ExW kt sz enc cel B B1 B2 B4 hi w met rows ends vm vn ve) {x : α} {w1 w2 w3 : World} {vm' : Value} (hn : MapL Try.prog kt enc w1 B2 (numbered (met ++ [x]))) (hg1 : w.grownBy w1 (some B2))
    (hb : Below w1.heap.size w1 w2) (hown : w3.ownsRow B kt sz vm' (met.length + 1) (met.flatMap cel ++ cel x)) (hg2 : w2.grownBy w3 vm.ownBlock) :
    ExW kt sz enc cel B B1 B2 B4 hi w3 (met ++ [x]) rows ends vm' vn ve := by
  obtain ⟨k1, k2, k3, k4⟩ := hk
  have a : ∀ e, Apart w (some B2) e := fun e => h.n.apart
  have m2 : w2.ownsRow B kt sz vm met.length (met.flatMap cel) := (Own.below (own_of_row (ownsRow_grown h.m hg1 (a _))) hb).1
  have b : ∀ e, kt ≠ e → Apart w2 vm.ownBlock e := fun e he => ownsRow_apart m2 he
  refine ⟨?_, (hn.below hb).grown hg2 (ownsRow_cells m2), ?_, ?_, ?_, ?_, h.ne⟩
  · simpa using hown
  · have r1 := h.r.grown hg1 (a _)
    exact (r1.below hb r1.lt).grown hg2 (b _ k4)
  · have r1 := h.d.grown hg1 (a _)
    exact (r1.below hb r1.lt).grown hg2 (b _ k4)
  · exact ((h.nx.grown hg1 (a _) (a _)).below hb).grown hg2 (b _ k2) (b _ k1)
  · exact ownsRow_grown (Own.below (own_of_row (ownsRow_grown h.en hg1 (a _))) hb).1 hg2 (b _ k3)
/-- A place of the row under way is written. -/
theorem ExW.setRow (hk : Own4 kt) (h : ExW kt sz enc cel B B1 B2 B4 hi w met rows ends vm vn ve) {R n : Nat} {cs : List Value} (hR : hi ≤ R) {base : Nat} (hrow : w.ownsRow base 3 1 (.slice (some ⟨R, 0, none⟩) n n) n cs) (j : Nat) (v : Value) :
    ExW kt sz enc cel B B1 B2 B4 hi (w.setCell ⟨R, j, none⟩ v) met rows ends vm vn ve := by
  obtain ⟨k1, k2, k3, k4⟩ := hk
  have hg := grown_set w R j v
  have a : ∀ e, 3 ≠ e → Apart w (some R) e := fun e he => ownsRow_apart (v := .slice (some ⟨R, 0, none⟩) n n) hrow he
  have c : CellsRow w (some R) := ownsRow_cells (v := .slice (some ⟨R, 0, none⟩) n n) hrow
  exact ⟨ownsRow_grown h.m hg (a _ (Ne.symm k1)), h.n.grown hg c, h.r.grown hg (a _ (by decide)), h.d.grown hg (a _ (by decide)), h.nx.far hR j v, ownsRow_grown h.en hg (a _ (by decide)), h.ne⟩
/-- The row under way, where a new state comes. -/
theorem row_kept {w1 w2 w3 : World} {R n base e : Nat} {cs : List Value} {vm : Value} {b2 mb : Nat} {ms : List Value} (hrow : w.ownsRow base e 1 (.slice (some ⟨R, 0, none⟩) n n) n cs) (hne : kt ≠ e)
    (hm2 : w2.ownsRow mb kt sz vm b2 ms) (ha : Apart w (some B2) e) (hg1 : w.grownBy w1 (some B2)) (hb : Below w1.heap.size w1 w2) (hg2 : w2.grownBy w3 vm.ownBlock) : w3.ownsRow base e 1 (.slice (some ⟨R, 0, none⟩) n n) n cs :=
  ownsRow_grown (Own.below (own_of_row (ownsRow_grown hrow hg1 ha)) hb).1 hg2 (ownsRow_apart hm2 hne)
/-- The row is done: the table has grown by it. -/
theorem ExW.addRow (hk : Own4 kt) (h : ExW kt sz enc cel B B1 B2 B4 hi w met rows ends vm vn ve) {vs : List Value} {rv vn' : Value} {x : List Int} {w3 : World} {lr : Nat}
    (h1 : Own B hi w 43 1 vn rows.length vs) (h2 : ∀ i, i < rows.length → OInts 3 B hi w (vs.getD i undef) (rows.getD i []))
    (h3 : ∀ i j k, i < j → j < rows.length → (vs.getD i undef).ownBlock = some k → (vs.getD j undef).ownBlock ≠ some k)
    (hrow : OInts 3 lr w.heap.size w rv x) (hlr : hi ≤ lr) (hlo : B ≤ lr) (hg : w.grownBy w3 vn.ownBlock) (hown : w3.ownsRow B 43 1 vn' (rows.length + 1) (vs ++ [rv])) :
    ExW kt sz enc cel B B1 B2 B4 w3.heap.size (w3.setCell ⟨B4, 0, none⟩ vn') met (rows ++ [x]) ends vm vn' ve := by
  obtain ⟨k1, k2, k3, k4⟩ := hk
  have a : ∀ e, 43 ≠ e → Apart w vn.ownBlock e := fun e he => ownsRow_apart h1.1 he
  have d3 : Bx w3 B4 #[vn, ve] 30 := h.d.grown hg (a _ (by decide))
  have hg4 := grown_set w3 B4 0 vn'
  have b : ∀ e, 30 ≠ e → Apart w3 (some B4) e := fun e he => d3.apart he
  have r3 : Bx w3 B1 #[.slice none 0 0, .slice none 0 0] 30 := h.r.grown hg (a _ (by decide))
  have n4 : MapL Try.prog kt enc (w3.setCell ⟨B4, 0, none⟩ vn') B2 (numbered met) := (h.n.grown hg (ownsRow_cells h1.1)).grown hg4 d3.cells
  refine ⟨ownsRow_grown (ownsRow_grown h.m hg (a _ (Ne.symm k2))) hg4 (b _ (Ne.symm k4)), n4, ?_, d3.set 0 vn', ?_, ownsRow_grown (ownsRow_grown h.en hg (a _ (by decide))) hg4 (b _ (by decide)), h.ne⟩
  · exact r3.set_ne _ _ h.ne
  · exact (OIntSS.snoc h1 h2 h3 hrow hlr hlo (by decide) hg hown).grown hg4 (b _ (by decide)) (b _ (by decide))
/-- A truth value more. -/
theorem ExW.addEnd (hk : Own4 kt) (h : ExW kt sz enc cel B B1 B2 B4 hi w met rows ends vm vn ve) {w3 : World} {ve' : Value} {e : Bool} (hg : w.grownBy w3 ve.ownBlock) (hown : w3.ownsRow B 4 1 ve' (ends.length + 1) (boolCells ends ++ [.bool e])) :
    ExW kt sz enc cel B B1 B2 B4 hi (w3.setCell ⟨B4, 1, none⟩ ve') met rows (ends ++ [e]) vm vn ve' := by
  obtain ⟨k1, k2, k3, k4⟩ := hk
  have a : ∀ t, 4 ≠ t → Apart w ve.ownBlock t := fun t ht => ownsRow_apart h.en ht
  have d3 : Bx w3 B4 #[vn, ve] 30 := h.d.grown hg (a _ (by decide))
  have hg4 := grown_set w3 B4 1 ve'
  have b : ∀ t, 30 ≠ t → Apart w3 (some B4) t := fun t ht => d3.apart ht
  have r3 : Bx w3 B1 #[.slice none 0 0, .slice none 0 0] 30 := h.r.grown hg (a _ (by decide))
  have n4 : MapL Try.prog kt enc (w3.setCell ⟨B4, 1, none⟩ ve') B2 (numbered met) := (h.n.grown hg (ownsRow_cells h.en)).grown hg4 d3.cells
  refine ⟨ownsRow_grown (ownsRow_grown h.m hg (a _ (Ne.symm k3))) hg4 (b _ (Ne.symm k4)), n4, r3.set_ne _ _ h.ne, d3.set 1 ve', (h.nx.grown hg (a _ (by decide)) (a _ (by decide))).grown hg4 (b _ (by decide)) (b _ (by decide)), ?_, h.ne⟩
  refine ownsRow_grown ?_ hg4 (b _ (by decide))
  simpa using hown
end
end Go.Proofs.Ythigcohfjoodlaa
namespace Go.Proofs.Ythigcohfjoodlaa
open Go.RowKit

/-- Numbers from k on; what is written into truth values; into rows. -/
def upFrom (k : Int) (n : Nat) : List Int := (List.range n).map fun (i : Nat) => k + i
def upBools (k : Int) (n : Nat) : List Bool := (List.range n).map fun (i : Nat) => (k + i) % 3 == 0
def sumLen (xss : List (List Int)) : Nat := (xss.map List.length).sum
def upRows (k : Int) (xss : List (List Int)) : List (List Int) := (List.range xss.length).map fun i => upFrom (k + sumLen (xss.take i)) (xss.getD i []).length
theorem upFrom_len (k : Int) (n : Nat) : (upFrom k n).length = n := by simp [upFrom]
theorem upBools_len (k : Int) (n : Nat) : (upBools k n).length = n := by simp [upBools]
theorem upRows_len (k : Int) (xss : List (List Int)) : (upRows k xss).length = xss.length := by simp [upRows]
theorem upFrom_at {k : Int} {n j : Nat} (h : j < n) : (intCells (upFrom k n))[j]? = some (.int .i64 (k + j)) := by simp [upFrom, h]
theorem upBools_at {k : Int} {n j : Nat} (h : j < n) : (boolCells (upBools k n))[j]? = some (.bool ((k + j) % 3 == 0)) := by simp [upBools, h]
theorem upFrom_getD {k : Int} {n j : Nat} (h : j < n) : (upFrom k n).getD j 0 = k + j := by simp [upFrom, h]
theorem upBools_getD {k : Int} {n j : Nat} (h : j < n) : (upBools k n).getD j false = ((k + j) % 3 == 0) := by simp [upBools, h]
theorem upRows_getD {k : Int} {xss : List (List Int)} {j : Nat} (h : j < xss.length) : (upRows k xss).getD j [] = upFrom (k + sumLen (xss.take j)) (xss.getD j []).length := by
  simp [upRows, h]
theorem sumLen_succ {xss : List (List Int)} {j : Nat} (h : j < xss.length) : sumLen (xss.take (j + 1)) = sumLen (xss.take j) + (xss.getD j []).length := by
  unfold sumLen
  rw [List.take_succ_eq_append_getElem h, List.map_append, List.sum_append]
  simp only [List.map_cons, List.map_nil, List.sum_cons, List.sum_nil, Nat.add_zero]
  simp [h]
theorem sumLen_le (xss : List (List Int)) (j : Nat) : sumLen (xss.take j) ≤ sumLen xss := by
  unfold sumLen
  have : (xss.map List.length).sum = ((xss.take j).map List.length).sum + ((xss.drop j).map List.length).sum := by
    rw [← List.sum_append, ← List.map_append, List.take_append_drop]
  omega

/-- Only blocks from lo on and below hi whose cells are of type e have turned. -/
structure Touch (e lo hi : Nat) (w w' : World) : Prop where
  os : w'.os = w.os
  tape : w'.tape = w.tape
  output : w'.output = w.output
  size : w.heap.size ≤ w'.heap.size
  block : ∀ k, k < w.heap.size → ((k < lo ∨ hi ≤ k) ∨ ∀ cur fr, w.heap[k]? ≠ some (.cells cur e fr)) → w'.heap[k]? = w.heap[k]?
theorem Touch.refl (e lo hi : Nat) (w : World) : Touch e lo hi w w := ⟨rfl, rfl, rfl, Nat.le_refl _, fun _ _ _ => rfl⟩
theorem Touch.trans {e lo hi : Nat} {a b c : World} (h : Touch e lo hi a b) (k : Touch e lo hi b c) : Touch e lo hi a c := by
  refine ⟨k.os.trans h.os, k.tape.trans h.tape, k.output.trans h.output, Nat.le_trans h.size k.size, fun i hi hh => ?_⟩
  have e1 := h.block i hi hh
  refine (k.block i (Nat.lt_of_lt_of_le hi h.size) ?_).trans e1
  rcases hh with hh | hh
  · exact .inl hh
  · exact .inr (by rw [e1]; exact hh)
theorem Touch.only {e lo hi : Nat} {a b : World} (h : Touch e lo hi a b) : Only lo hi a b := ⟨h.os, h.tape, h.output, h.size, fun k hk hh => h.block k hk (.inl hh)⟩
theorem Touch.of_grown {e lo hi size n : Nat} {w w' : World} {v : Value} {cs : List Value} (h : Own lo hi w e size v n cs) (hg : w.grownBy w' v.ownBlock) : Touch e lo hi w w' := by
  refine ⟨hg.os, hg.tape, hg.output, hg.size, fun k hk hh => hg.block k hk fun hr => ?_⟩
  obtain ⟨l1, l2, l3⟩ := h.lt k hr.symm
  rcases hh with hh | hh
  · omega
  · obtain ⟨cu, hcu⟩ := ownsRow_obj h.1 hr.symm
    exact hh _ _ hcu
/-- Whatever is made of blocks of another type is as it was. -/
theorem Own.touch {e e' lo hi lo' hi' size n : Nat} {w w' : World} {v : Value} {cs : List Value} (h : Own lo hi w e' size v n cs) (ht : Touch e lo' hi' w w') (hne : e' ≠ e) : Own lo hi w' e' size v n cs :=
  h.kept fun k hk => ht.block k (h.lt k hk).2.2 (.inr fun cur fr hc => by
    obtain ⟨cu, hcu⟩ := ownsRow_obj h.1 hk
    rw [hcu] at hc
    simp only [Option.some.injEq, Obj.cells.injEq] at hc
    exact hne hc.2.1)
theorem Bx.touch {e lo hi T b : Nat} {w w' : World} {cs : Array Value} (h : Bx w b cs T) (ht : Touch e lo hi w w') (hne : T ≠ e) : Bx w' b cs T :=
  (ht.block b h.lt (.inr fun cur fr hc => by
    unfold Bx at h
    rw [h] at hc
    simp only [Option.some.injEq, Obj.cells.injEq] at hc
    exact hne hc.2.1)).trans h
theorem Own.lt' {lo hi e size n : Nat} {w : World} {v : Value} {cs : List Value} (h : Own lo hi w e size v n cs) : w.ownsRow lo e size v n cs := h.1
/-- A row of a slice of slices is written anew. -/
theorem OIntSS.row {es e lo hi : Nat} {w w' : World} {v : Value} {xss : List (List Int)} {vs : List Value} {x : List Int} {j : Nat} (hne : es ≠ e)
    (h1 : Own lo hi w es 1 v xss.length vs) (h2 : ∀ i, i < xss.length → OInts e lo hi w (vs.getD i undef) (xss.getD i []))
    (h3 : ∀ i j k, i < j → j < xss.length → (vs.getD i undef).ownBlock = some k → (vs.getD j undef).ownBlock ≠ some k)
    (hj : j < xss.length) (hx : OInts e lo hi w' (vs.getD j undef) x) (hg : w.grownBy w' (vs.getD j undef).ownBlock) :
    Own lo hi w' es 1 v (xss.set j x).length vs ∧ (∀ i, i < (xss.set j x).length → OInts e lo hi w' (vs.getD i undef) ((xss.set j x).getD i [])) ∧
      (∀ i j' k, i < j' → j' < (xss.set j x).length → (vs.getD i undef).ownBlock = some k → (vs.getD j' undef).ownBlock ≠ some k) := by
  have ha : Apart w (vs.getD j undef).ownBlock es := ownsRow_apart (Own.lt' (h2 j hj)) (Ne.symm hne)
  rw [List.length_set]
  refine ⟨h1.grown hg ha, fun i hi => ?_, h3⟩
  by_cases hij : j = i
  · subst hij
    have : (xss.set j x).getD j [] = x := by simp [hj]
    rw [this]
    exact hx
  · have : (xss.set j x).getD i [] = xss.getD i [] := by simp [List.getElem?_set_ne hij]
    rw [this]
    refine Own.kept (h2 i hi) fun k hk => hg.block k (Own.lt (h2 i hi) k hk).2.2 fun hr => ?_
    rcases Nat.lt_or_gt_of_ne hij with hlt | hgt
    · exact h3 j i k hlt hi hr.symm hk
    · exact h3 i j k hgt hj hk hr.symm
/-- The data behind the marks. -/
def markD (k : Int) (d : DfaD) : DfaD := ⟨upRows k d.next, upBools (k + sumLen d.next) d.ends.length⟩
def totD (d : DfaD) : Nat := sumLen d.next + d.ends.length

set_option maxHeartbeats 800000 in
theorem markInts_any (xs : List Int) (k : Int) (lo hi : Nat) (v : Value) (w : World) (hk0 : 0 ≤ k) (hk1 : k ≤ 10000000000) (hx : xs.length ≤ 100000000) (h : OInts 3 lo hi w v xs) :
    Calls Try.prog 101 #[v, .int .i64 k] w fun en w' => en = .returned (.int .i64 (k + xs.length)) ∧ OInts 3 lo hi w' v (upFrom k xs.length) ∧ w.grownBy w' v.ownBlock := by
  obtain ⟨n, hn⟩ : ∃ n, n = xs.length := ⟨_, rfl⟩
  unfold OInts at h
  rw [← hn] at h hx
  rw [← hn]
  by_cases h0 : n = 0
  · subst h0
    obtain ⟨a1, c1, rfl, -⟩ := (Own.sl h (by omega)).form
    go_enter Try.func101, Try.ntmps101
    go_wp2
    go_loop [1, 5] (fun kv i => kv = .int .i64 k ∧ i = .int .i64 0) (fun _ _ => 0)
    case atStart => exact ⟨rfl, rfl⟩
    case round =>
      obtain ⟨rfl, rfl⟩ := hrel
      have Hh := Lib.hid h
      clear h hn
      go_wp2
      go_ret
      refine ⟨ret_int (by simp), ?_, World.grownBy.refl _ _⟩
      have hl := Hh.out.1.1
      have : _ = [] := List.eq_nil_of_length_eq_zero (by simpa using hl)
      have h2 := Hh.out
      rw [this] at h2
      simpa [upFrom, OInts] using h2
  · obtain ⟨g, cap, rfl, hg0, hg1⟩ := h.1.form (by omega)
    have Hh := Lib.hid h
    have Hhn := Lib.hid hn; clear hn
    clear h
    go_enter Try.func101, Try.ntmps101
    go_wp2
    go_loopw [1, 5] (fun kv i wr => ∃ j : Nat, j ≤ n ∧ i = .int .i64 j ∧ kv = .int .i64 (k + j) ∧ w.grownBy wr (some g) ∧ ∃ cs, wr.ownsRow lo 3 1 (.slice (some ⟨g, 0, none⟩) n cap) n cs ∧ cs.take j = (intCells (upFrom k n)).take j)
      (fun _ i _ => n - (intOf i).toNat)
    case atStart => exact ⟨0, Nat.zero_le _, rfl, by simp, World.grownBy.refl _ _, _, Hh.out.1, rfl⟩
    case round =>
      obtain ⟨j, hj, rfl, rfl, hgr, cs, hown, htk⟩ := hrel
      have hlen := hown.1
      have Hhtk := Lib.hid htk; clear htk
      have Hhown := Lib.hid hown; clear hown
      have Hhgr := Lib.hid hgr; clear hgr
      by_cases hlt : j < n
      · obtain ⟨u0, hold⟩ := row_some Hhown.out j (by omega)
        have hfr : wr.frozen? ⟨g, j, none⟩ = false := Hhown.out.frozenAt j
        have hkj0 : 0 ≤ k + (j : Int) := by omega
        have hkj1 : k + (j : Int) ≤ 20000000000 := by omega
        have Hhlen := Lib.hid hlen; clear hlen
        go_wp2
        go_roundw
        case rel =>
          refine ⟨j + 1, by omega, by go_num, by go_num, Hhgr.out.trans (grown_set _ _ _ _), _, (Hhown.out.stored j _).1, ?_⟩
          exact cells_set (n := n) (by have := Hhlen.out; omega) (by simp [upFrom]) hlt Hhtk.out (upFrom_at hlt)
        case measure => simp [intOf]; omega
      · obtain rfl : j = n := by omega
        have Hhlen := Lib.hid hlen; clear hlen
        go_wp2
        go_ret
        have he : cs = intCells (upFrom k j) := by
          have h := Hhtk.out
          rwa [List.take_of_length_le (by have := Hhlen.out; omega), List.take_of_length_le (by simp [upFrom])] at h
        refine ⟨rfl, ?_, Hhgr.out⟩
        unfold OInts
        rw [upFrom_len, ← he]
        exact ⟨Hhown.out, Hh.out.2⟩
set_option maxHeartbeats 800000 in
theorem heldInts_any (n : Nat) (k : Int) (B : Nat) (v : Value) (w : World) (hk0 : 0 ≤ k) (hk1 : k ≤ 10000000000) (hx : n ≤ 100000000) (h : Ints B w v (upFrom k n)) :
    Calls Try.prog 154 #[v, .int .i64 k] w fun en w' => en = .returned (.int .i64 (k + n)) ∧ w = w' := by
  obtain ⟨a1, c1, hv, hc1, hm1, hr1⟩ := h.form
  rw [upFrom_len] at hv hc1 hr1
  subst hv
  clear h
  have Hhr1 := Lib.hid hr1; clear hr1
  go_enter Try.func154, Try.ntmps154
  go_wp2
  go_loop [1, 4, 5] (fun kv r i => ∃ j : Nat, j ≤ n ∧ i = .int .i64 j ∧ kv = .int .i64 (k + j)) (fun _ _ i => n - (intOf i).toNat)
  case atStart => exact ⟨0, Nat.zero_le _, rfl, by simp⟩
  case round =>
    obtain ⟨j, hj, rfl, rfl⟩ := hrel
    by_cases hlt : j < n
    · obtain ⟨b1, o1, rfl, -, -, hcs⟩ := Hhr1.out (by omega)
      have hc := hcs j hlt
      rw [upFrom_getD hlt] at hc
      have hkj0 : 0 ≤ k + (j : Int) := by omega
      have hkj1 : k + (j : Int) ≤ 20000000000 := by omega
      clear hcs
      go_wp2
      go_round
      case rel => exact ⟨j + 1, by omega, by go_num, by go_num⟩
      case measure => simp [intOf]; omega
    · obtain rfl : j = n := by omega
      go_wp2
      go_ret
      exact ⟨rfl, rfl⟩

set_option maxHeartbeats 800000 in
theorem markBools_any (xs : List Bool) (k : Int) (lo hi : Nat) (v : Value) (w : World) (hk0 : 0 ≤ k) (hk1 : k ≤ 10000000000) (hx : xs.length ≤ 100000000) (h : OBools 4 lo hi w v xs) :
    Calls Try.prog 91 #[v, .int .i64 k] w fun en w' => en = .returned (.int .i64 (k + xs.length)) ∧ OBools 4 lo hi w' v (upBools k xs.length) ∧ w.grownBy w' v.ownBlock := by
  obtain ⟨n, hn⟩ : ∃ n, n = xs.length := ⟨_, rfl⟩
  unfold OBools at h
  rw [← hn] at h hx
  rw [← hn]
  by_cases h0 : n = 0
  · subst h0
    obtain ⟨a1, c1, rfl, -⟩ := (Own.sl h (by omega)).form
    go_enter Try.func91, Try.ntmps91
    go_wp2
    go_loop [1, 5] (fun kv i => kv = .int .i64 k ∧ i = .int .i64 0) (fun _ _ => 0)
    case atStart => exact ⟨rfl, rfl⟩
    case round =>
      obtain ⟨rfl, rfl⟩ := hrel
      have Hh := Lib.hid h
      clear h hn
      go_wp2
      go_ret
      refine ⟨ret_int (by simp), ?_, World.grownBy.refl _ _⟩
      have hl := Hh.out.1.1
      have : _ = [] := List.eq_nil_of_length_eq_zero (by simpa using hl)
      have h2 := Hh.out
      rw [this] at h2
      simpa [upBools, OBools] using h2
  · obtain ⟨g, cap, rfl, hg0, hg1⟩ := h.1.form (by omega)
    have Hh := Lib.hid h
    have Hhn := Lib.hid hn; clear hn
    clear h
    go_enter Try.func91, Try.ntmps91
    go_wp2
    go_loopw [1, 5] (fun kv i wr => ∃ j : Nat, j ≤ n ∧ i = .int .i64 j ∧ kv = .int .i64 (k + j) ∧ w.grownBy wr (some g) ∧ ∃ cs, wr.ownsRow lo 4 1 (.slice (some ⟨g, 0, none⟩) n cap) n cs ∧ cs.take j = (boolCells (upBools k n)).take j)
      (fun _ i _ => n - (intOf i).toNat)
    case atStart => exact ⟨0, Nat.zero_le _, rfl, by simp, World.grownBy.refl _ _, _, Hh.out.1, rfl⟩
    case round =>
      obtain ⟨j, hj, rfl, rfl, hgr, cs, hown, htk⟩ := hrel
      have hlen := hown.1
      have Hhtk := Lib.hid htk; clear htk
      have Hhown := Lib.hid hown; clear hown
      have Hhgr := Lib.hid hgr; clear hgr
      by_cases hlt : j < n
      · obtain ⟨u0, hold⟩ := row_some Hhown.out j (by omega)
        have hfr : wr.frozen? ⟨g, j, none⟩ = false := Hhown.out.frozenAt j
        have hkj0 : 0 ≤ k + (j : Int) := by omega
        have hkj1 : k + (j : Int) ≤ 20000000000 := by omega
        have Hhlen := Lib.hid hlen; clear hlen
        go_wp2
        go_roundw
        case rel =>
          refine ⟨j + 1, by omega, by go_num, by go_num, Hhgr.out.trans (grown_set _ _ _ _), _, (Hhown.out.stored j _).1, ?_⟩
          exact cells_set (n := n) (by have := Hhlen.out; omega) (by simp [upBools]) hlt Hhtk.out (upBools_at hlt)
        case measure => simp [intOf]; omega
      · obtain rfl : j = n := by omega
        have Hhlen := Lib.hid hlen; clear hlen
        go_wp2
        go_ret
        have he : cs = boolCells (upBools k j) := by
          have h := Hhtk.out
          rwa [List.take_of_length_le (by have := Hhlen.out; omega), List.take_of_length_le (by simp [upBools])] at h
        refine ⟨rfl, ?_, Hhgr.out⟩
        unfold OBools
        rw [upBools_len, ← he]
        exact ⟨Hhown.out, Hh.out.2⟩
set_option maxHeartbeats 800000 in
theorem heldBools_any (n : Nat) (k : Int) (B : Nat) (v : Value) (w : World) (hk0 : 0 ≤ k) (hk1 : k ≤ 10000000000) (hx : n ≤ 100000000) (h : Bools B w v (upBools k n)) :
    Calls Try.prog 103 #[v, .int .i64 k] w fun en w' => en = .returned (.int .i64 (k + n)) ∧ w = w' := by
  obtain ⟨a1, c1, hv, hc1, hm1, hr1⟩ := h.form
  rw [upBools_len] at hv hc1 hr1
  subst hv
  clear h
  have Hhr1 := Lib.hid hr1; clear hr1
  go_enter Try.func103, Try.ntmps103
  go_wp2
  go_loop [1, 4, 5] (fun kv r i => ∃ j : Nat, j ≤ n ∧ i = .int .i64 j ∧ kv = .int .i64 (k + j)) (fun _ _ i => n - (intOf i).toNat)
  case atStart => exact ⟨0, Nat.zero_le _, rfl, by simp⟩
  case round =>
    obtain ⟨j, hj, rfl, rfl⟩ := hrel
    by_cases hlt : j < n
    · obtain ⟨b1, o1, rfl, -, -, hcs⟩ := Hhr1.out (by omega)
      have hc := hcs j hlt
      rw [upBools_getD hlt] at hc
      have hkj0 : 0 ≤ k + (j : Int) := by omega
      have hkj1 : k + (j : Int) ≤ 20000000000 := by omega
      clear hcs
      go_wp2
      go_round
      case rel => exact ⟨j + 1, by omega, by go_num, by go_num⟩
      case measure => simp [intOf]; omega
    · obtain rfl : j = n := by omega
      go_wp2
      go_ret
      exact ⟨rfl, rfl⟩

set_option maxRecDepth 100000 in
set_option maxHeartbeats 1600000 in
theorem markIntSS_any (xss : List (List Int)) (k : Int) (lo hi : Nat) (v : Value) (w : World) (hk0 : 0 ≤ k) (hk1 : k ≤ 5000000000) (hx : xss.length ≤ 100000000) (hs : sumLen xss ≤ 100000000) (h : OIntSS 43 3 lo hi w v xss) :
    Calls Try.prog 90 #[v, .int .i64 k] w fun en w' => en = .returned (.int .i64 (k + sumLen xss)) ∧ OIntSS 43 3 lo hi w' v (upRows k xss) ∧ Touch 3 lo hi w w' := by
  obtain ⟨vs, h1, h2, h3⟩ := h
  obtain ⟨a1, c1, hv, hc1, hm1, hr1⟩ := (Own.sl h1 (by omega)).form
  have Hh1 := Lib.hid h1
  have Hh2 := Lib.hid h2
  have Hh3 := Lib.hid h3
  have hsl := fun j => sumLen_le xss j
  subst hv
  have Hhsl := Lib.hid hsl; clear hsl
  have Hhr1 := Lib.hid hr1; clear hr1
  clear h1 h2 h3
  go_enter Try.func90, Try.ntmps90
  go_wp2
  go_loopw [1, 5] (fun kv i wr => ∃ j : Nat, j ≤ xss.length ∧ i = .int .i64 j ∧ kv = .int .i64 (k + sumLen (xss.take j)) ∧ Touch 3 lo hi w wr ∧ ∃ yss : List (List Int), yss.length = xss.length ∧ (∀ i, i < j → yss.getD i [] = (upRows k xss).getD i []) ∧ (∀ i, j ≤ i → yss.getD i [] = xss.getD i []) ∧
      Own lo hi wr 43 1 (.slice a1 xss.length c1) yss.length vs ∧ (∀ i, i < yss.length → OInts 3 lo hi wr (vs.getD i undef) (yss.getD i [])) ∧ (∀ i j k, i < j → j < yss.length → (vs.getD i undef).ownBlock = some k → (vs.getD j undef).ownBlock ≠ some k))
    (fun _ i _ => xss.length - (intOf i).toNat)
  case atStart => exact ⟨0, Nat.zero_le _, rfl, by simp [sumLen], Touch.refl _ _ _ _, xss, rfl, fun i hi => absurd hi (by omega), fun _ _ => rfl, Hh1.out, Hh2.out, Hh3.out⟩
  case round =>
    obtain ⟨j, hj, rfl, rfl, hto, yss, hyl, hy1, hy2, g1, g2, g3⟩ := hrel
    have hsj := Hhsl.out j
    by_cases hlt : j < xss.length
    · have hrj := g2 j (by omega)
      rw [hy2 j (Nat.le_refl _)] at hrj
      have hrl := sumLen_succ hlt
      have hs1 := Hhsl.out (j + 1)
      obtain ⟨b1, o1, rfl, -, -, hcs⟩ := Hhr1.out (by omega)
      have hbx : o1 = 0 := by
        have hh := Hh1.out.1.form (by omega)
        obtain ⟨g, cap, hv, -⟩ := hh
        simp only [Value.slice.injEq, Option.some.injEq, Addr.mk.injEq] at hv
        exact hv.1.2.1
      subst hbx
      have g1' := g1.1
      rw [hyl] at g1'
      have hcell := g1'.cellAt j (by omega)
      have hvl : vs.length = xss.length := by have := g1'.1; omega
      obtain ⟨rv, hrv⟩ : ∃ rv, rv = vs.getD j undef := ⟨_, rfl⟩
      have hcell2 : wr.cell? ⟨b1, 0 + j, none⟩ = some rv := by
        rw [Nat.zero_add, hrv]
        rw [hcell]
        simp [hvl, hlt]
      obtain ⟨x, hxx⟩ : ∃ x, x = xss.getD j [] := ⟨_, rfl⟩
      rw [← hxx] at hrj hrl
      obtain ⟨ar, cr, hvr, -⟩ := (OInts.ints hrj).form
      rw [← hrv] at hrj hvr
      have hrow : x.length ≤ 100000000 := by omega
      obtain ⟨S, hS⟩ : ∃ S, S = sumLen (xss.take j) := ⟨_, rfl⟩
      rw [← hS] at hrl hsj
      rw [← hS]
      have hkS0 : 0 ≤ k + (S : Int) := by omega
      have hkS1 : k + (S : Int) ≤ 10000000000 := by omega
      simp only [Nat.zero_add] at hcell2
      have Hhrl := Lib.hid hrl; clear hrl
      have Hhxx := Lib.hid hxx; clear hxx
      have HhS := Lib.hid hS; clear hS
      have Hhrj := Lib.hid hrj; clear hrj
      have Hhrv := Lib.hid hrv; clear hrv
      have Hhto := Lib.hid hto; clear hto
      have Hhyl := Lib.hid hyl; clear hyl
      have Hhy1 := Lib.hid hy1; clear hy1
      have Hhy2 := Lib.hid hy2; clear hy2
      have Hg1 := Lib.hid g1; clear g1
      have Hg2 := Lib.hid g2; clear g2
      have Hg3 := Lib.hid g3; clear g3
      have Hhvl := Lib.hid hvl; clear hvl
      subst hvr
      clear hcell hcs g1'
      go_wp2_with fail
      refine (markInts_any x (k + S) lo hi _ _ hkS0 hkS1 hrow Hhrj.out).mono ?_
      rintro e w2 ⟨rfl, ho2, hg2⟩
      have Hho2 := Lib.hid ho2; clear ho2
      have Hhg2 := Lib.hid hg2; clear hg2
      go_wp2
      go_roundw
      case rel =>
        have hyj : j < yss.length := by rw [Hhyl.out]; exact hlt
        have R := OIntSS.row (w' := w2) (x := upFrom (k + S) x.length) (by decide) Hg1.out Hg2.out Hg3.out hyj (by rw [← Hhrv.out]; exact Hho2.out) (by rw [← Hhrv.out]; exact Hhg2.out)
        refine ⟨j + 1, by omega, by go_num, by rw [Hhrl.out]; congr 1; push_cast; omega, Hhto.out.trans (Touch.of_grown Hhrj.out Hhg2.out), yss.set j (upFrom (k + S) x.length), by rw [List.length_set]; exact Hhyl.out, fun i hi => ?_, fun i hi => ?_, R⟩
        · by_cases hij : j = i
          · subst hij
            rw [upRows_getD hlt, ← HhS.out, ← Hhxx.out]
            simp [hyj]
          · have : (yss.set j (upFrom (k + S) x.length)).getD i [] = yss.getD i [] := by simp [List.getElem?_set_ne hij]
            rw [this]
            exact Hhy1.out i (by omega)
        · have : (yss.set j (upFrom (k + S) x.length)).getD i [] = yss.getD i [] := by simp [List.getElem?_set_ne (show j ≠ i by omega)]
          rw [this]
          exact Hhy2.out i (by omega)
      case measure => simp [intOf]; omega
    · obtain rfl : j = xss.length := by omega
      have hye : yss = upRows k xss := by
        apply List.ext_getElem
        · rw [hyl, upRows_len]
        · intro i h1 h2
          have := hy1 i (by omega)
          simpa [h1, h2] using this
      subst hye
      have Hhyl := Lib.hid hyl; clear hyl
      have Hhy1 := Lib.hid hy1; clear hy1
      have Hhy2 := Lib.hid hy2; clear hy2
      have Hg1 := Lib.hid g1; clear g1
      have Hg2 := Lib.hid g2; clear g2
      have Hg3 := Lib.hid g3; clear g3
      have Hhto := Lib.hid hto; clear hto
      go_wp2
      go_ret
      refine ⟨by first | rfl | rw [List.take_length], ⟨vs, ?_, Hg2.out, Hg3.out⟩, Hhto.out⟩
      exact Hg1.out

set_option maxRecDepth 100000 in
set_option maxHeartbeats 1600000 in
theorem heldIntSS_any (xss : List (List Int)) (k : Int) (B : Nat) (v : Value) (w : World) (hk0 : 0 ≤ k) (hk1 : k ≤ 5000000000) (hx : xss.length ≤ 100000000) (hs : sumLen xss ≤ 100000000) (h : IntSS B w v (upRows k xss)) :
    Calls Try.prog 102 #[v, .int .i64 k] w fun en w' => en = .returned (.int .i64 (k + sumLen xss)) ∧ w = w' := by
  obtain ⟨a1, c1, hv, hc1, hm1, hr1⟩ := h.formI
  rw [upRows_len] at hv hc1 hr1
  subst hv
  have hsl := fun j => sumLen_le xss j
  have Hhsl := Lib.hid hsl; clear hsl
  have Hhr1 := Lib.hid hr1; clear hr1
  clear h
  go_enter Try.func102, Try.ntmps102
  go_wp2
  go_loop [1, 4, 5] (fun kv r i => ∃ j : Nat, j ≤ xss.length ∧ i = .int .i64 j ∧ kv = .int .i64 (k + sumLen (xss.take j))) (fun _ _ i => xss.length - (intOf i).toNat)
  case atStart => exact ⟨0, Nat.zero_le _, rfl, by simp [sumLen]⟩
  case round =>
    obtain ⟨j, hj, rfl, rfl⟩ := hrel
    have hsj := Hhsl.out j
    by_cases hlt : j < xss.length
    · have hrl := sumLen_succ hlt
      have hs1 := Hhsl.out (j + 1)
      obtain ⟨b1, o1, rfl, -, -, hcs⟩ := Hhr1.out (by omega)
      obtain ⟨ar, cr, hc, hcl, hcm, hri⟩ := hcs j hlt
      rw [upRows_getD hlt] at hc hcl hri
      rw [upFrom_len] at hc hcl hri
      have hrow : (xss.getD j []).length ≤ 100000000 := by omega
      obtain ⟨S, hS⟩ : ∃ S, S = sumLen (xss.take j) := ⟨_, rfl⟩
      rw [← hS] at hrl hsj hri
      rw [← hS]
      have hkS0 : 0 ≤ k + (S : Int) := by omega
      have hkS1 : k + (S : Int) ≤ 10000000000 := by omega
      have hkS2 : 0 ≤ k + (S : Int) + ((xss.getD j []).length : Int) := by omega
      obtain ⟨n, hn⟩ : ∃ n, n = (xss.getD j []).length := ⟨_, rfl⟩
      rw [← hn] at hc hcl hri hrow hkS2 hrl
      have Hhrl := Lib.hid hrl; clear hrl
      have HhS := Lib.hid hS; clear hS
      have Hhri := Lib.hid hri; clear hri
      have Hhn := Lib.hid hn; clear hn
      clear hcs
      go_wp2_with fail
      refine (heldInts_any n (k + S) B _ _ hkS0 hkS1 hrow Hhri.out).mono ?_
      rintro e w2 ⟨rfl, rfl⟩
      go_wp2
      go_round
      case rel => exact ⟨j + 1, by omega, by go_num, by rw [Hhrl.out]; congr 1; push_cast; omega⟩
      case measure => simp [intOf]; omega
    · obtain rfl : j = xss.length := by omega
      go_wp2
      go_ret
      exact ⟨by first | rfl | rw [List.take_length], rfl⟩

set_option maxRecDepth 100000 in
set_option maxHeartbeats 1600000 in
theorem markDfa_any (d : DfaD) (k : Int) (lo hi : Nat) (v : Value) (w : World) (hk0 : 0 ≤ k) (hk1 : k ≤ 4000000000) (hx : d.next.length ≤ 100000000) (hs : sumLen d.next ≤ 100000000) (he : d.ends.length ≤ 100000000) (_ : hi ≤ w.heap.size) (h : DfaO 43 3 4 lo hi w v d) :
    Calls Try.prog 25 #[v, .int .i64 k] w fun en w' => en = .returned (.int .i64 (k + totD d)) ∧ DfaO 43 3 4 lo hi w' v (markD k d) ∧ Only lo hi w w' := by
  obtain ⟨u1, u2, rfl, g1, g2⟩ := h
  have hb : Below w.heap.size w (w.alloc (.cells #[u1, u2] 30)) := (Below.refl _ _).alloc (Nat.le_refl _) _
  have x0 := Bx.new w #[u1, u2] 30
  have f1 := g1.below hb
  have f2 := Own.below g2 hb
  have Hon : Hid (Only lo hi w (w.alloc (.cells #[u1, u2] 30))) := Lib.hid (Only.of_below hb)
  have Hx0 := Lib.hid x0; clear x0
  have Hf1 := Lib.hid f1; clear f1
  have Hf2 := Lib.hid f2; clear f2
  clear g1 g2 hb
  go_enter Try.func25, Try.ntmps25
  go_wp2_with fail
  refine (markIntSS_any d.next k lo hi _ _ hk0 (by omega) hx hs Hf1.out).mono ?_
  rintro e w2 ⟨rfl, ho2, ht2⟩
  have y0 := Hx0.out.touch ht2 (by decide)
  have g2 := Hf2.out.touch ht2 (by decide)
  have hon := Hon.out.trans ht2.only
  have c1 := y0.cell 1
  simp only [List.getElem?_toArray, List.getElem?_cons_zero, List.getElem?_cons_succ] at c1
  have Hho2 := Lib.hid ho2; clear ho2
  have Hht2 := Lib.hid ht2; clear ht2
  have Hy0 := Lib.hid y0; clear y0
  have Hg2 := Lib.hid g2; clear g2
  have Hhon := Lib.hid hon; clear hon
  go_wp2_with fail
  refine (markBools_any d.ends (k + sumLen d.next) lo hi _ _ (by omega) (by omega) he Hg2.out).mono ?_
  rintro e w3 ⟨rfl, ho3, hg3⟩
  have Hho3 := Lib.hid ho3; clear ho3
  have Hhg3 := Lib.hid hg3; clear hg3
  go_wp2
  go_ret
  have ht3 := Touch.of_grown Hg2.out Hhg3.out
  refine ⟨ret_int (by unfold totD; push_cast; omega), ⟨_, _, rfl, ?_, Hho3.out⟩, Hhon.out.trans ht3.only⟩
  obtain ⟨vs, a1, a2, a3⟩ := Hho2.out
  exact ⟨vs, a1.touch ht3 (by decide), fun i hi => Own.touch (a2 i hi) ht3 (by decide), a3⟩
set_option maxRecDepth 100000 in
set_option maxHeartbeats 1600000 in
theorem heldDfa_any (d : DfaD) (k : Int) (B : Nat) (v : Value) (w : World) (hk0 : 0 ≤ k) (hk1 : k ≤ 4000000000) (hx : d.next.length ≤ 100000000) (hs : sumLen d.next ≤ 100000000) (he : d.ends.length ≤ 100000000) (h : DfaR B w v (markD k d)) :
    Calls Try.prog 34 #[v, .int .i64 k] w fun en w' => en = .returned (.int .i64 (k + totD d)) ∧ Below w.heap.size w w' := by
  obtain ⟨u1, u2, rfl, g1, g2⟩ := h
  have hb : Below w.heap.size w (w.alloc (.cells #[u1, u2] 30)) := (Below.refl _ _).alloc (Nat.le_refl _) _
  have x0 := Bx.new w #[u1, u2] 30
  have f1 := g1.below hb
  have f2 := g2.below hb
  have c1 := x0.cell 1
  simp only [List.getElem?_toArray, List.getElem?_cons_zero, List.getElem?_cons_succ] at c1
  have hq : 0 ≤ k + (sumLen d.next : Int) := by omega
  have hq2 : 0 ≤ k + (sumLen d.next : Int) + (d.ends.length : Int) := by omega
  have Hf1 := Lib.hid f1; clear f1
  have Hf2 := Lib.hid f2; clear f2
  have Hhb := Lib.hid hb; clear hb
  clear g1 g2 x0
  go_enter Try.func34, Try.ntmps34
  go_wp2_with fail
  refine (heldIntSS_any d.next k B _ _ hk0 (by omega) hx hs Hf1.out).mono ?_
  rintro e w2 ⟨rfl, rfl⟩
  go_wp2_with fail
  refine (heldBools_any d.ends.length (k + sumLen d.next) B _ _ (by omega) (by omega) he Hf2.out).mono ?_
  rintro e w3 ⟨rfl, rfl⟩
  go_wp2
  go_ret
  exact ⟨ret_int (by unfold totD; push_cast; omega), Hhb.out⟩

def upPairs (k : Int) (n : Nat) : List (Int × Int) := (List.range n).map fun (i : Nat) => (k + 2 * i, k + 2 * i + 1)
theorem upPairs_len (k : Int) (n : Nat) : (upPairs k n).length = n := by simp [upPairs]
theorem upPairs_getD {k : Int} {n j : Nat} (h : j < n) : (upPairs k n).getD j (0, 0) = (k + 2 * j, k + 2 * j + 1) := by simp [upPairs, h]
set_option maxRecDepth 100000 in
set_option maxHeartbeats 1600000 in
theorem markPairs_any (xs : List (Int × Int)) (k : Int) (lo hi : Nat) (v : Value) (w : World) (hk0 : 0 ≤ k) (hk1 : k ≤ 10000000000) (hx : xs.length ≤ 100000000) (h : OPairs 88 lo hi w v xs) :
    Calls Try.prog 26 #[v, .int .i64 k] w fun en w' => en = .returned (.int .i64 (k + 2 * xs.length)) ∧ OPairs 88 lo hi w' v (upPairs k xs.length) ∧ w.grownBy w' v.ownBlock := by
  obtain ⟨n, hn⟩ : ∃ n, n = xs.length := ⟨_, rfl⟩
  unfold OPairs at h
  rw [← hn] at h hx
  rw [← hn]
  by_cases hx0 : n = 0
  · subst hx0
    obtain ⟨a1, c1, rfl, -⟩ := (Own.sl h (by omega)).form
    go_enter Try.func26, Try.ntmps26
    go_wp2
    go_loop [1, 5] (fun kv i => kv = .int .i64 k ∧ i = .int .i64 0) (fun _ _ => 0)
    case atStart => exact ⟨rfl, rfl⟩
    case round =>
      obtain ⟨rfl, rfl⟩ := hrel
      have Hh := Lib.hid h
      clear h hn
      go_wp2
      go_ret
      refine ⟨ret_int (by simp), ?_, World.grownBy.refl _ _⟩
      have hl := Hh.out.1.1
      have : xs.flatMap pairCells = [] := List.eq_nil_of_length_eq_zero (by omega)
      have h2 := Hh.out
      rw [this] at h2
      simpa [upPairs, OPairs] using h2
  obtain ⟨g, cap, rfl, hg0, hg1⟩ := h.1.form (by omega)
  have Hh := Lib.hid h
  have Hhn := Lib.hid hn; clear hn
  clear h
  go_enter Try.func26, Try.ntmps26
  go_wp2
  go_loopw [1, 5] (fun kv i wr => ∃ j : Nat, j ≤ n ∧ i = .int .i64 j ∧ kv = .int .i64 (k + 2 * j) ∧ w.grownBy wr (some g) ∧ ∃ cs, wr.ownsRow lo 88 2 (.slice (some ⟨g, 0, none⟩) n cap) n cs ∧ cs.take (j * 2) = ((upPairs k n).flatMap pairCells).take (j * 2))
    (fun _ i _ => n - (intOf i).toNat)
  case atStart => exact ⟨0, Nat.zero_le _, rfl, by simp, World.grownBy.refl _ _, _, Hh.out.1, rfl⟩
  case round =>
    obtain ⟨j, hj, rfl, rfl, hgr, cs, hown, htk⟩ := hrel
    have hlen := hown.1
    have Hhtk := Lib.hid htk; clear htk
    have Hhown := Lib.hid hown; clear hown
    have Hhgr := Lib.hid hgr; clear hgr
    by_cases hlt : j < n
    · obtain ⟨u0, hold⟩ := row_some Hhown.out (j * 2) (by omega)
      obtain ⟨u1, hold1⟩ := row_some Hhown.out (j * 2 + 1) (by omega)
      have hfr : wr.frozen? ⟨g, j * 2, none⟩ = false := Hhown.out.frozenAt _
      have hfr1 : wr.frozen? ⟨g, j * 2 + 1, none⟩ = false := Hhown.out.frozenAt _
      have hkj0 : 0 ≤ k + 2 * (j : Int) := by omega
      have hkj1 : k + 2 * (j : Int) ≤ 20000000000 := by omega
      have Hhlen := Lib.hid hlen; clear hlen
      go_wp2
      go_roundw
      case rel =>
        refine ⟨j + 1, by omega, by go_num, by first | go_num | (congr 1; push_cast; omega), (Hhgr.out.trans (grown_set _ _ _ _)).trans (grown_set _ _ _ _), _, (((Hhown.out.stored (j * 2) _).1).stored (j * 2 + 1) _).1, ?_⟩
        have hf := flatP_get (upPairs k n) j (by rw [upPairs_len]; exact hlt)
        rw [upPairs_getD hlt] at hf
        have s1 := cells_set (n := n * 2) (k := j * 2) Hhlen.out (by rw [flatP_len, upPairs_len]) (by omega) Hhtk.out hf.1
        have s2 := cells_set (n := n * 2) (k := j * 2 + 1) (by simpa using Hhlen.out) (by rw [flatP_len, upPairs_len]) (by omega) s1 hf.2
        rw [show (j + 1) * 2 = j * 2 + 1 + 1 from by omega]
        exact s2
      case measure => simp [intOf]; omega
    · obtain rfl : j = n := by omega
      have Hhlen := Lib.hid hlen; clear hlen
      go_wp2
      go_ret
      have he : cs = (upPairs k j).flatMap pairCells := by
        have h := Hhtk.out
        rwa [List.take_of_length_le (by have := Hhlen.out; omega), List.take_of_length_le (by rw [flatP_len, upPairs_len]; exact Nat.le_refl _)] at h
      refine ⟨rfl, ?_, Hhgr.out⟩
      unfold OPairs
      rw [upPairs_len, ← he]
      exact ⟨Hhown.out, Hh.out.2⟩
set_option maxRecDepth 100000 in
set_option maxHeartbeats 1600000 in
theorem heldPairs_any (n : Nat) (k : Int) (B : Nat) (v : Value) (w : World) (hk0 : 0 ≤ k) (hk1 : k ≤ 10000000000) (hx : n ≤ 100000000) (h : Pairs B w v (upPairs k n)) :
    Calls Try.prog 27 #[v, .int .i64 k] w fun en w' => en = .returned (.int .i64 (k + 2 * n)) ∧ w = w' := by
  obtain ⟨a1, c1, hv, hc1, hm1, hr1⟩ := h.form
  rw [upPairs_len] at hv hc1 hr1
  subst hv
  clear h
  have Hhr1 := Lib.hid hr1; clear hr1
  go_enter Try.func27, Try.ntmps27
  go_wp2
  go_loop [1, 4, 5] (fun kv r i => ∃ j : Nat, j ≤ n ∧ i = .int .i64 j ∧ kv = .int .i64 (k + 2 * j)) (fun _ _ i => n - (intOf i).toNat)
  case atStart => exact ⟨0, Nat.zero_le _, rfl, by simp⟩
  case round =>
    obtain ⟨j, hj, rfl, rfl⟩ := hrel
    by_cases hlt : j < n
    · obtain ⟨b1, o1, rfl, -, -, hcs⟩ := Hhr1.out (by omega)
      obtain ⟨hc, hc2⟩ := hcs j hlt
      rw [upPairs_getD hlt] at hc hc2
      have hkj0 : 0 ≤ k + 2 * (j : Int) := by omega
      have hkj1 : k + 2 * (j : Int) ≤ 20000000000 := by omega
      clear hcs
      go_wp2
      go_round
      case rel => exact ⟨j + 1, by omega, by go_num, by first | go_num | (congr 1; push_cast; omega)⟩
      case measure => simp [intOf]; omega
    · obtain rfl : j = n := by omega
      go_wp2
      go_ret
      exact ⟨rfl, rfl⟩
end Go.Proofs.Ythigcohfjoodlaa
