/-
  The walks over the functions of the laws that measure, copy, compare and mark automata with choices.
  Conditions: the arguments read as such; sizes at most 1048576.
-/
import Derived.Test.YtolkifpeblbfcaaLb
import Derived.Test.YtolkifpeblbfcaaEqd
namespace Go.Proofs.Ytolkifpeblbfcaa
open Go.RowKit

def totNfa (n : NfaD) : Nat := n.moves.length + n.firsts.length + n.ends.length
theorem NfaR.shape {B : Nat} {w : World} {v : Value} {n : NfaD} (h : NfaR B w v n) : ∃ a1 c1 a2 c2 a3 c3, v = .agg #[.int .i64 n.states, .slice a1 n.moves.length c1, .slice a2 n.firsts.length c2, .slice a3 n.ends.length c3] := by
  obtain ⟨u1, u2, u3, rfl, g1, g2, g3, -, -⟩ := h
  obtain ⟨a1, c1, rfl, -⟩ := g1.form
  obtain ⟨a2, c2, rfl, -⟩ := g2.form
  obtain ⟨a3, c3, rfl, -⟩ := g3.form
  exact ⟨_, _, _, _, _, _, rfl⟩
theorem NfaR.parts {B : Nat} {w : World} {n : NfaD} {s v1 v2 v3 : Value} (h : NfaR B w (.agg #[s, v1, v2, v3]) n) : s = .int .i64 n.states ∧ Moves B w v1 n.moves ∧ Ints B w v2 n.firsts ∧ Ints B w v3 n.ends ∧ -9223372036854775808 ≤ n.states ∧ n.states ≤ 9223372036854775807 := by
  obtain ⟨u1, u2, u3, hv, g1, g2, g3, g4⟩ := h
  simp only [Value.agg.injEq] at hv
  have e0 := congrArg (fun (l : Array Value) => l[0]?) hv
  have e1 := congrArg (fun (l : Array Value) => l[1]?) hv
  have e2 := congrArg (fun (l : Array Value) => l[2]?) hv
  have e3 := congrArg (fun (l : Array Value) => l[3]?) hv
  simp at e0 e1 e2 e3
  subst e0 e1 e2 e3
  exact ⟨rfl, g1, g2, g3, g4⟩

set_option maxHeartbeats 800000 in
theorem szNfa_d (n : NfaD) (v : Value) (left : Int) (h0 : 0 ≤ left) (h1 : left ≤ 1048576) (w : World) (h : NfaR 0 w v n) (r : Int) (hr : szV left (totNfa n) = r) :
    Calls Try.prog 41 #[v, .int .i64 left] w fun e w' => e = .returned (.int .i64 r) ∧ Below w.heap.size w w' := by
  obtain ⟨v1, v2, v3, rfl, g1, g2, g3, -, -⟩ := h
  obtain ⟨a1, c1, rfl, hc1, hm1, -⟩ := g1.form
  obtain ⟨a2, c2, rfl, hc2, hm2, -⟩ := g2.form
  obtain ⟨a3, c3, rfl, hc3, hm3, -⟩ := g3.form
  have Hhr := Lib.hid hr; clear hr
  clear g1 g2 g3
  by_cases hn : (n.moves.length : Int) ≤ left
  · by_cases hf : (n.firsts.length : Int) ≤ left - n.moves.length
    · by_cases he : (n.ends.length : Int) ≤ left - n.moves.length - n.firsts.length
      · go_enter Try.func41, Try.ntmps41
        go_wp2_with fail
        refine (szMoveS_any _ _ _ (by omega) _ h0 h1 _ _ (szV_yes hn)).mono ?_
        rintro e w' ⟨rfl, rfl⟩
        go_wp2_with fail
        refine (szIntS_any _ _ _ (by omega) _ (by omega) (by omega) _ _ (szV_yes hf)).mono ?_
        rintro e w' ⟨rfl, rfl⟩
        go_wp2_with fail
        refine (szIntS_any _ _ _ (by omega) _ (by omega) (by omega) _ _ (szV_yes he)).mono ?_
        rintro e w' ⟨rfl, rfl⟩
        go_wp2
        go_ret
        exact ⟨ret_int (by rw [← Hhr.out, szV_yes (by unfold totNfa; omega)]; unfold totNfa; omega), (Below.refl _ _).alloc (Nat.le_refl _) _⟩
      · go_enter Try.func41, Try.ntmps41
        go_wp2_with fail
        refine (szMoveS_any _ _ _ (by omega) _ h0 h1 _ _ (szV_yes hn)).mono ?_
        rintro e w' ⟨rfl, rfl⟩
        go_wp2_with fail
        refine (szIntS_any _ _ _ (by omega) _ (by omega) (by omega) _ _ (szV_yes hf)).mono ?_
        rintro e w' ⟨rfl, rfl⟩
        go_wp2_with fail
        refine (szIntS_any _ _ _ (by omega) _ (by omega) (by omega) _ _ (szV_no (by omega))).mono ?_
        rintro e w' ⟨rfl, rfl⟩
        go_wp2
        go_ret
        exact ⟨ret_int (by rw [← Hhr.out, szV_no (by unfold totNfa; omega)]), (Below.refl _ _).alloc (Nat.le_refl _) _⟩
    · go_enter Try.func41, Try.ntmps41
      go_wp2_with fail
      refine (szMoveS_any _ _ _ (by omega) _ h0 h1 _ _ (szV_yes hn)).mono ?_
      rintro e w' ⟨rfl, rfl⟩
      go_wp2_with fail
      refine (szIntS_any _ _ _ (by omega) _ (by omega) (by omega) _ _ (szV_no (by omega))).mono ?_
      rintro e w' ⟨rfl, rfl⟩
      go_wp2
      go_ret
      exact ⟨ret_int (by rw [← Hhr.out, szV_no (by unfold totNfa; omega)]), (Below.refl _ _).alloc (Nat.le_refl _) _⟩
  · go_enter Try.func41, Try.ntmps41
    go_wp2_with fail
    refine (szMoveS_any _ _ _ (by omega) _ h0 h1 _ _ (szV_no (by omega))).mono ?_
    rintro e w' ⟨rfl, rfl⟩
    go_wp2
    go_ret
    exact ⟨ret_int (by rw [← Hhr.out, szV_no]; unfold totNfa; omega), (Below.refl _ _).alloc (Nat.le_refl _) _⟩


set_option maxHeartbeats 800000 in
theorem toMove_any (x : Int × Int × Int) (w : World) :
    Calls Try.prog 146 #[.agg #[.int .i64 x.1, .int .i64 x.2.1, .int .i64 x.2.2]] w fun e w' => e = .returned (.agg #[.int .i64 x.1, .int .i64 x.2.1, .int .i64 x.2.2]) ∧ Below w.heap.size w w' := by
  go_enter Try.func146, Try.ntmps146
  go_wp2
  refine bodyPost_ret (v := .agg #[.int .i64 x.1, .int .i64 x.2.1, .int .i64 x.2.2]) (by simp [results, Try.results146, go_sem]) rfl ⟨rfl, ?_⟩
  repeat (first | exact Below.refl _ _ | (refine Below.setCell ?_ (by simp) _) | (refine Below.alloc ?_ (by simp <;> omega) _))
theorem Try.infoMove : (Try.prog.info? 53).map (fun i => (i.zero, i.size, i.bytes)) = some (some (.agg #[.int .i64 0, .int .i64 0, .int .i64 0]), 3, 24) := by kernel_rfl
def RMoves (e lo : Nat) (xs : List (Int × Int × Int)) (en : Ending) (w' : World) : Prop := ∃ a cap, en = .returned (.slice a xs.length cap) ∧ OMoves e lo w'.heap.size w' (.slice a xs.length cap) xs
theorem flatM_len (xs : List (Int × Int × Int)) : (xs.flatMap moveCells).length = xs.length * 3 := flat_len moveCells 3 (fun _ => rfl) xs
theorem flatM_get (xs : List (Int × Int × Int)) (k : Nat) (hk : k < xs.length) : (xs.flatMap moveCells)[k * 3]? = some (.int .i64 (xs.getD k (0, 0, 0)).1) ∧ (xs.flatMap moveCells)[k * 3 + 1]? = some (.int .i64 (xs.getD k (0, 0, 0)).2.1) ∧ (xs.flatMap moveCells)[k * 3 + 2]? = some (.int .i64 (xs.getD k (0, 0, 0)).2.2) := by
  have h0 := flat_get moveCells 3 (fun _ => rfl) xs k 0 (0, 0, 0) hk (by omega)
  have h1 := flat_get moveCells 3 (fun _ => rfl) xs k 1 (0, 0, 0) hk (by omega)
  have h2 := flat_get moveCells 3 (fun _ => rfl) xs k 2 (0, 0, 0) hk (by omega)
  exact ⟨by simpa [moveCells] using h0, by simpa [moveCells] using h1, by simpa [moveCells] using h2⟩
set_option maxHeartbeats 1600000 in
theorem toMoveS_any (xs : List (Int × Int × Int)) (v : Value) (w : World) (hx : xs.length ≤ 1048576) (h1 : Moves 0 w v xs) :
    Calls Try.prog 109 #[v] w fun e w' => RMoves 53 w.heap.size xs e w' ∧ Below w.heap.size w w' := by
  obtain ⟨a1, c1, rfl, hc1, hm1, hr1⟩ := h1.form
  obtain ⟨i0, hi, hz0, hz1, hz2⟩ := info_parts Try.infoMove
  clear h1
  go_enter Try.func109, Try.ntmps109
  go_wp2_with (at_make; refine wpList_make_full _ rfl _ _ 43 rfl w.heap.size 53 i0 (.agg #[.int .i64 0, .int .i64 0, .int .i64 0]) 3 Try.underlying43 hi hz0 hz1 .i64 .i64 _ _ xs.length rfl rfl rfl rfl (by rw [hz2]; omega) (by unfold maxLen; omega) (Nat.le_refl _) ?_; intro w1 hown hgrow)
  have hb1 : Below w.heap.size w w1 := (Below.refl _ _).grown hgrow (Nat.le_refl _) (fun _ h => by cases h)
  have Hown := Lib.hid hown
  clear hown hgrow hi hz0 hz1 hz2
  go_loopw [4] (fun i wr => ∃ k : Nat, k ≤ xs.length ∧ i = .int .i64 k ∧ Below w.heap.size w wr ∧ ∃ cs, wr.ownsRow w.heap.size 53 3 (.slice (some ⟨w.heap.size, 0, none⟩) xs.length xs.length) xs.length cs ∧ cs.take (k * 3) = (xs.flatMap moveCells).take (k * 3))
    (fun i _ => xs.length - (intOf i).toNat)
  case atStart => exact ⟨0, Nat.zero_le _, rfl, hb1, _, Hown.out, rfl⟩
  case round =>
    obtain ⟨k, hk, rfl, hb, cs, hown, htk⟩ := hrel
    have hlen := hown.1
    have hBw := (hown.lt w.heap.size rfl).2
    have Hhtk := Lib.hid htk; clear htk
    have Hhown := Lib.hid hown; clear hown
    have Hhb := Lib.hid hb; clear hb
    have Hhlen := Lib.hid hlen; clear hlen
    by_cases hlt : k < xs.length
    · obtain ⟨b1, o1, rfl, hB1, hbl1, hcs1⟩ := hr1 (by omega)
      have hx1 := (bcell Hhb.out b1 (o1 + k * 3) hbl1).trans (hcs1 k hlt).1
      have hx2 := (bcell Hhb.out b1 (o1 + k * 3 + 1) hbl1).trans (hcs1 k hlt).2.1
      have hx3 := (bcell Hhb.out b1 (o1 + k * 3 + 2) hbl1).trans (hcs1 k hlt).2.2
      have hfl := flatM_get xs k hlt
      obtain ⟨x, hxx⟩ : ∃ x, x = xs.getD k (0, 0, 0) := ⟨_, rfl⟩
      rw [← hxx] at hx1 hx2 hx3 hfl
      have Hhxx := Lib.hid hxx; clear hxx
      have Hhfl := Lib.hid hfl; clear hfl
      clear hcs1 hr1
      go_wp2_with (go_at_call 146; refine (toMove_any x _).mono ?_; rintro e w2 ⟨rfl, hb2⟩; have Hb2 := Lib.hid hb2; clear hb2; have hrow := (Own.below (own_of_row Hhown.out) Hb2.out).1; obtain ⟨u0, hold0⟩ := row_some hrow (k * 3) (by omega); obtain ⟨u1, hold1⟩ := row_some hrow (k * 3 + 1) (by omega); obtain ⟨u2, hold2⟩ := row_some hrow (k * 3 + 2) (by omega); have hfr0 : w2.frozen? ⟨w.heap.size, k * 3, none⟩ = false := hrow.frozenAt _; have hfr1 : w2.frozen? ⟨w.heap.size, k * 3 + 1, none⟩ = false := hrow.frozenAt _; have hfr2 : w2.frozen? ⟨w.heap.size, k * 3 + 2, none⟩ = false := hrow.frozenAt _; have Hrow := Lib.hid hrow; clear hrow)
      go_roundw
      case rel =>
        refine ⟨k + 1, by omega, by go_num, (((Hhb.out.trans (Hb2.out.mono Hhb.out.size)).setCell (Nat.le_refl _) _).setCell (Nat.le_refl _) _).setCell (Nat.le_refl _) _, _, ((((Hrow.out.stored (k * 3) _).1).stored (k * 3 + 1) _).1.stored (k * 3 + 2) _).1, ?_⟩
        have s1 := cells_set (n := xs.length * 3) (k := k * 3) Hhlen.out (flatM_len xs) (by omega) Hhtk.out Hhfl.out.1
        have s2 := cells_set (n := xs.length * 3) (k := k * 3 + 1) (by simpa using Hhlen.out) (flatM_len xs) (by omega) s1 Hhfl.out.2.1
        have s3 := cells_set (n := xs.length * 3) (k := k * 3 + 2) (by simpa using Hhlen.out) (flatM_len xs) (by omega) s2 Hhfl.out.2.2
        rw [show (k + 1) * 3 = k * 3 + 2 + 1 from by omega]
        exact s3
      case measure => simp [intOf]; omega
    · clear hr1
      go_wp2
      go_ret
      have he : cs = xs.flatMap moveCells := by
        have h := Hhtk.out
        rwa [List.take_of_length_le (by have := Hhlen.out; omega), List.take_of_length_le (by rw [flatM_len]; omega)] at h
      exact ⟨⟨_, _, rfl, own_of_row (by rw [← he]; exact Hhown.out)⟩, Hhb.out⟩

def smallN (n : NfaD) : Prop := n.moves.length ≤ 1048576 ∧ n.firsts.length ≤ 1048576 ∧ n.ends.length ≤ 1048576
theorem smallN_of {n : NfaD} {m : Int} (h : (totNfa n : Int) ≤ m) (hm : m ≤ 1048576) : smallN n := by
  unfold totNfa at h
  unfold smallN
  omega
def totM (n : NfaD) : Nat := 3 * n.moves.length + n.firsts.length + n.ends.length
theorem bigN_of {n : NfaD} {m : Int} (h : (totNfa n : Int) ≤ m) (hm : m ≤ 1048576) : n.moves.length ≤ 100000000 ∧ n.firsts.length ≤ 100000000 ∧ n.ends.length ≤ 100000000 ∧ totM n ≤ 4000000 := by
  unfold totNfa at h
  unfold totM
  omega
/-- What a copy of an automaton with choices is. -/
def RNfa (tM tI lo : Nat) (n : NfaD) (en : Ending) (w' : World) : Prop := ∃ a1 c1 a2 c2 a3 c3, en = .returned (.agg #[.int .i64 n.states, .slice a1 n.moves.length c1, .slice a2 n.firsts.length c2, .slice a3 n.ends.length c3]) ∧
  NfaO tM tI lo w'.heap.size w' (.agg #[.int .i64 n.states, .slice a1 n.moves.length c1, .slice a2 n.firsts.length c2, .slice a3 n.ends.length c3]) n
theorem NfaO.only {tM tI lo hi lo' hi' : Nat} {w w' : World} {v : Value} {n : NfaD} (h : NfaO tM tI lo hi w v n) (ho : Only lo' hi' w w') (hd : hi ≤ lo' ∨ hi' ≤ lo) : NfaO tM tI lo hi w' v n := by
  obtain ⟨v1, v2, v3, hv, h1, h2, h3, h4⟩ := h
  exact ⟨v1, v2, v3, hv, h1.only ho hd, h2.only ho hd, h3.only ho hd, h4⟩
theorem NfaO.below {tM tI lo hi : Nat} {w w' : World} {v : Value} {n : NfaD} (h : NfaO tM tI lo hi w v n) (hb : Below w.heap.size w w') : NfaO tM tI lo hi w' v n := by
  obtain ⟨v1, v2, v3, hv, h1, h2, h3, h4⟩ := h
  exact ⟨v1, v2, v3, hv, Own.below h1 hb, Own.below h2 hb, Own.below h3 hb, h4⟩

set_option maxRecDepth 100000 in
set_option maxHeartbeats 1600000 in
theorem toNfa_any (n : NfaD) (v : Value) (w : World) (hs : smallN n) (h : NfaR 0 w v n) :
    Calls Try.prog 43 #[v] w fun e w' => RNfa 53 3 w.heap.size n e w' ∧ Below w.heap.size w w' := by
  obtain ⟨a1, c1, a2, c2, a3, c3, rfl⟩ := h.shape
  obtain ⟨-, g1, g2, g3, hst⟩ := h.parts
  obtain ⟨hs1, hs2, hs3⟩ := hs
  have G1 := Lib.hid g1
  have G2 := Lib.hid g2
  have G3 := Lib.hid g3
  clear h g1 g2 g3
  obtain ⟨W, hW⟩ : ∃ W, W = (((w.alloc (.cells #[.int .i64 n.states, .slice a1 n.moves.length c1, .slice a2 n.firsts.length c2, .slice a3 n.ends.length c3] 66)).alloc (.cells #[.int .i64 0, .slice none 0 0, .slice none 0 0, .slice none 0 0] 46)).alloc (.cells #[.int .i64 n.states, .slice none 0 0, .slice none 0 0, .slice none 0 0] 46)) := ⟨_, rfl⟩
  have hbW : Below w.heap.size w W := by rw [hW]; exact (((Below.refl _ _).alloc (Nat.le_refl _) _).alloc (by simp) _).alloc (by simp; omega) _
  have x0 : Bx W w.heap.size #[.int .i64 n.states, .slice a1 n.moves.length c1, .slice a2 n.firsts.length c2, .slice a3 n.ends.length c3] 66 := by rw [hW]; exact ((Bx.new w _ _).alloc _).alloc _
  have x1 : Bx W (w.heap.size + 1) #[.int .i64 0, .slice none 0 0, .slice none 0 0, .slice none 0 0] 46 := by rw [hW]; simpa using (Bx.new (w.alloc (.cells #[.int .i64 n.states, .slice a1 n.moves.length c1, .slice a2 n.firsts.length c2, .slice a3 n.ends.length c3] 66)) #[.int .i64 0, .slice none 0 0, .slice none 0 0, .slice none 0 0] 46).alloc _
  have x2 : Bx W (w.heap.size + 1 + 1) #[.int .i64 n.states, .slice none 0 0, .slice none 0 0, .slice none 0 0] 46 := by rw [hW]; simpa using Bx.new ((w.alloc (.cells #[.int .i64 n.states, .slice a1 n.moves.length c1, .slice a2 n.firsts.length c2, .slice a3 n.ends.length c3] 66)).alloc (.cells #[.int .i64 0, .slice none 0 0, .slice none 0 0, .slice none 0 0] 46)) #[.int .i64 n.states, .slice none 0 0, .slice none 0 0, .slice none 0 0] 46
  have hWs : W.heap.size = w.heap.size + 3 := by rw [hW]; simp
  go_enter Try.func43, Try.ntmps43
  go_wp2_with fail
  rw [← hW]
  have HhW := Lib.hid hW; clear hW
  have HhbW := Lib.hid hbW; clear hbW
  refine (toMoveS_any n.moves _ _ hs1 (G1.out.below HhbW.out)).mono ?_
  rintro e w2 ⟨⟨b1, d1, rfl, ho1⟩, hb2⟩
  have y0 := x0.below hb2 x0.lt
  have y1 := x1.below hb2 x1.lt
  have y2 := x2.below hb2 x2.lt
  have hbw2 := HhbW.out.trans (hb2.mono HhbW.out.size)
  have hz2 := hb2.size
  have e2 := y0.cell 2
  have f1 := y2.cell 1
  have r1 := y2.fr 1
  simp only [List.getElem?_toArray, List.getElem?_cons_zero, List.getElem?_cons_succ] at e2 f1
  have Hy0 := Lib.hid y0; clear y0
  have Hy1 := Lib.hid y1; clear y1
  have Hy2 := Lib.hid y2; clear y2
  have Hhbw2 := Lib.hid hbw2; clear hbw2
  have Hho1 := Lib.hid ho1; clear ho1
  have Hhb2 := Lib.hid hb2; clear hb2
  have HhWs := Lib.hid hWs; clear hWs
  clear x0 x1 x2
  go_wp2_with fail
  obtain ⟨v2, hv2⟩ : ∃ v2, v2 = w2.setCell ⟨w.heap.size + 1 + 1, 1, none⟩ (.slice b1 n.moves.length d1) := ⟨_, rfl⟩
  rw [← hv2]
  have hbv2 : Below w.heap.size w v2 := by rw [hv2]; exact Hhbw2.out.setCell (by simp; omega) _
  have z0 : Bx v2 w.heap.size #[.int .i64 n.states, .slice a1 n.moves.length c1, .slice a2 n.firsts.length c2, .slice a3 n.ends.length c3] 66 := by rw [hv2]; exact Hy0.out.set_ne _ _ (show w.heap.size ≠ w.heap.size + 1 + 1 by omega)
  have z1 : Bx v2 (w.heap.size + 1) #[.int .i64 0, .slice none 0 0, .slice none 0 0, .slice none 0 0] 46 := by rw [hv2]; exact Hy1.out.set_ne _ _ (show w.heap.size + 1 ≠ w.heap.size + 1 + 1 by omega)
  have z2 := Hy2.out.set 1 (.slice b1 n.moves.length d1)
  rw [← hv2] at z2
  have hsv2 : v2.heap.size = w2.heap.size := by rw [hv2]; exact setCell_size _ _ _
  have Hhv2 := Lib.hid hv2; clear hv2
  have Hhbv2 := Lib.hid hbv2; clear hbv2
  have Hhsv2 := Lib.hid hsv2; clear hsv2
  clear e2 f1 r1
  refine (toIntS_any n.firsts _ _ hs2 (G2.out.below Hhbv2.out)).mono ?_
  rintro e w3 ⟨⟨b2, d2, rfl, ho2⟩, hb3⟩
  have y0 := z0.below hb3 z0.lt
  have y1 := z1.below hb3 z1.lt
  have y2 := z2.below hb3 z2.lt
  have hbw3 := Hhbv2.out.trans (hb3.mono Hhbv2.out.size)
  have hz3 := hb3.size
  have e3 := y0.cell 3
  have f2 := y2.cell 2
  have r2 := y2.fr 2
  simp only [List.getElem?_toArray, List.getElem?_cons_zero, List.getElem?_cons_succ, List.setIfInBounds_toArray, List.set_cons_zero, List.set_cons_succ] at e3 f2 y2
  have Hy0 := Lib.hid y0; clear y0
  have Hy1 := Lib.hid y1; clear y1
  have Hy2 := Lib.hid y2; clear y2
  have Hhbw3 := Lib.hid hbw3; clear hbw3
  have Hho2 := Lib.hid ho2; clear ho2
  have Hhb3 := Lib.hid hb3; clear hb3
  clear z0 z1 z2
  go_wp2_with fail
  obtain ⟨v3, hv3⟩ : ∃ v3, v3 = w3.setCell ⟨w.heap.size + 1 + 1, 2, none⟩ (.slice b2 n.firsts.length d2) := ⟨_, rfl⟩
  rw [← hv3]
  have hbv3 : Below w.heap.size w v3 := by rw [hv3]; exact Hhbw3.out.setCell (by simp; omega) _
  have z1 : Bx v3 (w.heap.size + 1) #[.int .i64 0, .slice none 0 0, .slice none 0 0, .slice none 0 0] 46 := by rw [hv3]; exact Hy1.out.set_ne _ _ (show w.heap.size + 1 ≠ w.heap.size + 1 + 1 by omega)
  have z2 := Hy2.out.set 2 (.slice b2 n.firsts.length d2)
  rw [← hv3] at z2
  have hsv3 : v3.heap.size = w3.heap.size := by rw [hv3]; exact setCell_size _ _ _
  have Hhv3 := Lib.hid hv3; clear hv3
  have Hhbv3 := Lib.hid hbv3; clear hbv3
  have Hhsv3 := Lib.hid hsv3; clear hsv3
  clear e3 f2 r2
  refine (toIntS_any n.ends _ _ hs3 (G3.out.below Hhbv3.out)).mono ?_
  rintro e w4 ⟨⟨b3, d3, rfl, ho3⟩, hb4⟩
  have y1 := z1.below hb4 z1.lt
  have y2 := z2.below hb4 z2.lt
  have hbw4 := Hhbv3.out.trans (hb4.mono Hhbv3.out.size)
  have hz4 := hb4.size
  simp only [List.setIfInBounds_toArray, List.set_cons_zero, List.set_cons_succ] at y2
  have f0 := y2.cell 0
  have f1 := y2.cell 1
  have f2 := y2.cell 2
  have f3 := y2.cell 3
  have r3 := y2.fr 3
  have k0 := y1.cell 0
  have k1 := y1.cell 1
  have k2 := y1.cell 2
  have k3 := y1.cell 3
  have l0 := y1.fr 0
  have l1 := y1.fr 1
  have l2 := y1.fr 2
  have l3 := y1.fr 3
  simp only [List.getElem?_toArray, List.getElem?_cons_zero, List.getElem?_cons_succ] at f0 f1 f2 f3 k0 k1 k2 k3
  have Hy1 := Lib.hid y1; clear y1
  have Hy2 := Lib.hid y2; clear y2
  have Hhbw4 := Lib.hid hbw4; clear hbw4
  have Hho3 := Lib.hid ho3; clear ho3
  have Hhb4 := Lib.hid hb4; clear hb4
  clear z1 z2
  go_wp2
  have q1 := ((((Hy1.out.set_ne ⟨w.heap.size + 1 + 1, 3, none⟩ (.slice b3 n.ends.length d3) (show w.heap.size + 1 ≠ w.heap.size + 1 + 1 by omega)).set 0 (.int .i64 n.states)).set 1 (.slice b1 n.moves.length d1)).set 2 (.slice b2 n.firsts.length d2)).set 3 (.slice b3 n.ends.length d3)
  have s0 := q1.cell 0
  have s1 := q1.cell 1
  have s2 := q1.cell 2
  have s3 := q1.cell 3
  simp only [List.getElem?_toArray, List.getElem?_cons_zero, List.getElem?_cons_succ, List.setIfInBounds_toArray, List.set_cons_zero, List.set_cons_succ] at s0 s1 s2 s3
  have on2 : Only (w.heap.size + 1) (w.heap.size + 3) w2 v2 := by rw [Hhv2.out]; exact (Only.refl _ _ _).setCell (by simp) (by simp) _
  have on3 : Only (w.heap.size + 1) (w.heap.size + 3) w3 v3 := by rw [Hhv3.out]; exact (Only.refl _ _ _).setCell (by simp) (by simp) _
  have on4 := (((((Only.refl (w.heap.size + 1) (w.heap.size + 3) w4).setCell (a := ⟨w.heap.size + 1 + 1, 3, none⟩) (by simp) (by simp) (.slice b3 n.ends.length d3)).setCell (a := ⟨w.heap.size + 1, 0, none⟩) (by simp) (by simp) (.int .i64 n.states)).setCell (a := ⟨w.heap.size + 1, 1, none⟩) (by simp) (by simp) (.slice b1 n.moves.length d1)).setCell (a := ⟨w.heap.size + 1, 2, none⟩) (by simp) (by simp) (.slice b2 n.firsts.length d2)).setCell (a := ⟨w.heap.size + 1, 3, none⟩) (by simp) (by simp) (.slice b3 n.ends.length d3)
  have hW3 := HhWs.out
  have hv2s := Hhsv2.out
  have hv3s := Hhsv3.out
  refine bodyPost_ret (v := .agg #[.int .i64 n.states, .slice b1 n.moves.length d1, .slice b2 n.firsts.length d2, .slice b3 n.ends.length d3]) (by simp [results, Try.results43, go_sem, s0, s1, s2, s3]) rfl ⟨⟨_, _, _, _, _, _, rfl, _, _, _, rfl, ?_, ?_, ?_, hst.1, hst.2, ?_⟩, ?_⟩
  · exact (OMoves.only (lo' := w.heap.size + 1) (hi' := w.heap.size + 3) Hho1.out (((((on2.next Hhb3.out).trans on3).next Hhb4.out)).trans on4) (Or.inr (by omega))).mono (by omega) (by simp only [setCell_size]; omega)
  · exact (OInts.only (lo' := w.heap.size + 1) (hi' := w.heap.size + 3) Hho2.out ((on3.next Hhb4.out).trans on4) (Or.inr (by omega))).mono (by omega) (by simp only [setCell_size]; omega)
  · exact (OInts.only (lo' := w.heap.size + 1) (hi' := w.heap.size + 3) Hho3.out on4 (Or.inr (by omega))).mono (by omega) (by simp only [setCell_size]; omega)
  · intro k hk2 hk3
    have a1 := (Own.lt Hho2.out k hk2).2.1
    have a2 := (Own.lt Hho3.out k hk3).1
    omega
  · exact ((((Hhbw4.out.setCell (by simp; omega) _).setCell (by simp) _).setCell (by simp) _).setCell (by simp) _).setCell (by simp) _

set_option maxHeartbeats 1600000 in
theorem eqNfa_any (n m : NfaD) (v1 v2 : Value) (w : World) (h1 : NfaR 0 w v1 n) (h2 : NfaR 0 w v2 m) (r : Bool) (hr : decide (n = m) = r) :
    Calls Try.prog 45 #[v1, v2] w fun e w' => e = .returned (.bool r) ∧ Below w.heap.size w w' := by
  obtain ⟨u1, u2, u3, rfl, g1, g2, g3, -⟩ := h1
  obtain ⟨u4, u5, u6, rfl, g4, g5, g6, -⟩ := h2
  obtain ⟨ns, nm, nf, ne⟩ := n
  obtain ⟨ms, mm, mf, me⟩ := m
  simp only at g1 g2 g3 g4 g5 g6
  have hb : Below w.heap.size w ((w.alloc (.cells #[.int .i64 ns, u1, u2, u3] 46)).alloc (.cells #[.int .i64 ms, u4, u5, u6] 46)) := ((Below.refl _ _).alloc (Nat.le_refl _) _).alloc (by simp) _
  have x0 : Bx ((w.alloc (.cells #[.int .i64 ns, u1, u2, u3] 46)).alloc (.cells #[.int .i64 ms, u4, u5, u6] 46)) w.heap.size #[.int .i64 ns, u1, u2, u3] 46 := (Bx.new w _ _).alloc _
  have x1 : Bx ((w.alloc (.cells #[.int .i64 ns, u1, u2, u3] 46)).alloc (.cells #[.int .i64 ms, u4, u5, u6] 46)) (w.heap.size + 1) #[.int .i64 ms, u4, u5, u6] 46 := by simpa using Bx.new (w.alloc (.cells #[.int .i64 ns, u1, u2, u3] 46)) #[.int .i64 ms, u4, u5, u6] 46
  have HB := Lib.hid hb
  have HX0 := Lib.hid x0
  have HX1 := Lib.hid x1
  have G1 := Lib.hid g1
  have G2 := Lib.hid g2
  have G3 := Lib.hid g3
  have G4 := Lib.hid g4
  have G5 := Lib.hid g5
  have G6 := Lib.hid g6
  have Hhr := Lib.hid hr; clear hr
  clear g1 g2 g3 g4 g5 g6 hb x0 x1
  by_cases hs : ns = ms
  · subst hs
    go_enter Try.func45, Try.ntmps45
    go_wp2_with fail
    cases hm : decide (nm = mm)
    · have Hhm := Lib.hid hm; clear hm
      refine (eqMoveS_any nm mm _ _ _ (G1.out.below HB.out) (G4.out.below HB.out) _ Hhm.out).mono ?_
      rintro e w1 ⟨rfl, hb1⟩
      replace HB := Lib.hid (HB.out.trans (hb1.mono HB.out.size))
      clear hb1
      go_wp2
      go_ret
      exact ⟨by rw [← Hhr.out, decide_eq_false]; rfl; intro h; have := Hhm.out; simp_all, HB.out⟩
    · have Hhm := Lib.hid hm; clear hm
      refine (eqMoveS_any nm mm _ _ _ (G1.out.below HB.out) (G4.out.below HB.out) _ Hhm.out).mono ?_
      rintro e w1 ⟨rfl, hb1⟩
      replace HB := Lib.hid (HB.out.trans (hb1.mono HB.out.size))
      replace HX0 := Lib.hid (HX0.out.below hb1 HX0.out.lt)
      replace HX1 := Lib.hid (HX1.out.below hb1 HX1.out.lt)
      clear hb1
      have e2 := HX0.out.cell 2
      have f2 := HX1.out.cell 2
      simp only [List.getElem?_toArray, List.getElem?_cons_zero, List.getElem?_cons_succ] at e2 f2
      go_wp2_with fail
      clear e2 f2
      cases hf : decide (nf = mf)
      · have Hhf := Lib.hid hf; clear hf
        refine (eqIntS_any nf mf _ _ _ (G2.out.below HB.out) (G5.out.below HB.out) _ Hhf.out).mono ?_
        rintro e w1 ⟨rfl, hb1⟩
        replace HB := Lib.hid (HB.out.trans (hb1.mono HB.out.size))
        clear hb1
        go_wp2
        go_ret
        exact ⟨by rw [← Hhr.out, decide_eq_false]; rfl; intro h; have := Hhf.out; simp_all, HB.out⟩
      · have Hhf := Lib.hid hf; clear hf
        refine (eqIntS_any nf mf _ _ _ (G2.out.below HB.out) (G5.out.below HB.out) _ Hhf.out).mono ?_
        rintro e w1 ⟨rfl, hb1⟩
        replace HB := Lib.hid (HB.out.trans (hb1.mono HB.out.size))
        replace HX0 := Lib.hid (HX0.out.below hb1 HX0.out.lt)
        replace HX1 := Lib.hid (HX1.out.below hb1 HX1.out.lt)
        clear hb1
        have e3 := HX0.out.cell 3
        have f3 := HX1.out.cell 3
        simp only [List.getElem?_toArray, List.getElem?_cons_zero, List.getElem?_cons_succ] at e3 f3
        go_wp2_with fail
        clear e3 f3
        cases he : decide (ne = me)
        all_goals
          have Hhe := Lib.hid he; clear he
          refine (eqIntS_any ne me _ _ _ (G3.out.below HB.out) (G6.out.below HB.out) _ Hhe.out).mono ?_
          rintro e w1 ⟨rfl, hb1⟩
          replace HB := Lib.hid (HB.out.trans (hb1.mono HB.out.size))
          clear hb1
          go_wp2
          go_ret
        · exact ⟨by rw [← Hhr.out, decide_eq_false]; rfl; intro h; have := Hhe.out; simp_all, HB.out⟩
        · exact ⟨by rw [← Hhr.out, decide_eq_true]; rfl; rw [of_decide_eq_true Hhm.out, of_decide_eq_true Hhf.out, of_decide_eq_true Hhe.out], HB.out⟩
  · have hs1 : (ns != ms) = true := by simpa using hs
    have hs2 : (!(ns == ms)) = true := by simpa using hs
    have Hhs := Lib.hid hs; clear hs
    go_enter Try.func45, Try.ntmps45
    go_wp2
    go_ret
    exact ⟨by rw [← Hhr.out, decide_eq_false]; rfl; intro h; exact Hhs.out (congrArg NfaD.states h), HB.out⟩

/-- Marks. -/
def upMoves (k : Int) (n : Nat) : List (Int × Int × Int) := (List.range n).map fun (i : Nat) => (k + 3 * i, k + 3 * i + 1, k + 3 * i + 2)
theorem upMoves_len (k : Int) (n : Nat) : (upMoves k n).length = n := by simp [upMoves]
theorem upMoves_getD {k : Int} {n j : Nat} (h : j < n) : (upMoves k n).getD j (0, 0, 0) = (k + 3 * j, k + 3 * j + 1, k + 3 * j + 2) := by simp [upMoves, h]
set_option maxRecDepth 100000 in
set_option maxHeartbeats 1600000 in
theorem markMoves_any (xs : List (Int × Int × Int)) (k : Int) (lo hi : Nat) (v : Value) (w : World) (hk0 : 0 ≤ k) (hk1 : k ≤ 10000000000) (hx : xs.length ≤ 100000000) (h : OMoves 53 lo hi w v xs) :
    Calls Try.prog 114 #[v, .int .i64 k] w fun en w' => en = .returned (.int .i64 (k + 3 * xs.length)) ∧ OMoves 53 lo hi w' v (upMoves k xs.length) ∧ w.grownBy w' v.ownBlock := by
  obtain ⟨n, hn⟩ : ∃ n, n = xs.length := ⟨_, rfl⟩
  unfold OMoves at h
  rw [← hn] at h hx
  rw [← hn]
  by_cases hx0 : n = 0
  · subst hx0
    obtain ⟨a1, c1, rfl, -⟩ := (Own.sl h (by omega)).form
    go_enter Try.func114, Try.ntmps114
    go_wp2
    go_loop [1, 5] (fun kv i => kv = .int .i64 k ∧ i = .int .i64 0) (fun _ _ => 0)
    case atStart => exact ⟨rfl, rfl⟩
    case round =>
      obtain ⟨rfl, rfl⟩ := hrel
      have Hh := Lib.hid h
      clear h hn
      go_wp2
      go_ret
      refine ⟨ret_int (by simp), ?_, World.grownBy.refl _ _⟩
      have hl := Hh.out.1.1
      have : xs.flatMap moveCells = [] := List.eq_nil_of_length_eq_zero (by omega)
      have h2 := Hh.out
      rw [this] at h2
      simpa [upMoves, OMoves] using h2
  obtain ⟨g, cap, rfl, hg0, hg1⟩ := h.1.form (by omega)
  have Hh := Lib.hid h
  have Hhn := Lib.hid hn; clear hn
  clear h
  go_enter Try.func114, Try.ntmps114
  go_wp2
  go_loopw [1, 5] (fun kv i wr => ∃ j : Nat, j ≤ n ∧ i = .int .i64 j ∧ kv = .int .i64 (k + 3 * j) ∧ w.grownBy wr (some g) ∧ ∃ cs, wr.ownsRow lo 53 3 (.slice (some ⟨g, 0, none⟩) n cap) n cs ∧ cs.take (j * 3) = ((upMoves k n).flatMap moveCells).take (j * 3))
    (fun _ i _ => n - (intOf i).toNat)
  case atStart => exact ⟨0, Nat.zero_le _, rfl, by simp, World.grownBy.refl _ _, _, Hh.out.1, rfl⟩
  case round =>
    obtain ⟨j, hj, rfl, rfl, hgr, cs, hown, htk⟩ := hrel
    have hlen := hown.1
    have Hhtk := Lib.hid htk; clear htk
    have Hhown := Lib.hid hown; clear hown
    have Hhgr := Lib.hid hgr; clear hgr
    by_cases hlt : j < n
    · obtain ⟨u0, hold⟩ := row_some Hhown.out (j * 3) (by omega)
      obtain ⟨u1, hold1⟩ := row_some Hhown.out (j * 3 + 1) (by omega)
      obtain ⟨u2, hold2⟩ := row_some Hhown.out (j * 3 + 2) (by omega)
      have hfr : wr.frozen? ⟨g, j * 3, none⟩ = false := Hhown.out.frozenAt _
      have hfr1 : wr.frozen? ⟨g, j * 3 + 1, none⟩ = false := Hhown.out.frozenAt _
      have hfr2 : wr.frozen? ⟨g, j * 3 + 2, none⟩ = false := Hhown.out.frozenAt _
      have hkj0 : 0 ≤ k + 3 * (j : Int) := by omega
      have hkj1 : k + 3 * (j : Int) ≤ 20000000000 := by omega
      have Hhlen := Lib.hid hlen; clear hlen
      go_wp2
      go_roundw
      case rel =>
        refine ⟨j + 1, by omega, by go_num, by first | go_num | (congr 1; push_cast; omega), ((Hhgr.out.trans (grown_set _ _ _ _)).trans (grown_set _ _ _ _)).trans (grown_set _ _ _ _), _, ((((Hhown.out.stored (j * 3) _).1).stored (j * 3 + 1) _).1.stored (j * 3 + 2) _).1, ?_⟩
        have hf := flatM_get (upMoves k n) j (by rw [upMoves_len]; exact hlt)
        rw [upMoves_getD hlt] at hf
        have s1 := cells_set (n := n * 3) (k := j * 3) Hhlen.out (by rw [flatM_len, upMoves_len]) (by omega) Hhtk.out hf.1
        have s2 := cells_set (n := n * 3) (k := j * 3 + 1) (by simpa using Hhlen.out) (by rw [flatM_len, upMoves_len]) (by omega) s1 hf.2.1
        have s3 := cells_set (n := n * 3) (k := j * 3 + 2) (by simpa using Hhlen.out) (by rw [flatM_len, upMoves_len]) (by omega) s2 hf.2.2
        rw [show (j + 1) * 3 = j * 3 + 2 + 1 from by omega]
        first | exact s3 | (simp only [Int.add_assoc] at s3 ⊢; exact s3)
      case measure => simp [intOf]; omega
    · obtain rfl : j = n := by omega
      have Hhlen := Lib.hid hlen; clear hlen
      go_wp2
      go_ret
      have he : cs = (upMoves k j).flatMap moveCells := by
        have h := Hhtk.out
        rwa [List.take_of_length_le (by have := Hhlen.out; omega), List.take_of_length_le (by rw [flatM_len, upMoves_len]; exact Nat.le_refl _)] at h
      refine ⟨rfl, ?_, Hhgr.out⟩
      unfold OMoves
      rw [upMoves_len, ← he]
      exact ⟨Hhown.out, Hh.out.2⟩
set_option maxHeartbeats 1600000 in
theorem markNfa_any (n : NfaD) (k : Int) (lo hi : Nat) (v : Value) (w : World) (hk0 : 0 ≤ k) (hk1 : k ≤ 4000000000) (hb : n.moves.length ≤ 100000000 ∧ n.firsts.length ≤ 100000000 ∧ n.ends.length ≤ 100000000 ∧ totM n ≤ 4000000) (_ : hi ≤ w.heap.size) (h : NfaO 53 3 lo hi w v n) :
    Calls Try.prog 46 #[v, .int .i64 k] w fun en w' => en = .returned (.int .i64 (k + totM n)) ∧ True ∧ Only lo hi w w' := by
  obtain ⟨u1, u2, u3, rfl, g1, g2, g3, -, -, hdis⟩ := h
  obtain ⟨hb1, hb2, hb3, hb4⟩ := hb
  have hbl : Below w.heap.size w (w.alloc (.cells #[.int .i64 n.states, u1, u2, u3] 46)) := (Below.refl _ _).alloc (Nat.le_refl _) _
  have x0 := Bx.new w #[.int .i64 n.states, u1, u2, u3] 46
  have f1 := Own.below g1 hbl
  have f2 := Own.below g2 hbl
  have f3 := Own.below g3 hbl
  have HO : Hid (Only lo hi w (w.alloc (.cells #[.int .i64 n.states, u1, u2, u3] 46))) := Lib.hid (Only.of_below hbl)
  have c1 := x0.cell 1
  simp only [List.getElem?_toArray, List.getElem?_cons_zero, List.getElem?_cons_succ] at c1
  have Hx0 := Lib.hid x0; clear x0
  have Hf1 := Lib.hid f1; clear f1
  have Hf2 := Lib.hid f2; clear f2
  have Hf3 := Lib.hid f3; clear f3
  have Hhdis := Lib.hid hdis; clear hdis
  clear g1 g2 g3 hbl
  go_enter Try.func46, Try.ntmps46
  go_wp2_with fail
  clear c1
  refine (markMoves_any n.moves k lo hi _ _ hk0 (by omega) hb1 Hf1.out).mono ?_
  rintro e w2 ⟨rfl, -, hg⟩
  have ht := Touch.of_grown Hf1.out hg
  have y0 := Hx0.out.touch ht (by decide)
  have g2 := Hf2.out.touch ht (by decide)
  have g3 := Hf3.out.touch ht (by decide)
  replace HO := Lib.hid (HO.out.trans ht.only)
  have c2 := y0.cell 2
  simp only [List.getElem?_toArray, List.getElem?_cons_zero, List.getElem?_cons_succ] at c2
  have hk2 : 0 ≤ k + 3 * (n.moves.length : Int) := by omega
  have Hy0 := Lib.hid y0; clear y0
  have Hg2 := Lib.hid g2; clear g2
  have Hg3 := Lib.hid g3; clear g3
  clear hg ht
  go_wp2_with fail
  clear c2
  refine (markInts_any n.firsts (k + 3 * n.moves.length) lo hi _ _ hk2 (by omega) hb2 Hg2.out).mono ?_
  rintro e w3 ⟨rfl, -, hg⟩
  have ht := Touch.of_grown Hg2.out hg
  have z0 := Hy0.out.touch ht (by decide)
  have k3 : OInts 3 lo hi w3 u3 n.ends := Own.kept Hg3.out fun j hj => hg.block j (Own.lt Hg3.out j hj).2.2 fun hr => Hhdis.out j hr.symm hj
  replace HO := Lib.hid (HO.out.trans ht.only)
  have c3 := z0.cell 3
  simp only [List.getElem?_toArray, List.getElem?_cons_zero, List.getElem?_cons_succ] at c3
  have hk3 : 0 ≤ k + 3 * (n.moves.length : Int) + (n.firsts.length : Int) := by omega
  have Hz0 := Lib.hid z0; clear z0
  have Hk3 := Lib.hid k3; clear k3
  clear hg ht
  go_wp2_with fail
  clear c3
  refine (markInts_any n.ends (k + 3 * n.moves.length + n.firsts.length) lo hi _ _ hk3 (by omega) hb3 Hk3.out).mono ?_
  rintro e w4 ⟨rfl, -, hg⟩
  have ht := Touch.of_grown Hk3.out hg
  replace HO := Lib.hid (HO.out.trans ht.only)
  clear hg ht
  go_wp2
  go_ret
  exact ⟨ret_int (by unfold totM; push_cast; omega), trivial, HO.out⟩
end Go.Proofs.Ytolkifpeblbfcaa
