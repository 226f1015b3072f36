/-
  The walks over the program's learner: rows, and the start with the row of a word.
  Conditions: the language is a valid automaton; all words have letters below three and are at most 400000 long; the learner reads as such.
-/
import Derived.Test.YtclhcfmlkfiidaaWs
import Derived.Test.YtclhcfmlkfiidaaTo
namespace Go.Proofs.Ytclhcfmlkfiidaa
open Go.RowKit

/-- A slice of words. -/
def Strs (B : Nat) (w : World) (v : Value) (ws : List (List Nat)) : Prop := Sl B w v ws.length 1 (wdCells ws)
theorem Strs.below {B : Nat} {w w' : World} {v : Value} {ws : List (List Nat)} (h : Strs B w v ws) (he : Below w.heap.size w w') : Strs B w' v ws := Sl.below h he
theorem Strs.form {B : Nat} {w : World} {v : Value} {ws : List (List Nat)} (h : Strs B w v ws) : ∃ a cap, v = .slice a ws.length cap ∧ ws.length ≤ cap ∧ cap ≤ 9223372036854775807 ∧
    (0 < ws.length → ∃ b off, a = some ⟨b, off, none⟩ ∧ b < w.heap.size ∧ ∀ j, j < ws.length → w.cell? ⟨b, off + j, none⟩ = some (.string (wdB (ws.getD j [])))) := by
  obtain ⟨hl, a, cap, hv, h1, h2, h3⟩ := h
  refine ⟨a, cap, hv, h1, h2, fun hn => ?_⟩
  obtain ⟨b, off, ha, hb, hlt, hc⟩ := h3 hn
  refine ⟨b, off, ha, hlt, fun j hj => ?_⟩
  rw [hc j (by omega)]
  simp [hj]
/-- The learner in memory. -/
structure LMem (w : World) (b : Nat) (vn ve vs vr : Value) (d : DfaD) (st re : List (List Nat)) : Prop where
  box : Bx w b #[vn, ve, vs, vr] 113
  lang : DfaR 0 w (.agg #[vn, ve]) d
  st : Strs 0 w vs st
  re : Strs 0 w vr re
theorem LMem.below {w w' : World} {b : Nat} {vn ve vs vr : Value} {d : DfaD} {st re : List (List Nat)} (h : LMem w b vn ve vs vr d st re) (hb : Below w.heap.size w w') : LMem w' b vn ve vs vr d st re :=
  ⟨h.box.below hb h.box.lt, h.lang.below hb, h.st.below hb, h.re.below hb⟩
/-- Words that may be asked. -/
def okWs (ws : List (List Nat)) : Prop := ∀ x ∈ ws, isW x ∧ x.length ≤ 400000
def ROwnB (B : Nat) (xs : List Bool) (e : Ending) (w' : World) : Prop := ∃ a cap, e = .returned (.slice a xs.length cap) ∧ w'.ownsRow B 4 1 (.slice a xs.length cap) xs.length (boolCells xs)
theorem add_words (s r : List Nat) (hs : s.length ≤ 400000) (hr : r.length ≤ 400000) : (∀ w' : World, (Op.stringOp .add (wdB s) (wdB r)).run Try.prog w' = .ok (.string (wdB (s ++ r))) w') ∧ ¬ 9223372036854775807 < (wdB s).size + (wdB r).size := by
  have h1 := wdB_size s
  have h2 := wdB_size r
  refine ⟨fun w' => ?_, by omega⟩
  rw [← wdB_append]
  exact run_string_add_sum w' _ _ (by omega)

set_option maxHeartbeats 1600000 in
theorem lrow_any (d : DfaD) (st re : List (List Nat)) (s : List Nat) (b : Nat) (vn ve vs vr : Value) (w : World) (hd : dfaOk d.next d.ends = true) (hre : okWs re) (hrl : re.length ≤ 100000) (hs : isW s) (hsl : s.length ≤ 400000) (h : LMem w b vn ve vs vr d st re) :
    Calls Try.prog 123 #[.pointer (some ⟨b, 0, none⟩), .string (wdB s)] w fun e w' => ROwnB w.heap.size (rowW d re s) e w' ∧ Below w.heap.size w w' := by
  obtain ⟨ar, cr, rfl, hc1, hc2, hcs⟩ := h.re.form
  have HL := Lib.hid h
  have hbl := h.box.lt
  have c0 := h.box.cell 0
  have c1 := h.box.cell 1
  have c3 := h.box.cell 3
  simp only [List.getElem?_toArray, List.getElem?_cons_zero, List.getElem?_cons_succ] at c0 c1 c3
  obtain ⟨i0, hi, hz0, hz1, hz2⟩ := info_parts Try.infoBool
  obtain ⟨n, hn⟩ : ∃ n, n = re.length := ⟨_, rfl⟩
  have hxl : (rowW d re s).length = n := by rw [rowW_len, hn]
  obtain ⟨xs, hxs⟩ : ∃ xs, xs = rowW d re s := ⟨_, rfl⟩
  have hxat : ∀ j, j < n → (boolCells xs)[j]? = some (.bool (accD d (s ++ re.getD j []))) := fun j hj => by
    rw [hxs]
    rw [hn] at hj
    simp [rowW, hj]
  rw [← hxs] at hxl
  rw [← hxs]
  rw [← hn] at hc1 hcs hrl c3
  have hxcl : (boolCells xs).length = n := by simpa using hxl
  have Hhcs := Lib.hid hcs; clear hcs
  have Hhn := Lib.hid hn; clear hn
  have Hhxl := Lib.hid hxl; clear hxl
  have Hhxs := Lib.hid hxs; clear hxs
  have Hhxat := Lib.hid hxat; clear hxat
  have Hhxcl := Lib.hid hxcl; clear hxcl
  have Hhd := Lib.hid hd; clear hd
  have Hhre := Lib.hid hre; clear hre
  have Hhs := Lib.hid hs; clear hs
  clear h
  go_enter Try.func123, Try.ntmps123
  go_wp2_with (at_make; refine wpList_make_full _ rfl _ _ 23 rfl w.heap.size 4 i0 (.bool false) 1 Try.underlying23 hi hz0 hz1 .i64 .i64 _ _ n rfl rfl rfl rfl (by rw [hz2]; omega) (by unfold maxLen; omega) (Nat.le_refl _) ?_; intro w1 hown hgrow; have hS := (St.start w).made ((Below.refl _ _).grown hgrow (Nat.le_refl _) (fun _ h => by cases h)) hown; have d0 := (bcell hS.bel b 0 hbl).trans c0; have d1 := (bcell hS.bel b 1 hbl).trans c1; have d3 := (bcell hS.bel b 3 hbl).trans c3; have HS := Lib.hid hS; clear hS hown hgrow)
  clear hi hz0 hz1 hz2 d0 d1 d3
  go_loopw [19] (fun i wr => ∃ (k : Nat) (cs : List Value), i = .int .i64 k ∧ k ≤ n ∧ cs.take k = (boolCells xs).take k ∧ St w wr [Ent.row 4 1 (.slice (some ⟨w.heap.size, 0, none⟩) n n) n cs])
    (fun i _ => n - (intOf i).toNat)
  case atStart => exact ⟨0, (madeCells (Value.bool false).cells (n * 1)).toList, rfl, Nat.zero_le _, by simp, HS.out⟩
  case round =>
    obtain ⟨k, cs, rfl, hk, htk, hS⟩ := hrel
    have hlen : cs.length = n := by have := (hS.row 0 rfl).1; omega
    by_cases hlt : k < n
    · obtain ⟨b1, o1, rfl, hb1, hc⟩ := Hhcs.out (by omega)
      have k1 := (bcell hS.bel b1 _ hb1).trans (hc k hlt)
      have hrk := Hhre.out _ (memD (d := []) (show k < re.length by rw [← Hhn.out]; exact hlt))
      have hxk := Hhxat.out k hlt
      obtain ⟨r, hr⟩ : ∃ r, r = re.getD k [] := ⟨_, rfl⟩
      rw [← hr] at k1 hrk hxk
      obtain ⟨hadd, hnlt⟩ := add_words s r hsl hrk.2
      have d0 := (bcell hS.bel b 0 hbl).trans c0
      have d1 := (bcell hS.bel b 1 hbl).trans c1
      have hacc := fun (w' : World) (hb : Below w.heap.size w w') => accepts_any d (s ++ r) (.agg #[vn, ve]) w' Hhd.out (isW_append Hhs.out hrk.1) (by rw [List.length_append]; have := hrk.2; omega) (HL.out.lang.below hb)
      have Hacc := Lib.hid hacc
      have Hhr := Lib.hid hr; clear hr
      have Hhrk := Lib.hid hrk; clear hrk
      have Hhxk := Lib.hid hxk; clear hxk
      have HhS := Lib.hid hS; clear hS
      have Hhtk := Lib.hid htk; clear htk
      have Hhlen := Lib.hid hlen; clear hlen
      clear hc hacc
      go_wp2_with fail
      refine (Hacc.out _ HhS.out.bel).mono ?_
      rintro e w2 ⟨rfl, hb2⟩
      have hS2 := HhS.out.call hb2
      obtain ⟨u0, hold⟩ := row_some (hS2.row 0 rfl) k (by omega)
      have f0 := hS2.rfr 0 k rfl
      have HhS2 := Lib.hid hS2; clear hS2
      clear hb2
      go_wp2
      go_roundw
      case rel =>
        refine ⟨k + 1, _, by go_num, by omega, ?_, HhS2.out.store 0 rfl k _⟩
        exact cells_set Hhlen.out Hhxcl.out hlt Hhtk.out Hhxk.out
      case measure => simp [intOf]; omega
    · obtain rfl : k = n := by omega
      have he : cs = boolCells xs := by
        rw [List.take_of_length_le (by omega), List.take_of_length_le (by rw [Hhxcl.out]; exact Nat.le_refl _)] at htk
        exact htk
      have HhS := Lib.hid hS; clear hS
      have Hhe := Lib.hid he; clear he
      go_wp2
      go_ret
      refine ⟨⟨some ⟨w.heap.size, 0, none⟩, k, by rw [Hhxl.out]; rfl, ?_⟩, HhS.out.bel⟩
      rw [Hhxl.out, ← Hhe.out]
      exact HhS.out.row 0 rfl

set_option maxHeartbeats 1600000 in
theorem equalB_any (xs ys : List Bool) (n : Nat) (v1 v2 : Value) (w : World) (hx : xs.length = n) (hy : ys.length = n) (h1 : Bools 0 w v1 xs) (h2 : Bools 0 w v2 ys) (r : Bool) (hr : decide (xs = ys) = r) :
    Calls Try.prog 126 #[v1, v2] w fun e w' => e = .returned (.bool r) ∧ Below w.heap.size w w' := by
  obtain ⟨a1, c1, rfl, hc1, hm1, hr1⟩ := h1.form
  obtain ⟨a2, c2, rfl, hc2, hm2, hr2⟩ := h2.form
  rw [hx] at hc1 hr1
  rw [hy] at hc2 hr2
  rw [hx, hy]
  have hnn : ((n : Int) != n) = false := by simp
  have Hhx := Lib.hid hx; clear hx
  have Hhy := Lib.hid hy; clear hy
  have Hhr := Lib.hid hr; clear hr
  clear h1 h2
  go_enter Try.func126, Try.ntmps126
  go_wp2
  go_loopw [4, 13] (fun r i wr => ∃ k : Nat, k ≤ n ∧ i = .int .i64 k ∧ xs.take k = ys.take k ∧ Below w.heap.size w wr) (fun _ i _ => n - (intOf i).toNat)
  case atStart => exact ⟨0, Nat.zero_le _, rfl, rfl, Below.refl _ _⟩
  case round =>
    obtain ⟨k, hk, rfl, htk, hb⟩ := hrel
    have Hhtk := Lib.hid htk; clear htk
    by_cases hlt : k < n
    · obtain ⟨b1, o1, rfl, -, hbl1, hcs1⟩ := hr1 (by omega)
      obtain ⟨b2, o2, rfl, -, hbl2, hcs2⟩ := hr2 (by omega)
      have k1 := (bcell hb b1 (o1 + k) hbl1).trans (hcs1 k hlt)
      have k2 := (bcell hb b2 (o2 + k) hbl2).trans (hcs2 k hlt)
      obtain ⟨p, hp⟩ : ∃ p, p = xs.getD k false := ⟨_, rfl⟩
      obtain ⟨q, hq⟩ : ∃ q, q = ys.getD k false := ⟨_, rfl⟩
      rw [← hp] at k1
      rw [← hq] at k2
      have Hhp := Lib.hid hp; clear hp
      have Hhq := Lib.hid hq; clear hq
      have Hhb := Lib.hid hb; clear hb
      clear hcs1 hcs2 hr1 hr2
      by_cases hpq : p = q
      · have g1 : (p != q) = false := by simpa using hpq
        have g2 : (!(p == q)) = false := by simpa using hpq
        have Hhpq := Lib.hid hpq; clear hpq
        go_wp2
        go_quiet (fail)
        go_wp2
        go_roundw
        case rel => exact ⟨k + 1, by omega, by go_num, take_snoc_eq (d := false) (by rw [Hhx.out]; exact hlt) (by rw [Hhy.out]; exact hlt) Hhtk.out (by rw [← Hhp.out, ← Hhq.out]; exact Hhpq.out), below_drewN Hhb.out _⟩
        case measure => simp [intOf]; omega
      · have g1 : (p != q) = true := by simpa using hpq
        have g2 : (!(p == q)) = true := by simpa using hpq
        have Hhpq := Lib.hid hpq; clear hpq
        go_wp2
        go_quiet (fail)
        go_wp2
        go_ret
        exact ⟨by rw [← Hhr.out, decide_eq_false (ne_of_getD (k := k) (d := false) (by rw [← Hhp.out, ← Hhq.out]; exact Hhpq.out))]; rfl, below_drewN Hhb.out _⟩
    · obtain rfl : k = n := by omega
      have Hhb := Lib.hid hb; clear hb
      clear hr1 hr2
      go_wp2
      go_ret
      refine ⟨?_, Hhb.out⟩
      have h := Hhtk.out
      rw [List.take_of_length_le (by rw [Hhx.out]; exact Nat.le_refl _), List.take_of_length_le (by rw [Hhy.out]; exact Nat.le_refl _)] at h
      rw [← Hhr.out, decide_eq_true h]
      rfl

set_option maxHeartbeats 1600000 in
theorem start1_any (d : DfaD) (st re : List (List Nat)) (s x : List Nat) (b bl bo : Nat) (ov vn ve vs vr : Value) (w : World) (hd : dfaOk d.next d.ends = true) (hre : okWs re) (hrl : re.length ≤ 100000) (hx : isW x) (hxl : x.length ≤ 400000) (h : LMem w b vn ve vs vr d st re)
    (hbl : Bx w bl #[.pointer (some ⟨b, 0, none⟩)] 111) (hbo : Bx w bo #[ov] 23) (hov : Bools 0 w ov (rowW d re s)) (r : Bool) (hr : decide (rowW d re x = rowW d re s) = r) :
    Calls Try.prog 125 #[.string (wdB x), .pointer (some ⟨bl, 0, none⟩), .pointer (some ⟨bo, 0, none⟩)] w fun e w' => e = .returned (.bool r) ∧ Below w.heap.size w w' := by
  have c0 := hbl.cell 0
  have c1 := hbo.cell 0
  simp only [List.getElem?_toArray, List.getElem?_cons_zero] at c0 c1
  have h1 := hbl.lt
  have h2 := hbo.lt
  have Hk := Lib.hid (fun (w' : World) (h : Below w.drew.heap.size w.drew w') => (show w'.cell? ⟨bl, 0, none⟩ = some (.pointer (some ⟨b, 0, none⟩)) ∧ w'.cell? ⟨bo, 0, none⟩ = some ov from ⟨(bcell h _ _ h1).trans c0, (bcell h _ _ h2).trans c1⟩))
  have HL := Lib.hid (h.below (Below.refl _ _).drew)
  have HO := Lib.hid (hov.below (Below.refl _ _).drew)
  have Hhr := Lib.hid hr; clear hr
  have Hhre := Lib.hid hre; clear hre
  have Hhx := Lib.hid hx; clear hx
  have Hhd := Lib.hid hd; clear hd
  clear h hbl hbo hov
  go_enter Try.func125, Try.ntmps125
  go_wp2_with fail
  go_region_held3 (fun w' => w'.cell? ⟨bl, 0, none⟩ = some (.pointer (some ⟨b, 0, none⟩)) ∧ w'.cell? ⟨bo, 0, none⟩ = some ov)
    (first | go_keep | exact Hk.out _ hq0 | exact Hk.out _ hq1)
    (first
      | (go_at_call 123; (with_reducible refine (lrow_any d st re x b vn ve vs vr _ Hhd.out Hhre.out hrl Hhx.out hxl HL.out).mono ?_); rintro e u0 ⟨⟨a0, d0, rfl, hr0⟩, hq0⟩)
      | (go_at_call 126; (with_reducible refine (equalB_any (rowW d re x) (rowW d re s) re.length _ _ _ (rowW_len _ _ _) (rowW_len _ _ _) (bools_of_row hr0) (HO.out.below hq0) _ Hhr.out).mono ?_); rintro e u1 ⟨rfl, hb1⟩; have hq1 := hq0.trans (hb1.mono hq0.size)))
  go_wp2
  go_ret
  exact ⟨rfl, ((Below.refl _ _).drew).trans hq1⟩

set_option maxHeartbeats 1600000 in
theorem indexStart_any (d : DfaD) (st re : List (List Nat)) (s : List Nat) (b bl bo : Nat) (ov vn ve vs vr : Value) (w : World) (hd : dfaOk d.next d.ends = true) (hst : okWs st) (hsl : st.length ≤ 100000) (hre : okWs re) (hrl : re.length ≤ 100000) (h : LMem w b vn ve vs vr d st re)
    (hbl : Bx w bl #[.pointer (some ⟨b, 0, none⟩)] 111) (hbo : Bx w bo #[ov] 23) (hov : Bools 0 w ov (rowW d re s)) :
    Calls Try.prog 124 #[vs, .func (.func 125) #[] #[.pointer (some ⟨bl, 0, none⟩), .pointer (some ⟨bo, 0, none⟩)]] w fun e w' => e = .returned (.int .i64 (findB (st.map (rowW d re)) (rowW d re s))) ∧ Below w.heap.size w w' := by
  obtain ⟨a1, c1, rfl, hc1, hm1, hr1⟩ := h.st.form
  have HL := Lib.hid h
  have HBL := Lib.hid hbl
  have HBO := Lib.hid hbo
  have HOV := Lib.hid hov
  have Hhst := Lib.hid hst; clear hst
  have Hhre := Lib.hid hre; clear hre
  have Hhd := Lib.hid hd; clear hd
  clear h hbl hbo hov
  go_enter Try.func124, Try.ntmps124
  go_wp2
  go_loopw [4, 8] (fun r i wr => ∃ k : Nat, k ≤ st.length ∧ i = .int .i64 k ∧ rowW d re s ∉ (st.map (rowW d re)).take k ∧ Below w.heap.size w wr) (fun _ i _ => st.length - (intOf i).toNat)
  case atStart => exact ⟨0, Nat.zero_le _, rfl, by simp, Below.refl _ _⟩
  case round =>
    obtain ⟨k, hk, rfl, htk, hb⟩ := hrel
    have Hhtk := Lib.hid htk; clear htk
    by_cases hlt : k < st.length
    · obtain ⟨b1, o1, rfl, hbl1, hcs1⟩ := hr1 (by omega)
      have k1 := (bcell hb b1 _ hbl1).trans (hcs1 k hlt)
      have hxw := Hhst.out _ (memD (d := []) hlt)
      have hkm : k < (st.map (rowW d re)).length := by simpa using hlt
      have hin := fun h => take_snoc_mem (d := []) hkm (rowW d re s) h
      have hgk : (st.map (rowW d re)).getD k [] = rowW d re (st.getD k []) := by simp [hlt]
      obtain ⟨x, hx⟩ : ∃ x, x = st.getD k [] := ⟨_, rfl⟩
      rw [← hx] at k1 hxw hgk
      have Hhxw := Lib.hid hxw; clear hxw
      have Hhin := Lib.hid hin; clear hin
      have Hhgk := Lib.hid hgk; clear hgk
      have Hhx := Lib.hid hx; clear hx
      have Hhb := Lib.hid hb; clear hb
      clear hcs1 hr1
      cases hd' : decide (rowW d re x = rowW d re s)
      all_goals
        have Hhd' := Lib.hid hd'; clear hd'
        go_wp2_with fail
        refine (start1_any d st re s x b bl bo ov vn ve _ vr _ Hhd.out Hhre.out hrl Hhxw.out.1 Hhxw.out.2 (HL.out.below Hhb.out) (HBL.out.below Hhb.out HBL.out.lt) (HBO.out.below Hhb.out HBO.out.lt) (HOV.out.below Hhb.out) _ Hhd'.out).mono ?_
        rintro e w2 ⟨rfl, hb2⟩
        have hb3 := Hhb.out.trans (hb2.mono Hhb.out.size)
        have Hhb3 := Lib.hid hb3; clear hb3
        clear hb2
        go_wp2
      · go_roundw
        case rel => exact ⟨k + 1, by omega, by go_num, fun h => by rcases Hhin.out h with h | h; exact Hhtk.out h; exact of_decide_eq_false Hhd'.out (by rw [← Hhgk.out, ← h]), Hhb3.out⟩
        case measure => simp [intOf]; omega
      · go_ret
        exact ⟨ret_int (by rw [findB_at (by simpa using hlt) Hhtk.out (by rw [Hhgk.out]; exact of_decide_eq_true Hhd'.out)]), Hhb3.out⟩
    · obtain rfl : k = st.length := by omega
      have Hhb := Lib.hid hb; clear hb
      clear hr1
      go_wp2
      go_ret
      refine ⟨ret_int (by rw [findB_none]; have h := Hhtk.out; rwa [List.take_of_length_le (by simp)] at h), Hhb.out⟩

set_option maxHeartbeats 1600000 in
theorem startOf_any (d : DfaD) (st re : List (List Nat)) (s : List Nat) (b : Nat) (vn ve vs vr : Value) (w : World) (hd : dfaOk d.next d.ends = true) (hst : okWs st) (hsl : st.length ≤ 100000) (hre : okWs re) (hrl : re.length ≤ 100000) (hs : isW s) (hsn : s.length ≤ 400000) (h : LMem w b vn ve vs vr d st re) :
    Calls Try.prog 115 #[.pointer (some ⟨b, 0, none⟩), .string (wdB s)] w fun e w' => e = .returned (.int .i64 (findB (st.map (rowW d re)) (rowW d re s))) ∧ Below w.heap.size w w' := by
  have HL := Lib.hid h
  have hS := (St.start w).alloc _ rfl #[.pointer (some ⟨b, 0, none⟩)] 111
  have HhS := Lib.hid hS; clear hS
  have Hhst := Lib.hid hst; clear hst
  have Hhre := Lib.hid hre; clear hre
  have Hhs := Lib.hid hs; clear hs
  have Hhd := Lib.hid hd; clear hd
  clear h
  go_enter Try.func115, Try.ntmps115
  go_wp2_with fail
  refine (lrow_any d st re s b vn ve vs vr _ Hhd.out Hhre.out hrl Hhs.out hsn (HL.out.below HhS.out.bel)).mono ?_
  rintro e u ⟨⟨a0, d0, rfl, hr0⟩, hb⟩
  have hS2 := (HhS.out.made hb hr0).alloc _ rfl #[.slice a0 (rowW d re s).length d0] 23
  have e0 := hS2.cell (v := .pointer (some ⟨b, 0, none⟩)) 0 0 rfl rfl
  have hL2 := HL.out.below hS2.bel
  have e1 := hL2.box.cell 1
  have e2 := hL2.box.cell 2
  simp only [List.getElem?_toArray, List.getElem?_cons_zero, List.getElem?_cons_succ] at e1 e2
  have HhS2 := Lib.hid hS2; clear hS2
  have HhL2 := Lib.hid hL2; clear hL2
  clear hb hr0
  go_wp2_with fail
  refine (indexStart_any d st re s b w.heap.size u.heap.size (.slice a0 (rowW d re s).length d0) vn ve vs vr _ Hhd.out Hhst.out hsl Hhre.out hrl HhL2.out (HhS2.out.box 0 rfl) (HhS2.out.box 2 rfl) (bools_of_row (HhS2.out.row 1 rfl))).mono ?_
  rintro e w2 ⟨rfl, hb2⟩
  have hS3 := HhS2.out.call hb2
  have HhS3 := Lib.hid hS3; clear hS3
  go_wp2
  go_ret
  exact ⟨rfl, HhS3.out.bel⟩
end Go.Proofs.Ytclhcfmlkfiidaa
