/-
  Expressions as lists of parts, plain: what a part needs, how deep the stack is, where operands begin.
  No condition: this text speaks of no program.
  The walks over the reference's PartValid, PartNeeds, ExprValid, l12Plain, l2Start, l2Split.
  Conditions: the list of parts reads as such, and is not long.
-/
import Derived.Test.YtjcegbcmomfgaaaCp
import Derived.Test.YtjcegbcmomfgaaaDvi
import Derived.Test.YtjcegbcmomfgaaaProd
import Derived.Test.YtjcegbcmomfgaaaCtx
import Derived.BigQuiet
namespace Go.Proofs.Ytjcegbcmomfgaaa
open Go.RowKit

def pOk (p : Int × Int) : Bool := inB p.1 1 8 && (decide (p.1 = 3) && inB p.2 0 2 || (!decide (p.1 = 3) && decide (p.2 = 0)))
def pNeeds (p : Int × Int) : Int := if pOk p = true then (if p.1 = 1 ∨ p.1 = 2 ∨ p.1 = 3 then 0 else if p.1 = 7 ∨ p.1 = 8 then 1 else 2) else -1
theorem pNeeds_in (p : Int × Int) : -1 ≤ pNeeds p ∧ pNeeds p ≤ 2 := by
  unfold pNeeds
  split <;> (try split) <;> (try split) <;> omega
theorem pNeeds_ok {p : Int × Int} (h : 0 ≤ pNeeds p) : pOk p = true := by
  unfold pNeeds at h
  split at h
  · assumption
  · omega
/-- How many expressions stand there after k parts. -/
def dep (es : List (Int × Int)) : Nat → Int
  | 0 => 0
  | k + 1 => dep es k - pNeeds (es.getD k (0, 0)) + 1
theorem dep_in (es : List (Int × Int)) : ∀ k : Nat, -(2 * k : Int) ≤ dep es k ∧ dep es k ≤ 2 * k
  | 0 => by simp [dep]
  | k + 1 => by
    have ih := dep_in es k
    have := pNeeds_in (es.getD k (0, 0))
    unfold dep
    omega
def exAt (es : List (Int × Int)) (k : Nat) : Bool := decide (0 ≤ pNeeds (es.getD k (0, 0))) && decide (pNeeds (es.getD k (0, 0)) ≤ dep es k)
def exOk (es : List (Int × Int)) : Bool := (List.range es.length).all (exAt es) && decide (dep es es.length = 1) && decide (es.length ≤ 60)
theorem exOk_facts {es : List (Int × Int)} (h : exOk es = true) : (∀ k, k < es.length → 0 ≤ pNeeds (es.getD k (0, 0)) ∧ pNeeds (es.getD k (0, 0)) ≤ dep es k) ∧ dep es es.length = 1 ∧ 1 ≤ es.length ∧ es.length ≤ 60 := by
  simp only [exOk, exAt, Bool.and_eq_true, List.all_eq_true, List.mem_range, decide_eq_true_eq] at h
  refine ⟨h.1.1, h.1.2, ?_, h.2⟩
  cases es with
  | nil => have := h.1.2; simp [dep] at this
  | cons => simp
theorem exOk_bad {es : List (Int × Int)} {k : Nat} (hk : k < es.length) (h : exAt es k = false) : exOk es = false := by
  cases he : exOk es with
  | false => rfl
  | true =>
    obtain ⟨h1, -⟩ := exOk_facts he
    obtain ⟨a, b⟩ := h1 k hk
    simp only [exAt, decide_eq_true a, decide_eq_true b, Bool.and_self] at h
    cases h
/-- Behind the first part there is an expression. -/
theorem dep_pos {es : List (Int × Int)} (h : ∀ k, k < es.length → 0 ≤ pNeeds (es.getD k (0, 0)) ∧ pNeeds (es.getD k (0, 0)) ≤ dep es k) : ∀ k, 0 < k → k ≤ es.length → 1 ≤ dep es k
  | 0, h0, _ => by omega
  | k + 1, _, hk => by
    have := h k (by omega)
    unfold dep
    omega
/-- at is where the expression that ends behind n parts begins. -/
def beginsAt (es : List (Int × Int)) (n a : Nat) : Prop := a < n ∧ dep es a = dep es n - 1 ∧ ∀ j, a < j → j < n → dep es j ≠ dep es n - 1
theorem begins_ex {es : List (Int × Int)} {n : Nat} (h : ∀ k, k < n → 0 ≤ pNeeds (es.getD k (0, 0))) (hn : 1 ≤ dep es n) : ∃ a, beginsAt es n a := by
  have key : ∀ m, m ≤ n → (∀ j, m ≤ j → j < n → dep es j ≠ dep es n - 1) → (m = n ∨ dep es n ≤ dep es m) → ∃ a, beginsAt es n a := by
    intro m
    induction m with
    | zero =>
      intro _ hj hm
      exfalso
      have h0 : dep es 0 = 0 := rfl
      rcases hm with hm | hm
      · subst hm
        omega
      · omega
    | succ m ih =>
      intro hmn hj hm
      have hs : dep es (m + 1) = dep es m - pNeeds (es.getD m (0, 0)) + 1 := rfl
      have hp := h m (by omega)
      have hge : dep es n ≤ dep es (m + 1) := by
        rcases hm with hm | hm
        · rw [hm]; exact Int.le_refl _
        · exact hm
      by_cases he : dep es m = dep es n - 1
      · exact ⟨m, by omega, he, fun j h1 h2 => hj j (by omega) h2⟩
      · exact ih (by omega) (fun j h1 h2 => by
          by_cases hjm : j = m
          · rw [hjm]; exact he
          · exact hj j (by omega) h2) (Or.inr (by omega))
  exact key n (Nat.le_refl _) (fun j h1 h2 => by omega) (Or.inl rfl)
/-- Kinds without 'both' and 'not' alone. -/
def plainOk (es : List (Int × Int)) : Bool := es.all fun p => !(decide (p.1 = 6) || decide (p.1 = 7))
end Go.Proofs.Ytjcegbcmomfgaaa
namespace Go.Proofs.Ytjcegbcmomfgaaa
open Go.RowKit

theorem not_eqI {a b : Int} (h : a ≠ b) : (a == b) = false ∧ (a = b) = False ∧ (a != b) = true ∧ (!(a == b)) = true := by simp [h]
set_option maxHeartbeats 4000000 in
theorem partValid_any (k l : Int) (w : World) (r : Bool) (hr : pOk (k, l) = r) :
    Calls Try.prog 88 #[.agg #[.int .i64 k, .int .i64 l]] w fun e w' => e = .returned (.bool r) ∧ Below w.heap.size w w' := by
  unfold pOk at hr
  simp only at hr
  cases h1 : inB k 1 8
  · rw [h1, Bool.false_and] at hr
    subst hr
    have H1 := Lib.hid h1
    clear h1
    go_enter Try.func88, Try.ntmps88
    go_wp2_with (go_at_call 31; refine (l1In_any _ _ _ _ _ H1.out).mono ?_; rintro e w' ⟨rfl, rfl⟩)
    go_ret
    exact ⟨rfl, (Below.refl _ _).alloc (Nat.le_refl _) _⟩
  · rw [h1, Bool.true_and] at hr
    have H1 := Lib.hid h1
    clear h1
    by_cases h3 : k = 3
    · subst h3
      cases h2 : inB l 0 2
      · rw [h2] at hr
        have hr : false = r := hr
        subst hr
        have H2 := Lib.hid h2
        clear h2
        go_enter Try.func88, Try.ntmps88
        go_wp2_with (go_at_call 31; (first | (with_reducible refine (l1In_any _ _ _ _ _ H1.out).mono ?_) | (with_reducible refine (l1In_any _ _ _ _ _ H2.out).mono ?_)); rintro e w' ⟨rfl, rfl⟩)
        go_ret
        exact ⟨rfl, (Below.refl _ _).alloc (Nat.le_refl _) _⟩
      · rw [h2] at hr
        have hr : true = r := hr
        subst hr
        have H2 := Lib.hid h2
        clear h2
        go_enter Try.func88, Try.ntmps88
        go_wp2_with (go_at_call 31; (first | (with_reducible refine (l1In_any _ _ _ _ _ H1.out).mono ?_) | (with_reducible refine (l1In_any _ _ _ _ _ H2.out).mono ?_)); rintro e w' ⟨rfl, rfl⟩)
        go_ret
        exact ⟨rfl, (Below.refl _ _).alloc (Nat.le_refl _) _⟩
    · obtain ⟨q1, q2, q3, q4⟩ := not_eqI h3
      rw [decide_eq_false h3] at hr
      have Hh3 := Lib.hid h3; clear h3
      by_cases h0 : l = 0
      · subst h0
        have hr : true = r := hr
        subst hr
        go_enter Try.func88, Try.ntmps88
        go_wp2_with (go_at_call 31; refine (l1In_any _ _ _ _ _ H1.out).mono ?_; rintro e w' ⟨rfl, rfl⟩)
        go_ret
        exact ⟨rfl, (Below.refl _ _).alloc (Nat.le_refl _) _⟩
      · obtain ⟨p1, p2, p3, p4⟩ := not_eqI h0
        rw [decide_eq_false h0] at hr
        have hr : false = r := hr
        subst hr
        have Hh0 := Lib.hid h0; clear h0
        go_enter Try.func88, Try.ntmps88
        go_wp2_with (go_at_call 31; refine (l1In_any _ _ _ _ _ H1.out).mono ?_; rintro e w' ⟨rfl, rfl⟩)
        go_ret
        exact ⟨rfl, (Below.refl _ _).alloc (Nat.le_refl _) _⟩
set_option maxHeartbeats 4000000 in
theorem partNeeds_any (k l : Int) (w : World) (n : Int) (hn : pNeeds (k, l) = n) :
    Calls Try.prog 84 #[.agg #[.int .i64 k, .int .i64 l]] w fun e w' => e = .returned (.int .i64 n) ∧ Below w.heap.size w w' := by
  have hS0 := (St.start w).alloc _ rfl #[.int .i64 k, .int .i64 l] 111
  have e0 := hS0.cell (v := .int .i64 k) 0 0 rfl rfl
  have e1 := hS0.cell (v := .int .i64 l) 0 1 rfl rfl
  cases h : pOk (k, l)
  · have hn1 : n = -1 := by rw [← hn]; unfold pNeeds; rw [if_neg (by simp [h])]
    subst hn1
    have H := Lib.hid h
    have HhS0 := Lib.hid hS0; clear hS0
    clear hn h
    go_enter Try.func84, Try.ntmps84
    go_wp2_with fail
    refine (partValid_any k l _ _ H.out).mono ?_
    rintro e w1 ⟨rfl, hb1⟩
    have HS1 := Lib.hid (HhS0.out.call hb1)
    clear hb1
    go_wp2
    go_ret
    exact ⟨rfl, HS1.out.bel⟩
  · have hk : k = 1 ∨ k = 2 ∨ k = 3 ∨ k = 4 ∨ k = 5 ∨ k = 6 ∨ k = 7 ∨ k = 8 := by
      have h' := h
      unfold pOk at h'
      simp only [Bool.and_eq_true] at h'
      have := inB_true h'.1
      omega
    have hn1 : n = if k = 1 ∨ k = 2 ∨ k = 3 then 0 else if k = 7 ∨ k = 8 then 1 else 2 := by rw [← hn]; unfold pNeeds; rw [if_pos h]
    have H := Lib.hid h
    have HhS0 := Lib.hid hS0; clear hS0
    clear hn h
    rcases hk with rfl | rfl | rfl | rfl | rfl | rfl | rfl | rfl
    all_goals
      simp at hn1
      subst hn1
      go_enter Try.func84, Try.ntmps84
      go_wp2_with fail
      refine (partValid_any _ l _ _ H.out).mono ?_
      rintro e w1 ⟨rfl, hb1⟩
      have c0 := (HhS0.out.call hb1).cell (v := .int .i64 _) 0 0 rfl rfl
      have HS1 := Lib.hid (HhS0.out.call hb1)
      clear hb1
      go_wp2
      go_ret
      exact ⟨rfl, HS1.out.bel⟩
theorem flat_take (xs : List (Int × Int)) : ∀ n : Nat, (xs.take n).flatMap pairCells = (xs.flatMap pairCells).take (n * 2) := by
  induction xs with
  | nil => intro n; simp
  | cons x l ih =>
    intro n
    cases n with
    | zero => simp
    | succ n =>
      rw [List.take_succ_cons, List.flatMap_cons, List.flatMap_cons, ih n, show (n + 1) * 2 = n * 2 + 2 by omega]
      rfl
theorem flat_drop (xs : List (Int × Int)) : ∀ n : Nat, (xs.drop n).flatMap pairCells = (xs.flatMap pairCells).drop (n * 2) := by
  induction xs with
  | nil => intro n; simp
  | cons x l ih =>
    intro n
    cases n with
    | zero => simp
    | succ n =>
      rw [List.drop_succ_cons, List.flatMap_cons, ih n, show (n + 1) * 2 = n * 2 + 2 by omega]
      rfl
/-- A part of a list of pairs, as a slice of its slice. -/
theorem Pairs.take {w : World} {a : Option Addr} {len cap : Nat} {xs : List (Int × Int)} (h : Pairs 0 w (.slice a len cap) xs) {n : Nat} (hn : n ≤ xs.length) : Pairs 0 w (.slice a n cap) (xs.take n) := by
  obtain ⟨hl, a', cap', hv, h1, h2, h3⟩ := h
  simp only [Value.slice.injEq] at hv
  obtain ⟨rfl, rfl, rfl⟩ := hv
  have e : (xs.take n).length = n := by rw [List.length_take]; omega
  unfold Pairs
  rw [e]
  refine ⟨by rw [flat_take, List.length_take]; omega, a, cap, rfl, by omega, h2, fun hn0 => ?_⟩
  obtain ⟨b, off, ha, hb, hlt, hc⟩ := h3 (by omega)
  refine ⟨b, off, ha, hb, hlt, fun j hj => ?_⟩
  rw [hc j (by omega), flat_take, List.getElem?_take_of_lt hj]
theorem Pairs.drop {w : World} {b off len cap : Nat} {xs : List (Int × Int)} (h : Pairs 0 w (.slice (some ⟨b, off, none⟩) len cap) xs) {n : Nat} (hn : n < xs.length) : Pairs 0 w (.slice (some ⟨b, off + n * 2, none⟩) (xs.length - n) (cap - n)) (xs.drop n) := by
  obtain ⟨hl, a', cap', hv, h1, h2, h3⟩ := h
  simp only [Value.slice.injEq] at hv
  obtain ⟨rfl, rfl, rfl⟩ := hv
  unfold Pairs
  rw [List.length_drop]
  refine ⟨by rw [flat_drop, List.length_drop]; omega, _, _, rfl, by omega, by omega, fun hn0 => ?_⟩
  obtain ⟨b', off', ha, hb, hlt, hc⟩ := h3 (by omega)
  simp only [Option.some.injEq, Addr.mk.injEq, and_true] at ha
  obtain ⟨rfl, rfl⟩ := ha
  refine ⟨b, off + n * 2, rfl, hb, hlt, fun j hj => ?_⟩
  rw [show off + n * 2 + j = off + (n * 2 + j) by omega, hc _ (by omega), flat_drop, List.getElem?_drop]
set_option maxHeartbeats 4000000 in
theorem exprValid_any (es : List (Int × Int)) (v : Value) (w : World) (hlen : es.length ≤ 1000000) (h : Pairs 0 w v es) (r : Bool) (hr : exOk es = r) :
    Calls Try.prog 77 #[v] w fun e w' => e = .returned (.bool r) ∧ Below w.heap.size w w' := by
  obtain ⟨a, c, rfl, hc1, hc2, hrd⟩ := h.form
  have Hrd := Lib.hid hrd
  have Hr := Lib.hid hr
  clear h hr hrd
  go_enter Try.func77, Try.ntmps77
  go_wp2
  go_loopw [3, 4] (fun vd i wr => ∃ k : Nat, i = .int .i64 k ∧ k ≤ es.length ∧ vd = .int .i64 (dep es k) ∧ (∀ j, j < k → exAt es j = true) ∧ Below w.heap.size w wr) (fun _ i _ => es.length - (intOf i).toNat)
  case atStart => exact ⟨0, rfl, Nat.zero_le _, rfl, fun j hj => absurd hj (by omega), Below.refl _ _⟩
  case round =>
    obtain ⟨k, rfl, hk, rfl, hall, hb⟩ := hrel
    have hdi := dep_in es k
    have hds : dep es (k + 1) = dep es k - pNeeds (es.getD k (0, 0)) + 1 := rfl
    have hpi := pNeeds_in (es.getD k (0, 0))
    have hex : exAt es k = (decide (0 ≤ pNeeds (es.getD k (0, 0))) && decide (pNeeds (es.getD k (0, 0)) ≤ dep es k)) := rfl
    have Hall := Lib.hid hall
    have Hb := Lib.hid hb
    clear hall hb
    by_cases hlt : k < es.length
    · have hlt2 : (k : Int) < es.length := by omega
      obtain ⟨b, o, rfl, -, hbl, hcs⟩ := Hrd.out (by omega)
      obtain ⟨g1, g2⟩ := hcs k hlt
      have k1 := (bcell Hb.out b _ hbl).trans g1
      have k2 := (bcell Hb.out b _ hbl).trans g2
      obtain ⟨p, hp⟩ : ∃ p, p = es.getD k (0, 0) := ⟨_, rfl⟩
      rw [← hp] at k1 k2 hds hpi hex
      obtain ⟨p1, p2⟩ := p
      simp only at k1 k2
      obtain ⟨n, hn⟩ : ∃ n, n = pNeeds (p1, p2) := ⟨_, rfl⟩
      rw [← hn] at hds hpi hex
      obtain ⟨D, hD⟩ : ∃ D, D = dep es k := ⟨_, rfl⟩
      rw [← hD] at hds hdi hex
      rw [← hD]
      obtain ⟨hd1, hd2⟩ := hdi
      obtain ⟨hp1, hp2⟩ := hpi
      have Hds := Lib.hid hds
      have Hex := Lib.hid hex
      have Hhp := Lib.hid hp; clear hp
      have Hhn := Lib.hid hn; clear hn
      have HhD := Lib.hid hD; clear hD
      clear hds hex hcs g1 g2
      go_wp2_with fail
      refine (partNeeds_any p1 p2 _ _ Hhn.out.symm).mono ?_
      rintro e w1 ⟨rfl, hb1⟩
      have Hb1 := Lib.hid (Hb.out.trans (hb1.mono Hb.out.size))
      clear hb1 k1 k2
      by_cases hn0 : n < 0
      · have q1 : (n < 0) = True := by simp [hn0]
        have hrf : false = r := by rw [← Hr.out]; exact (exOk_bad hlt (by rw [Hex.out, decide_eq_false (by omega)]; rfl)).symm
        subst hrf
        go_wp2
        go_ret
        exact ⟨rfl, Hb1.out⟩
      · have q1 : (n < 0) = False := by simp; omega
        have hn1 : 0 ≤ n := by omega
        clear hn0
        by_cases hDn : D < n
        · have q2 : (D < n) = True := by simp [hDn]
          have hrf : false = r := by rw [← Hr.out]; exact (exOk_bad hlt (by rw [Hex.out, decide_eq_false (show ¬ n ≤ D by omega), Bool.and_false])).symm
          subst hrf
          go_wp2
          go_ret
          exact ⟨rfl, Hb1.out⟩
        · have q2 : (D < n) = False := by simp; omega
          have hDn1 : n ≤ D := by omega
          clear hDn
          go_wp2
          go_roundw
          case rel =>
            refine ⟨k + 1, by go_num, by omega, by rw [Hds.out], fun j hj => ?_, Hb1.out⟩
            by_cases e : j = k
            · rw [e, Hex.out, decide_eq_true hn1, decide_eq_true hDn1]
              rfl
            · exact Hall.out j (by omega)
          case measure => simp [intOf]; omega
    · obtain rfl : k = es.length := by omega
      have hro : exOk es = (decide (dep es es.length = 1) && decide (es.length ≤ 60)) := by
        unfold exOk
        rw [List.all_eq_true.2 (fun j hj => Hall.out j (List.mem_range.1 hj)), Bool.true_and]
      obtain ⟨D, hD⟩ : ∃ D, D = dep es es.length := ⟨_, rfl⟩
      rw [← hD] at hro
      rw [← hD]
      rw [Hr.out] at hro
      have Hro := Lib.hid hro
      have HhD := Lib.hid hD; clear hD
      clear hro hdi hds hpi hex
      by_cases hD1 : D = 1
      · subst hD1
        by_cases h60 : es.length ≤ 60
        · have q1 : ((es.length : Int) ≤ 60) = True := by simp; omega
          have hrt : true = r := by rw [Hro.out, decide_eq_true h60]; rfl
          subst hrt
          go_wp2
          go_ret
          exact ⟨rfl, Hb.out⟩
        · have q1 : ((es.length : Int) ≤ 60) = False := by simp; omega
          have hrt : false = r := by rw [Hro.out, decide_eq_false h60]; rfl
          subst hrt
          clear h60
          go_wp2
          go_ret
          exact ⟨rfl, Hb.out⟩
      · obtain ⟨q1, q2, q3, q4⟩ := not_eqI hD1
        have hrt : false = r := by rw [Hro.out, decide_eq_false hD1]; rfl
        subst hrt
        clear hD1
        go_wp2
        go_ret
        exact ⟨rfl, Hb.out⟩
set_option maxHeartbeats 4000000 in
theorem l12Plain_any (es : List (Int × Int)) (v : Value) (w : World) (hlen : es.length ≤ 1000000) (h : Pairs 0 w v es) (r : Bool) (hr : plainOk es = r) :
    Calls Try.prog 78 #[v] w fun e w' => e = .returned (.bool r) ∧ Below w.heap.size w w' := by
  obtain ⟨a, c, rfl, hc1, hc2, hrd⟩ := h.form
  have Hrd := Lib.hid hrd
  have Hr := Lib.hid hr
  clear h hr hrd
  go_enter Try.func78, Try.ntmps78
  go_wp2
  go_loopw [3] (fun i wr => ∃ k : Nat, i = .int .i64 k ∧ k ≤ es.length ∧ (∀ j, j < k → (es.getD j (0, 0)).1 ≠ 6 ∧ (es.getD j (0, 0)).1 ≠ 7) ∧ Below w.heap.size w wr) (fun i _ => es.length - (intOf i).toNat)
  case atStart => exact ⟨0, rfl, Nat.zero_le _, fun j hj => absurd hj (by omega), Below.refl _ _⟩
  case round =>
    obtain ⟨k, rfl, hk, hall, hb⟩ := hrel
    have Hall := Lib.hid hall
    have Hb := Lib.hid hb
    clear hall hb
    by_cases hlt : k < es.length
    · have hlt2 : (k : Int) < es.length := by omega
      obtain ⟨b, o, rfl, -, hbl, hcs⟩ := Hrd.out (by omega)
      obtain ⟨g1, -⟩ := hcs k hlt
      have k1 := (bcell Hb.out b _ hbl).trans g1
      obtain ⟨x, hx⟩ : ∃ x, x = (es.getD k (0, 0)).1 := ⟨_, rfl⟩
      rw [← hx] at k1
      have hbad : (x = 6 ∨ x = 7) → plainOk es = false := fun hbx => by
        unfold plainOk
        rw [List.all_eq_false]
        refine ⟨es.getD k (0, 0), mem_getD hlt, ?_⟩
        rw [← hx]
        rcases hbx with h | h <;> simp [h]
      have Hbad := Lib.hid hbad
      have Hhx := Lib.hid hx; clear hx
      clear hcs g1 hbad
      by_cases h6 : x = 6
      · subst h6
        have hrf : false = r := by rw [← Hr.out]; exact (Hbad.out (Or.inl rfl)).symm
        subst hrf
        go_wp2
        go_ret
        exact ⟨rfl, Hb.out⟩
      · obtain ⟨q1, q2, q3, q4⟩ := not_eqI h6
        by_cases h7 : x = 7
        · subst h7
          have hrf : false = r := by rw [← Hr.out]; exact (Hbad.out (Or.inr rfl)).symm
          subst hrf
          clear h6 q1 q2 q3 q4
          go_wp2
          go_ret
          exact ⟨rfl, Hb.out⟩
        · obtain ⟨z1, z2, z3, z4⟩ := not_eqI h7
          have H6 := Lib.hid h6
          have H7 := Lib.hid h7
          clear h6 h7
          go_wp2
          go_roundw
          case rel =>
            refine ⟨k + 1, by go_num, by omega, fun j hj => ?_, Hb.out⟩
            by_cases e : j = k
            · rw [e, ← Hhx.out]
              exact ⟨H6.out, H7.out⟩
            · exact Hall.out j (by omega)
          case measure => simp [intOf]; omega
    · obtain rfl : k = es.length := by omega
      have hrt : true = r := by
        rw [← Hr.out]
        symm
        unfold plainOk
        rw [List.all_eq_true]
        intro x hx
        obtain ⟨j, hj, e⟩ := List.getElem_of_mem hx
        have := Hall.out j hj
        rw [show es.getD j (0, 0) = x by rw [← e]; simp [hj]] at this
        simpa using this
      subst hrt
      go_wp2
      go_ret
      exact ⟨rfl, Hb.out⟩
set_option maxHeartbeats 4000000 in
theorem l2Start_any (es : List (Int × Int)) (en at' : Nat) (v : Value) (w : World) (hlen : es.length ≤ 1000000) (hen : en < es.length) (h : Pairs 0 w v es) (ha : beginsAt es (en + 1) at') :
    Calls Try.prog 85 #[v, .int .i64 ((en : Nat) : Int)] w fun e w' => e = .returned (.int .i64 ((at' : Nat) : Int)) ∧ Below w.heap.size w w' := by
  obtain ⟨a, c, rfl, hc1, hc2, hrd⟩ := h.form
  obtain ⟨b, o, rfl, -, hbl, hcs⟩ := hrd (by omega)
  obtain ⟨ha1, ha2, ha3⟩ := ha
  have Hcs := Lib.hid hcs
  have Ha2 := Lib.hid ha2
  have Ha3 := Lib.hid ha3
  have hde := dep_in es (en + 1)
  obtain ⟨hde1, hde2⟩ := hde
  obtain ⟨E, hE⟩ : ∃ E, E = dep es (en + 1) := ⟨_, rfl⟩
  rw [← hE] at hde1 hde2
  have HhE := Lib.hid hE; clear hE
  clear h hcs hrd ha2 ha3
  go_enter Try.func85, Try.ntmps85
  go_wp2
  go_loopw [5, 6] (fun vn i wr => ∃ k : Nat, i = .int .i64 k ∧ at' ≤ k ∧ k ≤ en ∧ vn = .int .i64 (1 + dep es (k + 1) - E) ∧ Below w.heap.size w wr) (fun _ i _ => (intOf i).toNat)
  case atStart => exact ⟨en, rfl, by omega, Nat.le_refl _, by rw [HhE.out]; congr 1; omega, Below.refl _ _⟩
  case round =>
    obtain ⟨k, rfl, hak, hk, rfl, hb⟩ := hrel
    have hlt2 : (k : Int) < es.length := by omega
    have hdi := dep_in es (k + 1)
    have hdk := dep_in es k
    have hds : dep es (k + 1) = dep es k - pNeeds (es.getD k (0, 0)) + 1 := rfl
    have hpi := pNeeds_in (es.getD k (0, 0))
    obtain ⟨g1, g2⟩ := Hcs.out k (by omega)
    have k1 := (bcell hb b _ hbl).trans g1
    have k2 := (bcell hb b _ hbl).trans g2
    obtain ⟨p, hp⟩ : ∃ p, p = es.getD k (0, 0) := ⟨_, rfl⟩
    rw [← hp] at k1 k2 hds hpi
    obtain ⟨p1, p2⟩ := p
    simp only at k1 k2
    obtain ⟨n, hn⟩ : ∃ n, n = pNeeds (p1, p2) := ⟨_, rfl⟩
    rw [← hn] at hds hpi
    obtain ⟨D1, hD1⟩ : ∃ D1, D1 = dep es (k + 1) := ⟨_, rfl⟩
    rw [← hD1] at hds hdi
    rw [← hD1]
    obtain ⟨D, hD⟩ : ∃ D, D = dep es k := ⟨_, rfl⟩
    rw [← hD] at hds hdk
    obtain ⟨hd1, hd2⟩ := hdi
    obtain ⟨hd3, hd4⟩ := hdk
    obtain ⟨hp1, hp2⟩ := hpi
    have hsum : 1 + D1 - E - 1 + n = 1 + D - E := by omega
    have Hb := Lib.hid hb
    have Hds := Lib.hid hds
    have Hsum := Lib.hid hsum
    have Hhp := Lib.hid hp; clear hp
    have Hhn := Lib.hid hn; clear hn
    have HhD := Lib.hid hD; clear hD
    have HhD1 := Lib.hid hD1; clear hD1
    clear hds hsum g1 g2 hb
    go_wp2_with fail
    refine (partNeeds_any p1 p2 _ _ Hhn.out.symm).mono ?_
    rintro e w1 ⟨rfl, hb1⟩
    have Hb1 := Lib.hid (Hb.out.trans (hb1.mono Hb.out.size))
    clear hb1 k1 k2
    by_cases hka : k = at'
    · subst hka
      have hz : 1 + D1 - E - 1 + n = 0 := by
        rw [Hsum.out, HhD.out, Ha2.out, ← HhE.out]
        omega
      go_wp2
      go_ret
      exact ⟨rfl, Hb1.out⟩
    · have hz : 1 + D1 - E - 1 + n ≠ 0 := by
        rw [Hsum.out]
        intro he
        have h := Ha3.out k (by omega) (by omega)
        rw [← HhE.out, ← HhD.out] at h
        omega
      obtain ⟨z1, z2, z3, z4⟩ := not_eqI hz
      have hsm : 1 + D1 - E - 1 + n = 1 + dep es ((k - 1) + 1) - E := by
        rw [Hsum.out, show (k - 1) + 1 = k by omega, HhD.out]
      have Hsm := Lib.hid hsm
      have hk0 : 1 ≤ k := by omega
      clear hz hsm
      go_wp2
      go_roundw
      case rel => exact ⟨k - 1, by congr 1; omega, by omega, by omega, by rw [Hsm.out], Hb1.out⟩
      case measure => simp [intOf]; omega
/-- The operands of the last part. -/
def splits (es : List (Int × Int)) (xs ys : List (Int × Int)) : Prop := (pNeeds (es.getD (es.length - 1) (0, 0)) = 0 → xs = [] ∧ ys = []) ∧ (pNeeds (es.getD (es.length - 1) (0, 0)) = 1 → xs = es.take (es.length - 1) ∧ ys = []) ∧
  (pNeeds (es.getD (es.length - 1) (0, 0)) = 2 → ∃ a, beginsAt es (es.length - 1) a ∧ xs = es.take a ∧ ys = (es.drop a).take (es.length - 1 - a))
theorem splits_lt {es xs ys : List (Int × Int)} (h : splits es xs ys) (h1 : 1 ≤ es.length) (hn : 0 ≤ pNeeds (es.getD (es.length - 1) (0, 0))) : xs.length < es.length ∧ ys.length < es.length := by
  obtain ⟨a, b, c⟩ := h
  have hi := pNeeds_in (es.getD (es.length - 1) (0, 0))
  have hc : pNeeds (es.getD (es.length - 1) (0, 0)) = 0 ∨ pNeeds (es.getD (es.length - 1) (0, 0)) = 1 ∨ pNeeds (es.getD (es.length - 1) (0, 0)) = 2 := by omega
  rcases hc with h | h | h
  · obtain ⟨rfl, rfl⟩ := a h
    simp
    omega
  · obtain ⟨rfl, rfl⟩ := b h
    simp
    omega
  · obtain ⟨x, hx, rfl, rfl⟩ := c h
    have := hx.1
    simp
    omega
theorem pairs_nil (w : World) (a : Option Addr) {c : Nat} (hc : c ≤ maxLen) : Pairs 0 w (.slice a 0 c) [] := ⟨rfl, _, _, rfl, Nat.zero_le _, hc, fun h => by simp at h⟩
set_option maxRecDepth 100000 in
set_option maxHeartbeats 4000000 in
theorem l2Split_any (es : List (Int × Int)) (v : Value) (w : World) (hok : exOk es = true) (h : Pairs 0 w v es) :
    Calls Try.prog 79 #[v] w fun e w' => ∃ vx vy xs ys, splits es xs ys ∧ e = .returned (.tuple #[vx, vy]) ∧ Pairs 0 w' vx xs ∧ Pairs 0 w' vy ys ∧ Below w.heap.size w w' := by
  obtain ⟨hall, hd1, hl1, hl60⟩ := exOk_facts hok
  have Hp := Lib.hid h
  obtain ⟨a, c, rfl, hc1, hc2, hrd⟩ := h.form
  obtain ⟨b, o, rfl, -, hbl, hcs⟩ := hrd (by omega)
  obtain ⟨m, hm⟩ : ∃ m, es.length = m + 1 := ⟨es.length - 1, by omega⟩
  obtain ⟨g1, g2⟩ := hcs m (by omega)
  have hpn := hall m (by omega)
  have hpi := pNeeds_in (es.getD m (0, 0))
  have hdm : dep es (m + 1) = dep es m - pNeeds (es.getD m (0, 0)) + 1 := rfl
  rw [← hm, hd1] at hdm
  have hbeg : pNeeds (es.getD m (0, 0)) = 2 → ∃ a, beginsAt es m a := fun h2 => begins_ex (fun k hk => (hall k (by omega)).1) (by omega)
  have hsp : ∀ xs ys, splits es xs ys ↔ (pNeeds (es.getD m (0, 0)) = 0 → xs = [] ∧ ys = []) ∧ (pNeeds (es.getD m (0, 0)) = 1 → xs = es.take m ∧ ys = []) ∧ (pNeeds (es.getD m (0, 0)) = 2 → ∃ a, beginsAt es m a ∧ xs = es.take a ∧ ys = (es.drop a).take (m - a)) := fun xs ys => by
    unfold splits
    rw [show es.length - 1 = m by omega]
  obtain ⟨p, hp⟩ : ∃ p, p = es.getD m (0, 0) := ⟨_, rfl⟩
  rw [← hp] at g1 g2 hpi hpn hbeg hsp
  obtain ⟨p1, p2⟩ := p
  simp only at g1 g2
  obtain ⟨n, hn⟩ : ∃ n, n = pNeeds (p1, p2) := ⟨_, rfl⟩
  rw [← hn] at hpi hpn hbeg hsp
  have hn3 : n = 0 ∨ n = 1 ∨ n = 2 := by omega
  have Hbeg := Lib.hid hbeg
  have Hsp := Lib.hid hsp
  have hml : (m : Int) < es.length := by omega
  have Hhn := Lib.hid hn; clear hn
  have Hhp := Lib.hid hp; clear hp
  clear hall hd1 h hok hcs hrd hdm hbeg hsp hpn hpi
  have hlen : (es.length : Int) - 1 = (m : Int) := by omega
  have Hhm := Lib.hid hm; clear hm
  go_enter Try.func79, Try.ntmps79
  rcases hn3 with rfl | rfl | rfl
  · go_wp2_with fail
    refine (partNeeds_any p1 p2 _ _ Hhn.out.symm).mono ?_
    rintro e w1 ⟨rfl, hb1⟩
    have HS := Lib.hid (((((St.start w).call hb1).alloc_ (.cells #[] 111)).alloc_ (.cells #[] 111)).bel)
    clear hb1
    go_wp2
    refine bodyPost_ret (v := .tuple #[.slice (some ⟨w1.heap.size, 0, none⟩) 0 0, .slice (some ⟨w1.heap.size + 1, 0, none⟩) 0 0]) (by simp [results, Try.results79, go_sem]) rfl ?_
    exact ⟨_, _, [], [], (Hsp.out _ _).2 ⟨fun _ => ⟨rfl, rfl⟩, fun h => absurd h (by omega), fun h => absurd h (by omega)⟩, rfl, pairs_nil _ _ (by unfold maxLen; omega), pairs_nil _ _ (by unfold maxLen; omega), HS.out⟩
  · have hcI : (m : Int) ≤ c := by omega
    go_wp2_with fail
    refine (partNeeds_any p1 p2 _ _ Hhn.out.symm).mono ?_
    rintro e w1 ⟨rfl, hb1⟩
    have HS := Lib.hid ((((St.start w).call hb1).alloc_ (.cells #[] 111)).bel)
    clear hb1
    go_wp2
    refine bodyPost_ret (v := .tuple #[.slice (some ⟨b, o, none⟩) m c, .slice (some ⟨w1.heap.size, 0, none⟩) 0 0]) (by simp [results, Try.results79, go_sem]) rfl ?_
    exact ⟨_, _, es.take m, [], (Hsp.out _ _).2 ⟨fun h => absurd h (by omega), fun _ => ⟨rfl, rfl⟩, fun h => absurd h (by omega)⟩, rfl, (Hp.out.below HS.out).take (by have := Hhm.out; omega), pairs_nil _ _ (by unfold maxLen; omega), HS.out⟩
  · obtain ⟨at', hat⟩ := Hbeg.out rfl
    have ha1 := hat.1
    obtain ⟨q, hqm⟩ : ∃ q, m = q + 1 := ⟨m - 1, by omega⟩
    have hq : (m : Int) - 1 = (q : Int) := by omega
    have haI : (at' : Int) ≤ (m : Int) := by omega
    have haC : (at' : Int) ≤ c := by omega
    have hqC : (m : Int) ≤ c := by omega
    rw [hqm] at hat
    have Hhqm := Lib.hid hqm; clear hqm
    have Hat := Lib.hid hat
    clear hat
    go_wp2_with fail
    refine (partNeeds_any p1 p2 _ _ Hhn.out.symm).mono ?_
    rintro e w1 ⟨rfl, hb1⟩
    have HS := Lib.hid ((St.start w).call hb1)
    clear hb1
    go_wp2_with fail
    refine (l2Start_any es q at' _ _ (by have := Hhm.out; omega) (by have := Hhm.out; have := Hhqm.out; omega) (Hp.out.below HS.out.bel) Hat.out).mono ?_
    rintro e w2 ⟨rfl, hb2⟩
    have HS2 := Lib.hid (HS.out.call hb2)
    clear hb2
    go_wp2
    go_quiet (fail)
    go_wp2
    have HS3 := Lib.hid (HS2.out.drewN nq)
    refine bodyPost_ret (v := .tuple #[.slice (some ⟨b, o, none⟩) at' c, .slice (some ⟨b, o + at' * 2, none⟩) (m - at') (c - at')]) (by simp [results, Try.results79, go_sem]) rfl ?_
    have hml2 := Hhm.out
    exact ⟨_, _, es.take at', (es.drop at').take (m - at'), (Hsp.out _ _).2 ⟨fun h => absurd h (by omega), fun h => absurd h (by omega), fun _ => ⟨at', by rw [Hhqm.out]; exact Hat.out, rfl, rfl⟩⟩, rfl,
      (Hp.out.below HS3.out.bel).take (by omega), ((Hp.out.below HS3.out.bel).drop (by omega)).take (by rw [List.length_drop]; omega), HS3.out.bel⟩
end Go.Proofs.Ytjcegbcmomfgaaa
