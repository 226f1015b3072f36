/-
  Expressions as lists of parts, plain: what a part needs, how deep the stack is, where operands begin.
  No condition: this text speaks of no program.
  The walks over the reference's PartValid, PartNeeds, ExprValid, l12Plain, l2Start, l2Split.
  Conditions: the list of parts reads as such, and is not long.
-/
import Derived.Test.YtalbofnhcpjilaaPk08Tw
namespace Go.Proofs.Ytalbofnhcpjilaa
open Go.RowKit
def pOk (p : Int × Int) : Bool := inB p.1 1 8 && (decide (p.1 = 3) && inB p.2 0 2 || (!decide (p.1 = 3) && decide (p.2 = 0)))
def pNeeds (p : Int × Int) : Int := if pOk p = true then (if p.1 = 1 ∨ p.1 = 2 ∨ p.1 = 3 then 0 else if p.1 = 7 ∨ p.1 = 8 then 1 else 2) else -1
theorem pNeeds_in (p : Int × Int) : -1 ≤ pNeeds p ∧ pNeeds p ≤ 2 := by
 unfold pNeeds
 split <;> (try split) <;> (try split) <;> omega
theorem pNeeds_ok {p : Int × Int} (h : 0 ≤ pNeeds p) : pOk p = true := by
 unfold pNeeds at h
 split at h
 ·assumption
 ·omega
def dep (es : List (Int × Int)) : Nat → Int
 | 0 => 0
 | k + 1 => dep es k - pNeeds (es.getD k (0, 0)) + 1
theorem dep_in (es : List (Int × Int)) : ∀ k : Nat, -(2 * k : Int) ≤ dep es k ∧ dep es k ≤ 2 * k
 | 0 => by simp [dep]
 | k + 1 => by
  have ih := dep_in es k
  have := pNeeds_in (es.getD k (0, 0))
  unfold dep
  omega
def exAt (es : List (Int × Int)) (k : Nat) : Bool := decide (0 ≤ pNeeds (es.getD k (0, 0))) && decide (pNeeds (es.getD k (0, 0)) ≤ dep es k)
def exOk (es : List (Int × Int)) : Bool := (List.range es.length).all (exAt es) && decide (dep es es.length = 1) && decide (es.length ≤ 60)
theorem exOk_facts {es : List (Int × Int)} (h : exOk es = true) : (∀ k, k < es.length → 0 ≤ pNeeds (es.getD k (0, 0)) ∧ pNeeds (es.getD k (0, 0)) ≤ dep es k) ∧ dep es es.length = 1 ∧ 1 ≤ es.length ∧ es.length ≤ 60 := by
 simp only [exOk, exAt, Bool.and_eq_true, List.all_eq_true, List.mem_range, decide_eq_true_eq] at h
 refine ⟨h.1.1, h.1.2, ?_, h.2⟩
 cases es with
 | nil => have := h.1.2; simp [dep] at this
 | cons => simp
theorem exOk_bad {es : List (Int × Int)} {k : Nat} (hk : k < es.length) (h : exAt es k = false) : exOk es = false := by
 cases he : exOk es with
 | false => rfl
 | true =>
  obtain ⟨h1, -⟩ := exOk_facts he
  obtain ⟨a, b⟩ := h1 k hk
  simp only [exAt, decide_eq_true a, decide_eq_true b, Bool.and_self] at h
  cases h
theorem dep_pos {es : List (Int × Int)} (h : ∀ k, k < es.length → 0 ≤ pNeeds (es.getD k (0, 0)) ∧ pNeeds (es.getD k (0, 0)) ≤ dep es k) : ∀ k, 0 < k → k ≤ es.length → 1 ≤ dep es k
 | 0, h0, _ => by omega
 | k + 1, _, hk => by
  have := h k (by omega)
  unfold dep
  omega
def beginsAt (es : List (Int × Int)) (n a : Nat) : Prop := a < n ∧ dep es a = dep es n - 1 ∧ ∀ j, a < j → j < n → dep es j ≠ dep es n - 1
theorem begins_ex {es : List (Int × Int)} {n : Nat} (h : ∀ k, k < n → 0 ≤ pNeeds (es.getD k (0, 0))) (hn : 1 ≤ dep es n) : ∃ a, beginsAt es n a := by
 have key : ∀ m, m ≤ n → (∀ j, m ≤ j → j < n → dep es j ≠ dep es n - 1) → (m = n ∨ dep es n ≤ dep es m) → ∃ a, beginsAt es n a := by
  intro m
  induction m with
  | zero =>
   intro _ hj hm
   exfalso
   have h0 : dep es 0 = 0 := rfl
   rcases hm with hm | hm
   ·subst hm
    omega
   ·omega
  | succ m ih =>
   intro hmn hj hm
   have hs : dep es (m + 1) = dep es m - pNeeds (es.getD m (0, 0)) + 1 := rfl
   have hp := h m (by omega)
   have hge : dep es n ≤ dep es (m + 1) := by
    rcases hm with hm | hm
    ·rw [hm]; exact Int.le_refl _
    ·exact hm
   by_cases he : dep es m = dep es n - 1
   ·exact ⟨m, by omega, he, fun j h1 h2 => hj j (by omega) h2⟩
   ·exact ih (by omega) (fun j h1 h2 => by
     by_cases hjm : j = m
     ·rw [hjm]; exact he
     ·exact hj j (by omega) h2) (Or.inr (by omega))
 exact key n (Nat.le_refl _) (fun j h1 h2 => by omega) (Or.inl rfl)
end Go.Proofs.Ytalbofnhcpjilaa
namespace Go.Proofs.Ytalbofnhcpjilaa
open Go.RowKit
theorem not_eqI {a b : Int} (h : a ≠ b) : (a == b) = false ∧ (a = b) = False ∧ (a != b) = true ∧ (!(a == b)) = true := by simp [h]
set_option maxHeartbeats 4000000 in
theorem partValid_any (k l : Int) (w : World) (r : Bool) (hr : pOk (k, l) = r) :
  Calls Try.prog 132 #[.agg #[.int .i64 k, .int .i64 l]] w fun e w' => e = .returned (.bool r) ∧ Below w.heap.size w w' := by
 unfold pOk at hr
 simp only at hr
 cases h1 : inB k 1 8
 ·rw [h1, Bool.false_and] at hr
  subst hr
  have H1 := Lib.hid h1
  clear h1
  go_enter Try.func132, Try.ntmps132
  go_wp2_with (go_at_call 73; refine (l1In_any _ _ _ _ _ H1.out).mono ?_; rintro e w' ⟨rfl, rfl⟩)
  go_ret
  exact ⟨rfl, (Below.refl _ _).alloc (Nat.le_refl _) _⟩
 ·rw [h1, Bool.true_and] at hr
  have H1 := Lib.hid h1
  clear h1
  by_cases h3 : k = 3
  ·subst h3
   cases h2 : inB l 0 2
   ·rw [h2] at hr
    have hr : false = r := hr
    subst hr
    have H2 := Lib.hid h2
    clear h2
    go_enter Try.func132, Try.ntmps132
    go_wp2_with (go_at_call 73; (first | (with_reducible refine (l1In_any _ _ _ _ _ H1.out).mono ?_) | (with_reducible refine (l1In_any _ _ _ _ _ H2.out).mono ?_)); rintro e w' ⟨rfl, rfl⟩)
    go_ret
    exact ⟨rfl, (Below.refl _ _).alloc (Nat.le_refl _) _⟩
   ·rw [h2] at hr
    have hr : true = r := hr
    subst hr
    have H2 := Lib.hid h2
    clear h2
    go_enter Try.func132, Try.ntmps132
    go_wp2_with (go_at_call 73; (first | (with_reducible refine (l1In_any _ _ _ _ _ H1.out).mono ?_) | (with_reducible refine (l1In_any _ _ _ _ _ H2.out).mono ?_)); rintro e w' ⟨rfl, rfl⟩)
    go_ret
    exact ⟨rfl, (Below.refl _ _).alloc (Nat.le_refl _) _⟩
  ·obtain ⟨q1, q2, q3, q4⟩ := not_eqI h3
   rw [decide_eq_false h3] at hr
   have Hh3 := Lib.hid h3; clear h3
   by_cases h0 : l = 0
   ·subst h0
    have hr : true = r := hr
    subst hr
    go_enter Try.func132, Try.ntmps132
    go_wp2_with (go_at_call 73; refine (l1In_any _ _ _ _ _ H1.out).mono ?_; rintro e w' ⟨rfl, rfl⟩)
    go_ret
    exact ⟨rfl, (Below.refl _ _).alloc (Nat.le_refl _) _⟩
   ·obtain ⟨p1, p2, p3, p4⟩ := not_eqI h0
    rw [decide_eq_false h0] at hr
    have hr : false = r := hr
    subst hr
    have Hh0 := Lib.hid h0; clear h0
    go_enter Try.func132, Try.ntmps132
    go_wp2_with (go_at_call 73; refine (l1In_any _ _ _ _ _ H1.out).mono ?_; rintro e w' ⟨rfl, rfl⟩)
    go_ret
    exact ⟨rfl, (Below.refl _ _).alloc (Nat.le_refl _) _⟩
set_option maxHeartbeats 4000000 in
theorem partNeeds_any (k l : Int) (w : World) (n : Int) (hn : pNeeds (k, l) = n) :
  Calls Try.prog 89 #[.agg #[.int .i64 k, .int .i64 l]] w fun e w' => e = .returned (.int .i64 n) ∧ Below w.heap.size w w' := by
 have hS0 := (St.start w).alloc _ rfl #[.int .i64 k, .int .i64 l] 42
 have e0 := hS0.cell (v := .int .i64 k) 0 0 rfl rfl
 have e1 := hS0.cell (v := .int .i64 l) 0 1 rfl rfl
 cases h : pOk (k, l)
 ·have hn1 : n = -1 := by rw [← hn]; unfold pNeeds; rw [if_neg (by simp [h])]
  subst hn1
  have H := Lib.hid h
  have HhS0 := Lib.hid hS0; clear hS0
  clear hn h
  go_enter Try.func89, Try.ntmps89
  go_wp2_with fail
  refine (partValid_any k l _ _ H.out).mono ?_
  rintro e w1 ⟨rfl, hb1⟩
  have HS1 := Lib.hid (HhS0.out.call hb1)
  clear hb1
  go_wp2
  go_ret
  exact ⟨rfl, HS1.out.bel⟩
 ·have hk : k = 1 ∨ k = 2 ∨ k = 3 ∨ k = 4 ∨ k = 5 ∨ k = 6 ∨ k = 7 ∨ k = 8 := by
   have h' := h
   unfold pOk at h'
   simp only [Bool.and_eq_true] at h'
   have := inB_true h'.1
   omega
  have hn1 : n = if k = 1 ∨ k = 2 ∨ k = 3 then 0 else if k = 7 ∨ k = 8 then 1 else 2 := by rw [← hn]; unfold pNeeds; rw [if_pos h]
  have H := Lib.hid h
  have HhS0 := Lib.hid hS0; clear hS0
  clear hn h
  rcases hk with rfl | rfl | rfl | rfl | rfl | rfl | rfl | rfl
  all_goals
   simp at hn1
   subst hn1
   go_enter Try.func89, Try.ntmps89
   go_wp2_with fail
   refine (partValid_any _ l _ _ H.out).mono ?_
   rintro e w1 ⟨rfl, hb1⟩
   have c0 := (HhS0.out.call hb1).cell (v := .int .i64 _) 0 0 rfl rfl
   have HS1 := Lib.hid (HhS0.out.call hb1)
   clear hb1
   go_wp2
   go_ret
   exact ⟨rfl, HS1.out.bel⟩
theorem flat_take (xs : List (Int × Int)) : ∀ n : Nat, (xs.take n).flatMap pairCells = (xs.flatMap pairCells).take (n * 2) := by
 induction xs with
 | nil => intro n; simp
 | cons x l ih =>
  intro n
  cases n with
  | zero => simp
  | succ n =>
   rw [List.take_succ_cons, List.flatMap_cons, List.flatMap_cons, ih n, show (n + 1) * 2 = n * 2 + 2 by omega]
   rfl
theorem flat_drop (xs : List (Int × Int)) : ∀ n : Nat, (xs.drop n).flatMap pairCells = (xs.flatMap pairCells).drop (n * 2) := by
 induction xs with
 | nil => intro n; simp
 | cons x l ih =>
  intro n
  cases n with
  | zero => simp
  | succ n =>
   rw [List.drop_succ_cons, List.flatMap_cons, ih n, show (n + 1) * 2 = n * 2 + 2 by omega]
   rfl
theorem Pairs.take {w : World} {a : Option Addr} {len cap : Nat} {xs : List (Int × Int)} (h : Pairs 0 w (.slice a len cap) xs) {n : Nat} (hn : n ≤ xs.length) : Pairs 0 w (.slice a n cap) (xs.take n) := by
 obtain ⟨hl, a', cap', hv, h1, h2, h3⟩ := h
 simp only [Value.slice.injEq] at hv
 obtain ⟨rfl, rfl, rfl⟩ := hv
 have e : (xs.take n).length = n := by rw [List.length_take]; omega
 unfold Pairs
 rw [e]
 refine ⟨by rw [flat_take, List.length_take]; omega, a, cap, rfl, by omega, h2, fun hn0 => ?_⟩
 obtain ⟨b, off, ha, hb, hlt, hc⟩ := h3 (by omega)
 refine ⟨b, off, ha, hb, hlt, fun j hj => ?_⟩
 rw [hc j (by omega), flat_take, List.getElem?_take_of_lt hj]
theorem Pairs.drop {w : World} {b off len cap : Nat} {xs : List (Int × Int)} (h : Pairs 0 w (.slice (some ⟨b, off, none⟩) len cap) xs) {n : Nat} (hn : n < xs.length) : Pairs 0 w (.slice (some ⟨b, off + n * 2, none⟩) (xs.length - n) (cap - n)) (xs.drop n) := by
 obtain ⟨hl, a', cap', hv, h1, h2, h3⟩ := h
 simp only [Value.slice.injEq] at hv
 obtain ⟨rfl, rfl, rfl⟩ := hv
 unfold Pairs
 rw [List.length_drop]
 refine ⟨by rw [flat_drop, List.length_drop]; omega, _, _, rfl, by omega, by omega, fun hn0 => ?_⟩
 obtain ⟨b', off', ha, hb, hlt, hc⟩ := h3 (by omega)
 simp only [Option.some.injEq, Addr.mk.injEq, and_true] at ha
 obtain ⟨rfl, rfl⟩ := ha
 refine ⟨b, off + n * 2, rfl, hb, hlt, fun j hj => ?_⟩
 rw [show off + n * 2 + j = off + (n * 2 + j) by omega, hc _ (by omega), flat_drop, List.getElem?_drop]
set_option maxHeartbeats 4000000 in
theorem exprValid_any (es : List (Int × Int)) (v : Value) (w : World) (hlen : es.length ≤ 2000000) (h : Pairs 0 w v es) (r : Bool) (hr : exOk es = r) :
  Calls Try.prog 43 #[v] w fun e w' => e = .returned (.bool r) ∧ Below w.heap.size w w' := by
 obtain ⟨a, c, rfl, hc1, hc2, hrd⟩ := h.form
 have Hrd := Lib.hid hrd
 have Hr := Lib.hid hr
 clear h hr hrd
 go_enter Try.func43, Try.ntmps43
 go_wp2
 go_loopw [3, 4] (fun vd i wr => ∃ k : Nat, i = .int .i64 k ∧ k ≤ es.length ∧ vd = .int .i64 (dep es k) ∧ (∀ j, j < k → exAt es j = true) ∧ Below w.heap.size w wr) (fun _ i _ => es.length - (intOf i).toNat)
 case atStart => exact ⟨0, rfl, Nat.zero_le _, rfl, fun j hj => absurd hj (by omega), Below.refl _ _⟩
 case round =>
  obtain ⟨k, rfl, hk, rfl, hall, hb⟩ := hrel
  have hdi := dep_in es k
  have hds : dep es (k + 1) = dep es k - pNeeds (es.getD k (0, 0)) + 1 := rfl
  have hpi := pNeeds_in (es.getD k (0, 0))
  have hex : exAt es k = (decide (0 ≤ pNeeds (es.getD k (0, 0))) && decide (pNeeds (es.getD k (0, 0)) ≤ dep es k)) := rfl
  have Hall := Lib.hid hall
  have Hb := Lib.hid hb
  clear hall hb
  by_cases hlt : k < es.length
  ·have hlt2 : (k : Int) < es.length := by omega
   obtain ⟨b, o, rfl, -, hbl, hcs⟩ := Hrd.out (by omega)
   obtain ⟨g1, g2⟩ := hcs k hlt
   have k1 := (bcell Hb.out b _ hbl).trans g1
   have k2 := (bcell Hb.out b _ hbl).trans g2
   obtain ⟨p, hp⟩ : ∃ p, p = es.getD k (0, 0) := ⟨_, rfl⟩
   rw [← hp] at k1 k2 hds hpi hex
   obtain ⟨p1, p2⟩ := p
   simp only at k1 k2
   obtain ⟨n, hn⟩ : ∃ n, n = pNeeds (p1, p2) := ⟨_, rfl⟩
   rw [← hn] at hds hpi hex
   obtain ⟨D, hD⟩ : ∃ D, D = dep es k := ⟨_, rfl⟩
   rw [← hD] at hds hdi hex
   rw [← hD]
   obtain ⟨hd1, hd2⟩ := hdi
   obtain ⟨hp1, hp2⟩ := hpi
   have Hds := Lib.hid hds
   have Hex := Lib.hid hex
   have Hhp := Lib.hid hp; clear hp
   have Hhn := Lib.hid hn; clear hn
   have HhD := Lib.hid hD; clear hD
   clear hds hex hcs g1 g2
   go_wp2_with fail
   refine (partNeeds_any p1 p2 _ _ Hhn.out.symm).mono ?_
   rintro e w1 ⟨rfl, hb1⟩
   have Hb1 := Lib.hid (Hb.out.trans (hb1.mono Hb.out.size))
   clear hb1 k1 k2
   by_cases hn0 : n < 0
   ·have q1 : (n < 0) = True := by simp [hn0]
    have hrf : false = r := by rw [← Hr.out]; exact (exOk_bad hlt (by rw [Hex.out, decide_eq_false (by omega)]; rfl)).symm
    subst hrf
    go_wp2
    go_ret
    exact ⟨rfl, Hb1.out⟩
   ·have q1 : (n < 0) = False := by simp; omega
    have hn1 : 0 ≤ n := by omega
    clear hn0
    by_cases hDn : D < n
    ·have q2 : (D < n) = True := by simp [hDn]
     have hrf : false = r := by rw [← Hr.out]; exact (exOk_bad hlt (by rw [Hex.out, decide_eq_false (show ¬ n ≤ D by omega), Bool.and_false])).symm
     subst hrf
     go_wp2
     go_ret
     exact ⟨rfl, Hb1.out⟩
    ·have q2 : (D < n) = False := by simp; omega
     have hDn1 : n ≤ D := by omega
     clear hDn
     go_wp2
     go_roundw
     case rel =>
      refine ⟨k + 1, by go_num, by omega, by rw [Hds.out], fun j hj => ?_, Hb1.out⟩
      by_cases e : j = k
      ·rw [e, Hex.out, decide_eq_true hn1, decide_eq_true hDn1]
       rfl
      ·exact Hall.out j (by omega)
     case measure => simp [intOf]; omega
  ·obtain rfl : k = es.length := by omega
   have hro : exOk es = (decide (dep es es.length = 1) && decide (es.length ≤ 60)) := by
    unfold exOk
    rw [List.all_eq_true.2 (fun j hj => Hall.out j (List.mem_range.1 hj)), Bool.true_and]
   obtain ⟨D, hD⟩ : ∃ D, D = dep es es.length := ⟨_, rfl⟩
   rw [← hD] at hro
   rw [← hD]
   rw [Hr.out] at hro
   have Hro := Lib.hid hro
   have HhD := Lib.hid hD; clear hD
   clear hro hdi hds hpi hex
   by_cases hD1 : D = 1
   ·subst hD1
    by_cases h60 : es.length ≤ 60
    ·have q1 : ((es.length : Int) ≤ 60) = True := by simp; omega
     have hrt : true = r := by rw [Hro.out, decide_eq_true h60]; rfl
     subst hrt
     go_wp2
     go_ret
     exact ⟨rfl, Hb.out⟩
    ·have q1 : ((es.length : Int) ≤ 60) = False := by simp; omega
     have hrt : false = r := by rw [Hro.out, decide_eq_false h60]; rfl
     subst hrt
     clear h60
     go_wp2
     go_ret
     exact ⟨rfl, Hb.out⟩
   ·obtain ⟨q1, q2, q3, q4⟩ := not_eqI hD1
    have hrt : false = r := by rw [Hro.out, decide_eq_false hD1]; rfl
    subst hrt
    clear hD1
    go_wp2
    go_ret
    exact ⟨rfl, Hb.out⟩
set_option maxHeartbeats 4000000 in
theorem l2Start_any (es : List (Int × Int)) (en at' : Nat) (v : Value) (w : World) (hlen : es.length ≤ 1000000) (hen : en < es.length) (h : Pairs 0 w v es) (ha : beginsAt es (en + 1) at') :
  Calls Try.prog 133 #[v, .int .i64 ((en : Nat) : Int)] w fun e w' => e = .returned (.int .i64 ((at' : Nat) : Int)) ∧ Below w.heap.size w w' := by
 obtain ⟨a, c, rfl, hc1, hc2, hrd⟩ := h.form
 obtain ⟨b, o, rfl, -, hbl, hcs⟩ := hrd (by omega)
 obtain ⟨ha1, ha2, ha3⟩ := ha
 have Hcs := Lib.hid hcs
 have Ha2 := Lib.hid ha2
 have Ha3 := Lib.hid ha3
 have hde := dep_in es (en + 1)
 obtain ⟨hde1, hde2⟩ := hde
 obtain ⟨E, hE⟩ : ∃ E, E = dep es (en + 1) := ⟨_, rfl⟩
 rw [← hE] at hde1 hde2
 have HhE := Lib.hid hE; clear hE
 clear h hcs hrd ha2 ha3
 go_enter Try.func133, Try.ntmps133
 go_wp2
 go_loopw [5, 6] (fun vn i wr => ∃ k : Nat, i = .int .i64 k ∧ at' ≤ k ∧ k ≤ en ∧ vn = .int .i64 (1 + dep es (k + 1) - E) ∧ Below w.heap.size w wr) (fun _ i _ => (intOf i).toNat)
 case atStart => exact ⟨en, rfl, by omega, Nat.le_refl _, by rw [HhE.out]; congr 1; omega, Below.refl _ _⟩
 case round =>
  obtain ⟨k, rfl, hak, hk, rfl, hb⟩ := hrel
  have hlt2 : (k : Int) < es.length := by omega
  have hdi := dep_in es (k + 1)
  have hdk := dep_in es k
  have hds : dep es (k + 1) = dep es k - pNeeds (es.getD k (0, 0)) + 1 := rfl
  have hpi := pNeeds_in (es.getD k (0, 0))
  obtain ⟨g1, g2⟩ := Hcs.out k (by omega)
  have k1 := (bcell hb b _ hbl).trans g1
  have k2 := (bcell hb b _ hbl).trans g2
  obtain ⟨p, hp⟩ : ∃ p, p = es.getD k (0, 0) := ⟨_, rfl⟩
  rw [← hp] at k1 k2 hds hpi
  obtain ⟨p1, p2⟩ := p
  simp only at k1 k2
  obtain ⟨n, hn⟩ : ∃ n, n = pNeeds (p1, p2) := ⟨_, rfl⟩
  rw [← hn] at hds hpi
  obtain ⟨D1, hD1⟩ : ∃ D1, D1 = dep es (k + 1) := ⟨_, rfl⟩
  rw [← hD1] at hds hdi
  rw [← hD1]
  obtain ⟨D, hD⟩ : ∃ D, D = dep es k := ⟨_, rfl⟩
  rw [← hD] at hds hdk
  obtain ⟨hd1, hd2⟩ := hdi
  obtain ⟨hd3, hd4⟩ := hdk
  obtain ⟨hp1, hp2⟩ := hpi
  have hsum : 1 + D1 - E - 1 + n = 1 + D - E := by omega
  have Hb := Lib.hid hb
  have Hds := Lib.hid hds
  have Hsum := Lib.hid hsum
  have Hhp := Lib.hid hp; clear hp
  have Hhn := Lib.hid hn; clear hn
  have HhD := Lib.hid hD; clear hD
  have HhD1 := Lib.hid hD1; clear hD1
  clear hds hsum g1 g2 hb
  go_wp2_with fail
  refine (partNeeds_any p1 p2 _ _ Hhn.out.symm).mono ?_
  rintro e w1 ⟨rfl, hb1⟩
  have Hb1 := Lib.hid (Hb.out.trans (hb1.mono Hb.out.size))
  clear hb1 k1 k2
  by_cases hka : k = at'
  ·subst hka
   have hz : 1 + D1 - E - 1 + n = 0 := by
    rw [Hsum.out, HhD.out, Ha2.out, ← HhE.out]
    omega
   go_wp2
   go_ret
   exact ⟨rfl, Hb1.out⟩
  ·have hz : 1 + D1 - E - 1 + n ≠ 0 := by
    rw [Hsum.out]
    intro he
    have h := Ha3.out k (by omega) (by omega)
    rw [← HhE.out, ← HhD.out] at h
    omega
   obtain ⟨z1, z2, z3, z4⟩ := not_eqI hz
   have hsm : 1 + D1 - E - 1 + n = 1 + dep es ((k - 1) + 1) - E := by
    rw [Hsum.out, show (k - 1) + 1 = k by omega, HhD.out]
   have Hsm := Lib.hid hsm
   have hk0 : 1 ≤ k := by omega
   clear hz hsm
   go_wp2
   go_roundw
   case rel => exact ⟨k - 1, by congr 1; omega, by omega, by omega, by rw [Hsm.out], Hb1.out⟩
   case measure => simp [intOf]; omega
def splits (es : List (Int × Int)) (xs ys : List (Int × Int)) : Prop := (pNeeds (es.getD (es.length - 1) (0, 0)) = 0 → xs = [] ∧ ys = []) ∧ (pNeeds (es.getD (es.length - 1) (0, 0)) = 1 → xs = es.take (es.length - 1) ∧ ys = []) ∧
 (pNeeds (es.getD (es.length - 1) (0, 0)) = 2 → ∃ a, beginsAt es (es.length - 1) a ∧ xs = es.take a ∧ ys = (es.drop a).take (es.length - 1 - a))
theorem pairs_nil (w : World) (a : Option Addr) {c : Nat} (hc : c ≤ maxLen) : Pairs 0 w (.slice a 0 c) [] := ⟨rfl, _, _, rfl, Nat.zero_le _, hc, fun h => by simp at h⟩
set_option maxRecDepth 100000 in
set_option maxHeartbeats 4000000 in
theorem l2Split_any (es : List (Int × Int)) (v : Value) (w : World) (hok : exOk es = true) (h : Pairs 0 w v es) :
  Calls Try.prog 90 #[v] w fun e w' => ∃ vx vy xs ys, splits es xs ys ∧ e = .returned (.tuple #[vx, vy]) ∧ Pairs 0 w' vx xs ∧ Pairs 0 w' vy ys ∧ Below w.heap.size w w' := by
 obtain ⟨hall, hd1, hl1, hl60⟩ := exOk_facts hok
 have Hp := Lib.hid h
 obtain ⟨a, c, rfl, hc1, hc2, hrd⟩ := h.form
 obtain ⟨b, o, rfl, -, hbl, hcs⟩ := hrd (by omega)
 obtain ⟨m, hm⟩ : ∃ m, es.length = m + 1 := ⟨es.length - 1, by omega⟩
 obtain ⟨g1, g2⟩ := hcs m (by omega)
 have hpn := hall m (by omega)
 have hpi := pNeeds_in (es.getD m (0, 0))
 have hdm : dep es (m + 1) = dep es m - pNeeds (es.getD m (0, 0)) + 1 := rfl
 rw [← hm, hd1] at hdm
 have hbeg : pNeeds (es.getD m (0, 0)) = 2 → ∃ a, beginsAt es m a := fun h2 => begins_ex (fun k hk => (hall k (by omega)).1) (by omega)
 have hsp : ∀ xs ys, splits es xs ys ↔ (pNeeds (es.getD m (0, 0)) = 0 → xs = [] ∧ ys = []) ∧ (pNeeds (es.getD m (0, 0)) = 1 → xs = es.take m ∧ ys = []) ∧ (pNeeds (es.getD m (0, 0)) = 2 → ∃ a, beginsAt es m a ∧ xs = es.take a ∧ ys = (es.drop a).take (m - a)) := fun xs ys => by
  unfold splits
  rw [show es.length - 1 = m by omega]
 obtain ⟨p, hp⟩ : ∃ p, p = es.getD m (0, 0) := ⟨_, rfl⟩
 rw [← hp] at g1 g2 hpi hpn hbeg hsp
 obtain ⟨p1, p2⟩ := p
 simp only at g1 g2
 obtain ⟨n, hn⟩ : ∃ n, n = pNeeds (p1, p2) := ⟨_, rfl⟩
 rw [← hn] at hpi hpn hbeg hsp
 have hn3 : n = 0 ∨ n = 1 ∨ n = 2 := by omega
 have Hbeg := Lib.hid hbeg
 have Hsp := Lib.hid hsp
 have hml : (m : Int) < es.length := by omega
 have Hhn := Lib.hid hn; clear hn
 have Hhp := Lib.hid hp; clear hp
 clear hall hd1 h hok hcs hrd hdm hbeg hsp hpn hpi
 have hlen : (es.length : Int) - 1 = (m : Int) := by omega
 have Hhm := Lib.hid hm; clear hm
 go_enter Try.func90, Try.ntmps90
 rcases hn3 with rfl | rfl | rfl
 ·go_wp2_with fail
  refine (partNeeds_any p1 p2 _ _ Hhn.out.symm).mono ?_
  rintro e w1 ⟨rfl, hb1⟩
  have HS := Lib.hid (((((St.start w).call hb1).alloc_ (.cells #[] 42)).alloc_ (.cells #[] 42)).bel)
  clear hb1
  go_wp2
  refine bodyPost_ret (v := .tuple #[.slice (some ⟨w1.heap.size, 0, none⟩) 0 0, .slice (some ⟨w1.heap.size + 1, 0, none⟩) 0 0]) (by simp [results, Try.results90, go_sem]) rfl ?_
  exact ⟨_, _, [], [], (Hsp.out _ _).2 ⟨fun _ => ⟨rfl, rfl⟩, fun h => absurd h (by omega), fun h => absurd h (by omega)⟩, rfl, pairs_nil _ _ (by unfold maxLen; omega), pairs_nil _ _ (by unfold maxLen; omega), HS.out⟩
 ·have hcI : (m : Int) ≤ c := by omega
  go_wp2_with fail
  refine (partNeeds_any p1 p2 _ _ Hhn.out.symm).mono ?_
  rintro e w1 ⟨rfl, hb1⟩
  have HS := Lib.hid ((((St.start w).call hb1).alloc_ (.cells #[] 42)).bel)
  clear hb1
  go_wp2
  refine bodyPost_ret (v := .tuple #[.slice (some ⟨b, o, none⟩) m c, .slice (some ⟨w1.heap.size, 0, none⟩) 0 0]) (by simp [results, Try.results90, go_sem]) rfl ?_
  exact ⟨_, _, es.take m, [], (Hsp.out _ _).2 ⟨fun h => absurd h (by omega), fun _ => ⟨rfl, rfl⟩, fun h => absurd h (by omega)⟩, rfl, (Hp.out.below HS.out).take (by have := Hhm.out; omega), pairs_nil _ _ (by unfold maxLen; omega), HS.out⟩
 ·obtain ⟨at', hat⟩ := Hbeg.out rfl
  have ha1 := hat.1
  obtain ⟨q, hqm⟩ : ∃ q, m = q + 1 := ⟨m - 1, by omega⟩
  have hq : (m : Int) - 1 = (q : Int) := by omega
  have haI : (at' : Int) ≤ (m : Int) := by omega
  have haC : (at' : Int) ≤ c := by omega
  have hqC : (m : Int) ≤ c := by omega
  rw [hqm] at hat
  have Hhqm := Lib.hid hqm; clear hqm
  have Hat := Lib.hid hat
  clear hat
  go_wp2_with fail
  refine (partNeeds_any p1 p2 _ _ Hhn.out.symm).mono ?_
  rintro e w1 ⟨rfl, hb1⟩
  have HS := Lib.hid ((St.start w).call hb1)
  clear hb1
  go_wp2_with fail
  refine (l2Start_any es q at' _ _ (by have := Hhm.out; omega) (by have := Hhm.out; have := Hhqm.out; omega) (Hp.out.below HS.out.bel) Hat.out).mono ?_
  rintro e w2 ⟨rfl, hb2⟩
  have HS2 := Lib.hid (HS.out.call hb2)
  clear hb2
  go_wp2
  go_quiet (fail)
  go_wp2
  have HS3 := Lib.hid (HS2.out.drewN nq)
  refine bodyPost_ret (v := .tuple #[.slice (some ⟨b, o, none⟩) at' c, .slice (some ⟨b, o + at' * 2, none⟩) (m - at') (c - at')]) (by simp [results, Try.results90, go_sem]) rfl ?_
  have hml2 := Hhm.out
  exact ⟨_, _, es.take at', (es.drop at').take (m - at'), (Hsp.out _ _).2 ⟨fun h => absurd h (by omega), fun h => absurd h (by omega), fun _ => ⟨at', by rw [Hhqm.out]; exact Hat.out, rfl, rfl⟩⟩, rfl,
   (Hp.out.below HS3.out.bel).take (by omega), ((Hp.out.below HS3.out.bel).drop (by omega)).take (by rw [List.length_drop]; omega), HS3.out.bel⟩
end Go.Proofs.Ytalbofnhcpjilaa
namespace Go.Proofs.Ytalbofnhcpjilaa
inductive Ex where
 | zero | one | ltr (c : Fin 3) | join (a b : Ex) | alt (a b : Ex) | both (a b : Ex) | neg (a : Ex) | star (a : Ex)
 deriving DecidableEq
def Ex.post : Ex → List (Int × Int)
 | .zero => [(1, 0)]
 | .one => [(2, 0)]
 | .ltr c => [(3, (c.val : Int))]
 | .join a b => a.post ++ b.post ++ [(4, 0)]
 | .alt a b => a.post ++ b.post ++ [(5, 0)]
 | .both a b => a.post ++ b.post ++ [(6, 0)]
 | .neg a => a.post ++ [(7, 0)]
 | .star a => a.post ++ [(8, 0)]
theorem pn_leaf1 : pNeeds (1, 0) = 0 := by decide
theorem pn_leaf2 : pNeeds (2, 0) = 0 := by decide
theorem pn_leaf3 (c : Fin 3) : pNeeds (3, (c.val : Int)) = 0 := by
 have : c = 0 ∨ c = 1 ∨ c = 2 := by omega
 rcases this with rfl | rfl | rfl <;> decide
theorem pn_join : pNeeds (4, 0) = 2 := by decide
theorem pn_alt : pNeeds (5, 0) = 2 := by decide
theorem pn_both : pNeeds (6, 0) = 2 := by decide
theorem pn_neg : pNeeds (7, 0) = 1 := by decide
theorem pn_star : pNeeds (8, 0) = 1 := by decide
theorem post_pos : ∀ t : Ex, 1 ≤ t.post.length := by
 intro t
 cases t <;> simp [Ex.post] <;> omega
theorem dep_app_left (xs ys : List (Int × Int)) : ∀ k, k ≤ xs.length → dep (xs ++ ys) k = dep xs k
 | 0, _ => rfl
 | k + 1, h => by
  have ih := dep_app_left xs ys k (by omega)
  have e : (xs ++ ys).getD k (0, 0) = xs.getD k (0, 0) := by
   simp [List.getD_eq_getElem?_getD, List.getElem?_append_left (show k < xs.length by omega)]
  unfold dep
  rw [ih, e]
theorem dep_app (xs ys : List (Int × Int)) : ∀ k, dep (xs ++ ys) (xs.length + k) = dep xs xs.length + dep ys k
 | 0 => by rw [Nat.add_zero, dep_app_left xs ys _ (Nat.le_refl _)]; simp [dep]
 | k + 1 => by
  have ih := dep_app xs ys k
  have e : (xs ++ ys).getD (xs.length + k) (0, 0) = ys.getD k (0, 0) := by
   simp [List.getD_eq_getElem?_getD, List.getElem?_append_right (show xs.length ≤ xs.length + k by omega)]
  show dep (xs ++ ys) (xs.length + k) - pNeeds ((xs ++ ys).getD (xs.length + k) (0, 0)) + 1 = dep xs xs.length + (dep ys k - pNeeds (ys.getD k (0, 0)) + 1)
  rw [ih, e]
  omega
theorem getD_app_left {xs ys : List (Int × Int)} {k : Nat} (h : k < xs.length) : (xs ++ ys).getD k (0, 0) = xs.getD k (0, 0) := by
 simp [List.getD_eq_getElem?_getD, List.getElem?_append_left h]
theorem getD_app_right (xs ys : List (Int × Int)) (k : Nat) : (xs ++ ys).getD (xs.length + k) (0, 0) = ys.getD k (0, 0) := by
 simp [List.getD_eq_getElem?_getD, List.getElem?_append_right (show xs.length ≤ xs.length + k by omega)]
def okFrom (m : Int) (es : List (Int × Int)) : Prop := ∀ k, k < es.length → 0 ≤ pNeeds (es.getD k (0, 0)) ∧ pNeeds (es.getD k (0, 0)) ≤ m + dep es k
theorem okFrom_mono {m m' : Int} {es : List (Int × Int)} (h : okFrom m es) (hm : m ≤ m') : okFrom m' es := fun k hk => by
 have := h k hk
 omega
theorem okFrom_app {m : Int} {xs ys : List (Int × Int)} (h : okFrom m xs) (h' : okFrom (m + dep xs xs.length) ys) : okFrom m (xs ++ ys) := fun k hk => by
 by_cases hx : k < xs.length
 ·rw [getD_app_left hx, dep_app_left _ _ _ (by omega)]
  exact h k hx
 ·obtain ⟨j, rfl⟩ := Nat.exists_eq_add_of_le (Nat.le_of_not_lt hx)
  rw [getD_app_right, dep_app]
  have := h' j (by simp at hk; omega)
  omega
theorem okFrom_one {m : Int} {p : Int × Int} (h0 : 0 ≤ pNeeds p) (h1 : pNeeds p ≤ m) : okFrom m [p] := fun k hk => by
 obtain rfl : k = 0 := by simpa using hk
 simp [dep]
 omega
theorem dep_one (p : Int × Int) : dep [p] 1 = 1 - pNeeds p := by
 simp [dep]
 omega
theorem dep_snoc (xs : List (Int × Int)) (p : Int × Int) : dep (xs ++ [p]) (xs ++ [p]).length = dep xs xs.length + (1 - pNeeds p) := by
 rw [List.length_append, dep_app]
 show dep xs xs.length + dep [p] 1 = _
 rw [dep_one]
theorem dep_cat (xs ys : List (Int × Int)) : dep (xs ++ ys) (xs ++ ys).length = dep xs xs.length + dep ys ys.length := by
 rw [List.length_append, dep_app]
theorem post_ok : ∀ t : Ex, okFrom 0 t.post ∧ dep t.post t.post.length = 1 := by
 intro t
 have leaf : ∀ p, pNeeds p = 0 → okFrom 0 [p] ∧ dep [p] [p].length = 1 := fun p hp => ⟨okFrom_one (by omega) (by omega), by
  show dep [p] 1 = 1
  rw [dep_one]
  omega⟩
 have two : ∀ (xs ys : List (Int × Int)) p, pNeeds p = 2 → okFrom 0 xs → dep xs xs.length = 1 → okFrom 0 ys → dep ys ys.length = 1 → okFrom 0 (xs ++ ys ++ [p]) ∧ dep (xs ++ ys ++ [p]) (xs ++ ys ++ [p]).length = 1 := fun xs ys p hp h1 h2 h3 h4 => by
  have hc := dep_cat xs ys
  refine ⟨okFrom_app (okFrom_app h1 (okFrom_mono h3 (by omega))) (okFrom_one (by omega) (by omega)), ?_⟩
  rw [dep_snoc]
  omega
 have one : ∀ (xs : List (Int × Int)) p, pNeeds p = 1 → okFrom 0 xs → dep xs xs.length = 1 → okFrom 0 (xs ++ [p]) ∧ dep (xs ++ [p]) (xs ++ [p]).length = 1 := fun xs p hp h1 h2 => by
  refine ⟨okFrom_app h1 (okFrom_one (by omega) (by omega)), ?_⟩
  rw [dep_snoc]
  omega
 induction t with
 | zero => exact leaf _ pn_leaf1
 | one => exact leaf _ pn_leaf2
 | ltr c => exact leaf _ (pn_leaf3 c)
 | join a b ha hb => exact two _ _ _ pn_join ha.1 ha.2 hb.1 hb.2
 | alt a b ha hb => exact two _ _ _ pn_alt ha.1 ha.2 hb.1 hb.2
 | both a b ha hb => exact two _ _ _ pn_both ha.1 ha.2 hb.1 hb.2
 | neg a ha => exact one _ _ pn_neg ha.1 ha.2
 | star a ha => exact one _ _ pn_star ha.1 ha.2
theorem post_exOk (t : Ex) (h : t.post.length ≤ 60) : exOk t.post = true := by
 obtain ⟨h1, h2⟩ := post_ok t
 simp only [exOk, exAt, Bool.and_eq_true, List.all_eq_true, List.mem_range, decide_eq_true_eq]
 refine ⟨⟨fun k hk => ?_, h2⟩, h⟩
 have := h1 k hk
 omega
theorem snoc_of {α : Type} : ∀ (l : List α), 1 ≤ l.length → ∃ L b, l = L ++ [b]
 | [], h => by simp at h
 | [a], _ => ⟨[], a, rfl⟩
 | a :: b :: l, _ => by
  obtain ⟨L, c, h⟩ := snoc_of (b :: l) (by simp)
  exact ⟨a :: L, c, by rw [h]; rfl⟩
def cat (st : List Ex) : List (Int × Int) := st.flatMap Ex.post
theorem cat_app (a b : List Ex) : cat (a ++ b) = cat a ++ cat b := by simp [cat]
theorem cat_one (a : Ex) : cat [a] = a.post := by simp [cat]
theorem parse_at {es : List (Int × Int)} (h : okFrom 0 es) : ∀ k, k ≤ es.length → ∃ st : List Ex, cat st = es.take k ∧ (st.length : Int) = dep es k
 | 0, _ => ⟨[], rfl, rfl⟩
 | k + 1, hk => by
  obtain ⟨st, h1, h2⟩ := parse_at h k (by omega)
  obtain ⟨h3, h4⟩ := h k (by omega)
  have ht : es.take (k + 1) = es.take k ++ [es.getD k (0, 0)] := by
   rw [List.take_succ_eq_append_getElem (by omega)]
   simp [show k < es.length by omega]
  have hd : dep es (k + 1) = dep es k - pNeeds (es.getD k (0, 0)) + 1 := rfl
  obtain ⟨p, hp⟩ : ∃ p, p = es.getD k (0, 0) := ⟨_, rfl⟩
  rw [← hp] at h3 h4 ht hd
  have hok := pNeeds_ok h3
  obtain ⟨p1, p2⟩ := p
  rw [ht, hd, ← h1]
  have leaf : ∀ t : Ex, t.post = [(p1, p2)] → pNeeds (p1, p2) = 0 → ∃ st' : List Ex, cat st' = cat st ++ [(p1, p2)] ∧ (st'.length : Int) = dep es k - pNeeds (p1, p2) + 1 := fun t e0 e1 => ⟨st ++ [t], by rw [cat_app, cat_one, e0], by simp; omega⟩
  have one : ∀ f : Ex → Ex, (∀ a, (f a).post = a.post ++ [(p1, p2)]) → pNeeds (p1, p2) = 1 → ∃ st' : List Ex, cat st' = cat st ++ [(p1, p2)] ∧ (st'.length : Int) = dep es k - pNeeds (p1, p2) + 1 := fun f e0 e1 => by
   obtain ⟨L, a, rfl⟩ := snoc_of st (by omega)
   refine ⟨L ++ [f a], by rw [cat_app, cat_app, cat_one, cat_one, e0]; simp, ?_⟩
   simp at h2 ⊢
   omega
  have two : ∀ f : Ex → Ex → Ex, (∀ a b, (f a b).post = a.post ++ b.post ++ [(p1, p2)]) → pNeeds (p1, p2) = 2 → ∃ st' : List Ex, cat st' = cat st ++ [(p1, p2)] ∧ (st'.length : Int) = dep es k - pNeeds (p1, p2) + 1 := fun f e0 e1 => by
   obtain ⟨L, b, rfl⟩ := snoc_of st (by omega)
   obtain ⟨L, a, rfl⟩ := snoc_of L (by simp at h2; omega)
   refine ⟨L ++ [f a b], by simp only [cat_app, cat_one, e0, List.append_assoc], ?_⟩
   simp at h2 ⊢
   omega
  simp only [pOk, inB, Bool.and_eq_true, Bool.or_eq_true, decide_eq_true_eq, Bool.not_eq_true', decide_eq_false_iff_not] at hok
  obtain ⟨⟨q1, q2⟩, q3⟩ := hok
  have hc : (p1 = 1 ∧ p2 = 0) ∨ (p1 = 2 ∧ p2 = 0) ∨ (p1 = 3 ∧ 0 ≤ p2 ∧ p2 ≤ 2) ∨ (p1 = 4 ∧ p2 = 0) ∨ (p1 = 5 ∧ p2 = 0) ∨ (p1 = 6 ∧ p2 = 0) ∨ (p1 = 7 ∧ p2 = 0) ∨ (p1 = 8 ∧ p2 = 0) := by omega
  rcases hc with ⟨rfl, rfl⟩ | ⟨rfl, rfl⟩ | ⟨rfl, g1, g2⟩ | ⟨rfl, rfl⟩ | ⟨rfl, rfl⟩ | ⟨rfl, rfl⟩ | ⟨rfl, rfl⟩ | ⟨rfl, rfl⟩
  ·exact leaf .zero rfl pn_leaf1
  ·exact leaf .one rfl pn_leaf2
  ·obtain ⟨c, rfl⟩ := Int.eq_ofNat_of_zero_le g1
   exact leaf (.ltr ⟨c, by omega⟩) rfl (pn_leaf3 ⟨c, by omega⟩)
  ·exact two .join (fun _ _ => rfl) pn_join
  ·exact two .alt (fun _ _ => rfl) pn_alt
  ·exact two .both (fun _ _ => rfl) pn_both
  ·exact one .neg (fun _ => rfl) pn_neg
  ·exact one .star (fun _ => rfl) pn_star
theorem parse {es : List (Int × Int)} (h : exOk es = true) : ∃ t : Ex, t.post = es := by
 obtain ⟨h1, h2, h3, h4⟩ := exOk_facts h
 obtain ⟨st, e1, e2⟩ := parse_at (es := es) (fun k hk => by have := h1 k hk; omega) es.length (Nat.le_refl _)
 rw [h2] at e2
 rw [List.take_length] at e1
 obtain ⟨L, t, rfl⟩ := snoc_of st (by omega)
 have hL : L = [] := by
  cases L with
  | nil => rfl
  | cons => simp at e2; omega
 subst hL
 exact ⟨t, by simpa [cat_one] using e1⟩
theorem last_snoc (xs : List (Int × Int)) (p : Int × Int) : (xs ++ [p]).getD ((xs ++ [p]).length - 1) (0, 0) = p := by
 simp [List.getD_eq_getElem?_getD]
theorem begins_unique {es : List (Int × Int)} {n a b : Nat} (h : beginsAt es n a) (h' : beginsAt es n b) : a = b := by
 obtain ⟨h1, h2, h3⟩ := h
 obtain ⟨g1, g2, g3⟩ := h'
 rcases Nat.lt_trichotomy a b with hl | hl | hl
 ·exact absurd g2 (h3 b hl g1)
 ·exact hl
 ·exact absurd h2 (g3 a hl h1)
theorem okFrom_pos {es : List (Int × Int)} (h : okFrom 0 es) {k : Nat} (h0 : 0 < k) (hk : k ≤ es.length) : 1 ≤ dep es k := dep_pos (fun j hj => by have := h j hj; omega) k h0 hk
theorem split_two {a b : Ex} {p : Int × Int} (hp : pNeeds p = 2) {xs ys : List (Int × Int)} (h : splits (a.post ++ b.post ++ [p]) xs ys) : xs = a.post ∧ ys = b.post := by
 obtain ⟨-, -, h3⟩ := h
 rw [last_snoc] at h3
 obtain ⟨at', hb, rfl, rfl⟩ := h3 hp
 obtain ⟨a1, a2⟩ := post_ok a
 obtain ⟨b1, b2⟩ := post_ok b
 have hl : (a.post ++ b.post ++ [p]).length - 1 = a.post.length + b.post.length := by simp
 rw [hl] at hb ⊢
 have hbeg : beginsAt (a.post ++ b.post ++ [p]) (a.post.length + b.post.length) a.post.length := by
  have hd : ∀ j, j ≤ b.post.length → dep (a.post ++ b.post ++ [p]) (a.post.length + j) = 1 + dep b.post j := fun j hj => by
   rw [dep_app_left _ _ _ (by simp; omega), dep_app, a2]
  have h0 := hd 0 (Nat.zero_le _)
  have hn := hd b.post.length (Nat.le_refl _)
  rw [b2] at hn
  rw [Nat.add_zero] at h0
  refine ⟨by have := post_pos b; omega, by rw [h0, hn]; rfl, fun j h1 h2 => ?_⟩
  obtain ⟨i, rfl⟩ := Nat.exists_eq_add_of_le (Nat.le_of_lt h1)
  rw [hd i (by omega), hn]
  have := okFrom_pos b1 (show 0 < i by omega) (by omega)
  omega
 obtain rfl := begins_unique hb hbeg
 constructor
 ·rw [List.append_assoc, List.take_left']
  rfl
 ·rw [List.append_assoc, List.drop_left' rfl, Nat.add_sub_cancel_left, List.take_left' rfl]
theorem split_one {a : Ex} {p : Int × Int} (hp : pNeeds p = 1) {xs ys : List (Int × Int)} (h : splits (a.post ++ [p]) xs ys) : xs = a.post ∧ ys = [] := by
 obtain ⟨-, h2, -⟩ := h
 rw [last_snoc] at h2
 obtain ⟨rfl, rfl⟩ := h2 hp
 simp
theorem split_leaf {p : Int × Int} (hp : pNeeds p = 0) {xs ys : List (Int × Int)} (h : splits [p] xs ys) : xs = [] ∧ ys = [] := h.1 (by simpa using hp)
section
variable (n : Nat) (nx : Nat → Nat → Nat)
def sameAt (cl : Nat → Nat) (t s : Nat) : Bool := decide (cl t = cl s) && (List.range 3).all fun c => decide (cl (nx t c) = cl (nx s c))
theorem sameAt_iff {cl : Nat → Nat} {t s : Nat} : sameAt nx cl t s = true ↔ cl t = cl s ∧ ∀ c, c < 3 → cl (nx t c) = cl (nx s c) := by
 simp [sameAt]
theorem sameAt_refl (cl : Nat → Nat) (s : Nat) : sameAt nx cl s s = true := (sameAt_iff nx).2 ⟨rfl, fun _ _ => rfl⟩
theorem sameAt_symm {cl : Nat → Nat} {t s : Nat} (h : sameAt nx cl t s = true) : sameAt nx cl s t = true := by
 obtain ⟨h1, h2⟩ := (sameAt_iff nx).1 h
 exact (sameAt_iff nx).2 ⟨h1.symm, fun c hc => (h2 c hc).symm⟩
theorem sameAt_trans {cl : Nat → Nat} {t s r : Nat} (h : sameAt nx cl t s = true) (h' : sameAt nx cl s r = true) : sameAt nx cl t r = true := by
 obtain ⟨h1, h2⟩ := (sameAt_iff nx).1 h
 obtain ⟨h3, h4⟩ := (sameAt_iff nx).1 h'
 exact (sameAt_iff nx).2 ⟨h1.trans h3, fun c hc => (h2 c hc).trans (h4 c hc)⟩
def leastN (p : Nat → Bool) : Nat → Nat
 | 0 => 0
 | k + 1 => if p (leastN p k) && decide (leastN p k < k) then leastN p k else if p k then k else k + 1
end
theorem least_spec (p : Nat → Bool) : ∀ k, (leastN p k < k ∧ p (leastN p k) = true ∧ ∀ j, j < leastN p k → p j = false) ∨ (leastN p k = k ∧ ∀ j, j < k → p j = false)
 | 0 => Or.inr ⟨rfl, fun j hj => absurd hj (by omega)⟩
 | k + 1 => by
  rcases least_spec p k with ⟨h1, h2, h3⟩ | ⟨h1, h2⟩
  ·left
   have e : leastN p (k + 1) = leastN p k := by simp [leastN, h1, h2]
   rw [e]
   exact ⟨by omega, h2, h3⟩
  ·by_cases hp : p k = true
   ·left
    have e : leastN p (k + 1) = k := by simp [leastN, h1, hp]
    rw [e]
    exact ⟨by omega, hp, h2⟩
   ·right
    have e : leastN p (k + 1) = k + 1 := by simp [leastN, h1, hp]
    refine ⟨e, fun j hj => ?_⟩
    by_cases hjk : j = k
    ·subst hjk; simpa using hp
    ·exact h2 j (by omega)
theorem least_of {p : Nat → Bool} {k s : Nat} (hs : s < k) (hp : p s = true) : leastN p k ≤ s ∧ p (leastN p k) = true ∧ ∀ j, j < leastN p k → p j = false := by
 rcases least_spec p k with ⟨h1, h2, h3⟩ | ⟨h1, h2⟩
 ·refine ⟨?_, h2, h3⟩
  rcases Nat.lt_or_ge s (leastN p k) with h | h
  ·rw [h3 s h] at hp; cases hp
  ·exact h
 ·rw [h2 s hs] at hp; cases hp
section
variable {n : Nat} {nx : Nat → Nat → Nat}
structure GoodC (n : Nat) (cl : Nat → Nat) : Prop where
 le : ∀ s, s < n → cl s ≤ s
 id : ∀ s, s < n → cl (cl s) = cl s
def refineC (n : Nat) (nx : Nat → Nat → Nat) (cl : Nat → Nat) (s : Nat) : Nat := leastN (fun t => sameAt nx cl t s) n
theorem refine_facts {cl : Nat → Nat} {s : Nat} (hs : s < n) : refineC n nx cl s ≤ s ∧ sameAt nx cl (refineC n nx cl s) s = true ∧ ∀ j, j < refineC n nx cl s → sameAt nx cl j s = false :=
 least_of hs (sameAt_refl nx cl s)
theorem refine_eq {cl : Nat → Nat} {s t : Nat} (hs : s < n) (ht : t < n) : refineC n nx cl s = refineC n nx cl t ↔ sameAt nx cl s t = true := by
 obtain ⟨a1, a2, a3⟩ := refine_facts (nx := nx) (cl := cl) hs
 obtain ⟨b1, b2, b3⟩ := refine_facts (nx := nx) (cl := cl) ht
 constructor
 ·intro h
  rw [h] at a2
  exact sameAt_trans nx (sameAt_symm nx a2) b2
 ·intro h
  have h1 : ¬ refineC n nx cl s < refineC n nx cl t := fun hlt => by
   have := b3 _ hlt
   rw [sameAt_trans nx a2 h] at this
   cases this
  have h2 : ¬ refineC n nx cl t < refineC n nx cl s := fun hlt => by
   have := a3 _ hlt
   rw [sameAt_trans nx b2 (sameAt_symm nx h)] at this
   cases this
  omega
theorem refine_good {cl : Nat → Nat} : GoodC n (refineC n nx cl) := by
 refine ⟨fun s hs => (refine_facts hs).1, fun s hs => ?_⟩
 obtain ⟨a1, a2, a3⟩ := refine_facts (nx := nx) (cl := cl) hs
 exact (refine_eq (by omega) hs).2 a2
theorem refine_rep {cl : Nat → Nat} (hg : GoodC n cl) {s : Nat} (hs : s < n) (h : cl s = s) : refineC n nx cl s = s := by
 obtain ⟨a1, a2, a3⟩ := refine_facts (nx := nx) (cl := cl) hs
 have e := ((sameAt_iff nx).1 a2).1
 have := hg.le (refineC n nx cl s) (by omega)
 omega
def reps (n : Nat) (cl : Nat → Nat) : Nat := ((List.range n).filter fun s => decide (cl s = s)).length
theorem refine_more {cl : Nat → Nat} (hg : GoodC n cl) {s : Nat} (hs : s < n) (hne : refineC n nx cl s ≠ cl s) : reps n cl < reps n (refineC n nx cl) := by
 obtain ⟨a1, a2, a3⟩ := refine_facts (nx := nx) (cl := cl) hs
 have e := ((sameAt_iff nx).1 a2).1
 have hr : refineC n nx cl s < n := by omega
 refine filter_lt (a := refineC n nx cl s) ?_ ?_ (List.mem_range.2 hr) fun x hx h => ?_
 ·have : cl (refineC n nx cl s) ≠ refineC n nx cl s := by rw [e]; exact fun h => hne h.symm
  simpa using this
 ·simpa using refine_good.id s hs
 ·simp only [decide_eq_true_eq] at h ⊢
  exact refine_rep hg (List.mem_range.1 hx) h
theorem reps_le (n : Nat) (cl : Nat → Nat) : reps n cl ≤ n := by
 have := List.length_filter_le (fun s => decide (cl s = s)) (List.range n)
 simpa [reps] using this
def clAt (n : Nat) (nx : Nat → Nat → Nat) (en : Nat → Bool) : Nat → Nat → Nat
 | 0 => fun s => leastN (fun t => en t == en s) n
 | i + 1 => refineC n nx (clAt n nx en i)
theorem cl0_facts {en : Nat → Bool} {s : Nat} (hs : s < n) : clAt n nx en 0 s ≤ s ∧ en (clAt n nx en 0 s) = en s ∧ ∀ j, j < clAt n nx en 0 s → en j ≠ en s := by
 obtain ⟨a, b, c⟩ := least_of (p := fun t => en t == en s) hs (by simp)
 have b' : en (leastN (fun t => en t == en s) n) = en s := by simpa using b
 exact ⟨a, b', fun j hj => by simpa using c j hj⟩
theorem cl0_eq {en : Nat → Bool} {s t : Nat} (hs : s < n) (ht : t < n) : clAt n nx en 0 s = clAt n nx en 0 t ↔ en s = en t := by
 obtain ⟨a1, a2, a3⟩ := cl0_facts (nx := nx) (en := en) hs
 obtain ⟨b1, b2, b3⟩ := cl0_facts (nx := nx) (en := en) ht
 constructor
 ·intro h; rw [← a2, ← b2, h]
 ·intro h
  have h1 : ¬ clAt n nx en 0 s < clAt n nx en 0 t := fun hlt => b3 _ hlt (a2.trans h)
  have h2 : ¬ clAt n nx en 0 t < clAt n nx en 0 s := fun hlt => a3 _ hlt (b2.trans h.symm)
  omega
theorem clAt_good (en : Nat → Bool) : ∀ i, GoodC n (clAt n nx en i)
 | 0 => ⟨fun s hs => (cl0_facts hs).1, fun s hs => by
  obtain ⟨a1, a2, a3⟩ := cl0_facts (nx := nx) (en := en) hs
  exact (cl0_eq (by omega) hs).2 a2⟩
 | _ + 1 => refine_good
def stays (n : Nat) (nx : Nat → Nat → Nat) (en : Nat → Bool) (i : Nat) : Prop := ∀ s, s < n → clAt n nx en (i + 1) s = clAt n nx en i s
theorem stays_ex (en : Nat → Bool) : ∃ i, i ≤ n ∧ stays n nx en i ∧ ∀ j, j < i → ¬ stays n nx en j := by
 have key : ∀ k, (∀ j, j < k → ¬ stays n nx en j) → k ≤ reps n (clAt n nx en k) := by
  intro k
  induction k with
  | zero => intro _; exact Nat.zero_le _
  | succ k ih =>
   intro h
   have h1 := ih fun j hj => h j (by omega)
   have h2 := h k (by omega)
   have h3 : ∃ s, s < n ∧ clAt n nx en (k + 1) s ≠ clAt n nx en k s := Classical.byContradiction fun hn => h2 fun s hs => Classical.byContradiction fun hne => hn ⟨s, hs, hne⟩
   obtain ⟨s, hs, hne⟩ := h3
   have := refine_more (nx := nx) (clAt_good (nx := nx) en k) hs hne
   show k + 1 ≤ reps n (refineC n nx (clAt n nx en k))
   omega
 have hex : ∃ i, i ≤ n ∧ stays n nx en i := Classical.byContradiction fun hn => by
  have := key (n + 1) fun j hj hs => hn ⟨j, by omega, hs⟩
  have := reps_le n (clAt n nx en (n + 1))
  omega
 obtain ⟨i, hi, hs⟩ := hex
 have key2 : ∀ k, (∃ j, j < k ∧ stays n nx en j) → ∃ i, i < k ∧ stays n nx en i ∧ ∀ j, j < i → ¬ stays n nx en j := by
  intro k
  induction k with
  | zero => rintro ⟨j, hj, -⟩; omega
  | succ k ih =>
   rintro ⟨j, hj, hs⟩
   by_cases h : ∃ j, j < k ∧ stays n nx en j
   ·obtain ⟨i, h1, h2⟩ := ih h
    exact ⟨i, by omega, h2⟩
   ·have : j = k := Classical.byContradiction fun hne => h ⟨j, by omega, hs⟩
    subst this
    exact ⟨j, by omega, hs, fun i hi hs' => h ⟨i, hi, hs'⟩⟩
 obtain ⟨i', h1, h2⟩ := key2 (n + 1) ⟨i, by omega, hs⟩
 exact ⟨i', by omega, h2⟩
theorem leastN_congr {p q : Nat → Bool} : ∀ {k : Nat}, (∀ t, t < k → p t = q t) → leastN p k = leastN q k
 | 0, _ => rfl
 | k + 1, h => by
  have ih := leastN_congr (k := k) fun t ht => h t (by omega)
  have hk := h k (by omega)
  unfold leastN
  rw [← ih, ← hk]
  by_cases hl : leastN p k < k
  ·rw [h _ (by omega)]
  ·simp [hl]
theorem refine_congr (hnx : ∀ s c, s < n → c < 3 → nx s c < n) {cl cl' : Nat → Nat} (h : ∀ s, s < n → cl s = cl' s) {s : Nat} (hs : s < n) : refineC n nx cl s = refineC n nx cl' s := by
 unfold refineC
 refine leastN_congr fun t ht => ?_
 rw [Bool.eq_iff_iff, sameAt_iff, sameAt_iff, h t ht, h s hs]
 constructor
 ·rintro ⟨h1, h2⟩
  exact ⟨h1, fun c hc => by rw [← h _ (hnx t c ht hc), ← h _ (hnx s c hs hc)]; exact h2 c hc⟩
 ·rintro ⟨h1, h2⟩
  exact ⟨h1, fun c hc => by rw [h _ (hnx t c ht hc), h _ (hnx s c hs hc)]; exact h2 c hc⟩
theorem stays_all (hnx : ∀ s c, s < n → c < 3 → nx s c < n) {en : Nat → Bool} {i : Nat} (h : stays n nx en i) : ∀ j, i ≤ j → ∀ s, s < n → clAt n nx en j s = clAt n nx en i s := by
 intro j
 induction j with
 | zero =>
  intro hj s _
  obtain rfl : i = 0 := by omega
  rfl
 | succ j ih =>
  intro hj s hs
  by_cases hij : i = j + 1
  ·subst hij; rfl
  ·have e : clAt n nx en (j + 1) s = refineC n nx (clAt n nx en j) s := rfl
   rw [e, refine_congr hnx (ih (by omega)) hs]
   exact h s hs
def clEnd (n : Nat) (nx : Nat → Nat → Nat) (en : Nat → Bool) : Nat → Nat := clAt n nx en n
theorem clEnd_at (hnx : ∀ s c, s < n → c < 3 → nx s c < n) {en : Nat → Bool} {i : Nat} (hi : i ≤ n) (h : stays n nx en i) {s : Nat} (hs : s < n) : clEnd n nx en s = clAt n nx en i s := stays_all hnx h n hi s hs
theorem clEnd_stays (hnx : ∀ s c, s < n → c < 3 → nx s c < n) (en : Nat → Bool) : stays n nx en n := by
 obtain ⟨i, hi, hs, -⟩ := stays_ex (n := n) (nx := nx) en
 intro s hsn
 rw [stays_all hnx hs (n + 1) (by omega) s hsn, stays_all hnx hs n hi s hsn]
theorem clEnd_eq (hnx : ∀ s c, s < n → c < 3 → nx s c < n) {en : Nat → Bool} {s t : Nat} (hs : s < n) (ht : t < n) : clEnd n nx en s = clEnd n nx en t → ∀ c, c < 3 → clEnd n nx en (nx s c) = clEnd n nx en (nx t c) := by
 intro h
 have h1 := clEnd_stays hnx en
 have h2 : refineC n nx (clEnd n nx en) s = refineC n nx (clEnd n nx en) t := by
  have a := h1 s hs
  have b := h1 t ht
  exact a.trans (h.trans b.symm)
 exact ((sameAt_iff nx).1 ((refine_eq hs ht).1 h2)).2
theorem clAt_ends {en : Nat → Bool} : ∀ (i : Nat) {s t : Nat}, s < n → t < n → clAt n nx en i s = clAt n nx en i t → en s = en t
 | 0, _, _, hs, ht, h => (cl0_eq hs ht).1 h
 | i + 1, _, _, hs, ht, h => clAt_ends i hs ht ((sameAt_iff nx).1 ((refine_eq hs ht).1 h)).1
theorem clEnd_ends {en : Nat → Bool} {s t : Nat} (hs : s < n) (ht : t < n) (h : clEnd n nx en s = clEnd n nx en t) : en s = en t := clAt_ends n hs ht h
end
end Go.Proofs.Ytalbofnhcpjilaa
namespace Go.Proofs.Ytalbofnhcpjilaa
open Go.RowKit
def nxD (d : DfaD) (s c : Nat) : Nat := ((d.next.getD s []).getD c 0).toNat
def enD (d : DfaD) (s : Nat) : Bool := d.ends.getD s false
def trimD (d : DfaD) : DfaD := numDfa (dnx d) (den d) (bat (dnx d) 0 d.next.length).met
theorem nxD_lt {d : DfaD} (hd : fine d) {s c : Nat} (hs : s < d.next.length) (hc : c < 3) : nxD d s c < d.next.length ∧ dnx d (s : Int) c = ((nxD d s c : Nat) : Int) := by
 obtain ⟨-, -, -, h⟩ := hd
 obtain ⟨-, h2⟩ := h s hs
 obtain ⟨a, b⟩ := h2 c hc
 unfold nxD dnx
 rw [Int.toNat_natCast]
 omega
theorem met_facts {d : DfaD} (hd : fine d) (K : Nat) : (∀ x ∈ (bat (dnx d) 0 K).met, 0 ≤ x ∧ x < (d.next.length : Int)) ∧ (bat (dnx d) 0 K).met.length ≤ d.next.length := by
 have h1 : ∀ x ∈ (bat (dnx d) 0 K).met, 0 ≤ x ∧ x < (d.next.length : Int) := by
  refine bat_all (Q := fun x => 0 ≤ x ∧ x < (d.next.length : Int)) ⟨by omega, by have := hd.1; omega⟩ (fun x c hc hx => ?_) K
  obtain ⟨s, rfl⟩ := Int.eq_ofNat_of_zero_le hx.1
  obtain ⟨a, b⟩ := nxD_lt hd (s := s) (by omega) hc
  rw [b]
  omega
 refine ⟨h1, ?_⟩
 have := nodup_le (bat_good (nx := dnx d) (a := 0) K).1 (m := upInts d.next.length) fun x hx => by
  obtain ⟨a, b⟩ := h1 x hx
  obtain ⟨s, rfl⟩ := Int.eq_ofNat_of_zero_le a
  exact mem_upInts.2 (by omega)
 rwa [upInts_len] at this
theorem fine_of {d : DfaD} (h : dfaOk d.next d.ends = true) : fine d := by
 have := dfaOk_len h
 exact ⟨by omega, by omega, by omega, fun i hi => dfaOk_row h hi⟩
theorem trim_num {α : Type} [DecidableEq α] {nx : α → Nat → α} {a : α} {en : α → Bool} {K : Nat} (hK : (bat nx a K).met.length ≤ K) : trimD (numDfa nx en (bat nx a K).met) = numDfa nx en (bat nx a K).met := by
 unfold trimD
 rw [numDfa_len]
 obtain ⟨m, hm⟩ : ∃ m, m = (bat nx a K).met.length := ⟨_, rfl⟩
 have hle : (bat nx a m).met.length ≤ m := by
  have := (bat_le (nx := nx) (a := a) (show m ≤ K by omega)).1.length_le
  omega
 have hd : bat nx a K = bat nx a m := bat_done hle (by omega)
 have hp := bat_pos (nx := nx) (a := a) K
 have hpl : ∀ (s : Int) c, c < 3 → 0 ≤ s ∧ s < m → placeOf (bat nx a K).met (nx ((bat nx a K).met.getD s.toNat a) c) < m := fun s c hc hs => by
  rw [hm]
  exact placeOf_lt (bat_closed hK (memD (d := a) (show s.toNat < (bat nx a K).met.length by omega)) hc)
 have hlt : ∀ (s : Int) c, c < 3 → 0 ≤ s ∧ s < m → 0 ≤ numNext nx a (bat nx a K).met s c ∧ numNext nx a (bat nx a K).met s c < m := fun s c hc hs => by
  have := hpl s c hc hs
  unfold numNext
  omega
 have e1 : bat (numNext nx a (bat nx a K).met) 0 m = bat (dnx (numDfa nx en (bat nx a K).met)) 0 m :=
  bat_congr (Q := fun s => 0 ≤ s ∧ s < (m : Int)) (by omega) (fun s c hc hs => hlt s c hc hs) (fun s c hc hs => (dnx_num (by omega) (by omega) hc).symm) m
 have hmet : (bat (dnx (numDfa nx en (bat nx a K).met)) 0 (bat nx a K).met.length).met = upInts (bat nx a K).met.length := by
  rw [← hm, ← e1, num_sim nx a K m (by omega), ← hd, hm]
 rw [hmet]
 have hr : (upInts (bat nx a K).met.length).map (numRow (dnx (numDfa nx en (bat nx a K).met)) (upInts (bat nx a K).met.length)) = (bat nx a K).met.map (numRow nx (bat nx a K).met) := by
  refine List.ext_getElem (by simp [upInts]) fun i h1 h2 => ?_
  have hi : i < (bat nx a K).met.length := by simpa using h2
  have hu : (upInts (bat nx a K).met.length)[i]'(by simpa using h1) = (i : Int) := by simp [upInts]
  simp only [List.getElem_map]
  rw [hu]
  unfold numRow
  refine List.map_congr_left fun c hc => ?_
  have hc3 : c < 3 := List.mem_range.1 hc
  rw [dnx_num (a := a) (by omega) (by omega) hc3]
  unfold numNext
  have hp2 := hpl (i : Int) c hc3 (by omega)
  have e2 : (bat nx a K).met.getD (i : Int).toNat a = (bat nx a K).met[i] := by simp [hi]
  rw [e2] at hp2 ⊢
  congr 1
  obtain ⟨q, hq⟩ : ∃ q, placeOf (bat nx a K).met (nx ((bat nx a K).met[i]) c) = q := ⟨_, rfl⟩
  rw [hq] at hp2 ⊢
  have e3 := upInts_getD (n := (bat nx a K).met.length) (k := q) (by omega)
  have e4 := idx_getD (l := upInts (bat nx a K).met.length) (k := q) (by rw [upInts_len]; omega) (List.Pairwise.map _ (fun _ _ h e => h (Int.ofNat.inj e)) List.nodup_range) (0 : Int)
  rw [e3] at e4
  exact e4
 have he : (upInts (bat nx a K).met.length).map (den (numDfa nx en (bat nx a K).met)) = (bat nx a K).met.map en := by
  refine List.ext_getElem (by simp [upInts]) fun i h1 h2 => ?_
  have hi : i < (bat nx a K).met.length := by simpa using h2
  have hu : (upInts (bat nx a K).met.length)[i]'(by simpa using h1) = (i : Int) := by simp [upInts]
  simp only [List.getElem_map]
  rw [hu]
  exact den_num hi
 exact congr (congrArg DfaD.mk hr) he
section
variable {α β : Type} [DecidableEq α] [DecidableEq β] {nx : α → Nat → α} {nx' : β → Nat → β} {a : α} {f : α → β} {Q : α → Prop}
theorem brow_mapQ (hv : ∀ x c, c < 3 → Q x → Q (nx x c)) (hf : ∀ x y, Q x → Q y → f x = f y → x = y) (hn : ∀ x c, c < 3 → Q x → f (nx x c) = nx' (f x) c) {x : α} (hx : Q x) (wd : List Nat) {s : Bs α} (hs : ∀ y ∈ s.met, Q y) :
  ∀ n, n ≤ 3 → brow nx' (f x) wd ⟨s.met.map f, s.words⟩ n = ⟨(brow nx x wd s n).met.map f, (brow nx x wd s n).words⟩ ∧ ∀ y ∈ (brow nx x wd s n).met, Q y
 | 0, _ => ⟨rfl, hs⟩
 | n + 1, hn3 => by
  obtain ⟨h1, h2⟩ := brow_mapQ hv hf hn hx wd hs n (by omega)
  have hq := hv x n (by omega) hx
  have hm : nx' (f x) n ∈ (brow nx x wd s n).met.map f ↔ nx x n ∈ (brow nx x wd s n).met := by
   rw [← hn x n (by omega) hx]
   constructor
   ·intro h
    obtain ⟨y, hy, e⟩ := List.mem_map.1 h
    rw [← hf _ _ (h2 y hy) hq e]
    exact hy
   ·exact fun h => List.mem_map.2 ⟨_, h, rfl⟩
  have e : brow nx' (f x) wd ⟨s.met.map f, s.words⟩ (n + 1) = bvisit nx' (f x) wd (brow nx' (f x) wd ⟨s.met.map f, s.words⟩ n) n := rfl
  have e2 : brow nx x wd s (n + 1) = bvisit nx x wd (brow nx x wd s n) n := rfl
  rw [e, e2, h1]
  unfold bvisit
  by_cases h : nx x n ∈ (brow nx x wd s n).met
  ·rw [if_pos h, if_pos (hm.2 h)]
   exact ⟨rfl, h2⟩
  ·rw [if_neg h, if_neg (fun h2 => h (hm.1 h2))]
   refine ⟨by simp [hn x n (by omega) hx], fun y hy => ?_⟩
   simp only [List.mem_append, List.mem_singleton] at hy
   rcases hy with hy | rfl
   ·exact h2 y hy
   ·exact hq
theorem bat_mapQ (h0 : Q a) (hv : ∀ x c, c < 3 → Q x → Q (nx x c)) (hf : ∀ x y, Q x → Q y → f x = f y → x = y) (hn : ∀ x c, c < 3 → Q x → f (nx x c) = nx' (f x) c) : ∀ k, bat nx' (f a) k = ⟨(bat nx a k).met.map f, (bat nx a k).words⟩
 | 0 => rfl
 | k + 1 => by
  have ih := bat_mapQ h0 hv hf hn k
  have hl : (bat nx' (f a) k).met.length = (bat nx a k).met.length := by rw [ih]; simp
  by_cases h : k < (bat nx a k).met.length
  ·rw [bat_succ h, bat_succ (by rw [hl]; exact h)]
   unfold bpart
   rw [ih]
   have hx : ((bat nx a k).met.map f).getD k (f a) = f ((bat nx a k).met.getD k a) := by simp [h]
   simp only [hx]
   exact (brow_mapQ hv hf hn (bat_all h0 hv k _ (memD h)) _ (bat_all h0 hv k) 3 (by omega)).1
  ·rw [bat_stay (by omega), bat_stay (by omega), ih]
theorem placeOf_map {L : List α} {x : α} (hf : ∀ y ∈ L, f y = f x → y = x) : placeOf (L.map f) (f x) = placeOf L x := by
 unfold placeOf
 induction L with
 | nil => rfl
 | cons y l ih =>
  have h1 := hf y (by simp)
  have h2 := ih fun z hz => hf z (by simp [hz])
  simp only [List.map_cons, List.idxOf_cons]
  by_cases h : y = x
  ·subst h; simp
  ·have : f y ≠ f x := fun e => h (h1 e)
   have e1 : (f y == f x) = false := by simpa using this
   have e2 : (y == x) = false := by simpa using h
   rw [e1, e2]
   simp [h2]
theorem numDfa_mapQ {en : α → Bool} {en' : β → Bool} {K : Nat} (h0 : Q a) (hv : ∀ x c, c < 3 → Q x → Q (nx x c)) (hf : ∀ x y, Q x → Q y → f x = f y → x = y) (hn : ∀ x c, c < 3 → Q x → f (nx x c) = nx' (f x) c) (he : ∀ x, Q x → en' (f x) = en x) :
  numDfa nx' en' (bat nx' (f a) K).met = numDfa nx en (bat nx a K).met := by
 have hm := congrArg Bs.met (bat_mapQ h0 hv hf hn K)
 simp only at hm
 have hq := bat_all h0 hv K
 rw [hm]
 unfold numDfa
 have e1 : ((bat nx a K).met.map f).map (numRow nx' ((bat nx a K).met.map f)) = (bat nx a K).met.map (numRow nx (bat nx a K).met) := by
  rw [List.map_map]
  refine List.map_congr_left fun x hx => ?_
  unfold numRow
  refine List.map_congr_left fun c hc => ?_
  have hc3 : c < 3 := List.mem_range.1 hc
  rw [← hn x c hc3 (hq x hx), placeOf_map fun y hy e => hf _ _ (hq y hy) (hv x c hc3 (hq x hx)) e]
 have e2 : ((bat nx a K).met.map f).map en' = (bat nx a K).met.map en := by
  rw [List.map_map]
  exact List.map_congr_left fun x hx => he x (hq x hx)
 rw [e1, e2]
end
end Go.Proofs.Ytalbofnhcpjilaa
