/-
  Plain: the classes as the reference refines them: first 0 and 1, then the least state of each class.
  Condition: the states' numbers are below n.
  Plain: rows that are filled from the left, the rest zero.
  Condition: places lie in the row.
  The walks over Index among truth values and Equal of integers.
  Conditions: the lists read as such; the value looked for is in the list.
  Plain: what both DfaRests answer.
  Condition: the automaton is valid.
-/
import Derived.Test.YtclhcfmlkfiidaaPk14
import Derived.Test.YtclhcfmlkfiidaaPk26
import Derived.Test.YtclhcfmlkfiidaaPk30
import Derived.Test.YtclhcfmlkfiidaaCtx
import Derived.Test.YtclhcfmlkfiidaaProd
import Derived.Test.YtclhcfmlkfiidaaTx
namespace Go.Proofs.Ytclhcfmlkfiidaa
open Go.RowKit

section
variable {n : Nat} {nx : Nat → Nat → Nat}
def clR (n : Nat) (nx : Nat → Nat → Nat) (en : Nat → Bool) : Nat → Nat → Nat
  | 0 => fun s => if en s = true then 1 else 0
  | i + 1 => refineC n nx (clR n nx en i)
theorem refine_part (hnx : ∀ s c, s < n → c < 3 → nx s c < n) {cl cl' : Nat → Nat} (h : ∀ s t, s < n → t < n → (cl s = cl t ↔ cl' s = cl' t)) {s : Nat} (hs : s < n) : refineC n nx cl s = refineC n nx cl' s := by
  unfold refineC
  refine leastN_congr fun t ht => ?_
  rw [Bool.eq_iff_iff, sameAt_iff, sameAt_iff, h t s ht hs]
  constructor
  · rintro ⟨a, b⟩
    exact ⟨a, fun c hc => (h _ _ (hnx t c ht hc) (hnx s c hs hc)).1 (b c hc)⟩
  · rintro ⟨a, b⟩
    exact ⟨a, fun c hc => (h _ _ (hnx t c ht hc) (hnx s c hs hc)).2 (b c hc)⟩
theorem clR_at (hnx : ∀ s c, s < n → c < 3 → nx s c < n) (en : Nat → Bool) : ∀ i, (∀ s t, s < n → t < n → (clR n nx en i s = clR n nx en i t ↔ clAt n nx en i s = clAt n nx en i t)) ∧ (0 < i → ∀ s, s < n → clR n nx en i s = clAt n nx en i s)
  | 0 => ⟨fun s t hs ht => by
      rw [cl0_eq hs ht]
      unfold clR
      cases en s <;> cases en t <;> simp, fun h => absurd h (by omega)⟩
  | i + 1 => by
    have ih := (clR_at hnx en i).1
    have h2 : ∀ s, s < n → clR n nx en (i + 1) s = clAt n nx en (i + 1) s := fun s hs => refine_part hnx ih hs
    exact ⟨fun s t hs ht => by rw [h2 s hs, h2 t ht], fun _ => h2⟩
/-- The classes stay exactly if each two states are told apart as before. -/
theorem stays_part (hnx : ∀ s c, s < n → c < 3 → nx s c < n) (en : Nat → Bool) (i : Nat) : stays n nx en i ↔ ∀ k j, k < n → j < k → (clR n nx en i j = clR n nx en i k ↔ clR n nx en (i + 1) j = clR n nx en (i + 1) k) := by
  have h0 := (clR_at hnx en i).1
  have h1 := (clR_at hnx en (i + 1)).1
  constructor
  · intro h k j hk hj
    rw [h0 j k (by omega) hk, h1 j k (by omega) hk, h j (by omega), h k hk]
  · intro h
    have key : ∀ k j, k < n → j ≤ k → (clAt n nx en i j = clAt n nx en i k ↔ clAt n nx en (i + 1) j = clAt n nx en (i + 1) k) := fun k j hk hj => by
      by_cases e : j = k
      · rw [e]
        exact ⟨fun _ => rfl, fun _ => rfl⟩
      · have := h k j hk (by omega)
        rwa [h0 j k (by omega) hk, h1 j k (by omega) hk] at this
    intro s hs
    have g0 := clAt_good (n := n) (nx := nx) en i
    have g1 := clAt_good (n := n) (nx := nx) en (i + 1)
    have a1 := g1.le s hs
    have b1 := g0.le s hs
    have a2 := (key s _ hs a1).2 (g1.id s hs)
    have b2 := (key s _ hs b1).1 (g0.id s hs)
    have a3 := g0.le (clAt n nx en (i + 1) s) (by omega)
    have b3 := g1.le (clAt n nx en i s) (by omega)
    omega
/-- The name of a class in the list of classes is the class. -/
theorem name_good {cl : Nat → Nat} (hg : GoodC n cl) {k : Nat} (hk : k < n) : nameOf (clsL n cl) (cl k : Int) = (cl k : Int) := by
  have h1 := hg.le k hk
  have h2 := hg.id k hk
  refine nameOf_at (by rw [clsL_len]; omega) (fun hm => ?_) (by rw [clsL_at cl (by omega), h2])
  obtain ⟨i, hi, e⟩ := List.getElem_of_mem hm
  simp only [List.length_take, clsL_len] at hi
  rw [List.getElem_take] at e
  simp only [clsL, List.getElem_map, List.getElem_range] at e
  have := hg.le i (by omega)
  omega
/-- The least one, found from above. -/
def lowK (n : Nat) (nx : Nat → Nat → Nat) (cl : Nat → Nat) (k m x : Nat) : Prop := x = refineC n nx cl k ∨ (x = k ∧ ∀ t, m ≤ t → t < k → sameAt nx cl t k = false)
theorem lowK_start (cl : Nat → Nat) (k : Nat) : lowK n nx cl k k k := Or.inr ⟨rfl, fun t h1 h2 => by omega⟩
theorem lowK_yes {cl : Nat → Nat} {k m : Nat} (hk : k < n) (hm : m < n) (h : sameAt nx cl m k = true) : lowK n nx cl k m (refineC n nx cl m) := Or.inl ((refine_eq hm hk).2 h)
theorem lowK_no {cl : Nat → Nat} {k m x : Nat} (h : sameAt nx cl m k = false) (hl : lowK n nx cl k (m + 1) x) : lowK n nx cl k m x := by
  rcases hl with h1 | ⟨h1, h2⟩
  · exact Or.inl h1
  · refine Or.inr ⟨h1, fun t a b => ?_⟩
    by_cases e : t = m
    · rw [e]
      exact h
    · exact h2 t (by omega) b
theorem lowK_end {cl : Nat → Nat} {k x : Nat} (hk : k < n) (hl : lowK n nx cl k 0 x) : x = refineC n nx cl k := by
  rcases hl with h1 | ⟨h1, h2⟩
  · exact h1
  · obtain ⟨a1, a2, a3⟩ := refine_facts (nx := nx) (cl := cl) hk
    by_cases e : refineC n nx cl k < k
    · have := h2 _ (Nat.zero_le _) e
      rw [this] at a2
      exact absurd a2 (by simp)
    · omega
end
theorem clsL_congr {n : Nat} {cl cl' : Nat → Nat} (h : ∀ s, s < n → cl s = cl' s) : clsL n cl = clsL n cl' := List.map_congr_left fun s hs => by rw [h s (List.mem_range.1 hs)]
theorem clsL_take {n k : Nat} (cl : Nat → Nat) (h : k ≤ n) : (clsL n cl).take k = clsL k cl := by
  unfold clsL
  rw [← List.map_take, List.take_range, Nat.min_eq_left h]
theorem clsL_snoc (k : Nat) (cl : Nat → Nat) : clsL (k + 1) cl = clsL k cl ++ [(cl k : Int)] := by
  unfold clsL
  rw [List.range_succ, List.map_append]
  rfl
theorem sameAt_R (d : DfaD) (cl : Nat → Nat) (t s : Nat) : sameAt (nxD d) cl t s = (decide (cl t = cl s) && sameR d cl t s 3) := rfl
end Go.Proofs.Ytclhcfmlkfiidaa
namespace Go.Proofs.Ytclhcfmlkfiidaa
open Go.RowKit

def padL (n s : Nat) (cl : Nat → Nat) : List Int := clsL s cl ++ List.replicate (n - s) 0
def padT (n s : Nat) (cl : Nat → Nat) (t : Nat) : List Int := clsL s cl ++ ((t : Nat) : Int) :: List.replicate (n - s - 1) 0
theorem padL_zero (n : Nat) (cl : Nat → Nat) : padL n 0 cl = List.replicate n 0 := by simp [padL, clsL]
theorem padL_end (n : Nat) (cl : Nat → Nat) : padL n n cl = clsL n cl := by simp [padL]
theorem padL_T {n s : Nat} (cl : Nat → Nat) (h : s < n) : padL n s cl = padT n s cl 0 := by
  unfold padL padT
  rw [show n - s = (n - s - 1) + 1 by omega, List.replicate_succ]
  rfl
theorem padT_end {n s : Nat} (cl : Nat → Nat) : padT n s cl (cl s) = padL n (s + 1) cl := by
  unfold padL padT
  rw [clsL_snoc, List.append_assoc, show n - (s + 1) = n - s - 1 by omega]
  rfl
theorem padT_set {n s : Nat} (cl : Nat → Nat) (t t' : Nat) : (intCells (padT n s cl t)).set s (.int .i64 ((t' : Nat) : Int)) = intCells (padT n s cl t') := by
  unfold intCells
  rw [← List.map_set (f := fun x => Value.int .i64 x)]
  congr 1
  unfold padT
  rw [List.set_append_right _ _ (by rw [clsL_len]; exact Nat.le_refl _), clsL_len, Nat.sub_self]
  rfl
theorem padT_at {n s : Nat} (cl : Nat → Nat) (t : Nat) : (intCells (padT n s cl t))[s]? = some (.int .i64 ((t : Nat) : Int)) := by
  simp [intCells, padT, clsL_len]
theorem padT_len {n s : Nat} (cl : Nat → Nat) (t : Nat) (h : s < n) : (padT n s cl t).length = n := by
  simp [padT, clsL_len]
  omega
theorem clsL_cell {n s : Nat} (cl : Nat → Nat) (h : s < n) : (intCells (clsL n cl))[s]? = some (.int .i64 ((cl s : Nat) : Int)) := by simp [intCells, clsL, h]
theorem made_ints {w : World} {B n : Nat} {v : Value} (cl : Nat → Nat) (h : w.ownsRow B 3 1 v n (madeCells (Value.int .i64 0).cells (n * 1)).toList) : w.ownsRow B 3 1 v n (intCells (padL n 0 cl)) := by
  have e : (madeCells (Value.int .i64 0).cells (n * 1)).toList = intCells (padL n 0 cl) := by
    rw [padL_zero]
    simp [madeCells, Value.cells, intCells, Nat.mod_one, List.map_const']
  rwa [e] at h
theorem clsL_inj {n : Nat} {a b : Nat → Nat} : clsL n a = clsL n b ↔ ∀ s, s < n → a s = b s := by
  constructor
  · intro h s hs
    have := congrArg (fun l => l.getD s 0) h
    simp only [clsL_at a hs, clsL_at b hs] at this
    omega
  · exact clsL_congr
theorem St.intsC {w0 w : World} {L : List Ent} (h : St w0 w L) (i : Nat) {v : Value} {n : Nat} {cl : Nat → Nat} (hx : L[i]? = some (Ent.row 3 1 v n (intCells (clsL n cl)))) : Ints 0 w v (clsL n cl) :=
  ints_of_row' (B := w0.heap.size) (e := 3) (by rw [clsL_len]; exact h.row i hx)
end Go.Proofs.Ytclhcfmlkfiidaa
namespace Go.Proofs.Ytclhcfmlkfiidaa
open Go.RowKit

set_option maxHeartbeats 1600000 in
theorem indexB_any (xs : List Bool) (y : Bool) (p : Nat) (v : Value) (w : World) (h1 : Bools 0 w v xs) (hp : p < xs.length) (hy : xs.getD p false = y) (hno : ∀ j, j < p → xs.getD j false ≠ y) :
    Calls Try.prog 129 #[v, .bool y] w fun e w' => e = .returned (.int .i64 (p : Nat)) ∧ Below w.heap.size w w' := by
  obtain ⟨a1, c1, rfl, hc1, hm1, hr1⟩ := h1.form
  obtain ⟨b1, o1, rfl, -, hbl1, hcs1⟩ := hr1 (by omega)
  have Hcs := Lib.hid hcs1
  have Hno := Lib.hid hno
  have Hhy := Lib.hid hy; clear hy
  clear hr1 hcs1 hno h1
  go_enter Try.func129, Try.ntmps129
  go_wp2
  go_loopw [4, 8] (fun r i wr => ∃ k : Nat, k ≤ p ∧ i = .int .i64 k ∧ Below w.heap.size w wr) (fun _ i _ => p + 1 - (intOf i).toNat)
  case atStart => exact ⟨0, Nat.zero_le _, rfl, Below.refl _ _⟩
  case round =>
    obtain ⟨k, hk, rfl, hb⟩ := hrel
    have hkl : (k : Int) < xs.length := by omega
    have k1 := (bcell hb b1 (o1 + k) hbl1).trans (Hcs.out k (by omega))
    obtain ⟨z, hz⟩ : ∃ z, z = xs.getD k false := ⟨_, rfl⟩
    rw [← hz] at k1
    have Hhb := Lib.hid hb; clear hb
    by_cases he : k = p
    · subst he
      have hzy : z = y := by rw [hz]; exact Hhy.out
      subst hzy
      have Hhz := Lib.hid hz; clear hz
      go_wp2
      go_ret
      exact ⟨rfl, Hhb.out⟩
    · have hne : z ≠ y := by rw [hz]; exact Hno.out k (by omega)
      have g1 : (y == z) = false := by simpa using hne.symm
      have g2 : (z == y) = false := by simpa using hne
      have Hhz := Lib.hid hz; clear hz
      have Hhne := Lib.hid hne; clear hne
      go_wp2
      go_roundw
      case rel => exact ⟨k + 1, by omega, by go_num, Hhb.out⟩
      case measure => simp [intOf]; omega
set_option maxHeartbeats 1600000 in
theorem equalI_any (xs ys : List Int) (n : Nat) (v1 v2 : Value) (w : World) (hx : xs.length = n) (hy : ys.length = n) (h1 : Ints 0 w v1 xs) (h2 : Ints 0 w v2 ys) (r : Bool) (hr : decide (xs = ys) = r) :
    Calls Try.prog 131 #[v1, v2] w fun e w' => e = .returned (.bool r) ∧ Below w.heap.size w w' := by
  obtain ⟨a1, c1, rfl, hc1, hm1, hr1⟩ := h1.form
  obtain ⟨a2, c2, rfl, hc2, hm2, hr2⟩ := h2.form
  rw [hx] at hc1 hr1
  rw [hy] at hc2 hr2
  rw [hx, hy]
  have hnn : ((n : Int) != n) = false := by simp
  have Hhx := Lib.hid hx; clear hx
  have Hhy := Lib.hid hy; clear hy
  have Hhr := Lib.hid hr; clear hr
  clear h1 h2
  go_enter Try.func131, Try.ntmps131
  go_wp2
  go_loopw [4, 13] (fun r i wr => ∃ k : Nat, k ≤ n ∧ i = .int .i64 k ∧ xs.take k = ys.take k ∧ Below w.heap.size w wr) (fun _ i _ => n - (intOf i).toNat)
  case atStart => exact ⟨0, Nat.zero_le _, rfl, rfl, Below.refl _ _⟩
  case round =>
    obtain ⟨k, hk, rfl, htk, hb⟩ := hrel
    have Hhtk := Lib.hid htk; clear htk
    by_cases hlt : k < n
    · obtain ⟨b1, o1, rfl, -, hbl1, hcs1⟩ := hr1 (by omega)
      obtain ⟨b2, o2, rfl, -, hbl2, hcs2⟩ := hr2 (by omega)
      have k1 := (bcell hb b1 (o1 + k) hbl1).trans (hcs1 k hlt)
      have k2 := (bcell hb b2 (o2 + k) hbl2).trans (hcs2 k hlt)
      obtain ⟨p, hp⟩ : ∃ p, p = xs.getD k 0 := ⟨_, rfl⟩
      obtain ⟨q, hq⟩ : ∃ q, q = ys.getD k 0 := ⟨_, rfl⟩
      rw [← hp] at k1
      rw [← hq] at k2
      have Hhp := Lib.hid hp; clear hp
      have Hhq := Lib.hid hq; clear hq
      have Hhb := Lib.hid hb; clear hb
      clear hcs1 hcs2 hr1 hr2
      by_cases hpq : p = q
      · have g1 : (p != q) = false := by simpa using hpq
        have g2 : (!(p == q)) = false := by simpa using hpq
        have g3 : (p = q) = True := by simpa using hpq
        have Hhpq := Lib.hid hpq; clear hpq
        go_wp2
        go_quiet (fail)
        go_wp2
        go_roundw
        case rel => exact ⟨k + 1, by omega, by go_num, take_snoc_eq (d := 0) (by rw [Hhx.out]; exact hlt) (by rw [Hhy.out]; exact hlt) Hhtk.out (by rw [← Hhp.out, ← Hhq.out]; exact Hhpq.out), below_drewN Hhb.out _⟩
        case measure => simp [intOf]; omega
      · have g1 : (p != q) = true := by simpa using hpq
        have g2 : (!(p == q)) = true := by simpa using hpq
        have g3 : (p = q) = False := by simpa using hpq
        have Hhpq := Lib.hid hpq; clear hpq
        go_wp2
        go_quiet (fail)
        go_wp2
        go_ret
        exact ⟨by rw [← Hhr.out, decide_eq_false (ne_of_getD (k := k) (d := 0) (by rw [← Hhp.out, ← Hhq.out]; exact Hhpq.out))]; rfl, below_drewN Hhb.out _⟩
    · obtain rfl : k = n := by omega
      have Hhb := Lib.hid hb; clear hb
      clear hr1 hr2
      go_wp2
      go_ret
      refine ⟨?_, Hhb.out⟩
      have h := Hhtk.out
      rw [List.take_of_length_le (by rw [Hhx.out]; exact Nat.le_refl _), List.take_of_length_le (by rw [Hhy.out]; exact Nat.le_refl _)] at h
      rw [← Hhr.out, decide_eq_true h]
      rfl

end Go.Proofs.Ytclhcfmlkfiidaa
namespace Go.Proofs.Ytclhcfmlkfiidaa
open Go.RowKit

theorem ok_of_fine {d : DfaD} (h : fine d) (h40 : d.next.length ≤ 40) : dfaOk d.next d.ends = true := by
  obtain ⟨h1, -, h3, hr⟩ := h
  simp only [dfaOk, Bool.and_eq_true, List.all_eq_true, decide_eq_true_eq]
  refine ⟨⟨fun x hx => ?_, ?_⟩, h3⟩
  · obtain ⟨i, hi, e⟩ := List.getElem_of_mem hx
    obtain ⟨a, b⟩ := hr i hi
    rw [getD_at hi, e] at a b
    simp only [rowOk, Bool.and_eq_true, decide_eq_true_eq, List.all_eq_true]
    refine ⟨a, fun y hy => ?_⟩
    obtain ⟨c, hc, e2⟩ := List.getElem_of_mem hy
    have := b c (by omega)
    rw [getD_at hc, e2] at this
    unfold inB
    simp
    omega
  · unfold inB
    simp
    omega
theorem trim_ok {d : DfaD} (h : dfaOk d.next d.ends = true) : dfaOk (trimD d).next (trimD d).ends = true ∧ (trimD d).next.length ≤ d.next.length := by
  obtain ⟨h1, h2, -⟩ := trim_facts (fine_of h)
  have := dfaOk_len h
  exact ⟨ok_of_fine h1 (by omega), h2⟩
theorem fold_ok {x : DfaD} (h : dfaOk x.next x.ends = true) : dfaOk (foldD x).next (foldD x).ends = true := by
  obtain ⟨h1, h2, -⟩ := fold_facts (fine_of h)
  have := dfaOk_len h
  exact ok_of_fine h1 (by omega)
theorem sum_rows3'' {xss : List (List Int)} (h : ∀ x ∈ xss, x.length = 3) : (xss.map List.length).sum = 3 * xss.length := by
  induction xss with
  | nil => rfl
  | cons x l ih =>
    have h1 := h x (by simp)
    have h2 := ih fun y hy => h y (by simp [hy])
    simp only [List.map_cons, List.sum_cons, List.length_cons] at h2 ⊢
    omega
/-- All states are first. -/
def restsN (x : DfaD) : NfaD := ⟨(nfaOf x).states, (nfaOf x).moves, upInts x.next.length, (nfaOf x).ends⟩
theorem restsN_det {x : DfaD} (hx : dfaOk x.next x.ends = true) : DetOk (restsN x) x.next.length := by
  have h := nfaOf_det hx
  have hl := dfaOk_len hx
  refine ⟨h.st, h.m40, h.mv, h.ml, fun y hy => ?_, ?_, h.e, h.el⟩
  · have hy : y ∈ upInts x.next.length := hy
    obtain ⟨i, hi, rfl⟩ := List.mem_map.1 hy
    have := List.mem_range.1 hi
    constructor
    · exact Int.natCast_nonneg i
    · show (i : Int) < _
      omega
  · show (upInts x.next.length).length ≤ _
    rw [upInts_len]
    omega
def rsK (K : Nat) (d : DfaD) : Option DfaD := if dfaOk d.next d.ends = true then (detQK K (restsN (trimD d))).map minD else none
theorem minD_len {d : DfaD} (hd : dfaOk d.next d.ends = true) : (minD d).next.length ≤ d.next.length ∧ (minD d).ends.length = (minD d).next.length ∧ ((minD d).next.map List.length).sum ≤ 120 := by
  have h := small_min (fine_of hd)
  have hl := dfaOk_len hd
  have ht := trim_ok hd
  have hf := fold_ok ht.1
  have h2 := trim_ok hf
  have hfl := (fold_facts (fine_of ht.1)).2.1
  have e : minD d = trimD (foldD (trimD d)) := h.symm
  rw [e]
  have h3 := dfaOk_len h2.1
  have h4 := sum_rows3'' (xss := (trimD (foldD (trimD d))).next) fun x hx => by
    obtain ⟨i, hi, e⟩ := List.getElem_of_mem hx
    have := (dfaOk_row h2.1 hi).1
    rw [getD_at hi, e] at this
    exact this
  refine ⟨by omega, h3.2.2, by omega⟩
end Go.Proofs.Ytclhcfmlkfiidaa
