/-
  Learning an automaton by questions, plain: starts, rests, rows, guesses; that it ends after at most as many guesses as there are states.
  No condition: this text speaks of no program.
-/
import Derived.Test.YtjcegbcmomfgaaaFwp
import Derived.Test.YtjcegbcmomfgaaaProd
import Derived.Test.YtjcegbcmomfgaaaS9
namespace Go.Proofs.Ytjcegbcmomfgaaa
open Go.RowKit

theorem nodup_of_map {α β : Type} {f : α → β} : ∀ {l : List α}, (l.map f).Nodup → l.Nodup
  | [], _ => List.nodup_nil
  | x :: l, h => by
    rw [List.map_cons, List.nodup_cons] at h
    exact List.nodup_cons.2 ⟨fun hx => h.1 (List.mem_map.2 ⟨x, hx, rfl⟩), nodup_of_map h.2⟩
theorem inj_of_nodup {α β : Type} {f : α → β} : ∀ {l : List α}, (l.map f).Nodup → ∀ {x y : α}, x ∈ l → y ∈ l → f x = f y → x = y
  | [], _, x, _, hx, _, _ => by simp at hx
  | z :: l, h, x, y, hx, hy, e => by
    rw [List.map_cons, List.nodup_cons] at h
    rcases List.mem_cons.1 hx with hx1 | hx1
    · rcases List.mem_cons.1 hy with hy1 | hy1
      · rw [hx1, hy1]
      · exact absurd (List.mem_map.2 ⟨y, hy1, by rw [← e, hx1]⟩) h.1
    · rcases List.mem_cons.1 hy with hy1 | hy1
      · exact absurd (List.mem_map.2 ⟨x, hx1, by rw [e, hy1]⟩) h.1
      · exact inj_of_nodup h.2 hx1 hy1 e
/-! Closing a list of words: a word becomes a start if no start has its key. -/
section
variable {β : Type} [DecidableEq β] (key : List Nat → β)
def kvisit (s : List (List Nat)) (w : List Nat) : List (List Nat) := if key w ∈ s.map key then s else s ++ [w]
def krow (s : List (List Nat)) (w : List Nat) : Nat → List (List Nat)
  | 0 => s
  | n + 1 => kvisit key (krow s w n) (w ++ [n])
def kat (s0 : List (List Nat)) : Nat → List (List Nat)
  | 0 => s0
  | k + 1 => if k < (kat s0 k).length then krow key (kat s0 k) ((kat s0 k).getD k []) 3 else kat s0 k
def kpart (s0 : List (List Nat)) (k n : Nat) : List (List Nat) := krow key (kat key s0 k) ((kat key s0 k).getD k []) n
variable {key} {s0 : List (List Nat)}
theorem kpart_zero (k : Nat) : kpart key s0 k 0 = kat key s0 k := rfl
theorem kat_succ {k : Nat} (h : k < (kat key s0 k).length) : kat key s0 (k + 1) = kpart key s0 k 3 := by
  simp only [kat, if_pos h]
  rfl
theorem kat_stay {k : Nat} (h : (kat key s0 k).length ≤ k) : kat key s0 (k + 1) = kat key s0 k := by
  simp only [kat, if_neg (show ¬ k < (kat key s0 k).length by omega)]
theorem kpart_succ (k n : Nat) : kpart key s0 k (n + 1) = kvisit key (kpart key s0 k n) ((kat key s0 k).getD k [] ++ [n]) := rfl
theorem kvisit_old {s : List (List Nat)} {w : List Nat} (h : key w ∈ s.map key) : kvisit key s w = s := by rw [kvisit, if_pos h]
theorem kvisit_new {s : List (List Nat)} {w : List Nat} (h : key w ∉ s.map key) : kvisit key s w = s ++ [w] := by rw [kvisit, if_neg h]
theorem kvisit_pre (s : List (List Nat)) (w : List Nat) : s <+: kvisit key s w := by
  unfold kvisit
  split
  · exact List.prefix_rfl
  · exact List.prefix_append _ _
theorem krow_pre (s : List (List Nat)) (w : List Nat) {n m : Nat} (h : n ≤ m) : krow key s w n <+: krow key s w m := by
  induction m with
  | zero =>
    obtain rfl : n = 0 := by omega
    exact List.prefix_rfl
  | succ m ih =>
    by_cases hn : n = m + 1
    · subst hn; exact List.prefix_rfl
    · exact (ih (by omega)).trans (kvisit_pre _ _)
theorem kpart_pre {k n m : Nat} (h : n ≤ m) : kpart key s0 k n <+: kpart key s0 k m := krow_pre _ _ h
theorem kat_pre {k m : Nat} (h : k ≤ m) : kat key s0 k <+: kat key s0 m := by
  induction m with
  | zero =>
    obtain rfl : k = 0 := by omega
    exact List.prefix_rfl
  | succ m ih =>
    by_cases hn : k = m + 1
    · subst hn; exact List.prefix_rfl
    · refine (ih (by omega)).trans ?_
      by_cases hl : m < (kat key s0 m).length
      · rw [kat_succ hl]
        exact kpart_pre (Nat.zero_le 3)
      · rw [kat_stay (by omega)]
        exact List.prefix_rfl
theorem kat_done {k m : Nat} (h : (kat key s0 k).length ≤ k) (hm : k ≤ m) : kat key s0 m = kat key s0 k := by
  induction m with
  | zero =>
    obtain rfl : k = 0 := by omega
    rfl
  | succ m ih =>
    by_cases hn : k = m + 1
    · subst hn; rfl
    · have e := ih (by omega)
      rw [kat_stay (by rw [e]; omega), e]
/-- A property of lists that a visit keeps. -/
theorem kvisit_ind (Q : List (List Nat) → Prop) (hv : ∀ s w, Q s → Q (kvisit key s w)) {s : List (List Nat)} (hs : Q s) (w : List Nat) : ∀ n, Q (krow key s w n)
  | 0 => hs
  | n + 1 => hv _ _ (kvisit_ind Q hv hs w n)
theorem kat_ind (Q : List (List Nat) → Prop) (h0 : Q s0) (hv : ∀ s w, Q s → Q (kvisit key s w)) : ∀ k, Q (kat key s0 k)
  | 0 => h0
  | k + 1 => by
    have ih := kat_ind Q h0 hv k
    by_cases h : k < (kat key s0 k).length
    · rw [kat_succ h]
      exact kvisit_ind Q hv ih _ 3
    · rw [kat_stay (by omega)]
      exact ih
theorem kpart_ind (Q : List (List Nat) → Prop) (h0 : Q s0) (hv : ∀ s w, Q s → Q (kvisit key s w)) (k n : Nat) : Q (kpart key s0 k n) := kvisit_ind Q hv (kat_ind Q h0 hv k) _ n
theorem kvisit_nodup {s : List (List Nat)} (w : List Nat) (h : (s.map key).Nodup) : ((kvisit key s w).map key).Nodup := by
  unfold kvisit
  split
  · exact h
  · rename_i hn
    rw [List.map_append]
    exact nodup_snoc h hn
theorem kat_nodup (h : (s0.map key).Nodup) (k : Nat) : ((kat key s0 k).map key).Nodup := kat_ind (fun s => (s.map key).Nodup) h (fun _ w hs => kvisit_nodup w hs) k
theorem kpart_nodup (h : (s0.map key).Nodup) (k n : Nat) : ((kpart key s0 k n).map key).Nodup := kpart_ind (fun s => (s.map key).Nodup) h (fun _ w hs => kvisit_nodup w hs) k n
theorem kvisit_mem (s : List (List Nat)) (w : List Nat) : key w ∈ (kvisit key s w).map key := by
  unfold kvisit
  split
  · assumption
  · simp
theorem kpart_mem {k n c : Nat} (hc : c < n) : key ((kat key s0 k).getD k [] ++ [c]) ∈ (kpart key s0 k n).map key := by
  have h1 : key ((kat key s0 k).getD k [] ++ [c]) ∈ (kpart key s0 k (c + 1)).map key := by
    rw [kpart_succ]
    exact kvisit_mem _ _
  obtain ⟨t, ht⟩ := kpart_pre (key := key) (s0 := s0) (k := k) (show c + 1 ≤ n by omega)
  rw [← ht, List.map_append, List.mem_append]
  exact Or.inl h1
/-- When all is done, every start followed by a letter has the key of a start. -/
theorem kat_closed {K : Nat} (hK : (kat key s0 K).length ≤ K) {i c : Nat} (hi : i < (kat key s0 K).length) (hc : c < 3) : key ((kat key s0 K).getD i [] ++ [c]) ∈ (kat key s0 K).map key := by
  have hp := kat_pre (key := key) (s0 := s0) (show i ≤ K by omega)
  by_cases h : i < (kat key s0 i).length
  · rw [prefix_getD hp h]
    have h1 := kpart_mem (key := key) (s0 := s0) (k := i) hc
    rw [← kat_succ h] at h1
    obtain ⟨t, ht⟩ := kat_pre (key := key) (s0 := s0) (show i + 1 ≤ K by omega)
    rw [← ht, List.map_append, List.mem_append]
    exact Or.inl h1
  · have := kat_done (key := key) (s0 := s0) (m := K) (show (kat key s0 i).length ≤ i by omega) (by omega)
    rw [this] at hi
    omega
theorem krow_len (s : List (List Nat)) (w : List Nat) : ∀ n, (krow key s w n).length ≤ s.length + n
  | 0 => Nat.le_refl _
  | n + 1 => by
    have ih := krow_len s w n
    show (kvisit key (krow key s w n) (w ++ [n])).length ≤ _
    unfold kvisit
    split
    · omega
    · simp; omega
theorem kpart_len (k n : Nat) : (kpart key s0 k n).length ≤ (kat key s0 k).length + n := krow_len _ _ _
end

/-! The table. -/
def runD (d : DfaD) (s : Int) (w : List Nat) : Int := w.foldl (dnx d) s
def accD (d : DfaD) (w : List Nat) : Bool := den d (runD d 0 w)
def rowW (d : DfaD) (rests : List (List Nat)) (w : List Nat) : List Bool := rests.map fun r => accD d (w ++ r)
theorem runD_append (d : DfaD) (s : Int) (u v : List Nat) : runD d s (u ++ v) = runD d (runD d s u) v := by simp [runD]
theorem accD_append (d : DfaD) (u v : List Nat) : accD d (u ++ v) = den d (runD d (runD d 0 u) v) := by rw [accD, runD_append]
theorem rowW_len (d : DfaD) (rests : List (List Nat)) (w : List Nat) : (rowW d rests w).length = rests.length := by simp [rowW]
def isW (w : List Nat) : Prop := ∀ c ∈ w, c < 3
theorem isW_append {u v : List Nat} (hu : isW u) (hv : isW v) : isW (u ++ v) := fun c hc => by
  rcases List.mem_append.1 hc with h | h
  · exact hu c h
  · exact hv c h
theorem isW_one {c : Nat} (h : c < 3) : isW [c] := fun x hx => by simp at hx; omega
theorem isW_take {w : List Nat} (h : isW w) (k : Nat) : isW (w.take k) := fun c hc => h c (List.mem_of_mem_take hc)
theorem isW_drop {w : List Nat} (h : isW w) (k : Nat) : isW (w.drop k) := fun c hc => h c (List.mem_of_mem_drop hc)
theorem runD_in {d : DfaD} (hd : dfaOk d.next d.ends = true) : ∀ {w : List Nat}, isW w → ∀ {s : Int}, 0 ≤ s → s < d.next.length → 0 ≤ runD d s w ∧ runD d s w < d.next.length
  | [], _, s, h0, h1 => ⟨h0, h1⟩
  | c :: w, hw, s, h0, h1 => by
    have hc : c < 3 := hw c (by simp)
    have hr := (dfaOk_row hd (i := s.toNat) (by omega)).2 c hc
    exact runD_in hd (w := w) (fun x hx => hw x (by simp [hx])) (s := dnx d s c) hr.1 hr.2
/-- As many words with different rows as states. -/
theorem rows_le {d : DfaD} (hd : dfaOk d.next d.ends = true) {rests l : List (List Nat)} (hl : ∀ w ∈ l, isW w) (hn : (l.map (rowW d rests)).Nodup) : l.length ≤ d.next.length := by
  have h0 := (dfaOk_len hd).1
  have hm : (l.map (runD d 0)).Nodup := by
    have e : l.map (rowW d rests) = (l.map (runD d 0)).map fun s => rests.map fun r => den d (runD d s r) := by
      rw [List.map_map]
      apply List.map_congr_left
      intro w _
      simp [rowW, accD_append]
    rw [e] at hn
    exact nodup_of_map hn
  have h1 := nodup_le (m := upInts d.next.length) hm fun x hx => by
    obtain ⟨w, hw, rfl⟩ := List.mem_map.1 hx
    obtain ⟨a, b⟩ := runD_in hd (hl w hw) (s := 0) (by omega) (by omega)
    obtain ⟨n, hn⟩ := Int.eq_ofNat_of_zero_le a
    rw [hn] at b ⊢
    exact mem_upInts.2 (by omega)
  simpa [upInts_len] using h1

/-- The starts when they are closed; the guess. -/
def closeW (d : DfaD) (starts rests : List (List Nat)) : List (List Nat) := kat (rowW d rests) starts (d.next.length + 1)
def guessW (d : DfaD) (starts rests : List (List Nat)) : DfaD := ⟨starts.map fun w => (List.range 3).map fun c => findB (starts.map (rowW d rests)) (rowW d rests (w ++ [c])), starts.map (accD d)⟩
/-- The start of the state of the guess after the first k letters, with the letters behind. -/
def mixW (starts : List (List Nat)) (g : DfaD) (s : List Nat) (k : Nat) : List Nat := starts.getD (runD g 0 (s.take k)).toNat [] ++ s.drop k
/-- The least k where the language tells two such words apart. -/
def cutW (d : DfaD) (starts : List (List Nat)) (g : DfaD) (s : List Nat) : Nat := ((List.range s.length).find? fun k => accD d (mixW starts g s k) != accD d (mixW starts g s (k + 1))).getD 0
/-- The starts, closed, and the rests after j guesses. -/
def tabW (d : DfaD) (hit : DfaD → Option (List Nat)) : Nat → List (List Nat) × List (List Nat)
  | 0 => (closeW d [[]] [[]], [[]])
  | j + 1 =>
    let s := (tabW d hit j).1
    let r := (tabW d hit j).2
    let g := guessW d s r
    let w := (hit g).getD []
    let r' := r ++ [w.drop (cutW d s g w + 1)]
    (closeW d s r', r')
def gssW (d : DfaD) (hit : DfaD → Option (List Nat)) (j : Nat) : DfaD := guessW d (tabW d hit j).1 (tabW d hit j).2

/-- What holds of the starts and the rests whenever a guess is made. -/
structure LInv (d : DfaD) (s r : List (List Nat)) : Prop where
  sw : ∀ x ∈ s, isW x
  rw : ∀ x ∈ r, isW x
  s0 : s.head? = some []
  r0 : r.head? = some []
  nd : (s.map (rowW d r)).Nodup
  cl : ∀ i c, i < s.length → c < 3 → rowW d r (s.getD i [] ++ [c]) ∈ s.map (rowW d r)
theorem LInv.pos {d : DfaD} {s r : List (List Nat)} (h : LInv d s r) : 0 < s.length := by
  have := h.s0
  cases s with
  | nil => simp at this
  | cons => simp
theorem LInv.first {d : DfaD} {s r : List (List Nat)} (h : LInv d s r) : s.getD 0 [] = [] := by
  have := h.s0
  cases s with
  | nil => rfl
  | cons x l => simpa using this
theorem LInv.le {d : DfaD} (hd : dfaOk d.next d.ends = true) {s r : List (List Nat)} (h : LInv d s r) : s.length ≤ d.next.length := rows_le hd h.sw h.nd
theorem closeW_inv {d : DfaD} (hd : dfaOk d.next d.ends = true) {s r : List (List Nat)} (hs : ∀ x ∈ s, isW x) (hr : ∀ x ∈ r, isW x) (h0 : s.head? = some []) (hr0 : r.head? = some []) (hn : (s.map (rowW d r)).Nodup) : LInv d (closeW d s r) r ∧ s <+: closeW d s r := by
  have hpre : s <+: closeW d s r := kat_pre (key := rowW d r) (s0 := s) (Nat.zero_le (d.next.length + 1))
  have hw : ∀ K, ∀ x ∈ kat (rowW d r) s K, isW x := fun K => by
    induction K with
    | zero => exact hs
    | succ K ih =>
      by_cases h : K < (kat (rowW d r) s K).length
      · rw [kat_succ h]
        have key : ∀ n, n ≤ 3 → ∀ x ∈ kpart (rowW d r) s K n, isW x := by
          intro n
          induction n with
          | zero => intro _; exact ih
          | succ n ihn =>
            intro hn3 x hx
            rw [kpart_succ] at hx
            unfold kvisit at hx
            split at hx
            · exact ihn (by omega) x hx
            · rcases List.mem_append.1 hx with hx | hx
              · exact ihn (by omega) x hx
              · simp only [List.mem_singleton] at hx
                subst hx
                exact isW_append (ih _ (memD h)) (isW_one (by omega))
        exact key 3 (by omega)
      · rw [kat_stay (by omega)]
        exact ih
  have hnd := kat_nodup (key := rowW d r) (s0 := s) hn (d.next.length + 1)
  have hle := rows_le hd (hw (d.next.length + 1)) hnd
  refine ⟨⟨hw _, hr, ?_, hr0, hnd, fun i c hi hc => kat_closed (by omega) hi hc⟩, hpre⟩
  obtain ⟨t, ht⟩ := hpre
  rw [← ht]
  cases s with
  | nil => simp at h0
  | cons x l => simpa using h0
/-- The next state of the guess is the start with the same row. -/
theorem guess_at {d : DfaD} {s r : List (List Nat)} (h : LInv d s r) {i c : Nat} (hi : i < s.length) (hc : c < 3) :
    ∃ q : Nat, q < s.length ∧ ((guessW d s r).next.getD i []).getD c 0 = (q : Int) ∧ rowW d r (s.getD q []) = rowW d r (s.getD i [] ++ [c]) := by
  have hm := h.cl i c hi hc
  have hl := placeOf_lt hm
  rw [List.length_map] at hl
  refine ⟨placeOf (s.map (rowW d r)) (rowW d r (s.getD i [] ++ [c])), hl, ?_, ?_⟩
  · have e1 : (guessW d s r).next.getD i [] = (List.range 3).map fun c => findB (s.map (rowW d r)) (rowW d r (s.getD i [] ++ [c])) := by
      simp [guessW, hi]
    rw [e1]
    simp only [List.getD_eq_getElem?_getD, List.getElem?_map, List.getElem?_range hc, Option.map_some, Option.getD_some]
    unfold findB
    rw [← List.getD_eq_getElem?_getD, if_pos hm]
  · have := getD_idx hm (rowW d r [])
    simpa [hl] using this
theorem guess_len (d : DfaD) (s r : List (List Nat)) : (guessW d s r).next.length = s.length ∧ (guessW d s r).ends.length = s.length := by simp [guessW]
theorem guess_run {d : DfaD} {s r : List (List Nat)} (h : LInv d s r) : ∀ {w : List Nat}, isW w → ∀ {i : Nat}, i < s.length → ∃ q : Nat, q < s.length ∧ runD (guessW d s r) i w = (q : Int)
  | [], _, i, hi => ⟨i, hi, rfl⟩
  | c :: w, hw, i, hi => by
    obtain ⟨q, hq, e, -⟩ := guess_at h hi (hw c (by simp))
    obtain ⟨p, hp, e2⟩ := guess_run h (w := w) (fun x hx => hw x (by simp [hx])) hq
    refine ⟨p, hp, ?_⟩
    show runD (guessW d s r) (dnx (guessW d s r) i c) w = _
    unfold dnx
    rw [Int.toNat_natCast, e]
    exact e2
theorem guess_acc {d : DfaD} {s r : List (List Nat)} {q : Nat} (hq : q < s.length) : den (guessW d s r) (q : Int) = accD d (s.getD q []) := by
  unfold den
  simp [guessW, hq]
theorem step_ne {f : Nat → Bool} : ∀ {n : Nat}, f 0 ≠ f n → ∃ k, k < n ∧ f k ≠ f (k + 1)
  | 0, h => absurd rfl h
  | n + 1, h => by
    by_cases e : f n = f (n + 1)
    · rw [← e] at h
      obtain ⟨k, hk, hh⟩ := step_ne h
      exact ⟨k, by omega, hh⟩
    · exact ⟨n, by omega, e⟩
/-- The word by which a guess differs is cut where the language tells. -/
theorem cut_at {d : DfaD} {s r : List (List Nat)} (h : LInv d s r) {w : List Nat} (hw : isW w) (hne : accD d w ≠ accD (guessW d s r) w) :
    cutW d s (guessW d s r) w < w.length ∧ (accD d (mixW s (guessW d s r) w (cutW d s (guessW d s r) w)) != accD d (mixW s (guessW d s r) w (cutW d s (guessW d s r) w + 1))) = true ∧
      ∀ k, k < cutW d s (guessW d s r) w → (accD d (mixW s (guessW d s r) w k) != accD d (mixW s (guessW d s r) w (k + 1))) = false := by
  have f0 : accD d (mixW s (guessW d s r) w 0) = accD d w := by
    unfold mixW
    rw [List.take_zero, List.drop_zero]
    show accD d (s.getD 0 [] ++ w) = _
    rw [h.first, List.nil_append]
  have fn : accD d (mixW s (guessW d s r) w w.length) = accD (guessW d s r) w := by
    obtain ⟨q, hq, e⟩ := guess_run h hw h.pos
    unfold mixW
    rw [List.take_length, List.drop_length, List.append_nil]
    unfold accD at *
    have e' : runD (guessW d s r) 0 w = (q : Int) := e
    rw [e', Int.toNat_natCast, guess_acc hq]
    rfl
  obtain ⟨k, hk, hkne⟩ := step_ne (f := fun k => accD d (mixW s (guessW d s r) w k)) (n := w.length) (by rw [f0, fn]; exact hne)
  unfold cutW
  cases hf : (List.range w.length).find? fun k => accD d (mixW s (guessW d s r) w k) != accD d (mixW s (guessW d s r) w (k + 1)) with
  | none =>
    have := List.find?_eq_none.1 hf k (List.mem_range.2 hk)
    simp only [bne_iff_ne, ne_eq, Decidable.not_not] at this
    exact absurd this hkne
  | some c =>
    obtain ⟨h1, n, hn, hc, h2⟩ := List.find?_eq_some_iff_getElem.1 hf
    simp only [List.getElem_range, List.length_range] at hn hc h2
    subst hc
    simp only [Option.getD_some]
    refine ⟨hn, h1, fun k hk => ?_⟩
    have := h2 k hk
    simpa using this
/-- With the further rest there are more starts. -/
theorem more_starts {d : DfaD} (hd : dfaOk d.next d.ends = true) {s r : List (List Nat)} (h : LInv d s r) {w : List Nat} (hw : isW w) (hne : accD d w ≠ accD (guessW d s r) w) {r' : List (List Nat)} (hr' : r' = r ++ [w.drop (cutW d s (guessW d s r) w + 1)]) :
    LInv d (closeW d s r') r' ∧ s <+: closeW d s r' ∧ s.length < (closeW d s r').length := by
  obtain ⟨hk, hcut, -⟩ := cut_at h hw hne
  obtain ⟨k, hkk⟩ : ∃ k, k = cutW d s (guessW d s r) w := ⟨_, rfl⟩
  rw [← hkk] at hk hcut hr'
  have hrw : ∀ x ∈ r', isW x := fun x hx => by
    rw [hr'] at hx
    rcases List.mem_append.1 hx with hx | hx
    · exact h.rw x hx
    · simp only [List.mem_singleton] at hx
      subst hx
      exact isW_drop hw _
  have hrow : ∀ u, rowW d r' u = rowW d r u ++ [accD d (u ++ w.drop (k + 1))] := fun u => by rw [hr']; simp [rowW]
  have hr0 : r'.head? = some [] := by
    rw [hr']
    have := h.r0
    cases hr : r with
    | nil => rw [hr] at this; simp at this
    | cons x l => rw [hr] at this; simpa using this
  have hnd : (s.map (rowW d r')).Nodup := by
    have e : s.map (rowW d r) = (s.map (rowW d r')).map (List.take r.length) := by
      rw [List.map_map]
      apply List.map_congr_left
      intro u _
      simp only [Function.comp_apply]
      rw [hrow, List.take_left' (rowW_len _ _ _)]
    have := h.nd
    rw [e] at this
    exact nodup_of_map this
  obtain ⟨hI, hp⟩ := closeW_inv hd h.sw hrw h.s0 hr0 hnd
  refine ⟨hI, hp, ?_⟩
  obtain ⟨q, hq, e⟩ := guess_run h (isW_take hw k) h.pos
  have hc : w.getD k 0 < 3 := hw _ (memD hk)
  obtain ⟨q', hq', e2, e3⟩ := guess_at h hq hc
  have e : runD (guessW d s r) 0 (w.take k) = (q : Int) := e
  have htk : w.take (k + 1) = w.take k ++ [w.getD k 0] := by
    rw [List.take_succ_eq_append_getElem hk]
    simp [hk]
  have hdk : w.drop k = w.getD k 0 :: w.drop (k + 1) := by
    rw [List.drop_eq_getElem_cons hk]
    simp [hk]
  have e' : runD (guessW d s r) 0 (w.take (k + 1)) = (q' : Int) := by
    rw [htk, runD_append, e]
    show dnx (guessW d s r) (q : Int) (w.getD k 0) = _
    unfold dnx
    rw [Int.toNat_natCast, e2]
  have m1 : mixW s (guessW d s r) w k = (s.getD q [] ++ [w.getD k 0]) ++ w.drop (k + 1) := by
    unfold mixW
    rw [e, Int.toNat_natCast, hdk]
    simp
  have m2 : mixW s (guessW d s r) w (k + 1) = s.getD q' [] ++ w.drop (k + 1) := by
    unfold mixW
    rw [e', Int.toNat_natCast]
  rw [m1, m2] at hcut
  have hnot : rowW d r' (s.getD q [] ++ [w.getD k 0]) ∉ s.map (rowW d r') := by
    intro hm
    obtain ⟨u, hu, eu⟩ := List.mem_map.1 hm
    rw [hrow, hrow] at eu
    obtain ⟨h1, h2⟩ := List.append_inj eu (by rw [rowW_len, rowW_len])
    have hq1 : s.getD q' [] ∈ s := memD hq'
    have : u = s.getD q' [] := by
      exact inj_of_nodup h.nd hu hq1 (by rw [h1, e3])
    rw [this] at h2
    simp only [List.cons.injEq, and_true] at h2
    rw [h2] at hcut
    simp at hcut
  rcases Nat.lt_or_ge s.length (closeW d s r').length with h1 | h1
  · exact h1
  · exfalso
    have heq : closeW d s r' = s := by
      obtain ⟨t, ht⟩ := hp
      have : t = [] := List.eq_nil_of_length_eq_zero (by have := congrArg List.length ht; simp at this; omega)
      rw [← ht, this, List.append_nil]
    have hcl := hI.cl q (w.getD k 0) (by rw [heq]; exact hq) hc
    rw [heq] at hcl
    exact hnot hcl

theorem dfaOk_of {next : List (List Int)} {ends : List Bool} (h1 : 1 ≤ next.length) (h2 : next.length ≤ 40) (h3 : ends.length = next.length) (hr : ∀ i, i < next.length → (next.getD i []).length = 3 ∧ ∀ c, c < 3 → 0 ≤ (next.getD i []).getD c 0 ∧ (next.getD i []).getD c 0 < next.length) : dfaOk next ends = true := by
  simp only [dfaOk, Bool.and_eq_true, List.all_eq_true, decide_eq_true_eq]
  refine ⟨⟨fun x hx => ?_, ?_⟩, h3⟩
  · obtain ⟨i, hi, e⟩ := List.getElem_of_mem hx
    obtain ⟨a, b⟩ := hr i hi
    rw [getD_at hi, e] at a b
    simp only [rowOk, Bool.and_eq_true, decide_eq_true_eq, List.all_eq_true]
    refine ⟨a, fun y hy => ?_⟩
    obtain ⟨c, hc, e2⟩ := List.getElem_of_mem hy
    have := b c (by omega)
    rw [getD_at hc, e2] at this
    simp [inB]
    omega
  · simp [inB]
    omega
theorem guess_ok {d : DfaD} (hd : dfaOk d.next d.ends = true) {s r : List (List Nat)} (h : LInv d s r) : dfaOk (guessW d s r).next (guessW d s r).ends = true := by
  have h1 := h.pos
  have h2 := h.le hd
  have h3 := dfaOk_len hd
  obtain ⟨l1, l2⟩ := guess_len d s r
  refine dfaOk_of (by omega) (by omega) (by omega) fun i hi => ?_
  rw [l1] at hi
  refine ⟨by simp [guessW, hi], fun c hc => ?_⟩
  obtain ⟨q, hq, e, -⟩ := guess_at h hi hc
  rw [e, l1]
  omega

/-- What the search for a word by which a guess differs must say. -/
def hitOk (d : DfaD) (hit : DfaD → Option (List Nat)) : Prop := ∀ g, dfaOk g.next g.ends = true → ∀ w, hit g = some w → isW w ∧ accD d w ≠ accD g w

theorem tab_inv {d : DfaD} (hd : dfaOk d.next d.ends = true) {hit : DfaD → Option (List Nat)} (hh : hitOk d hit) : ∀ j, (∀ i, i < j → (hit (gssW d hit i)).isSome = true) → LInv d (tabW d hit j).1 (tabW d hit j).2 ∧ j + 1 ≤ (tabW d hit j).1.length
  | 0, _ => by
    have h := (closeW_inv hd (s := [[]]) (r := [[]]) (fun x hx => by simp at hx; subst hx; intro c hc; simp at hc) (fun x hx => by simp at hx; subst hx; intro c hc; simp at hc) rfl rfl (by simp)).1
    exact ⟨h, h.pos⟩
  | j + 1, hy => by
    obtain ⟨h, hl⟩ := tab_inv hd hh j fun i hi => hy i (by omega)
    have h1 := hy j (by omega)
    obtain ⟨w, hw⟩ := Option.isSome_iff_exists.1 h1
    obtain ⟨hw1, hw2⟩ := hh _ (guess_ok hd h) w hw
    have hm := more_starts hd h hw1 hw2 (r' := (tabW d hit (j + 1)).2) (by
      show (tabW d hit j).2 ++ _ = _
      simp only [show hit (guessW d (tabW d hit j).1 (tabW d hit j).2) = some w from hw, Option.getD_some])
    exact ⟨hm.1, by have := hm.2.2; show _ ≤ (closeW d (tabW d hit j).1 (tabW d hit (j + 1)).2).length; omega⟩
theorem tab_lt {d : DfaD} (hd : dfaOk d.next d.ends = true) {hit : DfaD → Option (List Nat)} (hh : hitOk d hit) {j : Nat} (hy : ∀ i, i < j → (hit (gssW d hit i)).isSome = true) : j < 40 := by
  obtain ⟨h, hl⟩ := tab_inv hd hh j hy
  have := h.le hd
  have := dfaOk_len hd
  omega
theorem first_none {f : Nat → Bool} : ∀ {n : Nat}, (∃ i, i < n ∧ f i = false) → ∃ J, f J = false ∧ ∀ i, i < J → f i = true
  | 0, ⟨i, hi, _⟩ => absurd hi (by omega)
  | n + 1, ⟨i, hi, h⟩ => by
    by_cases h2 : ∃ i, i < n ∧ f i = false
    · exact first_none h2
    · refine ⟨i, h, fun k hk => ?_⟩
      cases hf : f k with
      | true => rfl
      | false => exact absurd ⟨k, by omega, hf⟩ h2
/-- The learner stops. -/
theorem learn_stops {d : DfaD} (hd : dfaOk d.next d.ends = true) {hit : DfaD → Option (List Nat)} (hh : hitOk d hit) : ∃ J, (hit (gssW d hit J)).isSome = false ∧ ∀ i, i < J → (hit (gssW d hit i)).isSome = true := by
  refine first_none (n := 40) ?_
  refine Classical.byContradiction fun hn => ?_
  have := tab_lt hd hh (j := 40) fun i hi => by
    cases h : (hit (gssW d hit i)).isSome with
    | true => rfl
    | false => exact absurd ⟨i, hi, h⟩ hn
  omega
end Go.Proofs.Ytjcegbcmomfgaaa
