/-
  What a call has made for itself, as a list of things that lie in different blocks: one step of the walk turns the whole list at once.
  No condition: this text speaks of no program.
-/
import Derived.Test.YthhbjkgchabfmaaPk23Lh
import Derived.Test.YthhbjkgchabfmaaPk26Ws
namespace Go.Proofs.Ythhbjkgchabfmaa
open Go.RowKit
section
variable {w0 w w' : World} {L : List Ent}
theorem St.rowcap (h : St w0 w L) (i : Nat) {e size g n cap : Nat} {cs : List Value} (hx : L[i]? = some (Ent.row e size (.slice (some ⟨g, 0, none⟩) n cap) n cs)) : n ≤ cap ∧ cap ≤ 9223372036854775807 := by
  have hr := h.row i hx
  rcases hr.2 with ⟨h1, -⟩ | ⟨g', cap', cur, h1, -, -, h4, h5, -⟩
  · cases h1
  · simp only [Value.slice.injEq, true_and] at h1
    obtain ⟨-, rfl⟩ := h1
    exact ⟨h4, h5⟩
theorem St.rowany (h : St w0 w L) (i : Nat) {e size n : Nat} {v : Value} {cs : List Value} (hx : L[i]? = some (Ent.row e size v n cs)) : ∃ a cap, v = .slice a n cap ∧ n ≤ cap ∧ cap ≤ 9223372036854775807 := by
  rcases (h.row i hx).2 with ⟨h1, h2⟩ | ⟨g', cap', cur, h1, -, -, h4, h5, -⟩
  · exact ⟨none, 0, by rw [h1, h2], by omega, by omega⟩
  · exact ⟨_, cap', h1, h4, h5⟩
end
/-! Many things as one. -/
/-! What is read above a block stays where a block below is written. -/
theorem inj_of_nodup {α β : Type} {f : α → β} : ∀ {l : List α}, (l.map f).Nodup → ∀ {x y : α}, x ∈ l → y ∈ l → f x = f y → x = y
  | [], _, x, _, hx, _, _ => by simp at hx
  | z :: l, h, x, y, hx, hy, e => by
    rw [List.map_cons, List.nodup_cons] at h
    rcases List.mem_cons.1 hx with hx1 | hx1
    · rcases List.mem_cons.1 hy with hy1 | hy1
      · rw [hx1, hy1]
      · exact absurd (List.mem_map.2 ⟨y, hy1, by rw [← e, hx1]⟩) h.1
    · rcases List.mem_cons.1 hy with hy1 | hy1
      · exact absurd (List.mem_map.2 ⟨x, hx1, by rw [e, hy1]⟩) h.1
      · exact inj_of_nodup h.2 hx1 hy1 e
/-! Closing a list of words: a word becomes a start if no start has its key. -/
section
variable {β : Type} [DecidableEq β] (key : List Nat → β)
def kvisit (s : List (List Nat)) (w : List Nat) : List (List Nat) := if key w ∈ s.map key then s else s ++ [w]
def krow (s : List (List Nat)) (w : List Nat) : Nat → List (List Nat)
  | 0 => s
  | n + 1 => kvisit key (krow s w n) (w ++ [n])
def kat (s0 : List (List Nat)) : Nat → List (List Nat)
  | 0 => s0
  | k + 1 => if k < (kat s0 k).length then krow key (kat s0 k) ((kat s0 k).getD k []) 3 else kat s0 k
def kpart (s0 : List (List Nat)) (k n : Nat) : List (List Nat) := krow key (kat key s0 k) ((kat key s0 k).getD k []) n
variable {key} {s0 : List (List Nat)}
theorem kpart_zero (k : Nat) : kpart key s0 k 0 = kat key s0 k := rfl
theorem kat_succ {k : Nat} (h : k < (kat key s0 k).length) : kat key s0 (k + 1) = kpart key s0 k 3 := by
  simp only [kat, if_pos h]
  rfl
theorem kat_stay {k : Nat} (h : (kat key s0 k).length ≤ k) : kat key s0 (k + 1) = kat key s0 k := by
  simp only [kat, if_neg (show ¬ k < (kat key s0 k).length by omega)]
theorem kpart_succ (k n : Nat) : kpart key s0 k (n + 1) = kvisit key (kpart key s0 k n) ((kat key s0 k).getD k [] ++ [n]) := rfl
theorem kvisit_old {s : List (List Nat)} {w : List Nat} (h : key w ∈ s.map key) : kvisit key s w = s := by rw [kvisit, if_pos h]
theorem kvisit_new {s : List (List Nat)} {w : List Nat} (h : key w ∉ s.map key) : kvisit key s w = s ++ [w] := by rw [kvisit, if_neg h]
theorem kvisit_pre (s : List (List Nat)) (w : List Nat) : s <+: kvisit key s w := by
  unfold kvisit
  split
  · exact List.prefix_rfl
  · exact List.prefix_append _ _
theorem krow_pre (s : List (List Nat)) (w : List Nat) {n m : Nat} (h : n ≤ m) : krow key s w n <+: krow key s w m := by
  induction m with
  | zero =>
    obtain rfl : n = 0 := by omega
    exact List.prefix_rfl
  | succ m ih =>
    by_cases hn : n = m + 1
    · subst hn; exact List.prefix_rfl
    · exact (ih (by omega)).trans (kvisit_pre _ _)
theorem kpart_pre {k n m : Nat} (h : n ≤ m) : kpart key s0 k n <+: kpart key s0 k m := krow_pre _ _ h
theorem kat_pre {k m : Nat} (h : k ≤ m) : kat key s0 k <+: kat key s0 m := by
  induction m with
  | zero =>
    obtain rfl : k = 0 := by omega
    exact List.prefix_rfl
  | succ m ih =>
    by_cases hn : k = m + 1
    · subst hn; exact List.prefix_rfl
    · refine (ih (by omega)).trans ?_
      by_cases hl : m < (kat key s0 m).length
      · rw [kat_succ hl]
        exact kpart_pre (Nat.zero_le 3)
      · rw [kat_stay (by omega)]
        exact List.prefix_rfl
theorem kat_done {k m : Nat} (h : (kat key s0 k).length ≤ k) (hm : k ≤ m) : kat key s0 m = kat key s0 k := by
  induction m with
  | zero =>
    obtain rfl : k = 0 := by omega
    rfl
  | succ m ih =>
    by_cases hn : k = m + 1
    · subst hn; rfl
    · have e := ih (by omega)
      rw [kat_stay (by rw [e]; omega), e]
theorem kvisit_ind (Q : List (List Nat) → Prop) (hv : ∀ s w, Q s → Q (kvisit key s w)) {s : List (List Nat)} (hs : Q s) (w : List Nat) : ∀ n, Q (krow key s w n)
  | 0 => hs
  | n + 1 => hv _ _ (kvisit_ind Q hv hs w n)
theorem kat_ind (Q : List (List Nat) → Prop) (h0 : Q s0) (hv : ∀ s w, Q s → Q (kvisit key s w)) : ∀ k, Q (kat key s0 k)
  | 0 => h0
  | k + 1 => by
    have ih := kat_ind Q h0 hv k
    by_cases h : k < (kat key s0 k).length
    · rw [kat_succ h]
      exact kvisit_ind Q hv ih _ 3
    · rw [kat_stay (by omega)]
      exact ih
theorem kpart_ind (Q : List (List Nat) → Prop) (h0 : Q s0) (hv : ∀ s w, Q s → Q (kvisit key s w)) (k n : Nat) : Q (kpart key s0 k n) := kvisit_ind Q hv (kat_ind Q h0 hv k) _ n
theorem kvisit_nodup {s : List (List Nat)} (w : List Nat) (h : (s.map key).Nodup) : ((kvisit key s w).map key).Nodup := by
  unfold kvisit
  split
  · exact h
  · rename_i hn
    rw [List.map_append]
    exact nodup_snoc h hn
theorem kat_nodup (h : (s0.map key).Nodup) (k : Nat) : ((kat key s0 k).map key).Nodup := kat_ind (fun s => (s.map key).Nodup) h (fun _ w hs => kvisit_nodup w hs) k
theorem kpart_nodup (h : (s0.map key).Nodup) (k n : Nat) : ((kpart key s0 k n).map key).Nodup := kpart_ind (fun s => (s.map key).Nodup) h (fun _ w hs => kvisit_nodup w hs) k n
theorem kvisit_mem (s : List (List Nat)) (w : List Nat) : key w ∈ (kvisit key s w).map key := by
  unfold kvisit
  split
  · assumption
  · simp
theorem kpart_mem {k n c : Nat} (hc : c < n) : key ((kat key s0 k).getD k [] ++ [c]) ∈ (kpart key s0 k n).map key := by
  have h1 : key ((kat key s0 k).getD k [] ++ [c]) ∈ (kpart key s0 k (c + 1)).map key := by
    rw [kpart_succ]
    exact kvisit_mem _ _
  obtain ⟨t, ht⟩ := kpart_pre (key := key) (s0 := s0) (k := k) (show c + 1 ≤ n by omega)
  rw [← ht, List.map_append, List.mem_append]
  exact Or.inl h1
theorem kat_closed {K : Nat} (hK : (kat key s0 K).length ≤ K) {i c : Nat} (hi : i < (kat key s0 K).length) (hc : c < 3) : key ((kat key s0 K).getD i [] ++ [c]) ∈ (kat key s0 K).map key := by
  have hp := kat_pre (key := key) (s0 := s0) (show i ≤ K by omega)
  by_cases h : i < (kat key s0 i).length
  · rw [prefix_getD hp h]
    have h1 := kpart_mem (key := key) (s0 := s0) (k := i) hc
    rw [← kat_succ h] at h1
    obtain ⟨t, ht⟩ := kat_pre (key := key) (s0 := s0) (show i + 1 ≤ K by omega)
    rw [← ht, List.map_append, List.mem_append]
    exact Or.inl h1
  · have := kat_done (key := key) (s0 := s0) (m := K) (show (kat key s0 i).length ≤ i by omega) (by omega)
    rw [this] at hi
    omega
end
/-! The table. -/
theorem rowW_len (d : DfaD) (rests : List (List Nat)) (w : List Nat) : (rowW d rests w).length = rests.length := by simp [rowW]
theorem isW_take {w : List Nat} (h : isW w) (k : Nat) : isW (w.take k) := fun c hc => h c (List.mem_of_mem_take hc)
theorem isW_drop {w : List Nat} (h : isW w) (k : Nat) : isW (w.drop k) := fun c hc => h c (List.mem_of_mem_drop hc)
def closeW (d : DfaD) (starts rests : List (List Nat)) : List (List Nat) := kat (rowW d rests) starts (d.next.length + 1)
def guessW (d : DfaD) (starts rests : List (List Nat)) : DfaD := ⟨starts.map fun w => (List.range 3).map fun c => findB (starts.map (rowW d rests)) (rowW d rests (w ++ [c])), starts.map (accD d)⟩
def mixW (starts : List (List Nat)) (g : DfaD) (s : List Nat) (k : Nat) : List Nat := starts.getD (runD g 0 (s.take k)).toNat [] ++ s.drop k
def cutW (d : DfaD) (starts : List (List Nat)) (g : DfaD) (s : List Nat) : Nat := ((List.range s.length).find? fun k => accD d (mixW starts g s k) != accD d (mixW starts g s (k + 1))).getD 0
def tabW (d : DfaD) (hit : DfaD → Option (List Nat)) : Nat → List (List Nat) × List (List Nat)
  | 0 => (closeW d [[]] [[]], [[]])
  | j + 1 =>
    let s := (tabW d hit j).1
    let r := (tabW d hit j).2
    let g := guessW d s r
    let w := (hit g).getD []
    let r' := r ++ [w.drop (cutW d s g w + 1)]
    (closeW d s r', r')
def gssW (d : DfaD) (hit : DfaD → Option (List Nat)) (j : Nat) : DfaD := guessW d (tabW d hit j).1 (tabW d hit j).2
theorem LInv.pos {d : DfaD} {s r : List (List Nat)} (h : LInv d s r) : 0 < s.length := by
  have := h.s0
  cases s with
  | nil => simp at this
  | cons => simp
theorem closeW_inv {d : DfaD} (hd : dfaOk d.next d.ends = true) {s r : List (List Nat)} (hs : ∀ x ∈ s, isW x) (hr : ∀ x ∈ r, isW x) (h0 : s.head? = some []) (hr0 : r.head? = some []) (hn : (s.map (rowW d r)).Nodup) : LInv d (closeW d s r) r ∧ s <+: closeW d s r := by
  have hpre : s <+: closeW d s r := kat_pre (key := rowW d r) (s0 := s) (Nat.zero_le (d.next.length + 1))
  have hw : ∀ K, ∀ x ∈ kat (rowW d r) s K, isW x := fun K => by
    induction K with
    | zero => exact hs
    | succ K ih =>
      by_cases h : K < (kat (rowW d r) s K).length
      · rw [kat_succ h]
        have key : ∀ n, n ≤ 3 → ∀ x ∈ kpart (rowW d r) s K n, isW x := by
          intro n
          induction n with
          | zero => intro _; exact ih
          | succ n ihn =>
            intro hn3 x hx
            rw [kpart_succ] at hx
            unfold kvisit at hx
            split at hx
            · exact ihn (by omega) x hx
            · rcases List.mem_append.1 hx with hx | hx
              · exact ihn (by omega) x hx
              · simp only [List.mem_singleton] at hx
                subst hx
                exact isW_append (ih _ (memD h)) (isW_one (by omega))
        exact key 3 (by omega)
      · rw [kat_stay (by omega)]
        exact ih
  have hnd := kat_nodup (key := rowW d r) (s0 := s) hn (d.next.length + 1)
  have hle := rows_le hd (hw (d.next.length + 1)) hnd
  refine ⟨⟨hw _, hr, ?_, hr0, hnd, fun i c hi hc => kat_closed (by omega) hi hc⟩, hpre⟩
  obtain ⟨t, ht⟩ := hpre
  rw [← ht]
  cases s with
  | nil => simp at h0
  | cons x l => simpa using h0
theorem guess_at {d : DfaD} {s r : List (List Nat)} (h : LInv d s r) {i c : Nat} (hi : i < s.length) (hc : c < 3) :
    ∃ q : Nat, q < s.length ∧ ((guessW d s r).next.getD i []).getD c 0 = (q : Int) ∧ rowW d r (s.getD q []) = rowW d r (s.getD i [] ++ [c]) := by
  have hm := h.cl i c hi hc
  have hl := placeOf_lt hm
  rw [List.length_map] at hl
  refine ⟨placeOf (s.map (rowW d r)) (rowW d r (s.getD i [] ++ [c])), hl, ?_, ?_⟩
  · have e1 : (guessW d s r).next.getD i [] = (List.range 3).map fun c => findB (s.map (rowW d r)) (rowW d r (s.getD i [] ++ [c])) := by
      simp [guessW, hi]
    rw [e1]
    simp only [List.getD_eq_getElem?_getD, List.getElem?_map, List.getElem?_range hc, Option.map_some, Option.getD_some]
    unfold findB
    rw [← List.getD_eq_getElem?_getD, if_pos hm]
  · have := getD_idx hm (rowW d r [])
    simpa [hl] using this
theorem guess_len (d : DfaD) (s r : List (List Nat)) : (guessW d s r).next.length = s.length ∧ (guessW d s r).ends.length = s.length := by simp [guessW]
theorem guess_run {d : DfaD} {s r : List (List Nat)} (h : LInv d s r) : ∀ {w : List Nat}, isW w → ∀ {i : Nat}, i < s.length → ∃ q : Nat, q < s.length ∧ runD (guessW d s r) i w = (q : Int)
  | [], _, i, hi => ⟨i, hi, rfl⟩
  | c :: w, hw, i, hi => by
    obtain ⟨q, hq, e, -⟩ := guess_at h hi (hw c (by simp))
    obtain ⟨p, hp, e2⟩ := guess_run h (w := w) (fun x hx => hw x (by simp [hx])) hq
    refine ⟨p, hp, ?_⟩
    show runD (guessW d s r) (dnx (guessW d s r) i c) w = _
    unfold dnx
    rw [Int.toNat_natCast, e]
    exact e2
theorem guess_acc {d : DfaD} {s r : List (List Nat)} {q : Nat} (hq : q < s.length) : den (guessW d s r) (q : Int) = accD d (s.getD q []) := by
  unfold den
  simp [guessW, hq]
theorem step_ne {f : Nat → Bool} : ∀ {n : Nat}, f 0 ≠ f n → ∃ k, k < n ∧ f k ≠ f (k + 1)
  | 0, h => absurd rfl h
  | n + 1, h => by
    by_cases e : f n = f (n + 1)
    · rw [← e] at h
      obtain ⟨k, hk, hh⟩ := step_ne h
      exact ⟨k, by omega, hh⟩
    · exact ⟨n, by omega, e⟩
theorem cut_at {d : DfaD} {s r : List (List Nat)} (h : LInv d s r) {w : List Nat} (hw : isW w) (hne : accD d w ≠ accD (guessW d s r) w) :
    cutW d s (guessW d s r) w < w.length ∧ (accD d (mixW s (guessW d s r) w (cutW d s (guessW d s r) w)) != accD d (mixW s (guessW d s r) w (cutW d s (guessW d s r) w + 1))) = true ∧
      ∀ k, k < cutW d s (guessW d s r) w → (accD d (mixW s (guessW d s r) w k) != accD d (mixW s (guessW d s r) w (k + 1))) = false := by
  have f0 : accD d (mixW s (guessW d s r) w 0) = accD d w := by
    unfold mixW
    rw [List.take_zero, List.drop_zero]
    show accD d (s.getD 0 [] ++ w) = _
    rw [h.first, List.nil_append]
  have fn : accD d (mixW s (guessW d s r) w w.length) = accD (guessW d s r) w := by
    obtain ⟨q, hq, e⟩ := guess_run h hw h.pos
    unfold mixW
    rw [List.take_length, List.drop_length, List.append_nil]
    unfold accD at *
    have e' : runD (guessW d s r) 0 w = (q : Int) := e
    rw [e', Int.toNat_natCast, guess_acc hq]
    rfl
  obtain ⟨k, hk, hkne⟩ := step_ne (f := fun k => accD d (mixW s (guessW d s r) w k)) (n := w.length) (by rw [f0, fn]; exact hne)
  unfold cutW
  cases hf : (List.range w.length).find? fun k => accD d (mixW s (guessW d s r) w k) != accD d (mixW s (guessW d s r) w (k + 1)) with
  | none =>
    have := List.find?_eq_none.1 hf k (List.mem_range.2 hk)
    simp only [bne_iff_ne, ne_eq, Decidable.not_not] at this
    exact absurd this hkne
  | some c =>
    obtain ⟨h1, n, hn, hc, h2⟩ := List.find?_eq_some_iff_getElem.1 hf
    simp only [List.getElem_range, List.length_range] at hn hc h2
    subst hc
    simp only [Option.getD_some]
    refine ⟨hn, h1, fun k hk => ?_⟩
    have := h2 k hk
    simpa using this
theorem more_starts {d : DfaD} (hd : dfaOk d.next d.ends = true) {s r : List (List Nat)} (h : LInv d s r) {w : List Nat} (hw : isW w) (hne : accD d w ≠ accD (guessW d s r) w) {r' : List (List Nat)} (hr' : r' = r ++ [w.drop (cutW d s (guessW d s r) w + 1)]) :
    LInv d (closeW d s r') r' ∧ s <+: closeW d s r' ∧ s.length < (closeW d s r').length := by
  obtain ⟨hk, hcut, -⟩ := cut_at h hw hne
  obtain ⟨k, hkk⟩ : ∃ k, k = cutW d s (guessW d s r) w := ⟨_, rfl⟩
  rw [← hkk] at hk hcut hr'
  have hrw : ∀ x ∈ r', isW x := fun x hx => by
    rw [hr'] at hx
    rcases List.mem_append.1 hx with hx | hx
    · exact h.rw x hx
    · simp only [List.mem_singleton] at hx
      subst hx
      exact isW_drop hw _
  have hrow : ∀ u, rowW d r' u = rowW d r u ++ [accD d (u ++ w.drop (k + 1))] := fun u => by rw [hr']; simp [rowW]
  have hr0 : r'.head? = some [] := by
    rw [hr']
    have := h.r0
    cases hr : r with
    | nil => rw [hr] at this; simp at this
    | cons x l => rw [hr] at this; simpa using this
  have hnd : (s.map (rowW d r')).Nodup := by
    have e : s.map (rowW d r) = (s.map (rowW d r')).map (List.take r.length) := by
      rw [List.map_map]
      apply List.map_congr_left
      intro u _
      simp only [Function.comp_apply]
      rw [hrow, List.take_left' (rowW_len _ _ _)]
    have := h.nd
    rw [e] at this
    exact nodup_of_map this
  obtain ⟨hI, hp⟩ := closeW_inv hd h.sw hrw h.s0 hr0 hnd
  refine ⟨hI, hp, ?_⟩
  obtain ⟨q, hq, e⟩ := guess_run h (isW_take hw k) h.pos
  have hc : w.getD k 0 < 3 := hw _ (memD hk)
  obtain ⟨q', hq', e2, e3⟩ := guess_at h hq hc
  have e : runD (guessW d s r) 0 (w.take k) = (q : Int) := e
  have htk : w.take (k + 1) = w.take k ++ [w.getD k 0] := by
    rw [List.take_succ_eq_append_getElem hk]
    simp [hk]
  have hdk : w.drop k = w.getD k 0 :: w.drop (k + 1) := by
    rw [List.drop_eq_getElem_cons hk]
    simp [hk]
  have e' : runD (guessW d s r) 0 (w.take (k + 1)) = (q' : Int) := by
    rw [htk, runD_append, e]
    show dnx (guessW d s r) (q : Int) (w.getD k 0) = _
    unfold dnx
    rw [Int.toNat_natCast, e2]
  have m1 : mixW s (guessW d s r) w k = (s.getD q [] ++ [w.getD k 0]) ++ w.drop (k + 1) := by
    unfold mixW
    rw [e, Int.toNat_natCast, hdk]
    simp
  have m2 : mixW s (guessW d s r) w (k + 1) = s.getD q' [] ++ w.drop (k + 1) := by
    unfold mixW
    rw [e', Int.toNat_natCast]
  rw [m1, m2] at hcut
  have hnot : rowW d r' (s.getD q [] ++ [w.getD k 0]) ∉ s.map (rowW d r') := by
    intro hm
    obtain ⟨u, hu, eu⟩ := List.mem_map.1 hm
    rw [hrow, hrow] at eu
    obtain ⟨h1, h2⟩ := List.append_inj eu (by rw [rowW_len, rowW_len])
    have hq1 : s.getD q' [] ∈ s := memD hq'
    have : u = s.getD q' [] := by
      exact inj_of_nodup h.nd hu hq1 (by rw [h1, e3])
    rw [this] at h2
    simp only [List.cons.injEq, and_true] at h2
    rw [h2] at hcut
    simp at hcut
  rcases Nat.lt_or_ge s.length (closeW d s r').length with h1 | h1
  · exact h1
  · exfalso
    have heq : closeW d s r' = s := by
      obtain ⟨t, ht⟩ := hp
      have : t = [] := List.eq_nil_of_length_eq_zero (by have := congrArg List.length ht; simp at this; omega)
      rw [← ht, this, List.append_nil]
    have hcl := hI.cl q (w.getD k 0) (by rw [heq]; exact hq) hc
    rw [heq] at hcl
    exact hnot hcl
theorem guess_ok {d : DfaD} (hd : dfaOk d.next d.ends = true) {s r : List (List Nat)} (h : LInv d s r) : dfaOk (guessW d s r).next (guessW d s r).ends = true := by
  have h1 := h.pos
  have h2 := h.le hd
  have h3 := dfaOk_len hd
  obtain ⟨l1, l2⟩ := guess_len d s r
  refine dfaOk_of (by omega) (by omega) (by omega) fun i hi => ?_
  rw [l1] at hi
  refine ⟨by simp [guessW, hi], fun c hc => ?_⟩
  obtain ⟨q, hq, e, -⟩ := guess_at h hi hc
  rw [e, l1]
  omega
def hitOk (d : DfaD) (hit : DfaD → Option (List Nat)) : Prop := ∀ g, dfaOk g.next g.ends = true → ∀ w, hit g = some w → isW w ∧ accD d w ≠ accD g w
theorem tab_inv {d : DfaD} (hd : dfaOk d.next d.ends = true) {hit : DfaD → Option (List Nat)} (hh : hitOk d hit) : ∀ j, (∀ i, i < j → (hit (gssW d hit i)).isSome = true) → LInv d (tabW d hit j).1 (tabW d hit j).2 ∧ j + 1 ≤ (tabW d hit j).1.length
  | 0, _ => by
    have h := (closeW_inv hd (s := [[]]) (r := [[]]) (fun x hx => by simp at hx; subst hx; intro c hc; simp at hc) (fun x hx => by simp at hx; subst hx; intro c hc; simp at hc) rfl rfl (by simp)).1
    exact ⟨h, h.pos⟩
  | j + 1, hy => by
    obtain ⟨h, hl⟩ := tab_inv hd hh j fun i hi => hy i (by omega)
    have h1 := hy j (by omega)
    obtain ⟨w, hw⟩ := Option.isSome_iff_exists.1 h1
    obtain ⟨hw1, hw2⟩ := hh _ (guess_ok hd h) w hw
    have hm := more_starts hd h hw1 hw2 (r' := (tabW d hit (j + 1)).2) (by
      show (tabW d hit j).2 ++ _ = _
      simp only [show hit (guessW d (tabW d hit j).1 (tabW d hit j).2) = some w from hw, Option.getD_some])
    exact ⟨hm.1, by have := hm.2.2; show _ ≤ (closeW d (tabW d hit j).1 (tabW d hit (j + 1)).2).length; omega⟩
theorem tab_lt {d : DfaD} (hd : dfaOk d.next d.ends = true) {hit : DfaD → Option (List Nat)} (hh : hitOk d hit) {j : Nat} (hy : ∀ i, i < j → (hit (gssW d hit i)).isSome = true) : j < 40 := by
  obtain ⟨h, hl⟩ := tab_inv hd hh j hy
  have := h.le hd
  have := dfaOk_len hd
  omega
theorem first_none {f : Nat → Bool} : ∀ {n : Nat}, (∃ i, i < n ∧ f i = false) → ∃ J, f J = false ∧ ∀ i, i < J → f i = true
  | 0, ⟨i, hi, _⟩ => absurd hi (by omega)
  | n + 1, ⟨i, hi, h⟩ => by
    by_cases h2 : ∃ i, i < n ∧ f i = false
    · exact first_none h2
    · refine ⟨i, h, fun k hk => ?_⟩
      cases hf : f k with
      | true => rfl
      | false => exact absurd ⟨k, by omega, hf⟩ h2
theorem learn_stops {d : DfaD} (hd : dfaOk d.next d.ends = true) {hit : DfaD → Option (List Nat)} (hh : hitOk d hit) : ∃ J, (hit (gssW d hit J)).isSome = false ∧ ∀ i, i < J → (hit (gssW d hit i)).isSome = true := by
  refine first_none (n := 40) ?_
  refine Classical.byContradiction fun hn => ?_
  have := tab_lt hd hh (j := 40) fun i hi => by
    cases h : (hit (gssW d hit i)).isSome with
    | true => rfl
    | false => exact absurd ⟨i, hi, h⟩ hn
  omega
theorem strOfNums_letter (c : Nat) (hc : c < 3) : strOfNums [97 + (c : Int)] = wdB [c] := by
  obtain rfl | rfl | rfl : c = 0 ∨ c = 1 ∨ c = 2 := by omega
  all_goals rfl
theorem conv_letter (c : Nat) (hc : c < 3) (w : World) (b cap : Nat) (h : w.cell? ⟨b, 0, none⟩ = some (.int .u8 (97 + (c : Int)))) :
    (convert 22 9 (.slice (some ⟨b, 0, none⟩) 1 cap)).run Try.prog w = .ok (.string (wdB [c])) w := by
  rw [← strOfNums_letter c hc]
  exact run_convert_bytes_arg w 22 5 Try.underlying22 Try.underlying5 b 0 1 cap [97 + (c : Int)] rfl (fun i hi => by
    obtain rfl : i = 0 := by omega
    simpa using h) 9 Try.underlying9
theorem wrap8_letter (c : Nat) (hc : c < 3) : IntKind.u8.wrap (97 + (c : Int)) = 97 + (c : Int) := by
  obtain rfl | rfl | rfl : c = 0 ∨ c = 1 ∨ c = 2 := by omega
  all_goals rfl
section
variable {α β : Type} [DecidableEq α] [DecidableEq β] {nx : α → Nat → α} {nx' : β → Nat → β} {a : α} {f : α → β}
theorem bvisit_map (hf : ∀ x y, f x = f y → x = y) (hn : ∀ x c, f (nx x c) = nx' (f x) c) (x : α) (wd : List Nat) (s : Bs α) (c : Nat) : bvisit nx' (f x) wd ⟨s.met.map f, s.words⟩ c = ⟨(bvisit nx x wd s c).met.map f, (bvisit nx x wd s c).words⟩ := by
  have hm : nx' (f x) c ∈ s.met.map f ↔ nx x c ∈ s.met := by
    rw [← hn]
    constructor
    · intro h
      obtain ⟨y, hy, e⟩ := List.mem_map.1 h
      rw [← hf _ _ e]
      exact hy
    · exact fun h => List.mem_map.2 ⟨_, h, rfl⟩
  unfold bvisit
  by_cases h : nx x c ∈ s.met
  · rw [if_pos h, if_pos (hm.2 h)]
  · rw [if_neg h, if_neg (fun h2 => h (hm.1 h2))]
    simp [hn]
theorem brow_map (hf : ∀ x y, f x = f y → x = y) (hn : ∀ x c, f (nx x c) = nx' (f x) c) (x : α) (wd : List Nat) (s : Bs α) : ∀ n, brow nx' (f x) wd ⟨s.met.map f, s.words⟩ n = ⟨(brow nx x wd s n).met.map f, (brow nx x wd s n).words⟩
  | 0 => rfl
  | n + 1 => by
    show bvisit nx' (f x) wd (brow nx' (f x) wd ⟨s.met.map f, s.words⟩ n) n = _
    rw [brow_map hf hn x wd s n, bvisit_map hf hn]
    rfl
theorem bat_map (hf : ∀ x y, f x = f y → x = y) (hn : ∀ x c, f (nx x c) = nx' (f x) c) : ∀ k, bat nx' (f a) k = ⟨(bat nx a k).met.map f, (bat nx a k).words⟩
  | 0 => rfl
  | k + 1 => by
    have ih := bat_map hf hn k
    have hl : (bat nx' (f a) k).met.length = (bat nx a k).met.length := by rw [ih]; simp
    by_cases h : k < (bat nx a k).met.length
    · rw [bat_succ h, bat_succ (by rw [hl]; exact h)]
      unfold bpart
      rw [ih]
      have hx : ((bat nx a k).met.map f).getD k (f a) = f ((bat nx a k).met.getD k a) := by simp [h]
      simp only [hx]
      exact brow_map hf hn _ _ _ 3
    · rw [bat_stay (by omega), bat_stay (by omega), ih]
end
theorem hit_swap (K : Nat) (a b : DfaD) : hitK K a b = hitK K b a := by
  have h := bat_map (nx := stepP a b) (nx' := stepP b a) (a := ((0, 0) : Int × Int)) (f := Prod.swap) (fun x y e => by
    have := congrArg Prod.swap e
    simpa using this) (fun x c => rfl) K
  have h' : bat (stepP b a) (0, 0) K = ⟨(bat (stepP a b) (0, 0) K).met.map Prod.swap, (bat (stepP a b) (0, 0) K).words⟩ := h
  unfold hitK
  rw [h']
  refine firstHit_congr _ _ _ _ _ (by simp) fun j h1 h2 => ?_
  rw [List.getElem_map]
  unfold endsF
  simp only [Prod.fst_swap, Prod.snd_swap]
  exact bne_comm
theorem wdB_take (l : List Nat) (k : Nat) : (wdB l).extract 0 k = wdB (l.take k) := by
  apply ByteArray.ext
  simp [wdB, ByteArray.data_extract, List.map_take]
theorem wdB_drop (l : List Nat) (k : Nat) : (wdB l).extract k (wdB l).size = wdB (l.drop k) := by
  apply ByteArray.ext
  rw [wdB_size]
  simp only [wdB, ByteArray.data_extract, List.map_drop, List.extract_toArray, List.extract_eq_take_drop]
  rw [List.take_of_length_le (by simp)]
theorem wdB_append (u v : List Nat) : wdB u ++ wdB v = wdB (u ++ v) := by
  apply ByteArray.ext
  simp [wdB, ByteArray.data_append]
def Strs (B : Nat) (w : World) (v : Value) (ws : List (List Nat)) : Prop := Sl B w v ws.length 1 (wdCells ws)
theorem Strs.below {B : Nat} {w w' : World} {v : Value} {ws : List (List Nat)} (h : Strs B w v ws) (he : Below w.heap.size w w') : Strs B w' v ws := Sl.below h he
theorem Strs.form {B : Nat} {w : World} {v : Value} {ws : List (List Nat)} (h : Strs B w v ws) : ∃ a cap, v = .slice a ws.length cap ∧ ws.length ≤ cap ∧ cap ≤ 9223372036854775807 ∧
    (0 < ws.length → ∃ b off, a = some ⟨b, off, none⟩ ∧ b < w.heap.size ∧ ∀ j, j < ws.length → w.cell? ⟨b, off + j, none⟩ = some (.string (wdB (ws.getD j [])))) := by
  obtain ⟨hl, a, cap, hv, h1, h2, h3⟩ := h
  refine ⟨a, cap, hv, h1, h2, fun hn => ?_⟩
  obtain ⟨b, off, ha, hb, hlt, hc⟩ := h3 hn
  refine ⟨b, off, ha, hlt, fun j hj => ?_⟩
  rw [hc j (by omega)]
  simp [hj]
structure LMem (w : World) (b : Nat) (vn ve vs vr : Value) (d : DfaD) (st re : List (List Nat)) : Prop where
  box : Bx w b #[vn, ve, vs, vr] 138
  lang : DfaR 0 w (.agg #[vn, ve]) d
  st : Strs 0 w vs st
  re : Strs 0 w vr re
theorem LMem.below {w w' : World} {b : Nat} {vn ve vs vr : Value} {d : DfaD} {st re : List (List Nat)} (h : LMem w b vn ve vs vr d st re) (hb : Below w.heap.size w w') : LMem w' b vn ve vs vr d st re :=
  ⟨h.box.below hb h.box.lt, h.lang.below hb, h.st.below hb, h.re.below hb⟩
def okWs (ws : List (List Nat)) : Prop := ∀ x ∈ ws, isW x ∧ x.length ≤ 400000
def ROwnB (B : Nat) (xs : List Bool) (e : Ending) (w' : World) : Prop := ∃ a cap, e = .returned (.slice a xs.length cap) ∧ w'.ownsRow B 4 1 (.slice a xs.length cap) xs.length (boolCells xs)
theorem add_words (s r : List Nat) (hs : s.length ≤ 400000) (hr : r.length ≤ 400000) : (∀ w' : World, (Op.stringOp .add (wdB s) (wdB r)).run Try.prog w' = .ok (.string (wdB (s ++ r))) w') ∧ ¬ 9223372036854775807 < (wdB s).size + (wdB r).size := by
  have h1 := wdB_size s
  have h2 := wdB_size r
  refine ⟨fun w' => ?_, by omega⟩
  rw [← wdB_append]
  exact run_string_add_sum w' _ _ (by omega)
set_option maxHeartbeats 1600000 in
theorem lrow_any (d : DfaD) (st re : List (List Nat)) (s : List Nat) (b : Nat) (vn ve vs vr : Value) (w : World) (hd : dfaOk d.next d.ends = true) (hre : okWs re) (hrl : re.length ≤ 100000) (hs : isW s) (hsl : s.length ≤ 400000) (h : LMem w b vn ve vs vr d st re) :
    Calls Try.prog 160 #[.pointer (some ⟨b, 0, none⟩), .string (wdB s)] w fun e w' => ROwnB w.heap.size (rowW d re s) e w' ∧ Below w.heap.size w w' := by
  obtain ⟨ar, cr, rfl, hc1, hc2, hcs⟩ := h.re.form
  have HL := Lib.hid h
  have hbl := h.box.lt
  have c0 := h.box.cell 0
  have c1 := h.box.cell 1
  have c3 := h.box.cell 3
  simp only [List.getElem?_toArray, List.getElem?_cons_zero, List.getElem?_cons_succ] at c0 c1 c3
  obtain ⟨i0, hi, hz0, hz1, hz2⟩ := info_parts Try.infoBool
  obtain ⟨n, hn⟩ : ∃ n, n = re.length := ⟨_, rfl⟩
  have hxl : (rowW d re s).length = n := by rw [rowW_len, hn]
  obtain ⟨xs, hxs⟩ : ∃ xs, xs = rowW d re s := ⟨_, rfl⟩
  have hxat : ∀ j, j < n → (boolCells xs)[j]? = some (.bool (accD d (s ++ re.getD j []))) := fun j hj => by
    rw [hxs]
    rw [hn] at hj
    simp [rowW, hj]
  rw [← hxs] at hxl
  rw [← hxs]
  rw [← hn] at hc1 hcs hrl c3
  have hxcl : (boolCells xs).length = n := by simpa using hxl
  have Hhcs := Lib.hid hcs; clear hcs
  have Hhn := Lib.hid hn; clear hn
  have Hhxl := Lib.hid hxl; clear hxl
  have Hhxs := Lib.hid hxs; clear hxs
  have Hhxat := Lib.hid hxat; clear hxat
  have Hhxcl := Lib.hid hxcl; clear hxcl
  have Hhd := Lib.hid hd; clear hd
  have Hhre := Lib.hid hre; clear hre
  have Hhs := Lib.hid hs; clear hs
  clear h
  go_enter Try.func160, Try.ntmps160
  go_wp2_with (at_make; refine wpList_make_full _ rfl _ _ 24 rfl w.heap.size 4 i0 (.bool false) 1 Try.underlying24 hi hz0 hz1 .i64 .i64 _ _ n rfl rfl rfl rfl (by rw [hz2]; omega) (by unfold maxLen; omega) (Nat.le_refl _) ?_; intro w1 hown hgrow; have hS := (St.start w).made ((Below.refl _ _).grown hgrow (Nat.le_refl _) (fun _ h => by cases h)) hown; have d0 := (bcell hS.bel b 0 hbl).trans c0; have d1 := (bcell hS.bel b 1 hbl).trans c1; have d3 := (bcell hS.bel b 3 hbl).trans c3; have HS := Lib.hid hS; clear hS hown hgrow)
  clear hi hz0 hz1 hz2 d0 d1 d3
  go_loopw [19] (fun i wr => ∃ (k : Nat) (cs : List Value), i = .int .i64 k ∧ k ≤ n ∧ cs.take k = (boolCells xs).take k ∧ St w wr [Ent.row 4 1 (.slice (some ⟨w.heap.size, 0, none⟩) n n) n cs])
    (fun i _ => n - (intOf i).toNat)
  case atStart => exact ⟨0, (madeCells (Value.bool false).cells (n * 1)).toList, rfl, Nat.zero_le _, by simp, HS.out⟩
  case round =>
    obtain ⟨k, cs, rfl, hk, htk, hS⟩ := hrel
    have hlen : cs.length = n := by have := (hS.row 0 rfl).1; omega
    by_cases hlt : k < n
    · obtain ⟨b1, o1, rfl, hb1, hc⟩ := Hhcs.out (by omega)
      have k1 := (bcell hS.bel b1 _ hb1).trans (hc k hlt)
      have hrk := Hhre.out _ (memD (d := []) (show k < re.length by rw [← Hhn.out]; exact hlt))
      have hxk := Hhxat.out k hlt
      obtain ⟨r, hr⟩ : ∃ r, r = re.getD k [] := ⟨_, rfl⟩
      rw [← hr] at k1 hrk hxk
      obtain ⟨hadd, hnlt⟩ := add_words s r hsl hrk.2
      have d0 := (bcell hS.bel b 0 hbl).trans c0
      have d1 := (bcell hS.bel b 1 hbl).trans c1
      have hacc := fun (w' : World) (hb : Below w.heap.size w w') => accepts_any d (s ++ r) (.agg #[vn, ve]) w' Hhd.out (isW_append Hhs.out hrk.1) (by rw [List.length_append]; have := hrk.2; omega) (HL.out.lang.below hb)
      have Hacc := Lib.hid hacc
      have Hhr := Lib.hid hr; clear hr
      have Hhrk := Lib.hid hrk; clear hrk
      have Hhxk := Lib.hid hxk; clear hxk
      have HhS := Lib.hid hS; clear hS
      have Hhtk := Lib.hid htk; clear htk
      have Hhlen := Lib.hid hlen; clear hlen
      clear hc hacc
      go_wp2_with fail
      refine (Hacc.out _ HhS.out.bel).mono ?_
      rintro e w2 ⟨rfl, hb2⟩
      have hS2 := HhS.out.call hb2
      obtain ⟨u0, hold⟩ := row_some (hS2.row 0 rfl) k (by omega)
      have f0 := hS2.rfr 0 k rfl
      have HhS2 := Lib.hid hS2; clear hS2
      clear hb2
      go_wp2
      go_roundw
      case rel =>
        refine ⟨k + 1, _, by go_num, by omega, ?_, HhS2.out.store 0 rfl k _⟩
        exact cells_set Hhlen.out Hhxcl.out hlt Hhtk.out Hhxk.out
      case measure => simp [intOf]; omega
    · obtain rfl : k = n := by omega
      have he : cs = boolCells xs := by
        rw [List.take_of_length_le (by omega), List.take_of_length_le (by rw [Hhxcl.out]; exact Nat.le_refl _)] at htk
        exact htk
      have HhS := Lib.hid hS; clear hS
      have Hhe := Lib.hid he; clear he
      go_wp2
      go_ret
      refine ⟨⟨some ⟨w.heap.size, 0, none⟩, k, by rw [Hhxl.out]; rfl, ?_⟩, HhS.out.bel⟩
      rw [Hhxl.out, ← Hhe.out]
      exact HhS.out.row 0 rfl
set_option maxHeartbeats 1600000 in
theorem equalB_any (xs ys : List Bool) (n : Nat) (v1 v2 : Value) (w : World) (hx : xs.length = n) (hy : ys.length = n) (h1 : Bools 0 w v1 xs) (h2 : Bools 0 w v2 ys) (r : Bool) (hr : decide (xs = ys) = r) :
    Calls Try.prog 163 #[v1, v2] w fun e w' => e = .returned (.bool r) ∧ Below w.heap.size w w' := by
  obtain ⟨a1, c1, rfl, hc1, hm1, hr1⟩ := h1.form
  obtain ⟨a2, c2, rfl, hc2, hm2, hr2⟩ := h2.form
  rw [hx] at hc1 hr1
  rw [hy] at hc2 hr2
  rw [hx, hy]
  have hnn : ((n : Int) != n) = false := by simp
  have Hhx := Lib.hid hx; clear hx
  have Hhy := Lib.hid hy; clear hy
  have Hhr := Lib.hid hr; clear hr
  clear h1 h2
  go_enter Try.func163, Try.ntmps163
  go_wp2
  go_loopw [4, 13] (fun r i wr => ∃ k : Nat, k ≤ n ∧ i = .int .i64 k ∧ xs.take k = ys.take k ∧ Below w.heap.size w wr) (fun _ i _ => n - (intOf i).toNat)
  case atStart => exact ⟨0, Nat.zero_le _, rfl, rfl, Below.refl _ _⟩
  case round =>
    obtain ⟨k, hk, rfl, htk, hb⟩ := hrel
    have Hhtk := Lib.hid htk; clear htk
    by_cases hlt : k < n
    · obtain ⟨b1, o1, rfl, -, hbl1, hcs1⟩ := hr1 (by omega)
      obtain ⟨b2, o2, rfl, -, hbl2, hcs2⟩ := hr2 (by omega)
      have k1 := (bcell hb b1 (o1 + k) hbl1).trans (hcs1 k hlt)
      have k2 := (bcell hb b2 (o2 + k) hbl2).trans (hcs2 k hlt)
      obtain ⟨p, hp⟩ : ∃ p, p = xs.getD k false := ⟨_, rfl⟩
      obtain ⟨q, hq⟩ : ∃ q, q = ys.getD k false := ⟨_, rfl⟩
      rw [← hp] at k1
      rw [← hq] at k2
      have Hhp := Lib.hid hp; clear hp
      have Hhq := Lib.hid hq; clear hq
      have Hhb := Lib.hid hb; clear hb
      clear hcs1 hcs2 hr1 hr2
      by_cases hpq : p = q
      · have g1 : (p != q) = false := by simpa using hpq
        have g2 : (!(p == q)) = false := by simpa using hpq
        have Hhpq := Lib.hid hpq; clear hpq
        go_wp2
        go_quiet (fail)
        go_wp2
        go_roundw
        case rel => exact ⟨k + 1, by omega, by go_num, take_snoc_eq (d := false) (by rw [Hhx.out]; exact hlt) (by rw [Hhy.out]; exact hlt) Hhtk.out (by rw [← Hhp.out, ← Hhq.out]; exact Hhpq.out), below_drewN Hhb.out _⟩
        case measure => simp [intOf]; omega
      · have g1 : (p != q) = true := by simpa using hpq
        have g2 : (!(p == q)) = true := by simpa using hpq
        have Hhpq := Lib.hid hpq; clear hpq
        go_wp2
        go_quiet (fail)
        go_wp2
        go_ret
        exact ⟨by rw [← Hhr.out, decide_eq_false (ne_of_getD (k := k) (d := false) (by rw [← Hhp.out, ← Hhq.out]; exact Hhpq.out))]; rfl, below_drewN Hhb.out _⟩
    · obtain rfl : k = n := by omega
      have Hhb := Lib.hid hb; clear hb
      clear hr1 hr2
      go_wp2
      go_ret
      refine ⟨?_, Hhb.out⟩
      have h := Hhtk.out
      rw [List.take_of_length_le (by rw [Hhx.out]; exact Nat.le_refl _), List.take_of_length_le (by rw [Hhy.out]; exact Nat.le_refl _)] at h
      rw [← Hhr.out, decide_eq_true h]
      rfl
set_option maxHeartbeats 1600000 in
theorem start1_any (d : DfaD) (st re : List (List Nat)) (s x : List Nat) (b bl bo : Nat) (ov vn ve vs vr : Value) (w : World) (hd : dfaOk d.next d.ends = true) (hre : okWs re) (hrl : re.length ≤ 100000) (hx : isW x) (hxl : x.length ≤ 400000) (h : LMem w b vn ve vs vr d st re)
    (hbl : Bx w bl #[.pointer (some ⟨b, 0, none⟩)] 136) (hbo : Bx w bo #[ov] 24) (hov : Bools 0 w ov (rowW d re s)) (r : Bool) (hr : decide (rowW d re x = rowW d re s) = r) :
    Calls Try.prog 162 #[.string (wdB x), .pointer (some ⟨bl, 0, none⟩), .pointer (some ⟨bo, 0, none⟩)] w fun e w' => e = .returned (.bool r) ∧ Below w.heap.size w w' := by
  have c0 := hbl.cell 0
  have c1 := hbo.cell 0
  simp only [List.getElem?_toArray, List.getElem?_cons_zero] at c0 c1
  have h1 := hbl.lt
  have h2 := hbo.lt
  have Hk := Lib.hid (fun (w' : World) (h : Below w.drew.heap.size w.drew w') => (show w'.cell? ⟨bl, 0, none⟩ = some (.pointer (some ⟨b, 0, none⟩)) ∧ w'.cell? ⟨bo, 0, none⟩ = some ov from ⟨(bcell h _ _ h1).trans c0, (bcell h _ _ h2).trans c1⟩))
  have HL := Lib.hid (h.below (Below.refl _ _).drew)
  have HO := Lib.hid (hov.below (Below.refl _ _).drew)
  have Hhr := Lib.hid hr; clear hr
  have Hhre := Lib.hid hre; clear hre
  have Hhx := Lib.hid hx; clear hx
  have Hhd := Lib.hid hd; clear hd
  clear h hbl hbo hov
  go_enter Try.func162, Try.ntmps162
  go_wp2_with fail
  go_region_held3 (fun w' => w'.cell? ⟨bl, 0, none⟩ = some (.pointer (some ⟨b, 0, none⟩)) ∧ w'.cell? ⟨bo, 0, none⟩ = some ov)
    (first | go_keep | exact Hk.out _ hq0 | exact Hk.out _ hq1)
    (first
      | (go_at_call 160; (with_reducible refine (lrow_any d st re x b vn ve vs vr _ Hhd.out Hhre.out hrl Hhx.out hxl HL.out).mono ?_); rintro e u0 ⟨⟨a0, d0, rfl, hr0⟩, hq0⟩)
      | (go_at_call 163; (with_reducible refine (equalB_any (rowW d re x) (rowW d re s) re.length _ _ _ (rowW_len _ _ _) (rowW_len _ _ _) (bools_of_row hr0) (HO.out.below hq0) _ Hhr.out).mono ?_); rintro e u1 ⟨rfl, hb1⟩; have hq1 := hq0.trans (hb1.mono hq0.size)))
  go_wp2
  go_ret
  exact ⟨rfl, ((Below.refl _ _).drew).trans hq1⟩
set_option maxHeartbeats 1600000 in
theorem indexStart_any (d : DfaD) (st re : List (List Nat)) (s : List Nat) (b bl bo : Nat) (ov vn ve vs vr : Value) (w : World) (hd : dfaOk d.next d.ends = true) (hst : okWs st) (hsl : st.length ≤ 100000) (hre : okWs re) (hrl : re.length ≤ 100000) (h : LMem w b vn ve vs vr d st re)
    (hbl : Bx w bl #[.pointer (some ⟨b, 0, none⟩)] 136) (hbo : Bx w bo #[ov] 24) (hov : Bools 0 w ov (rowW d re s)) :
    Calls Try.prog 161 #[vs, .func (.func 162) #[] #[.pointer (some ⟨bl, 0, none⟩), .pointer (some ⟨bo, 0, none⟩)]] w fun e w' => e = .returned (.int .i64 (findB (st.map (rowW d re)) (rowW d re s))) ∧ Below w.heap.size w w' := by
  obtain ⟨a1, c1, rfl, hc1, hm1, hr1⟩ := h.st.form
  have HL := Lib.hid h
  have HBL := Lib.hid hbl
  have HBO := Lib.hid hbo
  have HOV := Lib.hid hov
  have Hhst := Lib.hid hst; clear hst
  have Hhre := Lib.hid hre; clear hre
  have Hhd := Lib.hid hd; clear hd
  clear h hbl hbo hov
  go_enter Try.func161, Try.ntmps161
  go_wp2
  go_loopw [4, 8] (fun r i wr => ∃ k : Nat, k ≤ st.length ∧ i = .int .i64 k ∧ rowW d re s ∉ (st.map (rowW d re)).take k ∧ Below w.heap.size w wr) (fun _ i _ => st.length - (intOf i).toNat)
  case atStart => exact ⟨0, Nat.zero_le _, rfl, by simp, Below.refl _ _⟩
  case round =>
    obtain ⟨k, hk, rfl, htk, hb⟩ := hrel
    have Hhtk := Lib.hid htk; clear htk
    by_cases hlt : k < st.length
    · obtain ⟨b1, o1, rfl, hbl1, hcs1⟩ := hr1 (by omega)
      have k1 := (bcell hb b1 _ hbl1).trans (hcs1 k hlt)
      have hxw := Hhst.out _ (memD (d := []) hlt)
      have hkm : k < (st.map (rowW d re)).length := by simpa using hlt
      have hin := fun h => take_snoc_mem (d := []) hkm (rowW d re s) h
      have hgk : (st.map (rowW d re)).getD k [] = rowW d re (st.getD k []) := by simp [hlt]
      obtain ⟨x, hx⟩ : ∃ x, x = st.getD k [] := ⟨_, rfl⟩
      rw [← hx] at k1 hxw hgk
      have Hhxw := Lib.hid hxw; clear hxw
      have Hhin := Lib.hid hin; clear hin
      have Hhgk := Lib.hid hgk; clear hgk
      have Hhx := Lib.hid hx; clear hx
      have Hhb := Lib.hid hb; clear hb
      clear hcs1 hr1
      cases hd' : decide (rowW d re x = rowW d re s)
      all_goals
        have Hhd' := Lib.hid hd'; clear hd'
        go_wp2_with fail
        refine (start1_any d st re s x b bl bo ov vn ve _ vr _ Hhd.out Hhre.out hrl Hhxw.out.1 Hhxw.out.2 (HL.out.below Hhb.out) (HBL.out.below Hhb.out HBL.out.lt) (HBO.out.below Hhb.out HBO.out.lt) (HOV.out.below Hhb.out) _ Hhd'.out).mono ?_
        rintro e w2 ⟨rfl, hb2⟩
        have hb3 := Hhb.out.trans (hb2.mono Hhb.out.size)
        have Hhb3 := Lib.hid hb3; clear hb3
        clear hb2
        go_wp2
      · go_roundw
        case rel => exact ⟨k + 1, by omega, by go_num, fun h => by rcases Hhin.out h with h | h; exact Hhtk.out h; exact of_decide_eq_false Hhd'.out (by rw [← Hhgk.out, ← h]), Hhb3.out⟩
        case measure => simp [intOf]; omega
      · go_ret
        exact ⟨ret_int (by rw [findB_at (by simpa using hlt) Hhtk.out (by rw [Hhgk.out]; exact of_decide_eq_true Hhd'.out)]), Hhb3.out⟩
    · obtain rfl : k = st.length := by omega
      have Hhb := Lib.hid hb; clear hb
      clear hr1
      go_wp2
      go_ret
      refine ⟨ret_int (by rw [findB_none]; have h := Hhtk.out; rwa [List.take_of_length_le (by simp)] at h), Hhb.out⟩
set_option maxHeartbeats 1600000 in
theorem startOf_any (d : DfaD) (st re : List (List Nat)) (s : List Nat) (b : Nat) (vn ve vs vr : Value) (w : World) (hd : dfaOk d.next d.ends = true) (hst : okWs st) (hsl : st.length ≤ 100000) (hre : okWs re) (hrl : re.length ≤ 100000) (hs : isW s) (hsn : s.length ≤ 400000) (h : LMem w b vn ve vs vr d st re) :
    Calls Try.prog 153 #[.pointer (some ⟨b, 0, none⟩), .string (wdB s)] w fun e w' => e = .returned (.int .i64 (findB (st.map (rowW d re)) (rowW d re s))) ∧ Below w.heap.size w w' := by
  have HL := Lib.hid h
  have hS := (St.start w).alloc _ rfl #[.pointer (some ⟨b, 0, none⟩)] 136
  have HhS := Lib.hid hS; clear hS
  have Hhst := Lib.hid hst; clear hst
  have Hhre := Lib.hid hre; clear hre
  have Hhs := Lib.hid hs; clear hs
  have Hhd := Lib.hid hd; clear hd
  clear h
  go_enter Try.func153, Try.ntmps153
  go_wp2_with fail
  refine (lrow_any d st re s b vn ve vs vr _ Hhd.out Hhre.out hrl Hhs.out hsn (HL.out.below HhS.out.bel)).mono ?_
  rintro e u ⟨⟨a0, d0, rfl, hr0⟩, hb⟩
  have hS2 := (HhS.out.made hb hr0).alloc _ rfl #[.slice a0 (rowW d re s).length d0] 24
  have e0 := hS2.cell (v := .pointer (some ⟨b, 0, none⟩)) 0 0 rfl rfl
  have hL2 := HL.out.below hS2.bel
  have e1 := hL2.box.cell 1
  have e2 := hL2.box.cell 2
  simp only [List.getElem?_toArray, List.getElem?_cons_zero, List.getElem?_cons_succ] at e1 e2
  have HhS2 := Lib.hid hS2; clear hS2
  have HhL2 := Lib.hid hL2; clear hL2
  clear hb hr0
  go_wp2_with fail
  refine (indexStart_any d st re s b w.heap.size u.heap.size (.slice a0 (rowW d re s).length d0) vn ve vs vr _ Hhd.out Hhst.out hsl Hhre.out hrl HhL2.out (HhS2.out.box 0 rfl) (HhS2.out.box 2 rfl) (bools_of_row (HhS2.out.row 1 rfl))).mono ?_
  rintro e w2 ⟨rfl, hb2⟩
  have hS3 := HhS2.out.call hb2
  have HhS3 := Lib.hid hS3; clear hS3
  go_wp2
  go_ret
  exact ⟨rfl, HhS3.out.bel⟩
theorem one_str {x : ByteArray} : ∀ u ∈ [Value.string x], u.oneCell' = true := by
  intro u hu
  simp only [List.mem_singleton] at hu
  subst hu
  rfl
theorem one_i {k : IntKind} {x : Int} : ∀ u ∈ [Value.int k x], u.oneCell' = true := by
  intro u hu
  simp only [List.mem_singleton] at hu
  subst hu
  rfl
theorem one_sl {a : Option Addr} {l c : Nat} : ∀ u ∈ [Value.slice a l c], u.oneCell' = true := by
  intro u hu
  simp only [List.mem_singleton] at hu
  subst hu
  rfl
theorem one_bl {x : Bool} : ∀ u ∈ [Value.bool x], u.oneCell' = true := by
  intro u hu
  simp only [List.mem_singleton] at hu
  subst hu
  rfl
theorem boolC_snoc (l : List Bool) (x : Bool) : boolCells (l ++ [x]) = boolCells l ++ [.bool x] := by simp [boolCells]
theorem intC_snoc (l : List Int) (x : Int) : intCells (l ++ [x]) = intCells l ++ [.int .i64 x] := by simp [intCells]
def gRow (d : DfaD) (st re : List (List Nat)) (s : List Nat) : List Int := (List.range 3).map fun c => findB (st.map (rowW d re)) (rowW d re (s ++ [c]))
theorem gRow_len (d : DfaD) (st re : List (List Nat)) (s : List Nat) : (gRow d st re s).length = 3 := by simp [gRow]
theorem gRow_take {d : DfaD} {st re : List (List Nat)} {s : List Nat} {c : Nat} (hc : c < 3) : (gRow d st re s).take (c + 1) = (gRow d st re s).take c ++ [findB (st.map (rowW d re)) (rowW d re (s ++ [c]))] := by
  rw [List.take_succ_eq_append_getElem (by rw [gRow_len]; exact hc)]
  simp [gRow]
theorem guess_take {d : DfaD} {st re : List (List Nat)} {k : Nat} (hk : k < st.length) : (guessW d st re).next.take (k + 1) = (guessW d st re).next.take k ++ [gRow d st re (st.getD k [])] ∧ (guessW d st re).ends.take (k + 1) = (guessW d st re).ends.take k ++ [accD d (st.getD k [])] := by
  have h1 := guess_len d st re
  constructor
  · rw [List.take_succ_eq_append_getElem (by omega)]
    simp [guessW, gRow, hk]
  · rw [List.take_succ_eq_append_getElem (by omega)]
    simp [guessW, hk]
def RGuess (D : DfaD) (n : Nat) (w : World) (e : Ending) (w' : World) : Prop := ∃ a1 c1 a2 c2 vs, e = .returned (.agg #[.slice a1 n c1, .slice a2 n c2]) ∧
  St w w' [Ent.rows 29 3 (.slice a1 n c1) vs (D.next.map intCells), Ent.row 4 1 (.slice a2 n c2) n (boolCells D.ends)]
set_option maxRecDepth 100000 in
set_option maxHeartbeats 4000000 in
theorem lguess_any (d : DfaD) (st re : List (List Nat)) (b : Nat) (vn ve vs vr : Value) (w : World) (hd : dfaOk d.next d.ends = true) (hst : ∀ x ∈ st, isW x ∧ x.length ≤ 399999) (hsl : st.length ≤ 100000) (hre : okWs re) (hrl : re.length ≤ 100000) (h : LMem w b vn ve vs vr d st re) :
    Calls Try.prog 136 #[.pointer (some ⟨b, 0, none⟩)] w fun e w' => RGuess (guessW d st re) st.length w e w' := by
  have hst' : okWs st := fun x hx => ⟨(hst x hx).1, by have := (hst x hx).2; omega⟩
  obtain ⟨av, cv, rfl, hc1, hm1, hr1⟩ := h.st.form
  have HL := Lib.hid h
  have hbl := h.box.lt
  have c0 := h.box.cell 0
  have c1 := h.box.cell 1
  have c2 := h.box.cell 2
  simp only [List.getElem?_toArray, List.getElem?_cons_zero, List.getElem?_cons_succ] at c0 c1 c2
  obtain ⟨n, hn⟩ : ∃ n, n = st.length := ⟨_, rfl⟩
  obtain ⟨G, hG⟩ : ∃ G, G = guessW d st re := ⟨_, rfl⟩
  have hgt := fun (k : Nat) (hk : k < st.length) => guess_take (d := d) (re := re) hk
  have hgl := guess_len d st re
  rw [← hG] at hgt hgl
  rw [← hn] at hgt hgl hc1 hr1 c2 hsl
  rw [← hG, ← hn]
  have hS := (((St.start w).alloc _ rfl #[.slice none 0 0, .slice none 0 0] 26).alloc (w.heap.size + 1) (by simp) #[.slice none 0 0, .slice none 0 0] 26)
  have hS0 := (((hS.nilRow 29 1).norows 2 rfl 3).nilRow 4 1)
  obtain ⟨i0, hi, hz0, hz1, hz2⟩ := info_parts Try.infoInt
  obtain ⟨j0, hj, hy0, hy1, hy2⟩ := info_parts Try.infoInts
  obtain ⟨k0, hk', hx0, hx1, hx2⟩ := info_parts Try.infoBool
  have d2 := (bcell hS.bel b 2 hbl).trans c2
  have Hhst := Lib.hid hst; clear hst
  have Hhst' := Lib.hid hst'; clear hst'
  have Hhre := Lib.hid hre; clear hre
  have Hhd := Lib.hid hd; clear hd
  have Hhr1 := Lib.hid hr1; clear hr1
  have Hhn := Lib.hid hn; clear hn
  have HhG := Lib.hid hG; clear hG
  have Hhgt := Lib.hid hgt; clear hgt
  have Hhgl := Lib.hid hgl; clear hgl
  have HhS0 := Lib.hid hS0; clear hS0
  have Hhi := Lib.hid hi; clear hi
  have Hhz0 := Lib.hid hz0; clear hz0
  have Hhz1 := Lib.hid hz1; clear hz1
  have Hhz2 := Lib.hid hz2; clear hz2
  have Hhj := Lib.hid hj; clear hj
  have Hhy0 := Lib.hid hy0; clear hy0
  have Hhy1 := Lib.hid hy1; clear hy1
  have Hhy2 := Lib.hid hy2; clear hy2
  have Hhk' := Lib.hid hk'; clear hk'
  have Hhx0 := Lib.hid hx0; clear hx0
  have Hhx1 := Lib.hid hx1; clear hx1
  have Hhx2 := Lib.hid hx2; clear hx2
  clear h hS
  go_enter Try.func136, Try.ntmps136
  go_wp2
  clear d2
  go_loopw [13] (fun i wr => ∃ (k c1 c2 : Nat) (a1 a2 : Option Addr) (vs1 : List Value), i = .int .i64 k ∧ k ≤ n ∧ St w wr [Ent.box w.heap.size #[.slice none 0 0, .slice none 0 0] 26, Ent.box (w.heap.size + 1) #[.slice a1 k c1, .slice a2 k c2] 26,
      Ent.rows 29 3 (.slice a1 k c1) vs1 ((G.next.take k).map intCells), Ent.row 4 1 (.slice a2 k c2) k (boolCells (G.ends.take k))])
    (fun i _ => n - (intOf i).toNat)
  case atStart => exact ⟨0, 0, 0, none, none, [], rfl, Nat.zero_le _, HhS0.out⟩
  case round =>
    obtain ⟨k, c1', c2', a1, a2, vs1, rfl, hk, hS⟩ := hrel
    obtain ⟨wo, hwo⟩ : ∃ wo : World, wo = wr := ⟨_, rfl⟩
    subst hwo
    by_cases hlt : k < n
    · obtain ⟨b1, o1, rfl, hb1, hc⟩ := Hhr1.out (by omega)
      have k1 := (bcell hS.bel b1 _ hb1).trans (hc k hlt)
      have hks : k < st.length := by rw [← Hhn.out]; exact hlt
      have hsk := Hhst.out _ (memD (d := []) hks)
      obtain ⟨gt1, gt2⟩ := Hhgt.out k hlt
      obtain ⟨s, hs⟩ : ∃ s, s = st.getD k [] := ⟨_, rfl⟩
      rw [← hs] at k1 hsk gt1 gt2
      obtain ⟨R, hR⟩ : ∃ R, R = gRow d st re s := ⟨_, rfl⟩
      rw [← hR] at gt1
      have hRl : R.length = 3 := by rw [hR]; exact gRow_len _ _ _ _
      have hkn : (k : Int) < n := by omega
      have hSn := hS.nilRow 3 1
      have HhS := Lib.hid hS; clear hS
      have HhSn := Lib.hid hSn; clear hSn
      have Hhs := Lib.hid hs; clear hs
      have Hhsk := Lib.hid hsk; clear hsk
      have Hgt1 := Lib.hid gt1; clear gt1
      have Hgt2 := Lib.hid gt2; clear gt2
      have HhR := Lib.hid hR; clear hR
      have HhRl := Lib.hid hRl; clear hRl
      clear hc
      go_wp2
      go_loopw [6, 17] (fun rv i wi => ∃ (c c3 : Nat) (a3 : Option Addr), i = .int .i64 c ∧ rv = .slice a3 c c3 ∧ c ≤ 3 ∧ St w wi [Ent.box w.heap.size #[.slice none 0 0, .slice none 0 0] 26, Ent.box (w.heap.size + 1) #[.slice a1 k c1', .slice a2 k c2'] 26,
          Ent.rows 29 3 (.slice a1 k c1') vs1 ((G.next.take k).map intCells), Ent.row 4 1 (.slice a2 k c2') k (boolCells (G.ends.take k)), Ent.row 3 1 (.slice a3 c c3) c (intCells (R.take c))])
        (fun _ i _ => 3 - (intOf i).toNat)
      case atStart => exact ⟨0, 0, none, rfl, rfl, by omega, HhSn.out⟩
      case round =>
        obtain ⟨c, c3, a3, rfl, rfl, hc3, hSi⟩ := hrel
        clear k1
        by_cases hc : c < 3
        · obtain ⟨hadd, hnlt⟩ := add_words s [c] (by have := Hhsk.out.2; omega) (by simp)
          have hcI : (c : Int) < 3 := by omega
          have hsc := fun (w' : World) (hb : Below w.heap.size w w') => startOf_any d st re (s ++ [c]) b vn ve (.slice (some ⟨b1, o1, none⟩) st.length cv) vr w' Hhd.out Hhst'.out (by rw [← Hhn.out]; exact hsl) Hhre.out hrl (isW_append Hhsk.out.1 (isW_one hc)) (by rw [List.length_append]; have := Hhsk.out.2; simp; omega) (HL.out.below hb)
          have hgt := gRow_take (d := d) (st := st) (re := re) (s := s) hc
          rw [← HhR.out] at hgt
          obtain ⟨p, hp⟩ : ∃ p, p = findB (st.map (rowW d re)) (rowW d re (s ++ [c])) := ⟨_, rfl⟩
          rw [← hp] at hsc hgt
          have Hsc := Lib.hid hsc
          have Hhp := Lib.hid hp; clear hp
          have Hhgt := Lib.hid hgt; clear hgt
          have HhSi := Lib.hid hSi; clear hSi
          clear hsc
          go_wp2_with fail
          refine (letterText_any c hc _).mono ?_
          rintro e w' ⟨rfl, rfl⟩
          go_wp2_with fail
          refine (Hsc.out _ HhSi.out.bel).mono ?_
          rintro e w2 ⟨rfl, hb2⟩
          have hSa := (HhSi.out.call hb2).alloc_ (.cells #[.int .i64 p] 3)
          have hRw := hSa.row 4 rfl
          have HhSa := Lib.hid hSa; clear hSa
          have HhRw := Lib.hid hRw; clear hRw
          clear hb2
          go_wp2_with (at_builtin; refine wpList_append_lies _ rfl _ _ _ rfl _ 3 i0 (.int .i64 0) 1 8 Try.underlying29 Hhi.out Hhz0.out Hhz1.out Hhz2.out rfl (by omega) _ c _ rfl HhRw.out ⟨w2.heap.size, 0, none⟩ 1 1 [.int .i64 p] rfl rfl (World.news_of_block (heap_alloc_new w2 _)) one_i (by omega) (by unfold maxLen; omega) (by omega) HhSa.out.size _ rfl ?_; intro g6 c6 w6 hown6 hgrow6 hat6 hlt6; have HS6 := Lib.hid (HhSa.out.app 4 rfl hown6 hgrow6 hat6); clear hown6 hgrow6 hat6 hlt6)
          go_roundw
          case rel =>
            refine ⟨c + 1, c6, some ⟨g6, 0, none⟩, by go_num, rfl, by omega, ?_⟩
            rw [Hhgt.out, intC_snoc]
            exact HS6.out
          case measure => simp [intOf]; omega
        · obtain rfl : c = 3 := by omega
          have hR3 : R.take 3 = R := List.take_of_length_le (by rw [HhRl.out]; exact Nat.le_refl _)
          rw [hR3] at hSi
          have hlm : ((G.next.take k).map intCells).length = k := by rw [List.length_map, List.length_take]; have := Hhgl.out.1; omega
          have hSa := hSi.alloc_ (.cells #[.slice a3 3 c3] 29)
          have hRw := (hSa.rows 2 rfl).1
          rw [hlm] at hRw
          have e0 := hSi.cell (v := .slice a1 k c1') 1 0 rfl rfl
          have HhR3 := Lib.hid hR3; clear hR3
          have Hhlm := Lib.hid hlm; clear hlm
          have HhSi := Lib.hid hSi; clear hSi
          have HhSa := Lib.hid hSa; clear hSa
          have HhRw := Lib.hid hRw; clear hRw
          go_wp2_with (at_builtin; refine wpList_append_lies _ rfl _ _ _ rfl _ 29 j0 (.slice none 0 0) 1 24 Try.underlying23 Hhj.out Hhy0.out Hhy1.out Hhy2.out rfl (by omega) _ k _ rfl HhRw.out ⟨wr.heap.size, 0, none⟩ 1 1 [.slice a3 3 c3] rfl rfl (World.news_of_block (heap_alloc_new wr _)) one_sl (by omega) (by unfold maxLen; omega) (by omega) HhSa.out.size _ rfl ?_; intro g6 c6 w6 hown6 hgrow6 hat6 hlt6; have HS6 := Lib.hid (HhSa.out.snoc 2 4 (by decide) rfl rfl (by decide) hgrow6 (by rw [Hhlm.out]; exact hown6) (hat_of hat6)); have y1 := HS6.out.cell (v := .slice a1 k c1') 1 0 rfl rfl; have y2 := HS6.out.fr 1 0 rfl; clear hown6 hgrow6 hat6 hlt6)
          have hSq := (HS6.out.set 1 rfl 0 (.slice (some ⟨g6, 0, none⟩) (k + 1) c6)).pick [0, 1, 2, 3] (by decide)
          obtain ⟨wq, hwq⟩ : ∃ wq, wq = w6.setCell ⟨w.heap.size + 1, 0, none⟩ (.slice (some ⟨g6, 0, none⟩) (k + 1) c6) := ⟨_, rfl⟩
          rw [← hwq] at hSq
          have hSq' : St w wq [Ent.box w.heap.size #[.slice none 0 0, .slice none 0 0] 26, Ent.box (w.heap.size + 1) #[.slice (some ⟨g6, 0, none⟩) (k + 1) c6, .slice a2 k c2'] 26,
              Ent.rows 29 3 (.slice (some ⟨g6, 0, none⟩) (k + 1) c6) (vs1 ++ [.slice a3 3 c3]) ((G.next.take (k + 1)).map intCells), Ent.row 4 1 (.slice a2 k c2') k (boolCells (G.ends.take k))] := by
            rw [Hgt1.out, List.map_append]
            exact hSq
          rw [← hwq]
          obtain ⟨r, hr⟩ : ∃ r, r = accD d s := ⟨_, rfl⟩
          have hacc := fun (w' : World) (hb : Below w.heap.size w w') => accepts_any d s (.agg #[vn, ve]) w' Hhd.out Hhsk.out.1 (by have := Hhsk.out.2; omega) (HL.out.lang.below hb)
          rw [← hr] at hacc
          have hbq : Below w.heap.size w wq.drew := hSq'.bel.drew
          have q0 := (bcell hSq'.bel b 0 hbl).trans c0
          have q1 := (bcell hSq'.bel b 1 hbl).trans c1
          have q2 := hSq'.cell (v := .slice a2 k c2') 1 1 rfl rfl
          have Hacc := Lib.hid hacc
          have HSq := Lib.hid hSq'
          have Hhwq := Lib.hid hwq; clear hwq
          have Hhr := Lib.hid hr; clear hr
          have Hhbq := Lib.hid hbq; clear hbq
          clear hacc hSq hSq' y1 y2 e0 HS6
          go_region_law (first
              | (go_simp; go_at_call 83; refine (Hacc.out _ Hhbq.out).mono ?_; rintro e u ⟨rfl, hq0⟩; have HSu := Lib.hid ((HSq.out.drew).call hq0); have z1 := HSu.out.cell (v := .slice a2 k c2') 1 1 rfl rfl; have HSa := Lib.hid (HSu.out.alloc_ (.cells #[.bool r] 4)); have z2 := HSa.out.cell (v := .slice a2 k c2') 1 1 rfl rfl; clear hq0)
              | (refine step_append_lies _ (by rfl) _ _ _ (by rfl) w.heap.size 4 k0 (.bool false) 1 1 Try.underlying24 Hhk'.out Hhx0.out Hhx1.out Hhx2.out (by rfl) (by omega) (.slice a2 k c2') k (boolCells (G.ends.take k)) (by rfl) (HSa.out.row 3 rfl) ⟨u.heap.size, 0, none⟩ 1 1 [.bool r] (by rfl) (by rfl) (World.news_of_block (heap_alloc_new u _)) one_bl (by omega) (by unfold maxLen; omega) (by omega) HSa.out.size (u.heap.size + 1) (by simp) ?_; intro g7 c7 w7 hown7 hgrow7 hat7 hlt7; have HS7 := Lib.hid (HSa.out.app 3 rfl hown7 hgrow7 (by rw [World.size_alloc]; exact hat7)); have y1 := HS7.out.cell (v := .slice a2 k c2') 1 1 rfl rfl; have y2 := HS7.out.fr 1 1 rfl; clear hown7 hgrow7 hat7))
          all_goals
            go_wp2
            go_roundw
            case rel =>
              refine ⟨k + 1, c6, c7, some ⟨g6, 0, none⟩, some ⟨g7, 0, none⟩, vs1 ++ [.slice a3 3 c3], by go_num, by omega, ?_⟩
              rw [Hgt2.out, boolC_snoc, ← Hhr.out]
              exact HS7.out.set 1 rfl 1 (.slice (some ⟨g7, 0, none⟩) (k + 1) c7)
            case measure => simp [intOf]; omega
    · obtain rfl : k = n := by omega
      have hn1 : G.next.take k = G.next := List.take_of_length_le (by rw [Hhgl.out.1]; exact Nat.le_refl _)
      have hn2 : G.ends.take k = G.ends := List.take_of_length_le (by rw [Hhgl.out.2]; exact Nat.le_refl _)
      rw [hn1, hn2] at hS
      have d0 := hS.cell (v := .slice a1 k c1') 1 0 rfl rfl
      have d1 := hS.cell (v := .slice a2 k c2') 1 1 rfl rfl
      have f0 := hS.fr 0 0 rfl
      have f1 := hS.fr 0 1 rfl
      have k0 := hS.cell (v := .slice none 0 0) 0 0 rfl rfl
      have k1 := hS.cell (v := .slice none 0 0) 0 1 rfl rfl
      have HhS := Lib.hid hS; clear hS
      clear hn1 hn2
      go_wp2
      have hq := (HhS.out.set 0 rfl 0 (.slice a1 k c1')).set 0 rfl 1 (.slice a2 k c2')
      have q0 := hq.cell (v := .slice a1 k c1') 0 0 rfl rfl
      have q1 := hq.cell (v := .slice a2 k c2') 0 1 rfl rfl
      refine bodyPost_ret (v := .agg #[.slice a1 k c1', .slice a2 k c2']) (by simp [results, Try.results136, go_sem, q0, q1]) rfl ?_
      exact ⟨a1, c1', a2, c2', vs1, rfl, hq.pick [2, 3] (by decide)⟩
end Go.Proofs.Ythhbjkgchabfmaa
