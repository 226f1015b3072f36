/-
  States met in breadth, letter by letter, with the words that lead to them: the plain meaning of the program's and of the reference's searches.
  No condition: this text speaks of no program.
  A map from things to their places in a list.
  No condition: this text speaks of no program.
  The first of the things met that ends, and its word: plain laws; the same for the numbered automaton.
  No condition: this text speaks of no program.
-/
import Derived.Test.YthhbjkgchabfmaaPk01Dvi
namespace Go.Proofs.Ythhbjkgchabfmaa
structure Bs (α : Type) where
  met : List α
  words : List (List Nat)
section
variable {α : Type} [DecidableEq α]
def bvisit (nx : α → Nat → α) (x : α) (wd : List Nat) (s : Bs α) (c : Nat) : Bs α :=
  if nx x c ∈ s.met then s else ⟨s.met ++ [nx x c], s.words ++ [wd ++ [c]]⟩
def brow (nx : α → Nat → α) (x : α) (wd : List Nat) (s : Bs α) : Nat → Bs α
  | 0 => s
  | n + 1 => bvisit nx x wd (brow nx x wd s n) n
def bat (nx : α → Nat → α) (a : α) : Nat → Bs α
  | 0 => ⟨[a], [[]]⟩
  | k + 1 => if k < (bat nx a k).met.length then brow nx ((bat nx a k).met.getD k a) ((bat nx a k).words.getD k []) (bat nx a k) 3 else bat nx a k
def bpart (nx : α → Nat → α) (a : α) (k n : Nat) : Bs α := brow nx ((bat nx a k).met.getD k a) ((bat nx a k).words.getD k []) (bat nx a k) n
variable {nx : α → Nat → α} {a : α}
theorem bpart_zero (k : Nat) : bpart nx a k 0 = bat nx a k := rfl
theorem bat_succ {k : Nat} (h : k < (bat nx a k).met.length) : bat nx a (k + 1) = bpart nx a k 3 := by
  simp only [bat, if_pos h]
  rfl
theorem bat_stay {k : Nat} (h : (bat nx a k).met.length ≤ k) : bat nx a (k + 1) = bat nx a k := by
  simp only [bat, if_neg (show ¬ k < (bat nx a k).met.length by omega)]
theorem bpart_succ (k n : Nat) : bpart nx a k (n + 1) = bvisit nx ((bat nx a k).met.getD k a) ((bat nx a k).words.getD k []) (bpart nx a k n) n := rfl
theorem bpart_old {k n : Nat} (h : nx ((bat nx a k).met.getD k a) n ∈ (bpart nx a k n).met) : bpart nx a k (n + 1) = bpart nx a k n := by
  rw [bpart_succ, bvisit, if_pos h]
theorem bpart_new {k n : Nat} (h : nx ((bat nx a k).met.getD k a) n ∉ (bpart nx a k n).met) : bpart nx a k (n + 1) = ⟨(bpart nx a k n).met ++ [nx ((bat nx a k).met.getD k a) n], (bpart nx a k n).words ++ [(bat nx a k).words.getD k [] ++ [n]]⟩ := by
  rw [bpart_succ, bvisit, if_neg h]
theorem brow_ind (Q : Bs α → Prop) {x : α} {wd : List Nat} {s : Bs α} (hs : Q s) (hv : ∀ t c, c < 3 → Q t → Q (bvisit nx x wd t c)) : ∀ n, n ≤ 3 → Q (brow nx x wd s n)
  | 0, _ => hs
  | n + 1, h => hv _ n (by omega) (brow_ind Q hs hv n (by omega))
theorem bat_ind (Q : Bs α → Prop) (h0 : Q ⟨[a], [[]]⟩) (hv : ∀ s k, k < s.met.length → ∀ t c, c < 3 → Q s → Q t → Q (bvisit nx (s.met.getD k a) (s.words.getD k []) t c)) : ∀ k, Q (bat nx a k)
  | 0 => h0
  | k + 1 => by
    have ih := bat_ind Q h0 hv k
    by_cases h : k < (bat nx a k).met.length
    · rw [bat_succ h]
      exact brow_ind Q ih (fun t c hc ht => hv _ k h t c hc ih ht) 3 (by omega)
    · rw [bat_stay (by omega)]
      exact ih
theorem bpart_ind (Q : Bs α → Prop) (h0 : Q ⟨[a], [[]]⟩) (hv : ∀ s k, k < s.met.length → ∀ t c, c < 3 → Q s → Q t → Q (bvisit nx (s.met.getD k a) (s.words.getD k []) t c)) {k n : Nat} (hk : k < (bat nx a k).met.length) (hn : n ≤ 3) : Q (bpart nx a k n) :=
  brow_ind Q (bat_ind Q h0 hv k) (fun t c hc ht => hv _ k hk t c hc (bat_ind Q h0 hv k) ht) n hn
omit [DecidableEq α] in
theorem nodup_snoc {l : List α} {x : α} (h : l.Nodup) (hx : x ∉ l) : (l ++ [x]).Nodup := by
  rw [List.nodup_append]
  refine ⟨h, by simp, ?_⟩
  intro b hb c hc
  simp only [List.mem_singleton] at hc
  subst hc
  intro e
  subst e
  exact hx hb
theorem bvisit_good (x : α) (wd : List Nat) {t : Bs α} (c : Nat) (h : t.met.Nodup ∧ t.words.length = t.met.length ∧ t.met.head? = some a) :
    (bvisit nx x wd t c).met.Nodup ∧ (bvisit nx x wd t c).words.length = (bvisit nx x wd t c).met.length ∧ (bvisit nx x wd t c).met.head? = some a := by
  unfold bvisit
  split
  · exact h
  · rename_i hx
    obtain ⟨h1, h2, h3⟩ := h
    exact ⟨nodup_snoc h1 hx, by simp [h2], by simp [h3]⟩
theorem bat_good (k : Nat) : (bat nx a k).met.Nodup ∧ (bat nx a k).words.length = (bat nx a k).met.length ∧ (bat nx a k).met.head? = some a :=
  bat_ind (fun s => s.met.Nodup ∧ s.words.length = s.met.length ∧ s.met.head? = some a) (by simp) (fun s k _ t c _ _ ht => bvisit_good _ _ _ ht) k
theorem bpart_good {k n : Nat} (hk : k < (bat nx a k).met.length) (hn : n ≤ 3) : (bpart nx a k n).met.Nodup ∧ (bpart nx a k n).words.length = (bpart nx a k n).met.length ∧ (bpart nx a k n).met.head? = some a :=
  bpart_ind (fun s => s.met.Nodup ∧ s.words.length = s.met.length ∧ s.met.head? = some a) (by simp) (fun s k _ t c _ _ ht => bvisit_good _ _ _ ht) hk hn
theorem bat_pos (k : Nat) : 0 < (bat nx a k).met.length := by
  have := (bat_good (nx := nx) (a := a) k).2.2
  cases h : (bat nx a k).met with
  | nil => rw [h] at this; simp at this
  | cons => simp
theorem bat_first (k : Nat) : (bat nx a k).met.getD 0 a = a := by
  have := (bat_good (nx := nx) (a := a) k).2.2
  cases h : (bat nx a k).met with
  | nil => rw [h] at this; simp at this
  | cons => rw [h] at this; simpa using this
theorem bat_all {Q : α → Prop} (h0 : Q a) (hv : ∀ x c, c < 3 → Q x → Q (nx x c)) (k : Nat) : ∀ x ∈ (bat nx a k).met, Q x := by
  refine bat_ind (fun s => ∀ x ∈ s.met, Q x) (by simpa using h0) (fun s k hk t c hc hs ht => ?_) k
  unfold bvisit
  split
  · exact ht
  · intro x hx
    simp only [List.mem_append, List.mem_singleton] at hx
    rcases hx with hx | rfl
    · exact ht x hx
    · refine hv _ c hc (hs _ ?_)
      rw [List.getD_eq_getElem?_getD, List.getElem?_eq_getElem hk]
      simp
theorem bpart_all {Q : α → Prop} (h0 : Q a) (hv : ∀ x c, c < 3 → Q x → Q (nx x c)) {k n : Nat} (hk : k < (bat nx a k).met.length) (hn : n ≤ 3) : ∀ x ∈ (bpart nx a k n).met, Q x := by
  refine bpart_ind (fun s => ∀ x ∈ s.met, Q x) (by simpa using h0) (fun s k hk t c hc hs ht => ?_) hk hn
  unfold bvisit
  split
  · exact ht
  · intro x hx
    simp only [List.mem_append, List.mem_singleton] at hx
    rcases hx with hx | rfl
    · exact ht x hx
    · refine hv _ c hc (hs _ ?_)
      rw [List.getD_eq_getElem?_getD, List.getElem?_eq_getElem hk]
      simp
def Bs.le (s t : Bs α) : Prop := s.met <+: t.met ∧ s.words <+: t.words
omit [DecidableEq α] in
theorem Bs.le_refl (s : Bs α) : s.le s := ⟨List.prefix_rfl, List.prefix_rfl⟩
omit [DecidableEq α] in
theorem Bs.le_trans {s t u : Bs α} (h : s.le t) (k : t.le u) : s.le u := ⟨h.1.trans k.1, h.2.trans k.2⟩
theorem bvisit_le (x : α) (wd : List Nat) (s : Bs α) (c : Nat) : s.le (bvisit nx x wd s c) := by
  unfold bvisit
  split
  · exact Bs.le_refl _
  · exact ⟨List.prefix_append _ _, List.prefix_append _ _⟩
theorem brow_le (x : α) (wd : List Nat) (s : Bs α) (n m : Nat) (h : n ≤ m) : (brow nx x wd s n).le (brow nx x wd s m) := by
  induction m with
  | zero => obtain rfl : n = 0 := by omega
            exact Bs.le_refl _
  | succ m ih =>
    by_cases hn : n = m + 1
    · subst hn; exact Bs.le_refl _
    · exact Bs.le_trans (ih (by omega)) (bvisit_le _ _ _ _)
theorem bpart_le {k n m : Nat} (h : n ≤ m) : (bpart nx a k n).le (bpart nx a k m) := brow_le _ _ _ n m h
theorem bat_le_succ (k : Nat) : (bat nx a k).le (bat nx a (k + 1)) := by
  by_cases h : k < (bat nx a k).met.length
  · rw [bat_succ h]
    exact brow_le _ _ _ 0 3 (by omega)
  · rw [bat_stay (by omega)]
    exact Bs.le_refl _
theorem bat_le {k m : Nat} (h : k ≤ m) : (bat nx a k).le (bat nx a m) := by
  induction m with
  | zero => obtain rfl : k = 0 := by omega
            exact Bs.le_refl _
  | succ m ih =>
    by_cases hn : k = m + 1
    · subst hn; exact Bs.le_refl _
    · exact Bs.le_trans (ih (by omega)) (bat_le_succ _)
theorem bpart_le_bat {k n m : Nat} (hk : k < (bat nx a k).met.length) (hn : n ≤ 3) (hm : k < m) : (bpart nx a k n).le (bat nx a m) := by
  have h1 : (bpart nx a k n).le (bat nx a (k + 1)) := by rw [bat_succ hk]; exact bpart_le hn
  exact Bs.le_trans h1 (bat_le hm)
theorem bat_done {k m : Nat} (h : (bat nx a k).met.length ≤ k) (hm : k ≤ m) : bat nx a m = bat nx a k := by
  induction m with
  | zero => obtain rfl : k = 0 := by omega
            rfl
  | succ m ih =>
    by_cases hn : k = m + 1
    · subst hn; rfl
    · have e := ih (by omega)
      rw [bat_stay (by rw [e]; omega), e]
def placeOf (l : List α) (x : α) : Nat := l.idxOf x
theorem placeOf_lt {l : List α} {x : α} (h : x ∈ l) : placeOf l x < l.length := List.idxOf_lt_length_iff.2 h
omit [DecidableEq α] in
theorem prefix_getD {l m : List α} (h : l <+: m) {k : Nat} (hk : k < l.length) (d : α) : m.getD k d = l.getD k d := by
  obtain ⟨t, rfl⟩ := h
  simp [List.getElem?_append_left hk]
theorem prefix_idx {l m : List α} (h : l <+: m) {x : α} (hx : x ∈ l) : placeOf m x = placeOf l x := by
  obtain ⟨t, rfl⟩ := h
  unfold placeOf
  rw [List.idxOf_append, if_pos hx]
theorem idx_snoc {l m : List α} {x : α} (h : l ++ [x] <+: m) (hx : x ∉ l) : placeOf m x = l.length := by
  rw [prefix_idx h (by simp)]
  unfold placeOf
  rw [List.idxOf_append, if_neg hx]
  simp
theorem idx_getD {l : List α} {k : Nat} (hk : k < l.length) (hn : l.Nodup) (d : α) : placeOf l (l.getD k d) = k := by
  unfold placeOf
  rw [List.getD_eq_getElem?_getD, List.getElem?_eq_getElem hk]
  simp [hn]
theorem getD_idx {l : List α} {x : α} (hx : x ∈ l) (d : α) : l.getD (placeOf l x) d = x := by
  unfold placeOf
  rw [List.getD_eq_getElem?_getD, List.getElem?_eq_getElem (List.idxOf_lt_length_iff.2 hx)]
  simp
theorem bpart_mem {k n c : Nat} (hc : c < n) : nx ((bat nx a k).met.getD k a) c ∈ (bpart nx a k n).met := by
  have h1 : nx ((bat nx a k).met.getD k a) c ∈ (bpart nx a k (c + 1)).met := by
    by_cases h : nx ((bat nx a k).met.getD k a) c ∈ (bpart nx a k c).met
    · rw [bpart_old h]; exact h
    · rw [bpart_new h]; simp
  exact (bpart_le (nx := nx) (a := a) (k := k) (show c + 1 ≤ n by omega)).1.subset h1
theorem nodup_le {l m : List α} (hn : l.Nodup) (hs : ∀ x ∈ l, x ∈ m) : l.length ≤ m.length := by
  induction l generalizing m with
  | nil => simp
  | cons x l ih =>
    rw [List.nodup_cons] at hn
    have h1 := ih (m := m.erase x) hn.2 fun y hy => (List.mem_erase_of_ne (fun e => hn.1 (by rw [← e]; exact hy))).2 (hs y (by simp [hy]))
    have h2 := List.length_erase_of_mem (hs x (by simp))
    have h3 := List.length_pos_of_mem (hs x (by simp))
    simp only [List.length_cons]
    omega
end
def numNext {α : Type} [DecidableEq α] (nx : α → Nat → α) (a : α) (F : List α) (s : Int) (c : Nat) : Int := placeOf F (nx (F.getD s.toNat a) c)
def upInts (n : Nat) : List Int := (List.range n).map Int.ofNat
theorem upInts_succ (n : Nat) : upInts (n + 1) = upInts n ++ [(n : Int)] := by simp [upInts, List.range_succ]
theorem mem_upInts {n : Nat} {x : Nat} : (x : Int) ∈ upInts n ↔ x < n := by
  simp only [upInts, List.mem_map, List.mem_range]
  constructor
  · rintro ⟨y, hy, e⟩
    have e2 : (y : Int) = (x : Int) := e
    omega
  · intro h
    exact ⟨x, h, rfl⟩
theorem upInts_getD {n k : Nat} (h : k < n) : (upInts n).getD k 0 = (k : Int) := by simp [upInts, h]
theorem upInts_len (n : Nat) : (upInts n).length = n := by simp [upInts]
theorem num_sim {α : Type} [DecidableEq α] (nx : α → Nat → α) (a : α) (K : Nat) : ∀ k, k ≤ K →
    bat (numNext nx a (bat nx a K).met) 0 k = ⟨upInts (bat nx a k).met.length, (bat nx a k).words⟩
  | 0, _ => rfl
  | k + 1, hK => by
    have ih := num_sim nx a K k (by omega)
    have hlen : (bat (numNext nx a (bat nx a K).met) 0 k).met.length = (bat nx a k).met.length := by rw [ih]; exact upInts_len _
    by_cases h : k < (bat nx a k).met.length
    · rw [bat_succ h, bat_succ (by rw [hlen]; exact h)]
      have hrow : ∀ n, n ≤ 3 → bpart (numNext nx a (bat nx a K).met) 0 k n = ⟨upInts (bpart nx a k n).met.length, (bpart nx a k n).words⟩ := by
        intro n
        induction n with
        | zero => intro _; rw [bpart_zero, bpart_zero]; exact ih
        | succ n ihn =>
          intro hn
          have e := ihn (by omega)
          have hx : (bat (numNext nx a (bat nx a K).met) 0 k).met.getD k 0 = (k : Int) := by rw [ih]; exact upInts_getD h
          have hF : (bat nx a K).met.getD k a = (bat nx a k).met.getD k a := prefix_getD (bat_le (show k ≤ K by omega)).1 h a
          have hnx : numNext nx a (bat nx a K).met (k : Int) n = (placeOf (bat nx a K).met (nx ((bat nx a k).met.getD k a) n) : Int) := by
            unfold numNext
            rw [show ((k : Int).toNat) = k from rfl, hF]
          by_cases hm : nx ((bat nx a k).met.getD k a) n ∈ (bpart nx a k n).met
          · rw [bpart_old hm]
            have hi := prefix_idx (bpart_le_bat (m := K) h (show n ≤ 3 by omega) (by omega)).1 hm
            have hlt : placeOf (bat nx a K).met (nx ((bat nx a k).met.getD k a) n) < (bpart nx a k n).met.length := by rw [hi]; exact placeOf_lt hm
            rw [bpart_old (by rw [hx, hnx, e]; exact mem_upInts.2 hlt), e]
          · have hb := bpart_le_bat (nx := nx) (a := a) (m := K) h hn (by omega)
            rw [bpart_new hm] at hb
            have hi := idx_snoc hb.1 hm
            rw [bpart_new (by rw [hx, hnx, e, hi]; simp [mem_upInts]), bpart_new hm, hx, hnx, hi, e, ih]
            simp [upInts_succ]
      exact hrow 3 (by omega)
    · rw [bat_stay (k := k) (a := a) (by omega), bat_stay (by rw [hlen]; omega)]
      exact ih
end Go.Proofs.Ythhbjkgchabfmaa
namespace Go.Proofs.Ythhbjkgchabfmaa
open Go.RowKit
section
variable {α : Type} [DecidableEq α]
def numbered (l : List α) : List (α × Value) := l.zipIdx.map fun p => (p.1, Value.int .i64 (p.2 : Int))
omit [DecidableEq α] in
theorem numbered_snoc (l : List α) (x : α) : numbered (l ++ [x]) = numbered l ++ [(x, Value.int .i64 (l.length : Int))] := by simp [numbered, List.zipIdx_append]
omit [DecidableEq α] in
theorem numbered_keys (l : List α) : (numbered l).map (·.1) = l := by
  simp only [numbered, List.map_map]
  have : ((fun x : α × Value => x.1) ∘ fun p : α × Nat => (p.1, Value.int .i64 (p.2 : Int))) = Prod.fst := rfl
  rw [this, List.zipIdx_map_fst]
theorem look_numbered {l : List α} (hn : l.Nodup) {x : α} (hx : x ∈ l) : look x (numbered l) = some (.int .i64 (placeOf l x : Int)) := by
  refine look_hit (by rw [numbered_keys]; exact hn) (j := placeOf l x) ?_
  have hlt := List.idxOf_lt_length_iff.2 hx
  unfold placeOf
  simp only [numbered, List.getElem?_map, List.getElem?_zipIdx, List.getElem?_eq_getElem hlt, Option.map_some, Nat.zero_add, List.getElem_idxOf]
theorem look_unnumbered {l : List α} {x : α} (hx : x ∉ l) : look x (numbered l) = none :=
  look_miss fun p hp e => hx (by rw [← numbered_keys l, ← e]; exact List.mem_map.2 ⟨p, hp, rfl⟩)
theorem upd_unnumbered {l : List α} {x : α} (hx : x ∉ l) : upd x (.int .i64 (l.length : Int)) (numbered l) = numbered (l ++ [x]) := by
  rw [numbered_snoc]
  exact upd_miss fun p hp e => hx (by rw [← numbered_keys l, ← e]; exact List.mem_map.2 ⟨p, hp, rfl⟩)
end
end Go.Proofs.Ythhbjkgchabfmaa
namespace Go.Proofs.Ythhbjkgchabfmaa
open Go.RowKit
theorem memD {α : Type} {xs : List α} {k : Nat} {d : α} (h : k < xs.length) : xs.getD k d ∈ xs := by
  rw [List.getD_eq_getElem?_getD, List.getElem?_eq_getElem h]
  simp
theorem getD_at {α : Type} {xs : List α} {k : Nat} {d : α} (h : k < xs.length) : xs.getD k d = xs[k] := by simp [h]
def dnx (d : DfaD) (s : Int) (c : Nat) : Int := (d.next.getD s.toNat []).getD c 0
def den (d : DfaD) (s : Int) : Bool := d.ends.getD s.toNat false
def firstHit {α : Type} (en : α → Bool) (s : Bs α) : Option (List Nat) := ((s.met.zip s.words).find? fun p => en p.1).map (·.2)
def fine (d : DfaD) : Prop := 1 ≤ d.next.length ∧ d.next.length ≤ 100000 ∧ d.ends.length = d.next.length ∧ ∀ i, i < d.next.length → (d.next.getD i []).length = 3 ∧ ∀ c, c < 3 → 0 ≤ (d.next.getD i []).getD c 0 ∧ (d.next.getD i []).getD c 0 < d.next.length
theorem firstHit_at {α : Type} {en : α → Bool} {s t : Bs α} {k : Nat} {d : α} (hst : s.le t) (hl : s.words.length = s.met.length) (htl : t.words.length = t.met.length) (hk : k < s.met.length) (hno : ∀ j, j < k → en (s.met.getD j d) = false) (hyes : en (s.met.getD k d) = true) : firstHit en t = some (s.words.getD k []) := by
  have hml : s.met.length ≤ t.met.length := hst.1.length_le
  have hget : ∀ j, j < s.met.length → t.met.getD j d = s.met.getD j d := fun j hj => by
    obtain ⟨u, hu⟩ := hst.1
    rw [← hu]
    simp [List.getElem?_append_left hj]
  have hgw : t.words.getD k [] = s.words.getD k [] := by
    obtain ⟨u, hu⟩ := hst.2
    rw [← hu]
    simp [List.getElem?_append_left (show k < s.words.length by omega)]
  have hat : ∀ j, (hj : j < t.met.length) → t.met[j] = t.met.getD j d := fun j hj => by simp [hj]
  have hf : (t.met.zip t.words).find? (fun p => en p.1) = some (t.met.getD k d, t.words.getD k []) := by
    rw [List.find?_eq_some_iff_getElem]
    refine ⟨by simp only; rw [hget k hk]; exact hyes, k, by rw [List.length_zip]; omega, ?_, fun j hj => ?_⟩
    · simp [List.getElem_zip, show k < t.met.length by omega, show k < t.words.length by omega]
    · simp only [List.getElem_zip]
      rw [hat j (by omega), hget j (by omega), hno j hj]
      rfl
  unfold firstHit
  rw [hf, ← hgw]
  rfl
theorem firstHit_none {α : Type} {en : α → Bool} {s : Bs α} {d : α} (hno : ∀ j, j < s.met.length → en (s.met.getD j d) = false) : firstHit en s = none := by
  unfold firstHit
  rw [List.find?_eq_none.2]
  · rfl
  · intro p hp
    obtain ⟨j, hj, rfl⟩ := List.mem_iff_getElem.1 hp
    have hjm : j < s.met.length := by rw [List.length_zip] at hj; omega
    have := hno j hjm
    simp only [List.getElem_zip]
    rw [List.getD_eq_getElem?_getD, List.getElem?_eq_getElem hjm] at this
    simpa using this
theorem firstHit_congr {α β : Type} (e1 : α → Bool) (e2 : β → Bool) : ∀ (l1 : List α) (l2 : List β) (ws : List (List Nat)), l1.length = l2.length → (∀ j (h1 : j < l1.length) (h2 : j < l2.length), e1 l1[j] = e2 l2[j]) → firstHit e1 ⟨l1, ws⟩ = firstHit e2 ⟨l2, ws⟩
  | [], [], ws, _, _ => by simp [firstHit]
  | [], _ :: _, _, h, _ => by simp at h
  | _ :: _, [], _, h, _ => by simp at h
  | x :: l1, y :: l2, [], _, _ => by simp [firstHit]
  | x :: l1, y :: l2, v :: ws, hl, h => by
    have ih := firstHit_congr e1 e2 l1 l2 ws (by simpa using hl) (fun j h1 h2 => by have := h (j + 1) (by simpa using h1) (by simpa using h2); simpa using this)
    have h0 : e1 x = e2 y := h 0 (by simp) (by simp)
    unfold firstHit at ih ⊢
    simp only [List.zip_cons_cons, List.find?_cons, h0]
    cases e2 y <;> simp_all
section
variable {α : Type} [DecidableEq α] {nx nx' : α → Nat → α} {a : α}
theorem brow_congr {x : α} {wd : List Nat} {s : Bs α} (h : ∀ c, c < 3 → nx x c = nx' x c) : ∀ n, n ≤ 3 → brow nx x wd s n = brow nx' x wd s n
  | 0, _ => rfl
  | n + 1, hn => by
    show bvisit nx x wd (brow nx x wd s n) n = bvisit nx' x wd (brow nx' x wd s n) n
    rw [brow_congr h n (by omega)]
    unfold bvisit
    rw [h n (by omega)]
theorem bat_congr {Q : α → Prop} (h0 : Q a) (hv : ∀ x c, c < 3 → Q x → Q (nx x c)) (he : ∀ x c, c < 3 → Q x → nx x c = nx' x c) : ∀ k, bat nx a k = bat nx' a k
  | 0 => rfl
  | k + 1 => by
    have ih := bat_congr h0 hv he k
    by_cases h : k < (bat nx a k).met.length
    · rw [bat_succ h, bat_succ (by rw [← ih]; exact h)]
      unfold bpart
      rw [← ih]
      exact brow_congr (fun c hc => he _ c hc (bat_all h0 hv k _ (memD h))) 3 (by omega)
    · rw [bat_stay (by omega), bat_stay (by rw [← ih]; omega), ih]
theorem bat_closed {K : Nat} (hK : (bat nx a K).met.length ≤ K) {x : α} (hx : x ∈ (bat nx a K).met) {c : Nat} (hc : c < 3) : nx x c ∈ (bat nx a K).met := by
  obtain ⟨k, hk, rfl⟩ := List.mem_iff_getElem.1 hx
  have hkk : k < (bat nx a k).met.length := by
    by_cases h : k < (bat nx a k).met.length
    · exact h
    · have := bat_done (nx := nx) (a := a) (k := k) (m := K) (by omega) (by omega)
      rw [this] at hk
      omega
  have e : (bat nx a K).met[k] = (bat nx a k).met.getD k a := by
    rw [← prefix_getD (bat_le (nx := nx) (a := a) (show k ≤ K by omega)).1 hkk a, getD_at hk]
  rw [e]
  exact (bpart_le_bat (nx := nx) (a := a) hkk (Nat.le_refl 3) (show k < K by omega)).1.subset (bpart_mem hc)
theorem bat_wlen : ∀ k : Nat, ∀ wd ∈ (bat nx a k).words, wd.length ≤ k
  | 0, wd, h => by simp [bat] at h; simp [h]
  | k + 1, wd, h => by
    have ih := bat_wlen k
    by_cases hk : k < (bat nx a k).met.length
    · rw [bat_succ hk] at h
      have hg := (bat_good (nx := nx) (a := a) k).2.1
      refine brow_ind (fun t => ∀ wd ∈ t.words, wd.length ≤ k + 1) (fun wd h => Nat.le_succ_of_le (ih wd h)) (fun t c _ ht => ?_) 3 (Nat.le_refl 3) wd h
      unfold bvisit
      split
      · exact ht
      · intro v hv
        simp only [List.mem_append, List.mem_singleton] at hv
        rcases hv with hv | rfl
        · exact ht v hv
        · have := ih _ (memD (d := []) (show k < (bat nx a k).words.length by omega))
          simpa using this
    · rw [bat_stay (by omega)] at h
      exact Nat.le_succ_of_le (ih wd h)
theorem bat_mem_first (K : Nat) : a ∈ (bat nx a K).met := by
  have h := memD (d := a) (bat_pos (nx := nx) (a := a) K)
  rwa [bat_first] at h
def numRow (nx : α → Nat → α) (F : List α) (x : α) : List Int := (List.range 3).map fun c => (placeOf F (nx x c) : Int)
def numDfa (nx : α → Nat → α) (en : α → Bool) (F : List α) : DfaD := ⟨F.map (numRow nx F), F.map en⟩
theorem numDfa_len (nx : α → Nat → α) (en : α → Bool) (F : List α) : (numDfa nx en F).next.length = F.length := by simp [numDfa]
theorem numDfa_row {en : α → Bool} {F : List α} {i : Nat} (hi : i < F.length) : (numDfa nx en F).next.getD i [] = numRow nx F (F.getD i a) := by
  simp [numDfa, List.getElem?_eq_getElem hi]
theorem numRow_at {F : List α} {x : α} {c : Nat} (hc : c < 3) : (numRow nx F x).getD c 0 = (placeOf F (nx x c) : Int) := by
  simp [numRow, hc]
theorem dnx_num {en : α → Bool} {F : List α} {s : Int} {c : Nat} (h0 : 0 ≤ s) (h1 : s < F.length) (hc : c < 3) : dnx (numDfa nx en F) s c = numNext nx a F s c := by
  unfold dnx numNext
  rw [numDfa_row (a := a) (by omega), numRow_at hc]
theorem den_num {en : α → Bool} {F : List α} {i : Nat} (hi : i < F.length) : den (numDfa nx en F) (i : Int) = en F[i] := by
  simp [den, numDfa, hi]
theorem fine_num {en : α → Bool} {K : Nat} (hK : (bat nx a K).met.length ≤ K) (hK2 : K ≤ 100000) : fine (numDfa nx en (bat nx a K).met) := by
  refine ⟨?_, ?_, ?_, fun i hi => ?_⟩
  · rw [numDfa_len]; exact bat_pos K
  · rw [numDfa_len]; omega
  · simp [numDfa]
  · rw [numDfa_len] at hi
    rw [numDfa_row (a := a) hi]
    refine ⟨by simp [numRow], fun c hc => ?_⟩
    rw [numRow_at hc, numDfa_len]
    exact ⟨by omega, by exact_mod_cast placeOf_lt (bat_closed hK (memD hi) hc)⟩
theorem firstHit_num {en : α → Bool} {K : Nat} (hK : (bat nx a K).met.length ≤ K) :
    firstHit (den (numDfa nx en (bat nx a K).met)) (bat (dnx (numDfa nx en (bat nx a K).met)) 0 (numDfa nx en (bat nx a K).met).next.length) = firstHit en (bat nx a K) := by
  rw [numDfa_len]
  obtain ⟨m, hm⟩ : ∃ m, m = (bat nx a K).met.length := ⟨_, rfl⟩
  have hle : (bat nx a m).met.length ≤ m := by
    have := (bat_le (nx := nx) (a := a) (show m ≤ K by omega)).1.length_le
    omega
  have hd : bat nx a K = bat nx a m := bat_done hle (by omega)
  have hp := bat_pos (nx := nx) (a := a) K
  have hlt : ∀ (s : Int) c, c < 3 → 0 ≤ s ∧ s < m → 0 ≤ numNext nx a (bat nx a K).met s c ∧ numNext nx a (bat nx a K).met s c < m := fun s c hc hs => by
    unfold numNext
    have := placeOf_lt (bat_closed hK (memD (d := a) (show s.toNat < (bat nx a K).met.length by omega)) hc)
    omega
  have e1 : bat (numNext nx a (bat nx a K).met) 0 m = bat (dnx (numDfa nx en (bat nx a K).met)) 0 m :=
    bat_congr (Q := fun s => 0 ≤ s ∧ s < (m : Int)) (by omega) (fun s c hc hs => hlt s c hc hs) (fun s c hc hs => (dnx_num (by omega) (by omega) hc).symm) m
  rw [← hm, ← e1, num_sim nx a K m (by omega), ← hd]
  show firstHit _ _ = firstHit en ⟨(bat nx a K).met, (bat nx a K).words⟩
  refine firstHit_congr _ _ _ _ _ (by simp [upInts]) fun j h1 h2 => ?_
  have : (upInts (bat nx a K).met.length)[j] = (j : Int) := by simp [upInts]
  rw [this]
  exact den_num h2
end
def BoolSS (B : Nat) (w : World) (v : Value) (xss : List (List Bool)) : Prop :=
  ∃ vs : List Value, Sl B w v xss.length 1 vs ∧ ∀ i, i < xss.length → Bools B w (vs.getD i undef) (xss.getD i [])
theorem BoolSS.below {B : Nat} {w w' : World} {v : Value} {xss : List (List Bool)} (h : BoolSS B w v xss) (he : Below w.heap.size w w') : BoolSS B w' v xss := by
  obtain ⟨vs, h1, h2⟩ := h
  exact ⟨vs, h1.below he, fun i hi => (h2 i hi).below he⟩
theorem BoolSS.form {B : Nat} {w : World} {v : Value} {xss : List (List Bool)} (h : BoolSS B w v xss) : ∃ a cap, v = .slice a xss.length cap ∧ xss.length ≤ cap ∧ cap ≤ 9223372036854775807 ∧
    (0 < xss.length → ∃ b off, a = some ⟨b, off, none⟩ ∧ b < w.heap.size ∧ ∀ i, i < xss.length → ∃ a' cap', w.cell? ⟨b, off + i, none⟩ = some (.slice a' (xss.getD i []).length cap') ∧ Bools B w (.slice a' (xss.getD i []).length cap') (xss.getD i [])) := by
  obtain ⟨vs, ⟨hl, a, cap, hv, h1, h2, h3⟩, hr⟩ := h
  refine ⟨a, cap, hv, h1, h2, fun hn => ?_⟩
  obtain ⟨b, off, ha, hb, hlt, hc⟩ := h3 hn
  refine ⟨b, off, ha, hlt, fun i hi => ?_⟩
  obtain ⟨a', cap', hv', -⟩ := (hr i hi).form
  refine ⟨a', cap', ?_, ?_⟩
  · rw [hc i (by omega), ← hv']
    simp at hl
    simp [show i < vs.length by omega]
  · rw [← hv']
    exact hr i hi
theorem St.boolSS {w0 w : World} {L : List Ent} (h : St w0 w L) (i : Nat) {es e : Nat} {v : Value} {vs : List Value} {xss : List (List Bool)} (hx : L[i]? = some (Ent.rows es e v vs (xss.map boolCells))) : BoolSS 0 w v xss := by
  obtain ⟨p1, p2, -⟩ := h.rows i hx
  rw [List.length_map] at p1 p2
  refine ⟨vs, ((own_of_row p1).sl (by omega)).mono (Nat.zero_le _), fun i hi => ?_⟩
  have := p2 i hi
  have e1 : (xss.map boolCells).getD i [] = boolCells (xss.getD i []) := by simp [hi]
  rw [e1] at this
  have := ((own_of_row this).sl (by omega)).mono (Nat.zero_le _)
  simpa [Bools] using this
theorem St.bools {w0 w : World} {L : List Ent} (h : St w0 w L) (i : Nat) {e : Nat} {v : Value} {xs : List Bool} {n : Nat} (hx : L[i]? = some (Ent.row e 1 v n (boolCells xs))) : Bools 0 w v xs := by
  have hr := h.row i hx
  have e1 : n = xs.length := by have := hr.1; simp at this; omega
  subst e1
  exact ((own_of_row hr).sl (by omega)).mono (Nat.zero_le _)
theorem St.intsR {w0 w : World} {L : List Ent} (h : St w0 w L) (i : Nat) {e : Nat} {v : Value} {xs : List Int} {n : Nat} (hx : L[i]? = some (Ent.row e 1 v n (intCells xs))) : Ints 0 w v xs := by
  have hr := h.row i hx
  have e1 : n = xs.length := by have := hr.1; simp at this; omega
  subst e1
  exact ((own_of_row hr).sl (by omega)).mono (Nat.zero_le _)
theorem bools_of_row {w : World} {B e n : Nat} {v : Value} {xs : List Bool} (hr : w.ownsRow B e 1 v n (boolCells xs)) : Bools 0 w v xs := by
  have e1 : n = xs.length := by have := hr.1; simp at this; omega
  subst e1
  exact ((own_of_row hr).sl (by omega)).mono (Nat.zero_le _)
theorem boolsB_of_row {w : World} {B e n : Nat} {v : Value} {xs : List Bool} (hr : w.ownsRow B e 1 v n (boolCells xs)) : Bools B w v xs := by
  have e1 : n = xs.length := by have := hr.1; simp at this; omega
  subst e1
  exact (own_of_row hr).sl (by omega)
theorem St.rowAt {w0 w : World} {L : List Ent} (h : St w0 w L) (i : Nat) {es e g n cap : Nat} {vs : List Value} {css : List (List Value)} (hx : L[i]? = some (Ent.rows es e (.slice (some ⟨g, 0, none⟩) n cap) vs css)) (hn : css.length = n) {k : Nat} (hk : k < n) :
    ∃ a c, w.cell? ⟨g, k, none⟩ = some (.slice a (css.getD k []).length c) ∧ w.ownsRow w0.heap.size e 1 (.slice a (css.getD k []).length c) (css.getD k []).length (css.getD k []) ∧ (css.getD k []).length ≤ c ∧ c ≤ 9223372036854775807 ∧ n ≤ cap ∧ cap ≤ 9223372036854775807 ∧ g < w.heap.size := by
  obtain ⟨p1, p2, -⟩ := h.rows i hx
  subst hn
  have hv : vs.length = css.length := by have := p1.1; omega
  have h2 := p2 k hk
  have hc := p1.cellAt k (by omega)
  have hgl := (p1.lt g rfl).2
  obtain ⟨a, c, hva, h3, h4⟩ : ∃ a c, vs.getD k undef = .slice a (css.getD k []).length c ∧ (css.getD k []).length ≤ c ∧ c ≤ 9223372036854775807 := by
    rcases h2.2 with ⟨h5, h6⟩ | ⟨g', cap', cur, h5, -, -, h6, h7, -⟩
    · exact ⟨none, 0, by rw [h5, h6], by omega, by omega⟩
    · exact ⟨_, _, h5, h6, h7⟩
  rw [hva] at h2
  refine ⟨a, c, ?_, h2, h3, h4, ?_⟩
  · rw [hc, ← hva]
    simp [show k < vs.length by omega]
  · rcases p1.2 with ⟨h5, -⟩ | ⟨g', cap', cur, h5, -, -, h6, h7, -⟩
    · cases h5
    · simp only [Value.slice.injEq, true_and] at h5
      obtain ⟨-, rfl⟩ := h5
      exact ⟨h6, h7, hgl⟩
set_option maxHeartbeats 1600000 in
theorem l9Same_any (xs ys : List Bool) (n : Nat) (v1 v2 : Value) (w : World) (hx : xs.length = n) (hy : ys.length = n) (h1 : Bools 0 w v1 xs) (h2 : Bools 0 w v2 ys) (r : Bool) (hr : decide (xs = ys) = r) :
    Calls Try.prog 154 #[v1, v2] w fun e w' => e = .returned (.bool r) ∧ Below w.heap.size w w' := by
  obtain ⟨a1, c1, rfl, hc1, hm1, hr1⟩ := h1.form
  obtain ⟨a2, c2, rfl, hc2, hm2, hr2⟩ := h2.form
  rw [hx] at hc1 hr1
  rw [hy] at hc2 hr2
  rw [hx, hy]
  have Hhx := Lib.hid hx; clear hx
  have Hhy := Lib.hid hy; clear hy
  have Hhr := Lib.hid hr; clear hr
  clear h1 h2
  go_enter Try.func154, Try.ntmps154
  go_wp2
  go_loopw [4, 5] (fun r i wr => ∃ k : Nat, k ≤ n ∧ i = .int .i64 k ∧ xs.take k = ys.take k ∧ Below w.heap.size w wr) (fun _ i _ => n - (intOf i).toNat)
  case atStart => exact ⟨0, Nat.zero_le _, rfl, rfl, Below.refl _ _⟩
  case round =>
    obtain ⟨k, hk, rfl, htk, hb⟩ := hrel
    have Hhtk := Lib.hid htk; clear htk
    by_cases hlt : k < n
    · obtain ⟨b1, o1, rfl, -, hbl1, hcs1⟩ := hr1 (by omega)
      obtain ⟨b2, o2, rfl, -, hbl2, hcs2⟩ := hr2 (by omega)
      have k1 := (bcell hb b1 (o1 + k) hbl1).trans (hcs1 k hlt)
      have k2 := (bcell hb b2 (o2 + k) hbl2).trans (hcs2 k hlt)
      obtain ⟨p, hp⟩ : ∃ p, p = xs.getD k false := ⟨_, rfl⟩
      obtain ⟨q, hq⟩ : ∃ q, q = ys.getD k false := ⟨_, rfl⟩
      rw [← hp] at k1
      rw [← hq] at k2
      have Hhp := Lib.hid hp; clear hp
      have Hhq := Lib.hid hq; clear hq
      have Hhb := Lib.hid hb; clear hb
      clear hcs1 hcs2 hr1 hr2
      by_cases hpq : p = q
      · have g1 : (p != q) = false := by simpa using hpq
        have g2 : (!(p == q)) = false := by simpa using hpq
        have Hhpq := Lib.hid hpq; clear hpq
        go_wp2
        go_quiet (fail)
        go_wp2
        go_roundw
        case rel => exact ⟨k + 1, by omega, by go_num, take_snoc_eq (d := false) (by rw [Hhx.out]; exact hlt) (by rw [Hhy.out]; exact hlt) Hhtk.out (by rw [← Hhp.out, ← Hhq.out]; exact Hhpq.out), below_drewN Hhb.out _⟩
        case measure => simp [intOf]; omega
      · have g1 : (p != q) = true := by simpa using hpq
        have g2 : (!(p == q)) = true := by simpa using hpq
        have Hhpq := Lib.hid hpq; clear hpq
        go_wp2
        go_quiet (fail)
        go_wp2
        go_ret
        exact ⟨by rw [← Hhr.out, decide_eq_false (ne_of_getD (k := k) (d := false) (by rw [← Hhp.out, ← Hhq.out]; exact Hhpq.out))]; rfl, below_drewN Hhb.out _⟩
    · obtain rfl : k = n := by omega
      have Hhb := Lib.hid hb; clear hb
      clear hr1 hr2
      go_wp2
      go_ret
      refine ⟨?_, Hhb.out⟩
      have h := Hhtk.out
      rw [List.take_of_length_le (by rw [Hhx.out]; exact Nat.le_refl _), List.take_of_length_le (by rw [Hhy.out]; exact Nat.le_refl _)] at h
      rw [← Hhr.out, decide_eq_true h]
      rfl
def findB (S : List (List Bool)) (x : List Bool) : Int := if x ∈ S then (placeOf S x : Int) else -1
theorem findB_at {S : List (List Bool)} {x : List Bool} {k : Nat} (hk : k < S.length) (hn : x ∉ S.take k) (h : S.getD k [] = x) : findB S x = (k : Int) := by
  have hm : x ∈ S := by rw [← h]; exact memD hk
  have hp : S.take k ++ [x] <+: S := by
    rw [← h, show S.getD k [] = S[k] from by simp [hk], ← List.take_succ_eq_append_getElem hk]
    exact List.take_prefix _ _
  have hi := idx_snoc hp hn
  unfold findB
  rw [if_pos hm, hi]
  simp
  omega
theorem findB_none {S : List (List Bool)} {x : List Bool} (h : x ∉ S) : findB S x = -1 := by
  unfold findB
  rw [if_neg h]
theorem take_snoc_mem {α : Type} {S : List α} {k : Nat} (hk : k < S.length) (x : α) {d : α} (h : x ∈ S.take (k + 1)) : x ∈ S.take k ∨ x = S.getD k d := by
  rw [List.take_succ_eq_append_getElem hk, List.mem_append, List.mem_singleton] at h
  rcases h with h | h
  · exact Or.inl h
  · right
    rw [h]
    simp [hk]
set_option maxHeartbeats 1600000 in
theorem l9Find_any (S : List (List Bool)) (x : List Bool) (n : Nat) (v1 v2 : Value) (w : World) (hS : ∀ y ∈ S, y.length = n) (hx : x.length = n) (hl : S.length ≤ 1000000) (h1 : BoolSS 0 w v1 S) (h2 : Bools 0 w v2 x) :
    Calls Try.prog 139 #[v1, v2] w fun e w' => e = .returned (.int .i64 (findB S x)) ∧ Below w.heap.size w w' := by
  obtain ⟨a1, c1, rfl, hc1, hm1, hr1⟩ := h1.form
  have H2 := Lib.hid h2
  obtain ⟨a2, c2, rfl, hc2, hm2, -⟩ := h2.form
  have HhS := Lib.hid hS; clear hS
  have Hhx := Lib.hid hx; clear hx
  clear h1 h2
  go_enter Try.func139, Try.ntmps139
  go_wp2
  go_loopw [4, 5] (fun r i wr => ∃ k : Nat, k ≤ S.length ∧ i = .int .i64 k ∧ x ∉ S.take k ∧ Below w.heap.size w wr) (fun _ i _ => S.length - (intOf i).toNat)
  case atStart => exact ⟨0, Nat.zero_le _, rfl, by simp, Below.refl _ _⟩
  case round =>
    obtain ⟨k, hk, rfl, htk, hb⟩ := hrel
    have Hhtk := Lib.hid htk; clear htk
    by_cases hlt : k < S.length
    · obtain ⟨b1, o1, rfl, hbl1, hcs1⟩ := hr1 (by omega)
      obtain ⟨a3, c3, k1, hrow⟩ := hcs1 k hlt
      replace k1 := (bcell hb b1 (o1 + k) hbl1).trans k1
      have hrow' := hrow.below hb
      have hyl := HhS.out _ (memD (d := []) hlt)
      have hin := fun h => take_snoc_mem (d := []) hlt x h
      obtain ⟨y, hy⟩ : ∃ y, y = S.getD k [] := ⟨_, rfl⟩
      rw [← hy] at k1 hrow' hyl hin
      have Hhrow' := Lib.hid hrow'; clear hrow'
      have Hhyl := Lib.hid hyl; clear hyl
      have Hhin := Lib.hid hin; clear hin
      have Hhy := Lib.hid hy; clear hy
      have Hhb := Lib.hid hb; clear hb
      clear hcs1 hr1 hrow
      cases hd : decide (y = x)
      all_goals
        have Hhd := Lib.hid hd; clear hd
        go_wp2_with fail
        refine (l9Same_any y x n _ _ _ Hhyl.out Hhx.out Hhrow'.out (H2.out.below Hhb.out) _ Hhd.out).mono ?_
        rintro e w2 ⟨rfl, hb2⟩
        have hb3 := Hhb.out.trans (hb2.mono Hhb.out.size)
        have Hhb3 := Lib.hid hb3; clear hb3
        clear hb2
        go_wp2
      · go_roundw
        case rel => exact ⟨k + 1, by omega, by go_num, fun h => by rcases Hhin.out h with h | h; exact Hhtk.out h; exact of_decide_eq_false Hhd.out h.symm, Hhb3.out⟩
        case measure => simp [intOf]; omega
      · go_ret
        exact ⟨ret_int (by rw [findB_at hlt Hhtk.out (by rw [← Hhy.out]; exact of_decide_eq_true Hhd.out)]), Hhb3.out⟩
    · obtain rfl : k = S.length := by omega
      have Hhb := Lib.hid hb; clear hb
      clear hr1
      go_wp2
      go_ret
      refine ⟨ret_int (by rw [findB_none]; have h := Hhtk.out; rwa [List.take_length] at h), Hhb.out⟩
theorem range_snoc {p : Nat → Bool} {k : Nat} (h : (List.range k).all p = true) (hp : p k = true) : (List.range (k + 1)).all p = true := by
  rw [List.range_succ, List.all_append, h]
  simp [hp]
end Go.Proofs.Ythhbjkgchabfmaa
namespace Go.Proofs.Ythhbjkgchabfmaa
open Go.RowKit
end Go.Proofs.Ythhbjkgchabfmaa
namespace Go.Proofs.Ythhbjkgchabfmaa
open Go.RowKit
def adj (v s : Nat) : Nat := v ||| 2 ^ s
theorem has_adj (v s t : Nat) : (adj v s).testBit t = (v.testBit t || decide (s = t)) := by
  unfold adj
  rw [Nat.testBit_or, Nat.testBit_two_pow]
theorem adj_lt {v s n : Nat} (hv : v < 2 ^ n) (hs : s < n) : adj v s < 2 ^ n := Nat.or_lt_two_pow hv (Nat.pow_lt_pow_right (by omega) hs)
def flags (n v : Nat) : List Bool := (List.range n).map v.testBit
theorem flags_len (n v : Nat) : (flags n v).length = n := by simp [flags]
theorem flags_getD {n v s : Nat} (h : s < n) : (flags n v).getD s false = v.testBit s := by simp [flags, h]
theorem flags_adj {n v s : Nat} : flags n (adj v s) = (flags n v).set s true := by
  apply List.ext_getElem
  · simp [flags]
  · intro i h1 h2
    simp only [flags, List.getElem_map, List.getElem_range]
    rw [List.getElem_set, has_adj]
    by_cases h : s = i <;> simp [h]
theorem flags_zero (n : Nat) : flags n 0 = List.replicate n false := by
  apply List.ext_getElem
  · simp [flags]
  · intro i h1 h2
    simp [flags]
theorem flags_inj {n u v : Nat} (hu : u < 2 ^ n) (hv : v < 2 ^ n) (h : flags n u = flags n v) : u = v := by
  apply Nat.eq_of_testBit_eq
  intro i
  by_cases hi : i < n
  · rw [← flags_getD (v := u) hi, h, flags_getD hi]
  · rw [Nat.testBit_lt_two_pow (Nat.lt_of_lt_of_le hu (Nat.pow_le_pow_right (by omega) (by omega))), Nat.testBit_lt_two_pow (Nat.lt_of_lt_of_le hv (Nat.pow_le_pow_right (by omega) (by omega)))]
def setV (l : List Int) : Nat := l.foldl (fun v s => adj v s.toNat) 0
theorem foldl_snoc {α β : Type} (f : β → α → β) (b : β) {l : List α} {k : Nat} (hk : k < l.length) (d : α) : (l.take (k + 1)).foldl f b = f ((l.take k).foldl f b) (l.getD k d) := by
  rw [List.take_succ_eq_append_getElem hk, List.foldl_append]
  simp [hk]
theorem foldl_inv {α β : Type} (f : β → α → β) (Q : β → Prop) {l : List α} (hf : ∀ b, ∀ x ∈ l, Q b → Q (f b x)) : ∀ {b : β}, Q b → Q (l.foldl f b) := by
  induction l with
  | nil => intro b h; exact h
  | cons x l ih => intro b h; exact ih (fun b y hy => hf b y (by simp [hy])) (hf b x (by simp) h)
theorem foldl_take_inv {α β : Type} (f : β → α → β) (Q : β → Prop) {l : List α} (hf : ∀ b, ∀ x ∈ l, Q b → Q (f b x)) {b : β} (h : Q b) (k : Nat) : Q ((l.take k).foldl f b) :=
  foldl_inv f Q (fun b x hx => hf b x (List.mem_of_mem_take hx)) h
def inN (n : Nat) (l : List Int) : Prop := ∀ s ∈ l, 0 ≤ s ∧ s < (n : Int)
theorem setV_lt {n : Nat} {l : List Int} (h : inN n l) : setV l < 2 ^ n :=
  foldl_inv _ (fun v => v < 2 ^ n) (fun v s hs hv => adj_lt hv (by have := h s hs; omega)) (Nat.two_pow_pos n)
def mvIn (n : Nat) (ms : List (Int × Int × Int)) : Prop := ∀ m ∈ ms, (0 ≤ m.1 ∧ m.1 < (n : Int)) ∧ (0 ≤ m.2.2 ∧ m.2.2 < (n : Int))
def clMove (v : Nat) (m : Int × Int × Int) : Nat := if (decide (m.2.1 = -1) && v.testBit m.1.toNat && !v.testBit m.2.2.toNat) = true then adj v m.2.2.toNat else v
def clPass (ms : List (Int × Int × Int)) (v : Nat) : Nat := ms.foldl clMove v
def clIt (ms : List (Int × Int × Int)) (v : Nat) : Nat → Nat
  | 0 => v
  | k + 1 => clPass ms (clIt ms v k)
def clV (n : Nat) (ms : List (Int × Int × Int)) (v : Nat) : Nat := clIt ms v n
def stMove (v : Nat) (c : Int) (u : Nat) (m : Int × Int × Int) : Nat := if (decide (m.2.1 = c) && v.testBit m.1.toNat) = true then adj u m.2.2.toNat else u
def stV (n : Nat) (ms : List (Int × Int × Int)) (v : Nat) (c : Int) : Nat := clV n ms (ms.foldl (stMove v c) 0)
theorem clMove_lt {n : Nat} {ms : List (Int × Int × Int)} (h : mvIn n ms) {m : Int × Int × Int} (hm : m ∈ ms) {v : Nat} (hv : v < 2 ^ n) : clMove v m < 2 ^ n := by
  unfold clMove
  split
  · exact adj_lt hv (by have := (h m hm).2; omega)
  · exact hv
theorem clPass_lt {n : Nat} {ms : List (Int × Int × Int)} (h : mvIn n ms) {v : Nat} (hv : v < 2 ^ n) : clPass ms v < 2 ^ n := foldl_inv _ (fun v => v < 2 ^ n) (fun _ _ hm hv => clMove_lt h hm hv) hv
theorem clIt_lt {n : Nat} {ms : List (Int × Int × Int)} (h : mvIn n ms) {v : Nat} (hv : v < 2 ^ n) : ∀ k, clIt ms v k < 2 ^ n
  | 0 => hv
  | k + 1 => clPass_lt h (clIt_lt h hv k)
theorem stMove_lt {n : Nat} {ms : List (Int × Int × Int)} (h : mvIn n ms) {m : Int × Int × Int} (hm : m ∈ ms) {v u : Nat} {c : Int} (hu : u < 2 ^ n) : stMove v c u m < 2 ^ n := by
  unfold stMove
  split
  · exact adj_lt hu (by have := (h m hm).2; omega)
  · exact hu
def clr (n v : Nat) : Nat := ((List.range n).filter fun i => !v.testBit i).length
theorem filter_le {α : Type} {p q : α → Bool} : ∀ {l : List α}, (∀ x ∈ l, p x = true → q x = true) → (l.filter p).length ≤ (l.filter q).length
  | [], _ => by simp
  | x :: l, h => by
    have ih := filter_le (l := l) fun y hy => h y (by simp [hy])
    have hx := h x (by simp)
    simp only [List.filter_cons]
    by_cases hp : p x = true
    · rw [if_pos hp, if_pos (hx hp)]; simp; omega
    · rw [if_neg hp]
      split <;> simp <;> omega
theorem filter_lt {α : Type} {p q : α → Bool} {a : α} (hp : p a = false) (hq : q a = true) : ∀ {l : List α}, a ∈ l → (∀ x ∈ l, p x = true → q x = true) → (l.filter p).length < (l.filter q).length
  | [], h, _ => by simp at h
  | x :: l, ha, h => by
    have hle := filter_le (l := l) fun y hy => h y (by simp [hy])
    simp only [List.filter_cons]
    by_cases hx : a = x
    · subst hx
      rw [if_neg (by simp [hp]), if_pos hq]
      simp; omega
    · have ih := filter_lt hp hq (l := l) (by simpa [hx] using ha) fun y hy => h y (by simp [hy])
      have hxx := h x (by simp)
      by_cases hpx : p x = true
      · rw [if_pos hpx, if_pos (hxx hpx)]; simp; omega
      · rw [if_neg hpx]
        split <;> simp <;> omega
theorem clr_le (n v : Nat) : clr n v ≤ n := by
  have := List.length_filter_le (fun i => !v.testBit i) (List.range n)
  simpa [clr] using this
theorem clr_adj {n v s : Nat} (hs : s < n) (h : v.testBit s = false) : clr n (adj v s) < clr n v := by
  unfold clr
  refine filter_lt (a := s) (by simp [has_adj]) (by simp [h]) (by simpa using hs) fun x _ hx => ?_
  rw [has_adj] at hx
  simp at hx ⊢
  exact hx.1
theorem clMove_clr {n : Nat} {m : Int × Int × Int} (hm : 0 ≤ m.2.2 ∧ m.2.2 < (n : Int)) (v : Nat) : clMove v m = v ∨ clr n (clMove v m) < clr n v := by
  unfold clMove
  split
  · rename_i h
    simp only [Bool.and_eq_true, Bool.not_eq_true'] at h
    exact .inr (clr_adj (by omega) h.2)
  · exact .inl rfl
theorem clFold_clr {n : Nat} : ∀ {ms : List (Int × Int × Int)}, (∀ m ∈ ms, 0 ≤ m.2.2 ∧ m.2.2 < (n : Int)) → ∀ v, ms.foldl clMove v = v ∨ clr n (ms.foldl clMove v) < clr n v
  | [], _, v => .inl rfl
  | m :: ms, h, v => by
    have h1 := clMove_clr (h m (by simp)) v
    have h2 := clFold_clr (ms := ms) (fun m hm => h m (by simp [hm])) (clMove v m)
    simp only [List.foldl_cons]
    rcases h1 with h1 | h1
    · rw [h1] at h2 ⊢; exact h2
    · rcases h2 with h2 | h2
      · rw [h2]; exact .inr h1
      · exact .inr (Nat.lt_trans h2 h1)
theorem clIt_stay {ms : List (Int × Int × Int)} {v j : Nat} (h : clIt ms v (j + 1) = clIt ms v j) : ∀ k, j ≤ k → clIt ms v k = clIt ms v j
  | 0, hk => by obtain rfl : j = 0 := by omega
                rfl
  | k + 1, hk => by
    by_cases e : j = k + 1
    · subst e; rfl
    · have ih := clIt_stay h k (by omega)
      show clPass ms (clIt ms v k) = _
      rw [ih]
      exact h
theorem clIt_drop {n : Nat} {ms : List (Int × Int × Int)} (h : mvIn n ms) (v : Nat) : ∀ k, clIt ms v (k + 1) = clIt ms v k ∨ clr n (clIt ms v (k + 1)) + (k + 1) ≤ clr n v
  | 0 => by
    rcases clFold_clr (n := n) (ms := ms) (fun m hm => (h m hm).2) v with e | e
    · exact .inl e
    · exact .inr (by show clr n (clPass ms v) + 1 ≤ _; exact e)
  | k + 1 => by
    rcases clIt_drop h v k with e | e
    · left
      have := clIt_stay e (k + 1 + 1) (by omega)
      rw [this, e]
    · rcases clFold_clr (n := n) (ms := ms) (fun m hm => (h m hm).2) (clIt ms v (k + 1)) with e2 | e2
      · exact .inl e2
      · right
        have : clr n (clIt ms v (k + 1 + 1)) < clr n (clIt ms v (k + 1)) := e2
        omega
theorem clV_of {n : Nat} {ms : List (Int × Int × Int)} (h : mvIn n ms) {v j : Nat} (hj : clIt ms v (j + 1) = clIt ms v j) : clV n ms v = clIt ms v j := by
  unfold clV
  by_cases hjn : j ≤ n
  · exact clIt_stay hj n hjn
  · rcases clIt_drop h v n with e | e
    · exact (clIt_stay e j (by omega)).symm
    · have := clr_le n v
      omega
theorem clIt_moved {n : Nat} {ms : List (Int × Int × Int)} (h : mvIn n ms) {v k : Nat} (hk : clIt ms v (k + 1) ≠ clIt ms v k) : k < n := by
  rcases clIt_drop h v k with e | e
  · exact absurd e hk
  · have := clr_le n v
    omega
theorem clFold_ne {n : Nat} {ms : List (Int × Int × Int)} (h : mvIn n ms) {v : Nat} {k : Nat} (hk : k < ms.length) (hne : clMove ((ms.take k).foldl clMove v) (ms.getD k (0, 0, 0)) ≠ (ms.take k).foldl clMove v) : (ms.take (k + 1)).foldl clMove v ≠ v := by
  have h1 := clFold_clr (n := n) (ms := ms.take k) (fun m hm => (h m (List.mem_of_mem_take hm)).2) v
  have hmem : ms.getD k (0, 0, 0) ∈ ms := by
    rw [List.getD_eq_getElem?_getD, List.getElem?_eq_getElem hk]
    simp
  have h2 := clMove_clr (n := n) (h _ hmem).2 ((ms.take k).foldl clMove v)
  rw [foldl_snoc clMove v hk (0, 0, 0)]
  intro e
  rcases h2 with h2 | h2
  · exact hne h2
  · rw [e] at h2
    rcases h1 with h1 | h1
    · rw [h1] at h2; omega
    · omega
theorem clFold_ne_keep {n : Nat} {ms : List (Int × Int × Int)} (h : mvIn n ms) {v : Nat} {k : Nat} (hk : k < ms.length) (hne : (ms.take k).foldl clMove v ≠ v) : (ms.take (k + 1)).foldl clMove v ≠ v := by
  have h1 := clFold_clr (n := n) (ms := ms.take k) (fun m hm => (h m (List.mem_of_mem_take hm)).2) v
  have hmem : ms.getD k (0, 0, 0) ∈ ms := by
    rw [List.getD_eq_getElem?_getD, List.getElem?_eq_getElem hk]
    simp
  have h2 := clMove_clr (n := n) (h _ hmem).2 ((ms.take k).foldl clMove v)
  rw [foldl_snoc clMove v hk (0, 0, 0)]
  rcases h1 with h1 | h1
  · exact absurd h1 hne
  · rcases h2 with h2 | h2
    · rw [h2]; exact hne
    · intro e
      rw [e] at h2
      omega
end Go.Proofs.Ythhbjkgchabfmaa
namespace Go.Proofs.Ythhbjkgchabfmaa
open Go.RowKit
theorem offL {x p q : Bool} (h : x = true → p = true ∧ q = true) (hp : p = false) : x = false := by
  cases x with
  | false => rfl
  | true => rw [hp] at h; exact absurd (h rfl).1 (by decide)
theorem offR {x p q : Bool} (h : x = true → p = true ∧ q = true) (hq : q = false) : x = false := by
  cases x with
  | false => rfl
  | true => rw [hq] at h; exact absurd (h rfl).2 (by decide)
section
variable {P : Program} {ops : Array Oper} {Q : Exit → Act → World → Prop} {md : Region.Mode}
def unl (n : Nat) (listed : Array Bool) : Nat := ((List.range n).filter fun i => !listed.getD i true).length
theorem unl_le (n : Nat) (listed : Array Bool) : unl n listed ≤ n := by
  unfold unl
  have := List.length_filter_le (fun i => !listed.getD i true) (List.range n)
  simpa using this
theorem unl_set {n i : Nat} {listed : Array Bool} (hi : i < n) (h : listed.getD i true = false) : unl n (listed.setIfInBounds i true) < unl n listed := by
  refine filter_lt (a := i) ?_ (by simp only [h]; rfl) (List.mem_range.2 hi) fun x _ hx => ?_
  · simp only [Bool.not_eq_false']
    rcases Nat.lt_or_ge i listed.size with h1 | h1
    · simp [h1]
    · simp [Array.getElem?_eq_none h1] at h
  · by_cases hxi : i = x
    · subst hxi
      simp only [h]
      rfl
    · simpa [hxi] using hx
theorem wpAny_inv (Inv : Array Bool → Act → World → Prop) (hstep : ∀ listed a w, Inv listed a w → ∀ i ∈ Region.ready md ops listed, wpOp P ops Q i (Inv (listed.setIfInBounds i true)) a w)
    (hdone : ∀ listed a w, Inv listed a w → Region.ready md ops listed = [] → Q .normal a w) : ∀ (fuel : Nat) (listed : Array Bool) (a : Act) (w : World), unl ops.size listed ≤ fuel → Inv listed a w → wpAny P md ops Q fuel listed a w
  | 0, listed, a, w, hf, h => by
    have hr : Region.ready md ops listed = [] := by
      refine List.eq_nil_iff_forall_not_mem.2 fun i hi => ?_
      obtain ⟨hun, o, ho, -⟩ := mem_ready.1 hi
      have := unl_set (n := ops.size) (Array.getElem?_eq_some_iff.1 ho).1 hun
      omega
    exact ⟨hr, hdone _ _ _ h hr⟩
  | fuel + 1, listed, a, w, hf, h => ⟨fun h0 => hdone _ _ _ h h0, fun i hi => wpOp_mono (fun a' w' h' => wpAny_inv Inv hstep hdone fuel _ a' w' (by
      obtain ⟨hun, o, ho, -⟩ := mem_ready.1 hi
      have := unl_set (n := ops.size) (Array.getElem?_eq_some_iff.1 ho).1 hun
      omega) h') (hstep _ _ _ h i hi)⟩
theorem wpAny_invA (Inv : Act → Array Bool → Act → World → Prop) {a : Act} {w : World} (hstep : ∀ listed b w, Inv a listed b w → ∀ i ∈ Region.ready md ops listed, wpOp P ops Q i (Inv a (listed.setIfInBounds i true)) b w)
    (hdone : ∀ listed b w, Inv a listed b w → Region.ready md ops listed = [] → Q .normal b w) (h0 : Inv a (Array.replicate ops.size false) a w) : wpAny P md ops Q ops.size (Array.replicate ops.size false) a w :=
  wpAny_inv (Inv a) hstep hdone _ _ _ _ (unl_le _ _) h0
def depsDown (ops : Array Oper) : Bool := (List.range ops.size).all fun i => match ops[i]? with
  | some o => o.after.all fun e => decide (e.on < i)
  | none => true
theorem ready_nil {listed : Array Bool} (hd : depsDown ops = true) (hs : listed.size = ops.size) (hr : Region.ready md ops listed = []) : ∀ i, i < ops.size → listed.getD i true = true := by
  intro i
  induction i using Nat.strongRecOn with
  | ind i ih =>
    intro hi
    cases h : listed.getD i true with
    | true => rfl
    | false =>
      exfalso
      have hmem : i ∈ Region.ready md ops listed := by
        refine mem_ready.2 ⟨h, ops[i], by simp [hi], fun e he _ => ?_⟩
        simp only [depsDown, List.all_eq_true, List.mem_range] at hd
        have h1 := hd i hi
        simp only [Array.getElem?_eq_getElem hi] at h1
        have h2 : e.on < i := by
          have := (Array.all_eq_true_iff_forall_mem.1 h1) e he
          simpa using this
        have h3 := ih e.on h2 (by omega)
        have h4 : e.on < listed.size := by omega
        simpa [h4] using h3
      rw [hr] at hmem
      cases hmem
end
end Go.Proofs.Ythhbjkgchabfmaa
namespace Go.Proofs.Ythhbjkgchabfmaa
open Go.RowKit
section
variable {ops : Array Oper} {md : Region.Mode}
def depsDownM (md : Region.Mode) (ops : Array Oper) : Bool := (List.range ops.size).all fun i => match ops[i]? with
  | some o => o.after.all fun e => !Region.binds md e || decide (e.on < i)
  | none => true
theorem ready_nilM {listed : Array Bool} (hd : depsDownM md ops = true) (hs : listed.size = ops.size) (hr : Region.ready md ops listed = []) : ∀ i, i < ops.size → listed.getD i true = true := by
  intro i
  induction i using Nat.strongRecOn with
  | ind i ih =>
    intro hi
    cases h : listed.getD i true with
    | true => rfl
    | false =>
      exfalso
      have hmem : i ∈ Region.ready md ops listed := by
        refine mem_ready.2 ⟨h, ops[i], by simp [hi], fun e he hbd => ?_⟩
        simp only [depsDownM, List.all_eq_true, List.mem_range] at hd
        have h1 := hd i hi
        simp only [Array.getElem?_eq_getElem hi] at h1
        have h2 : e.on < i := by
          have := (Array.all_eq_true_iff_forall_mem.1 h1) e he
          rw [hbd] at this
          simpa using this
        have h3 := ih e.on h2 (by omega)
        have h4 : e.on < listed.size := by omega
        simpa [h4] using h3
      rw [hr] at hmem
      cases hmem
end
end Go.Proofs.Ythhbjkgchabfmaa
