/-
  States met in breadth, letter by letter, with the words that lead to them: the plain meaning of the program's and of the reference's searches.
  No condition: this text speaks of no program.
  A map from things to their places in a list.
  No condition: this text speaks of no program.
  The first of the things met that ends, and its word: plain laws; the same for the numbered automaton.
  No condition: this text speaks of no program.
-/
import Derived.Test.YtalbofnhcpjilaaPk00Grow
namespace Go.Proofs.Ytalbofnhcpjilaa
structure Bs (α : Type) where
  met : List α
  words : List (List Nat)
section
variable {α : Type} [DecidableEq α]
def bvisit (nx : α → Nat → α) (x : α) (wd : List Nat) (s : Bs α) (c : Nat) : Bs α :=
  if nx x c ∈ s.met then s else ⟨s.met ++ [nx x c], s.words ++ [wd ++ [c]]⟩
def brow (nx : α → Nat → α) (x : α) (wd : List Nat) (s : Bs α) : Nat → Bs α
  | 0 => s
  | n + 1 => bvisit nx x wd (brow nx x wd s n) n
def bat (nx : α → Nat → α) (a : α) : Nat → Bs α
  | 0 => ⟨[a], [[]]⟩
  | k + 1 => if k < (bat nx a k).met.length then brow nx ((bat nx a k).met.getD k a) ((bat nx a k).words.getD k []) (bat nx a k) 3 else bat nx a k
def bpart (nx : α → Nat → α) (a : α) (k n : Nat) : Bs α := brow nx ((bat nx a k).met.getD k a) ((bat nx a k).words.getD k []) (bat nx a k) n
variable {nx : α → Nat → α} {a : α}
theorem bpart_zero (k : Nat) : bpart nx a k 0 = bat nx a k := rfl
theorem bat_succ {k : Nat} (h : k < (bat nx a k).met.length) : bat nx a (k + 1) = bpart nx a k 3 := by
  simp only [bat, if_pos h]
  rfl
theorem bat_stay {k : Nat} (h : (bat nx a k).met.length ≤ k) : bat nx a (k + 1) = bat nx a k := by
  simp only [bat, if_neg (show ¬ k < (bat nx a k).met.length by omega)]
theorem bpart_succ (k n : Nat) : bpart nx a k (n + 1) = bvisit nx ((bat nx a k).met.getD k a) ((bat nx a k).words.getD k []) (bpart nx a k n) n := rfl
theorem bpart_old {k n : Nat} (h : nx ((bat nx a k).met.getD k a) n ∈ (bpart nx a k n).met) : bpart nx a k (n + 1) = bpart nx a k n := by
  rw [bpart_succ, bvisit, if_pos h]
theorem bpart_new {k n : Nat} (h : nx ((bat nx a k).met.getD k a) n ∉ (bpart nx a k n).met) : bpart nx a k (n + 1) = ⟨(bpart nx a k n).met ++ [nx ((bat nx a k).met.getD k a) n], (bpart nx a k n).words ++ [(bat nx a k).words.getD k [] ++ [n]]⟩ := by
  rw [bpart_succ, bvisit, if_neg h]
theorem brow_ind (Q : Bs α → Prop) {x : α} {wd : List Nat} {s : Bs α} (hs : Q s) (hv : ∀ t c, c < 3 → Q t → Q (bvisit nx x wd t c)) : ∀ n, n ≤ 3 → Q (brow nx x wd s n)
  | 0, _ => hs
  | n + 1, h => hv _ n (by omega) (brow_ind Q hs hv n (by omega))
theorem bat_ind (Q : Bs α → Prop) (h0 : Q ⟨[a], [[]]⟩) (hv : ∀ s k, k < s.met.length → ∀ t c, c < 3 → Q s → Q t → Q (bvisit nx (s.met.getD k a) (s.words.getD k []) t c)) : ∀ k, Q (bat nx a k)
  | 0 => h0
  | k + 1 => by
    have ih := bat_ind Q h0 hv k
    by_cases h : k < (bat nx a k).met.length
    · rw [bat_succ h]
      exact brow_ind Q ih (fun t c hc ht => hv _ k h t c hc ih ht) 3 (by omega)
    · rw [bat_stay (by omega)]
      exact ih
theorem bpart_ind (Q : Bs α → Prop) (h0 : Q ⟨[a], [[]]⟩) (hv : ∀ s k, k < s.met.length → ∀ t c, c < 3 → Q s → Q t → Q (bvisit nx (s.met.getD k a) (s.words.getD k []) t c)) {k n : Nat} (hk : k < (bat nx a k).met.length) (hn : n ≤ 3) : Q (bpart nx a k n) :=
  brow_ind Q (bat_ind Q h0 hv k) (fun t c hc ht => hv _ k hk t c hc (bat_ind Q h0 hv k) ht) n hn
omit [DecidableEq α] in
theorem nodup_snoc {l : List α} {x : α} (h : l.Nodup) (hx : x ∉ l) : (l ++ [x]).Nodup := by
  rw [List.nodup_append]
  refine ⟨h, by simp, ?_⟩
  intro b hb c hc
  simp only [List.mem_singleton] at hc
  subst hc
  intro e
  subst e
  exact hx hb
theorem bvisit_good (x : α) (wd : List Nat) {t : Bs α} (c : Nat) (h : t.met.Nodup ∧ t.words.length = t.met.length ∧ t.met.head? = some a) :
    (bvisit nx x wd t c).met.Nodup ∧ (bvisit nx x wd t c).words.length = (bvisit nx x wd t c).met.length ∧ (bvisit nx x wd t c).met.head? = some a := by
  unfold bvisit
  split
  · exact h
  · rename_i hx
    obtain ⟨h1, h2, h3⟩ := h
    exact ⟨nodup_snoc h1 hx, by simp [h2], by simp [h3]⟩
theorem bat_good (k : Nat) : (bat nx a k).met.Nodup ∧ (bat nx a k).words.length = (bat nx a k).met.length ∧ (bat nx a k).met.head? = some a :=
  bat_ind (fun s => s.met.Nodup ∧ s.words.length = s.met.length ∧ s.met.head? = some a) (by simp) (fun s k _ t c _ _ ht => bvisit_good _ _ _ ht) k
theorem bpart_good {k n : Nat} (hk : k < (bat nx a k).met.length) (hn : n ≤ 3) : (bpart nx a k n).met.Nodup ∧ (bpart nx a k n).words.length = (bpart nx a k n).met.length ∧ (bpart nx a k n).met.head? = some a :=
  bpart_ind (fun s => s.met.Nodup ∧ s.words.length = s.met.length ∧ s.met.head? = some a) (by simp) (fun s k _ t c _ _ ht => bvisit_good _ _ _ ht) hk hn
theorem bat_pos (k : Nat) : 0 < (bat nx a k).met.length := by
  have := (bat_good (nx := nx) (a := a) k).2.2
  cases h : (bat nx a k).met with
  | nil => rw [h] at this; simp at this
  | cons => simp
theorem bat_first (k : Nat) : (bat nx a k).met.getD 0 a = a := by
  have := (bat_good (nx := nx) (a := a) k).2.2
  cases h : (bat nx a k).met with
  | nil => rw [h] at this; simp at this
  | cons => rw [h] at this; simpa using this
theorem bat_all {Q : α → Prop} (h0 : Q a) (hv : ∀ x c, c < 3 → Q x → Q (nx x c)) (k : Nat) : ∀ x ∈ (bat nx a k).met, Q x := by
  refine bat_ind (fun s => ∀ x ∈ s.met, Q x) (by simpa using h0) (fun s k hk t c hc hs ht => ?_) k
  unfold bvisit
  split
  · exact ht
  · intro x hx
    simp only [List.mem_append, List.mem_singleton] at hx
    rcases hx with hx | rfl
    · exact ht x hx
    · refine hv _ c hc (hs _ ?_)
      rw [List.getD_eq_getElem?_getD, List.getElem?_eq_getElem hk]
      simp
theorem bpart_all {Q : α → Prop} (h0 : Q a) (hv : ∀ x c, c < 3 → Q x → Q (nx x c)) {k n : Nat} (hk : k < (bat nx a k).met.length) (hn : n ≤ 3) : ∀ x ∈ (bpart nx a k n).met, Q x := by
  refine bpart_ind (fun s => ∀ x ∈ s.met, Q x) (by simpa using h0) (fun s k hk t c hc hs ht => ?_) hk hn
  unfold bvisit
  split
  · exact ht
  · intro x hx
    simp only [List.mem_append, List.mem_singleton] at hx
    rcases hx with hx | rfl
    · exact ht x hx
    · refine hv _ c hc (hs _ ?_)
      rw [List.getD_eq_getElem?_getD, List.getElem?_eq_getElem hk]
      simp
def Bs.le (s t : Bs α) : Prop := s.met <+: t.met ∧ s.words <+: t.words
omit [DecidableEq α] in
theorem Bs.le_refl (s : Bs α) : s.le s := ⟨List.prefix_rfl, List.prefix_rfl⟩
omit [DecidableEq α] in
theorem Bs.le_trans {s t u : Bs α} (h : s.le t) (k : t.le u) : s.le u := ⟨h.1.trans k.1, h.2.trans k.2⟩
theorem bvisit_le (x : α) (wd : List Nat) (s : Bs α) (c : Nat) : s.le (bvisit nx x wd s c) := by
  unfold bvisit
  split
  · exact Bs.le_refl _
  · exact ⟨List.prefix_append _ _, List.prefix_append _ _⟩
theorem brow_le (x : α) (wd : List Nat) (s : Bs α) (n m : Nat) (h : n ≤ m) : (brow nx x wd s n).le (brow nx x wd s m) := by
  induction m with
  | zero => obtain rfl : n = 0 := by omega
            exact Bs.le_refl _
  | succ m ih =>
    by_cases hn : n = m + 1
    · subst hn; exact Bs.le_refl _
    · exact Bs.le_trans (ih (by omega)) (bvisit_le _ _ _ _)
theorem bpart_le {k n m : Nat} (h : n ≤ m) : (bpart nx a k n).le (bpart nx a k m) := brow_le _ _ _ n m h
theorem bat_le_succ (k : Nat) : (bat nx a k).le (bat nx a (k + 1)) := by
  by_cases h : k < (bat nx a k).met.length
  · rw [bat_succ h]
    exact brow_le _ _ _ 0 3 (by omega)
  · rw [bat_stay (by omega)]
    exact Bs.le_refl _
theorem bat_le {k m : Nat} (h : k ≤ m) : (bat nx a k).le (bat nx a m) := by
  induction m with
  | zero => obtain rfl : k = 0 := by omega
            exact Bs.le_refl _
  | succ m ih =>
    by_cases hn : k = m + 1
    · subst hn; exact Bs.le_refl _
    · exact Bs.le_trans (ih (by omega)) (bat_le_succ _)
theorem bpart_le_bat {k n m : Nat} (hk : k < (bat nx a k).met.length) (hn : n ≤ 3) (hm : k < m) : (bpart nx a k n).le (bat nx a m) := by
  have h1 : (bpart nx a k n).le (bat nx a (k + 1)) := by rw [bat_succ hk]; exact bpart_le hn
  exact Bs.le_trans h1 (bat_le hm)
theorem bat_done {k m : Nat} (h : (bat nx a k).met.length ≤ k) (hm : k ≤ m) : bat nx a m = bat nx a k := by
  induction m with
  | zero => obtain rfl : k = 0 := by omega
            rfl
  | succ m ih =>
    by_cases hn : k = m + 1
    · subst hn; rfl
    · have e := ih (by omega)
      rw [bat_stay (by rw [e]; omega), e]
def placeOf (l : List α) (x : α) : Nat := l.idxOf x
theorem placeOf_lt {l : List α} {x : α} (h : x ∈ l) : placeOf l x < l.length := List.idxOf_lt_length_iff.2 h
omit [DecidableEq α] in
theorem prefix_getD {l m : List α} (h : l <+: m) {k : Nat} (hk : k < l.length) (d : α) : m.getD k d = l.getD k d := by
  obtain ⟨t, rfl⟩ := h
  simp [List.getElem?_append_left hk]
theorem prefix_idx {l m : List α} (h : l <+: m) {x : α} (hx : x ∈ l) : placeOf m x = placeOf l x := by
  obtain ⟨t, rfl⟩ := h
  unfold placeOf
  rw [List.idxOf_append, if_pos hx]
theorem idx_snoc {l m : List α} {x : α} (h : l ++ [x] <+: m) (hx : x ∉ l) : placeOf m x = l.length := by
  rw [prefix_idx h (by simp)]
  unfold placeOf
  rw [List.idxOf_append, if_neg hx]
  simp
theorem idx_getD {l : List α} {k : Nat} (hk : k < l.length) (hn : l.Nodup) (d : α) : placeOf l (l.getD k d) = k := by
  unfold placeOf
  rw [List.getD_eq_getElem?_getD, List.getElem?_eq_getElem hk]
  simp [hn]
theorem getD_idx {l : List α} {x : α} (hx : x ∈ l) (d : α) : l.getD (placeOf l x) d = x := by
  unfold placeOf
  rw [List.getD_eq_getElem?_getD, List.getElem?_eq_getElem (List.idxOf_lt_length_iff.2 hx)]
  simp
theorem bpart_mem {k n c : Nat} (hc : c < n) : nx ((bat nx a k).met.getD k a) c ∈ (bpart nx a k n).met := by
  have h1 : nx ((bat nx a k).met.getD k a) c ∈ (bpart nx a k (c + 1)).met := by
    by_cases h : nx ((bat nx a k).met.getD k a) c ∈ (bpart nx a k c).met
    · rw [bpart_old h]; exact h
    · rw [bpart_new h]; simp
  exact (bpart_le (nx := nx) (a := a) (k := k) (show c + 1 ≤ n by omega)).1.subset h1
theorem nodup_le {l m : List α} (hn : l.Nodup) (hs : ∀ x ∈ l, x ∈ m) : l.length ≤ m.length := by
  induction l generalizing m with
  | nil => simp
  | cons x l ih =>
    rw [List.nodup_cons] at hn
    have h1 := ih (m := m.erase x) hn.2 fun y hy => (List.mem_erase_of_ne (fun e => hn.1 (by rw [← e]; exact hy))).2 (hs y (by simp [hy]))
    have h2 := List.length_erase_of_mem (hs x (by simp))
    have h3 := List.length_pos_of_mem (hs x (by simp))
    simp only [List.length_cons]
    omega
end
def numNext {α : Type} [DecidableEq α] (nx : α → Nat → α) (a : α) (F : List α) (s : Int) (c : Nat) : Int := placeOf F (nx (F.getD s.toNat a) c)
def upInts (n : Nat) : List Int := (List.range n).map Int.ofNat
theorem upInts_succ (n : Nat) : upInts (n + 1) = upInts n ++ [(n : Int)] := by simp [upInts, List.range_succ]
theorem mem_upInts {n : Nat} {x : Nat} : (x : Int) ∈ upInts n ↔ x < n := by
  simp only [upInts, List.mem_map, List.mem_range]
  constructor
  · rintro ⟨y, hy, e⟩
    have e2 : (y : Int) = (x : Int) := e
    omega
  · intro h
    exact ⟨x, h, rfl⟩
theorem upInts_getD {n k : Nat} (h : k < n) : (upInts n).getD k 0 = (k : Int) := by simp [upInts, h]
theorem upInts_len (n : Nat) : (upInts n).length = n := by simp [upInts]
theorem num_sim {α : Type} [DecidableEq α] (nx : α → Nat → α) (a : α) (K : Nat) : ∀ k, k ≤ K →
    bat (numNext nx a (bat nx a K).met) 0 k = ⟨upInts (bat nx a k).met.length, (bat nx a k).words⟩
  | 0, _ => rfl
  | k + 1, hK => by
    have ih := num_sim nx a K k (by omega)
    have hlen : (bat (numNext nx a (bat nx a K).met) 0 k).met.length = (bat nx a k).met.length := by rw [ih]; exact upInts_len _
    by_cases h : k < (bat nx a k).met.length
    · rw [bat_succ h, bat_succ (by rw [hlen]; exact h)]
      have hrow : ∀ n, n ≤ 3 → bpart (numNext nx a (bat nx a K).met) 0 k n = ⟨upInts (bpart nx a k n).met.length, (bpart nx a k n).words⟩ := by
        intro n
        induction n with
        | zero => intro _; rw [bpart_zero, bpart_zero]; exact ih
        | succ n ihn =>
          intro hn
          have e := ihn (by omega)
          have hx : (bat (numNext nx a (bat nx a K).met) 0 k).met.getD k 0 = (k : Int) := by rw [ih]; exact upInts_getD h
          have hF : (bat nx a K).met.getD k a = (bat nx a k).met.getD k a := prefix_getD (bat_le (show k ≤ K by omega)).1 h a
          have hnx : numNext nx a (bat nx a K).met (k : Int) n = (placeOf (bat nx a K).met (nx ((bat nx a k).met.getD k a) n) : Int) := by
            unfold numNext
            rw [show ((k : Int).toNat) = k from rfl, hF]
          by_cases hm : nx ((bat nx a k).met.getD k a) n ∈ (bpart nx a k n).met
          · rw [bpart_old hm]
            have hi := prefix_idx (bpart_le_bat (m := K) h (show n ≤ 3 by omega) (by omega)).1 hm
            have hlt : placeOf (bat nx a K).met (nx ((bat nx a k).met.getD k a) n) < (bpart nx a k n).met.length := by rw [hi]; exact placeOf_lt hm
            rw [bpart_old (by rw [hx, hnx, e]; exact mem_upInts.2 hlt), e]
          · have hb := bpart_le_bat (nx := nx) (a := a) (m := K) h hn (by omega)
            rw [bpart_new hm] at hb
            have hi := idx_snoc hb.1 hm
            rw [bpart_new (by rw [hx, hnx, e, hi]; simp [mem_upInts]), bpart_new hm, hx, hnx, hi, e, ih]
            simp [upInts_succ]
      exact hrow 3 (by omega)
    · rw [bat_stay (k := k) (a := a) (by omega), bat_stay (by rw [hlen]; omega)]
      exact ih
end Go.Proofs.Ytalbofnhcpjilaa
namespace Go.Proofs.Ytalbofnhcpjilaa
open Go.RowKit
section
variable {α : Type} [DecidableEq α]
def numbered (l : List α) : List (α × Value) := l.zipIdx.map fun p => (p.1, Value.int .i64 (p.2 : Int))
omit [DecidableEq α] in
theorem numbered_snoc (l : List α) (x : α) : numbered (l ++ [x]) = numbered l ++ [(x, Value.int .i64 (l.length : Int))] := by simp [numbered, List.zipIdx_append]
omit [DecidableEq α] in
theorem numbered_keys (l : List α) : (numbered l).map (·.1) = l := by
  simp only [numbered, List.map_map]
  have : ((fun x : α × Value => x.1) ∘ fun p : α × Nat => (p.1, Value.int .i64 (p.2 : Int))) = Prod.fst := rfl
  rw [this, List.zipIdx_map_fst]
theorem look_numbered {l : List α} (hn : l.Nodup) {x : α} (hx : x ∈ l) : look x (numbered l) = some (.int .i64 (placeOf l x : Int)) := by
  refine look_hit (by rw [numbered_keys]; exact hn) (j := placeOf l x) ?_
  have hlt := List.idxOf_lt_length_iff.2 hx
  unfold placeOf
  simp only [numbered, List.getElem?_map, List.getElem?_zipIdx, List.getElem?_eq_getElem hlt, Option.map_some, Nat.zero_add, List.getElem_idxOf]
theorem look_unnumbered {l : List α} {x : α} (hx : x ∉ l) : look x (numbered l) = none :=
  look_miss fun p hp e => hx (by rw [← numbered_keys l, ← e]; exact List.mem_map.2 ⟨p, hp, rfl⟩)
theorem upd_unnumbered {l : List α} {x : α} (hx : x ∉ l) : upd x (.int .i64 (l.length : Int)) (numbered l) = numbered (l ++ [x]) := by
  rw [numbered_snoc]
  exact upd_miss fun p hp e => hx (by rw [← numbered_keys l, ← e]; exact List.mem_map.2 ⟨p, hp, rfl⟩)
end
end Go.Proofs.Ytalbofnhcpjilaa
namespace Go.Proofs.Ytalbofnhcpjilaa
open Go.RowKit
theorem memD {α : Type} {xs : List α} {k : Nat} {d : α} (h : k < xs.length) : xs.getD k d ∈ xs := by
  rw [List.getD_eq_getElem?_getD, List.getElem?_eq_getElem h]
  simp
theorem getD_at {α : Type} {xs : List α} {k : Nat} {d : α} (h : k < xs.length) : xs.getD k d = xs[k] := by simp [h]
def dnx (d : DfaD) (s : Int) (c : Nat) : Int := (d.next.getD s.toNat []).getD c 0
def den (d : DfaD) (s : Int) : Bool := d.ends.getD s.toNat false
def firstHit {α : Type} (en : α → Bool) (s : Bs α) : Option (List Nat) := ((s.met.zip s.words).find? fun p => en p.1).map (·.2)
def fine (d : DfaD) : Prop := 1 ≤ d.next.length ∧ d.next.length ≤ 100000 ∧ d.ends.length = d.next.length ∧ ∀ i, i < d.next.length → (d.next.getD i []).length = 3 ∧ ∀ c, c < 3 → 0 ≤ (d.next.getD i []).getD c 0 ∧ (d.next.getD i []).getD c 0 < d.next.length
section
variable {α : Type} [DecidableEq α] {nx nx' : α → Nat → α} {a : α}
theorem brow_congr {x : α} {wd : List Nat} {s : Bs α} (h : ∀ c, c < 3 → nx x c = nx' x c) : ∀ n, n ≤ 3 → brow nx x wd s n = brow nx' x wd s n
  | 0, _ => rfl
  | n + 1, hn => by
    show bvisit nx x wd (brow nx x wd s n) n = bvisit nx' x wd (brow nx' x wd s n) n
    rw [brow_congr h n (by omega)]
    unfold bvisit
    rw [h n (by omega)]
theorem bat_congr {Q : α → Prop} (h0 : Q a) (hv : ∀ x c, c < 3 → Q x → Q (nx x c)) (he : ∀ x c, c < 3 → Q x → nx x c = nx' x c) : ∀ k, bat nx a k = bat nx' a k
  | 0 => rfl
  | k + 1 => by
    have ih := bat_congr h0 hv he k
    by_cases h : k < (bat nx a k).met.length
    · rw [bat_succ h, bat_succ (by rw [← ih]; exact h)]
      unfold bpart
      rw [← ih]
      exact brow_congr (fun c hc => he _ c hc (bat_all h0 hv k _ (memD h))) 3 (by omega)
    · rw [bat_stay (by omega), bat_stay (by rw [← ih]; omega), ih]
theorem bat_closed {K : Nat} (hK : (bat nx a K).met.length ≤ K) {x : α} (hx : x ∈ (bat nx a K).met) {c : Nat} (hc : c < 3) : nx x c ∈ (bat nx a K).met := by
  obtain ⟨k, hk, rfl⟩ := List.mem_iff_getElem.1 hx
  have hkk : k < (bat nx a k).met.length := by
    by_cases h : k < (bat nx a k).met.length
    · exact h
    · have := bat_done (nx := nx) (a := a) (k := k) (m := K) (by omega) (by omega)
      rw [this] at hk
      omega
  have e : (bat nx a K).met[k] = (bat nx a k).met.getD k a := by
    rw [← prefix_getD (bat_le (nx := nx) (a := a) (show k ≤ K by omega)).1 hkk a, getD_at hk]
  rw [e]
  exact (bpart_le_bat (nx := nx) (a := a) hkk (Nat.le_refl 3) (show k < K by omega)).1.subset (bpart_mem hc)
theorem bat_wlen : ∀ k : Nat, ∀ wd ∈ (bat nx a k).words, wd.length ≤ k
  | 0, wd, h => by simp [bat] at h; simp [h]
  | k + 1, wd, h => by
    have ih := bat_wlen k
    by_cases hk : k < (bat nx a k).met.length
    · rw [bat_succ hk] at h
      have hg := (bat_good (nx := nx) (a := a) k).2.1
      refine brow_ind (fun t => ∀ wd ∈ t.words, wd.length ≤ k + 1) (fun wd h => Nat.le_succ_of_le (ih wd h)) (fun t c _ ht => ?_) 3 (Nat.le_refl 3) wd h
      unfold bvisit
      split
      · exact ht
      · intro v hv
        simp only [List.mem_append, List.mem_singleton] at hv
        rcases hv with hv | rfl
        · exact ht v hv
        · have := ih _ (memD (d := []) (show k < (bat nx a k).words.length by omega))
          simpa using this
    · rw [bat_stay (by omega)] at h
      exact Nat.le_succ_of_le (ih wd h)
theorem bat_mem_first (K : Nat) : a ∈ (bat nx a K).met := by
  have h := memD (d := a) (bat_pos (nx := nx) (a := a) K)
  rwa [bat_first] at h
def numRow (nx : α → Nat → α) (F : List α) (x : α) : List Int := (List.range 3).map fun c => (placeOf F (nx x c) : Int)
def numDfa (nx : α → Nat → α) (en : α → Bool) (F : List α) : DfaD := ⟨F.map (numRow nx F), F.map en⟩
theorem numDfa_len (nx : α → Nat → α) (en : α → Bool) (F : List α) : (numDfa nx en F).next.length = F.length := by simp [numDfa]
theorem numDfa_row {en : α → Bool} {F : List α} {i : Nat} (hi : i < F.length) : (numDfa nx en F).next.getD i [] = numRow nx F (F.getD i a) := by
  simp [numDfa, List.getElem?_eq_getElem hi]
theorem numRow_at {F : List α} {x : α} {c : Nat} (hc : c < 3) : (numRow nx F x).getD c 0 = (placeOf F (nx x c) : Int) := by
  simp [numRow, hc]
theorem dnx_num {en : α → Bool} {F : List α} {s : Int} {c : Nat} (h0 : 0 ≤ s) (h1 : s < F.length) (hc : c < 3) : dnx (numDfa nx en F) s c = numNext nx a F s c := by
  unfold dnx numNext
  rw [numDfa_row (a := a) (by omega), numRow_at hc]
theorem den_num {en : α → Bool} {F : List α} {i : Nat} (hi : i < F.length) : den (numDfa nx en F) (i : Int) = en F[i] := by
  simp [den, numDfa, hi]
theorem fine_num {en : α → Bool} {K : Nat} (hK : (bat nx a K).met.length ≤ K) (hK2 : K ≤ 100000) : fine (numDfa nx en (bat nx a K).met) := by
  refine ⟨?_, ?_, ?_, fun i hi => ?_⟩
  · rw [numDfa_len]; exact bat_pos K
  · rw [numDfa_len]; omega
  · simp [numDfa]
  · rw [numDfa_len] at hi
    rw [numDfa_row (a := a) hi]
    refine ⟨by simp [numRow], fun c hc => ?_⟩
    rw [numRow_at hc, numDfa_len]
    exact ⟨by omega, by exact_mod_cast placeOf_lt (bat_closed hK (memD hi) hc)⟩
end
theorem Try.infoInt : (Try.prog.info? 3).map (fun i => (i.zero, i.size, i.bytes)) = some (some (.int .i64 0), 1, 8) := by kernel_rfl
theorem Try.infoBool : (Try.prog.info? 4).map (fun i => (i.zero, i.size, i.bytes)) = some (some (.bool false), 1, 1) := by kernel_rfl
theorem Try.infoInts : (Try.prog.info? 48).map (fun i => (i.zero, i.size, i.bytes)) = some (some (.slice none 0 0), 1, 24) := by kernel_rfl
theorem cells_set {xs : List Value} {n k : Nat} {cs : List Value} {u : Value} (hl : cs.length = n) (hx : xs.length = n) (hk : k < n) (h : cs.take k = xs.take k) (hu : xs[k]? = some u) :
    (cs.set k u).take (k + 1) = xs.take (k + 1) := by
  apply List.ext_getElem?
  intro j
  rw [List.getElem?_take, List.getElem?_take]
  by_cases hj : j < k + 1
  · rw [if_pos hj, if_pos hj, List.getElem?_set]
    by_cases he : k = j
    · subst he
      rw [if_pos rfl, if_pos (by omega), hu]
    · rw [if_neg he]
      have := congrArg (fun l => l[j]?) h
      simpa [List.getElem?_take, show j < k by omega] using this
  · rw [if_neg hj, if_neg hj]
def small (d : DfaD) : Prop := d.next.length ≤ 1048576 ∧ (∀ i, i < d.next.length → (d.next.getD i []).length ≤ 1048576) ∧ d.ends.length ≤ 1048576
end Go.Proofs.Ytalbofnhcpjilaa
namespace Go.Proofs.Ytalbofnhcpjilaa
open Go.RowKit Go.Maps
section
variable {α : Type}
structure ExW (kt sz : Nat) (enc : α → Value) (cel : α → List Value) (B B1 B2 B4 hi : Nat) (w : World) (met : List α) (rows : List (List Int)) (ends : List Bool) (vm vn ve : Value) : Prop where
  m : w.ownsRow B kt sz vm met.length (met.flatMap cel)
  n : MapL Try.prog kt enc w B2 (numbered met)
  r : Bx w B1 #[.slice none 0 0, .slice none 0 0] 27
  d : Bx w B4 #[vn, ve] 27
  nx : OIntSS 48 3 B hi w vn rows
  en : w.ownsRow B 4 1 ve ends.length (boolCells ends)
  ne : B1 ≠ B4
variable {kt sz B B1 B2 B4 hi : Nat} {enc : α → Value} {cel : α → List Value} {w w' : World} {met : List α} {rows : List (List Int)} {ends : List Bool} {vm vn ve : Value}
theorem ExW.below (h : ExW kt sz enc cel B B1 B2 B4 hi w met rows ends vm vn ve) (hb : Below w.heap.size w w') : ExW kt sz enc cel B B1 B2 B4 hi w' met rows ends vm vn ve :=
  ⟨(Own.below (own_of_row h.m) hb).1, h.n.below hb, h.r.below hb h.r.lt, h.d.below hb h.d.lt, h.nx.below hb, (Own.below (own_of_row h.en) hb).1, h.ne⟩
theorem ExW.up {hi' : Nat} (h : ExW kt sz enc cel B B1 B2 B4 hi w met rows ends vm vn ve) (hh : hi ≤ hi') : ExW kt sz enc cel B B1 B2 B4 hi' w met rows ends vm vn ve :=
  ⟨h.m, h.n, h.r, h.d, h.nx.mono (Nat.le_refl _) hh, h.en, h.ne⟩
def Own4 (kt : Nat) : Prop := kt ≠ 3 ∧ kt ≠ 48 ∧ kt ≠ 4 ∧ kt ≠ 27
theorem ExW.newState (hk : Own4 kt) (h : ExW kt sz enc cel B B1 B2 B4 hi w met rows ends vm vn ve) {x : α} {w1 w2 w3 : World} {vm' : Value} (hn : MapL Try.prog kt enc w1 B2 (numbered (met ++ [x]))) (hg1 : w.grownBy w1 (some B2))
    (hb : Below w1.heap.size w1 w2) (hown : w3.ownsRow B kt sz vm' (met.length + 1) (met.flatMap cel ++ cel x)) (hg2 : w2.grownBy w3 vm.ownBlock) :
    ExW kt sz enc cel B B1 B2 B4 hi w3 (met ++ [x]) rows ends vm' vn ve := by
  obtain ⟨k1, k2, k3, k4⟩ := hk
  have a : ∀ e, Apart w (some B2) e := fun e => h.n.apart
  have m2 : w2.ownsRow B kt sz vm met.length (met.flatMap cel) := (Own.below (own_of_row (ownsRow_grown h.m hg1 (a _))) hb).1
  have b : ∀ e, kt ≠ e → Apart w2 vm.ownBlock e := fun e he => ownsRow_apart m2 he
  refine ⟨?_, (hn.below hb).grown hg2 (ownsRow_cells m2), ?_, ?_, ?_, ?_, h.ne⟩
  · simpa using hown
  · have r1 := h.r.grown hg1 (a _)
    exact (r1.below hb r1.lt).grown hg2 (b _ k4)
  · have r1 := h.d.grown hg1 (a _)
    exact (r1.below hb r1.lt).grown hg2 (b _ k4)
  · exact ((h.nx.grown hg1 (a _) (a _)).below hb).grown hg2 (b _ k2) (b _ k1)
  · exact ownsRow_grown (Own.below (own_of_row (ownsRow_grown h.en hg1 (a _))) hb).1 hg2 (b _ k3)
theorem ExW.setRow (hk : Own4 kt) (h : ExW kt sz enc cel B B1 B2 B4 hi w met rows ends vm vn ve) {R n : Nat} {cs : List Value} (hR : hi ≤ R) {base : Nat} (hrow : w.ownsRow base 3 1 (.slice (some ⟨R, 0, none⟩) n n) n cs) (j : Nat) (v : Value) :
    ExW kt sz enc cel B B1 B2 B4 hi (w.setCell ⟨R, j, none⟩ v) met rows ends vm vn ve := by
  obtain ⟨k1, k2, k3, k4⟩ := hk
  have hg := grown_set w R j v
  have a : ∀ e, 3 ≠ e → Apart w (some R) e := fun e he => ownsRow_apart (v := .slice (some ⟨R, 0, none⟩) n n) hrow he
  have c : CellsRow w (some R) := ownsRow_cells (v := .slice (some ⟨R, 0, none⟩) n n) hrow
  exact ⟨ownsRow_grown h.m hg (a _ (Ne.symm k1)), h.n.grown hg c, h.r.grown hg (a _ (by decide)), h.d.grown hg (a _ (by decide)), h.nx.far hR j v, ownsRow_grown h.en hg (a _ (by decide)), h.ne⟩
theorem row_kept {w1 w2 w3 : World} {R n base e : Nat} {cs : List Value} {vm : Value} {b2 mb : Nat} {ms : List Value} (hrow : w.ownsRow base e 1 (.slice (some ⟨R, 0, none⟩) n n) n cs) (hne : kt ≠ e)
    (hm2 : w2.ownsRow mb kt sz vm b2 ms) (ha : Apart w (some B2) e) (hg1 : w.grownBy w1 (some B2)) (hb : Below w1.heap.size w1 w2) (hg2 : w2.grownBy w3 vm.ownBlock) : w3.ownsRow base e 1 (.slice (some ⟨R, 0, none⟩) n n) n cs :=
  ownsRow_grown (Own.below (own_of_row (ownsRow_grown hrow hg1 ha)) hb).1 hg2 (ownsRow_apart hm2 hne)
theorem ExW.addRow (hk : Own4 kt) (h : ExW kt sz enc cel B B1 B2 B4 hi w met rows ends vm vn ve) {vs : List Value} {rv vn' : Value} {x : List Int} {w3 : World} {lr : Nat}
    (h1 : Own B hi w 48 1 vn rows.length vs) (h2 : ∀ i, i < rows.length → OInts 3 B hi w (vs.getD i undef) (rows.getD i []))
    (h3 : ∀ i j k, i < j → j < rows.length → (vs.getD i undef).ownBlock = some k → (vs.getD j undef).ownBlock ≠ some k)
    (hrow : OInts 3 lr w.heap.size w rv x) (hlr : hi ≤ lr) (hlo : B ≤ lr) (hg : w.grownBy w3 vn.ownBlock) (hown : w3.ownsRow B 48 1 vn' (rows.length + 1) (vs ++ [rv])) :
    ExW kt sz enc cel B B1 B2 B4 w3.heap.size (w3.setCell ⟨B4, 0, none⟩ vn') met (rows ++ [x]) ends vm vn' ve := by
  obtain ⟨k1, k2, k3, k4⟩ := hk
  have a : ∀ e, 48 ≠ e → Apart w vn.ownBlock e := fun e he => ownsRow_apart h1.1 he
  have d3 : Bx w3 B4 #[vn, ve] 27 := h.d.grown hg (a _ (by decide))
  have hg4 := grown_set w3 B4 0 vn'
  have b : ∀ e, 27 ≠ e → Apart w3 (some B4) e := fun e he => d3.apart he
  have r3 : Bx w3 B1 #[.slice none 0 0, .slice none 0 0] 27 := h.r.grown hg (a _ (by decide))
  have n4 : MapL Try.prog kt enc (w3.setCell ⟨B4, 0, none⟩ vn') B2 (numbered met) := (h.n.grown hg (ownsRow_cells h1.1)).grown hg4 d3.cells
  refine ⟨ownsRow_grown (ownsRow_grown h.m hg (a _ (Ne.symm k2))) hg4 (b _ (Ne.symm k4)), n4, ?_, d3.set 0 vn', ?_, ownsRow_grown (ownsRow_grown h.en hg (a _ (by decide))) hg4 (b _ (by decide)), h.ne⟩
  · exact r3.set_ne _ _ h.ne
  · exact (OIntSS.snoc h1 h2 h3 hrow hlr hlo (by decide) hg hown).grown hg4 (b _ (by decide)) (b _ (by decide))
theorem ExW.addEnd (hk : Own4 kt) (h : ExW kt sz enc cel B B1 B2 B4 hi w met rows ends vm vn ve) {w3 : World} {ve' : Value} {e : Bool} (hg : w.grownBy w3 ve.ownBlock) (hown : w3.ownsRow B 4 1 ve' (ends.length + 1) (boolCells ends ++ [.bool e])) :
    ExW kt sz enc cel B B1 B2 B4 hi (w3.setCell ⟨B4, 1, none⟩ ve') met rows (ends ++ [e]) vm vn ve' := by
  obtain ⟨k1, k2, k3, k4⟩ := hk
  have a : ∀ t, 4 ≠ t → Apart w ve.ownBlock t := fun t ht => ownsRow_apart h.en ht
  have d3 : Bx w3 B4 #[vn, ve] 27 := h.d.grown hg (a _ (by decide))
  have hg4 := grown_set w3 B4 1 ve'
  have b : ∀ t, 27 ≠ t → Apart w3 (some B4) t := fun t ht => d3.apart ht
  have r3 : Bx w3 B1 #[.slice none 0 0, .slice none 0 0] 27 := h.r.grown hg (a _ (by decide))
  have n4 : MapL Try.prog kt enc (w3.setCell ⟨B4, 1, none⟩ ve') B2 (numbered met) := (h.n.grown hg (ownsRow_cells h.en)).grown hg4 d3.cells
  refine ⟨ownsRow_grown (ownsRow_grown h.m hg (a _ (Ne.symm k3))) hg4 (b _ (Ne.symm k4)), n4, r3.set_ne _ _ h.ne, d3.set 1 ve', (h.nx.grown hg (a _ (by decide)) (a _ (by decide))).grown hg4 (b _ (by decide)) (b _ (by decide)), ?_, h.ne⟩
  refine ownsRow_grown ?_ hg4 (b _ (by decide))
  simpa using hown
end
end Go.Proofs.Ytalbofnhcpjilaa
namespace Go.Proofs.Ytalbofnhcpjilaa
open Go.RowKit
structure Touch (e lo hi : Nat) (w w' : World) : Prop where
  os : w'.os = w.os
  tape : w'.tape = w.tape
  output : w'.output = w.output
  size : w.heap.size ≤ w'.heap.size
  block : ∀ k, k < w.heap.size → ((k < lo ∨ hi ≤ k) ∨ ∀ cur fr, w.heap[k]? ≠ some (.cells cur e fr)) → w'.heap[k]? = w.heap[k]?
theorem Touch.refl (e lo hi : Nat) (w : World) : Touch e lo hi w w := ⟨rfl, rfl, rfl, Nat.le_refl _, fun _ _ _ => rfl⟩
theorem Touch.trans {e lo hi : Nat} {a b c : World} (h : Touch e lo hi a b) (k : Touch e lo hi b c) : Touch e lo hi a c := by
  refine ⟨k.os.trans h.os, k.tape.trans h.tape, k.output.trans h.output, Nat.le_trans h.size k.size, fun i hi hh => ?_⟩
  have e1 := h.block i hi hh
  refine (k.block i (Nat.lt_of_lt_of_le hi h.size) ?_).trans e1
  rcases hh with hh | hh
  · exact .inl hh
  · exact .inr (by rw [e1]; exact hh)
theorem Touch.only {e lo hi : Nat} {a b : World} (h : Touch e lo hi a b) : Only lo hi a b := ⟨h.os, h.tape, h.output, h.size, fun k hk hh => h.block k hk (.inl hh)⟩
theorem Own.lt' {lo hi e size n : Nat} {w : World} {v : Value} {cs : List Value} (h : Own lo hi w e size v n cs) : w.ownsRow lo e size v n cs := h.1
theorem OIntSS.row {es e lo hi : Nat} {w w' : World} {v : Value} {xss : List (List Int)} {vs : List Value} {x : List Int} {j : Nat} (hne : es ≠ e)
    (h1 : Own lo hi w es 1 v xss.length vs) (h2 : ∀ i, i < xss.length → OInts e lo hi w (vs.getD i undef) (xss.getD i []))
    (h3 : ∀ i j k, i < j → j < xss.length → (vs.getD i undef).ownBlock = some k → (vs.getD j undef).ownBlock ≠ some k)
    (hj : j < xss.length) (hx : OInts e lo hi w' (vs.getD j undef) x) (hg : w.grownBy w' (vs.getD j undef).ownBlock) :
    Own lo hi w' es 1 v (xss.set j x).length vs ∧ (∀ i, i < (xss.set j x).length → OInts e lo hi w' (vs.getD i undef) ((xss.set j x).getD i [])) ∧
      (∀ i j' k, i < j' → j' < (xss.set j x).length → (vs.getD i undef).ownBlock = some k → (vs.getD j' undef).ownBlock ≠ some k) := by
  have ha : Apart w (vs.getD j undef).ownBlock es := ownsRow_apart (Own.lt' (h2 j hj)) (Ne.symm hne)
  rw [List.length_set]
  refine ⟨h1.grown hg ha, fun i hi => ?_, h3⟩
  by_cases hij : j = i
  · subst hij
    have : (xss.set j x).getD j [] = x := by simp [hj]
    rw [this]
    exact hx
  · have : (xss.set j x).getD i [] = xss.getD i [] := by simp [List.getElem?_set_ne hij]
    rw [this]
    refine Own.kept (h2 i hi) fun k hk => hg.block k (Own.lt (h2 i hi) k hk).2.2 fun hr => ?_
    rcases Nat.lt_or_gt_of_ne hij with hlt | hgt
    · exact h3 j i k hlt hi hr.symm hk
    · exact h3 i j k hgt hj hk hr.symm
end Go.Proofs.Ytalbofnhcpjilaa
namespace Go.Proofs.Ytalbofnhcpjilaa
open Go.RowKit Go.Maps
def fitI (x : Int) : Prop := -9223372036854775808 ≤ x ∧ x ≤ 9223372036854775807
theorem fit_wf {x : Int} (h : fitI x) : (Lit.int .i64 x).wf = true := WalkArith.wf_i64 h
theorem Try.laidOut : laidOutB Try.prog = true := by kernel_rfl
theorem five_small : 5 + 1 ≤ 10000 := by omega
def pairEnc (p : Int × Int) : Value := .agg #[.int .i64 p.1, .int .i64 p.2]
theorem pairEnc_inj : ∀ x y : Int × Int, pairEnc x = pairEnc y → x = y := by
  rintro ⟨a, b⟩ ⟨c, d⟩ h
  simp only [pairEnc, Value.agg.injEq] at h
  have h1 := congrArg (fun (l : Array Value) => l[0]?) h
  have h2 := congrArg (fun (l : Array Value) => l[1]?) h
  simp at h1 h2
  rw [h1, h2]
theorem keyLits_int {P : Program} {t : TypeId} {D : Nat} {x : Int} (ht : P.underlying t = some (.int .i64)) (hx : fitI x) : P.keyLits (D + 1) t [.int .i64 x] = some [.int .i64 x] := by
  unfold Program.keyLits
  rw [ht]
  simp [fit_wf hx]
end Go.Proofs.Ytalbofnhcpjilaa
namespace Go.Proofs.Ytalbofnhcpjilaa
open Go.RowKit Go.Maps
theorem keyLits_one {P : Program} {t : TypeId} {D : Nat} {q : IntKind} {x : Int} (ht : P.underlying t = some (.int q)) (hx : (Lit.int q x).wf = true) : P.keyLits (D + 1) t [.int q x] = some [.int q x] := by
  unfold Program.keyLits
  rw [ht]
  simp [hx]
theorem keyOf_two {P : Program} {t e : TypeId} {q : IntKind} (hu : P.underlying t = some (.array 2 e)) (he : P.underlying e = some (.int q)) (hk : P.keyType t = true) (hc : P.cellsOf t = 2) (hce : P.cellsOf e = 1) (hrow : t < P.types.size)
    (x y : Int) (hx : (Lit.int q x).wf = true) (hy : (Lit.int q y).wf = true) : ∃ l, keyOf P t (.agg #[.int q x, .int q y]) = some l := by
  have hfm : (Value.agg #[.int q x, .int q y]).formed P t = true := by simp [Value.formed, hu, hc]
  obtain ⟨n, hn⟩ : ∃ n, P.types.size = n + 1 := ⟨P.types.size - 1, (Nat.succ_pred_eq_of_pos (Nat.lt_of_le_of_lt (Nat.zero_le _) hrow)).symm⟩
  have e1 := keyLits_one (D := n) he hx
  have e2 := keyLits_one (D := n) he hy
  have hlits : P.keyLits (P.types.size + 1) t (Value.agg #[.int q x, .int q y]).cells.toList = some [.int q x, .int q y] := by
    rw [hn]
    show P.keyLits (n + 1 + 1) t [.int q x, .int q y] = _
    unfold Program.keyLits
    rw [hu]
    simp [hc, hce, List.range_succ, e1, e2]
  exact ⟨_, by
    unfold keyOf
    rw [hu]
    simp only [hk, hfm, Bool.and_self, if_true, hlits]
    rfl⟩
theorem arr_inj {q : IntKind} : ∀ x y : Int × Int, (Value.agg #[.int q x.1, .int q x.2]) = .agg #[.int q y.1, .int q y.2] → x = y := by
  rintro ⟨a, b⟩ ⟨c, d⟩ h
  simp only [Value.agg.injEq] at h
  have h1 := congrArg (fun (l : Array Value) => l[0]?) h
  have h2 := congrArg (fun (l : Array Value) => l[1]?) h
  simp at h1 h2
  rw [h1, h2]
theorem Try.rowPr : (170 : TypeId) < Try.prog.types.size := of_decide_eq_true (by kernel_rfl)
theorem Try.widePr : (match Try.prog.underlying 170 with | some (.array _ _) | some (.struct _) => true | _ => false) = true := by kernel_rfl
theorem Try.keyPr : Try.prog.keyType 170 = true := by kernel_rfl
theorem Try.keyAtPr : Try.prog.keyTypeAt 5 170 = true := by kernel_rfl
theorem Try.cellsPr : Try.prog.cellsOf 170 = 2 := by kernel_rfl
theorem Try.cellsInt : Try.prog.cellsOf 3 = 1 := by kernel_rfl
theorem Try.kindPr : Try.prog.underlying 170 = some (.array 2 3) := by kernel_rfl
set_option maxRecDepth 100000 in
theorem Try.lawPr : Keyed Try.prog 170 := Keyed.of_law (deep_law_laid Try.laidOut five_small Try.rowPr Try.keyAtPr Try.widePr)
set_option maxRecDepth 100000 in
theorem Try.keyOfPr (p : Int × Int) (h1 : fitI p.1) (h2 : fitI p.2) : ∃ l, keyOf Try.prog 170 (pairEnc p) = some l :=
  keyOf_two Try.kindPr Try.underlying3 Try.keyPr Try.cellsPr Try.cellsInt Try.rowPr _ _ (fit_wf h1) (fit_wf h2)
end Go.Proofs.Ytalbofnhcpjilaa
namespace Go.Proofs.Ytalbofnhcpjilaa
open Go.RowKit Go.Maps
def fitU (x : Int) : Prop := 0 ≤ x ∧ x ≤ 18446744073709551615
theorem fitU_wf {x : Int} (h : fitU x) : (Lit.int .u64 x).wf = true := WalkArith.wf_u64 h
def setEnc (p : Int × Int) : Value := .agg #[.int .u64 p.1, .int .u64 p.2]
theorem setEnc_inj : ∀ x y : Int × Int, setEnc x = setEnc y → x = y := arr_inj
def setCells (p : Int × Int) : List Value := [.int .u64 p.1, .int .u64 p.2]
def OSets (e lo hi : Nat) (w : World) (v : Value) (xs : List (Int × Int)) : Prop := Own lo hi w e 2 v xs.length (xs.flatMap setCells)
theorem Try.rowSet : (94 : TypeId) < Try.prog.types.size := of_decide_eq_true (by kernel_rfl)
theorem Try.wideSet : (match Try.prog.underlying 94 with | some (.array _ _) | some (.struct _) => true | _ => false) = true := by kernel_rfl
theorem Try.keySet : Try.prog.keyType 94 = true := by kernel_rfl
theorem Try.keyAtSet : Try.prog.keyTypeAt 5 94 = true := by kernel_rfl
theorem Try.cellsSet : Try.prog.cellsOf 94 = 2 := by kernel_rfl
theorem Try.cellsU64 : Try.prog.cellsOf 92 = 1 := by kernel_rfl
theorem Try.kindSet : Try.prog.underlying 94 = some (.array 2 92) := by kernel_rfl
set_option maxRecDepth 100000 in
theorem Try.lawSet : Keyed Try.prog 94 := Keyed.of_law (deep_law_laid Try.laidOut five_small Try.rowSet Try.keyAtSet Try.wideSet)
set_option maxRecDepth 100000 in
theorem Try.keyOfSet (p : Int × Int) (h1 : fitU p.1) (h2 : fitU p.2) : ∃ l, keyOf Try.prog 94 (setEnc p) = some l :=
  keyOf_two Try.kindSet Try.underlying92 Try.keySet Try.cellsSet Try.cellsU64 Try.rowSet _ _ (fitU_wf h1) (fitU_wf h2)
end Go.Proofs.Ytalbofnhcpjilaa
namespace Go.Proofs.Ytalbofnhcpjilaa
open Go.RowKit
def inB (x lo hi : Int) : Bool := decide (lo ≤ x) && decide (x ≤ hi)
set_option maxHeartbeats 400000 in
theorem l1In_any (x lo hi : Int) (w : World) (r : Bool) (hr : inB x lo hi = r) :
    Calls Try.prog 73 #[.int .i64 x, .int .i64 lo, .int .i64 hi] w fun e w' => e = .returned (.bool r) ∧ w = w' := by
  subst hr
  unfold inB
  go_enter Try.func73, Try.ntmps73
  go_wp2
  all_goals (go_ret; exact ⟨by simp [*] <;> omega, rfl⟩)
set_option maxHeartbeats 400000 in
theorem within_any (x lo hi : Int) (w : World) (r : Bool) (hr : inB x lo hi = r) :
    Calls Try.prog 86 #[.int .i64 x, .int .i64 lo, .int .i64 hi] w fun e w' => e = .returned (.bool r) ∧ w = w' := by
  subst hr
  unfold inB
  go_enter Try.func86, Try.ntmps86
  go_wp2
  all_goals (go_ret; exact ⟨by simp [*] <;> omega, rfl⟩)
def rowOk (n : Int) (row : List Int) : Bool := decide (row.length = 3) && row.all fun t => inB t 0 (n - 1)
def dfaOk (next : List (List Int)) (ends : List Bool) : Bool :=
  next.all (rowOk next.length) && inB next.length 1 40 && decide (ends.length = next.length)
theorem dfaOk_bad {next : List (List Int)} {ends : List Bool} {k : Nat} (hk : k < next.length) (h : rowOk next.length (next.getD k []) = false) : dfaOk next ends = false := by
  unfold dfaOk
  have : next.all (rowOk next.length) = false := by
    rw [List.all_eq_false]
    refine ⟨next[k], List.getElem_mem hk, ?_⟩
    simpa [hk] using h
  simp [this]
theorem rowOk_len {n : Int} {row : List Int} (h : row.length ≠ 3) : rowOk n row = false := by simp [rowOk, h]
theorem rowOk_bad {n : Int} {row : List Int} {c : Nat} (hc : c < row.length) (h : inB (row.getD c 0) 0 (n - 1) = false) : rowOk n row = false := by
  unfold rowOk
  have : (row.all fun t => inB t 0 (n - 1)) = false := by
    rw [List.all_eq_false]
    refine ⟨row[c], List.getElem_mem hc, ?_⟩
    simpa [hc] using h
  simp [this]
theorem all_snoc {α : Type} {p : α → Bool} {l : List α} {k : Nat} {d : α} (hk : k < l.length) (h : (l.take k).all p = true) (hp : p (l.getD k d) = true) : (l.take (k + 1)).all p = true := by
  rw [List.take_succ_eq_append_getElem hk, List.all_append, h]
  simpa [hk] using hp
set_option maxHeartbeats 1000000 in
theorem specDfaValid_any (next : List (List Int)) (ends : List Bool) (v1 v2 : Value) (w : World) (h1 : IntSS 0 w v1 next) (h2 : Bools 0 w v2 ends) (r : Bool) (hr : dfaOk next ends = r) :
    Calls Try.prog 38 #[.agg #[v1, v2]] w fun e w' => e = .returned (.bool r) ∧ Below w.heap.size w w' := by
  obtain ⟨a1, c1, rfl, hc1, hm1, hr1⟩ := h1.form
  obtain ⟨a2, c2, rfl, hc2, hm2, hr2⟩ := h2.form
  have Hr := Lib.hid hr
  clear h1 h2 hr
  go_enter Try.func38, Try.ntmps38
  go_wp2
  go_loopw [2, 3, 4] (fun r i j wr => ∃ k : Nat, k ≤ next.length ∧ i = .int .i64 k ∧ (next.take k).all (rowOk next.length) = true ∧ Below (w.heap.size + 1) (w.alloc (.cells #[.slice a1 next.length c1, .slice a2 ends.length c2] 27)) wr)
    (fun _ i _ _ => next.length - (intOf i).toNat)
  case atStart => exact ⟨0, Nat.zero_le _, rfl, rfl, Below.refl _ _⟩
  case round =>
    obtain ⟨k, hk, rfl, hall, hb⟩ := hrel
    have hend : Below w.heap.size w wr := ((Below.refl _ _).alloc (Nat.le_refl _) _).trans (hb.mono (by omega))
    have Hend := Lib.hid hend
    clear hend
    have hx0 := box_cell hb 0
    have hx3 := box_cell hb 1
    simp only [List.getElem?_toArray, List.getElem?_cons_zero, List.getElem?_cons_succ] at hx0 hx3
    by_cases hlt : k < next.length
    · obtain ⟨b, off, rfl, hB, hbl, hcs⟩ := hr1 (by omega)
      obtain ⟨row, hrw⟩ : ∃ row, row = next.getD k [] := ⟨_, rfl⟩
      have hcsk := hcs k hlt
      rw [← hrw] at hcsk
      have Hrw := Lib.hid hrw; clear hrw hcs hr1 hr2
      obtain ⟨a', cap', hcell, hcc, hcm, hrow⟩ := hcsk
      have hx1 := (box_old hb b (off + k) hbl).trans hcell
      have hbx := box_lt hb
      have Hall := Lib.hid hall; clear hall
      by_cases hlen : row.length = 3
      · have Hlen := Lib.hid hlen
        have hl3 : ((row.length : Int) != 3) = false := by rw [hlen]; rfl
        obtain ⟨b', off', rfl, hB', hbl', hcs'⟩ := hrow (by omega)
        clear hlen hx3
        go_wp2
        go_loopw [2, 4] (fun r j wi => ∃ c : Nat, c ≤ 3 ∧ j = .int .i64 c ∧ (row.take c).all (fun t => inB t 0 ((next.length : Int) - 1)) = true ∧ Below (w.heap.size + 1) (w.alloc (.cells #[.slice (some ⟨b, off, none⟩) next.length c1, .slice a2 ends.length c2] 27)) wi)
          (fun _ j _ => 3 - (intOf j).toNat)
        case atStart => exact ⟨0, by omega, rfl, rfl, hb⟩
        case round =>
          obtain ⟨c, hc, rfl, hall', hbi⟩ := hrel
          have Hall' := Lib.hid hall'; clear hall'
          have Hbi := Lib.hid hbi
          by_cases hc3 : c < 3
          · have hx0 := box_cell hbi 0
            have hx1 := (box_old hbi b (off + k) hbl).trans hcell
            have hx2 := (box_old hbi b' (off' + c) hbl').trans (hcs' c (by have := Hlen.out; omega))
            simp only [List.getElem?_toArray, List.getElem?_cons_zero] at hx0
            obtain ⟨t, ht⟩ : ∃ t, t = row.getD c 0 := ⟨_, rfl⟩
            rw [← ht] at hx2
            have Ht := Lib.hid ht; clear ht hbi
            have hr3 : (c : Int) < row.length := by have := Hlen.out; omega
            have hwn : IntKind.i64.wrap ((next.length : Int) - 1) = (next.length : Int) - 1 := IntWalk.i64_in _ (by omega)
            clear hcs'
            cases hin : inB t 0 ((next.length : Int) - 1)
            all_goals
              have Hin := Lib.hid hin; clear hin
              go_wp2
              go_region_held3 (fun w' => w'.cell? ⟨w.heap.size, 0, none⟩ = some (.slice (some ⟨b, off, none⟩) next.length c1) ∧ w'.cell? ⟨b, off + k, none⟩ = some (.slice (some ⟨b', off', none⟩) row.length cap') ∧ w'.cell? ⟨b', off' + c, none⟩ = some (.int .i64 t))
                (go_keep)
                (first | (go_at_call 73; refine (l1In_any _ _ _ _ _ Hin.out).mono ?_; rintro e w' ⟨rfl, rfl⟩))
              go_wp2
            · go_ret
              have hfin : dfaOk next ends = false := dfaOk_bad hlt (by rw [← Hrw.out]; exact rowOk_bad (c := c) (by have := Hlen.out; omega) (by rw [← Ht.out]; exact Hin.out))
              exact ⟨by rw [← Hr.out, hfin]; rfl, (((Below.refl _ _).alloc (Nat.le_refl _) _).trans (Hbi.out.mono (by omega))).drew⟩
            · go_roundw
              case rel => exact ⟨c + 1, by omega, by go_num, all_snoc (d := 0) (by have := Hlen.out; omega) Hall'.out (by rw [← Ht.out]; exact Hin.out), Hbi.out.drew⟩
              case measure => simp [intOf]; omega
          · obtain rfl : c = 3 := by omega
            clear hbi hcs'
            go_wp2
            go_roundw
            case rel =>
              have hok : rowOk next.length (next.getD k []) = true := by
                rw [← Hrw.out]
                unfold rowOk
                have h3 := Hall'.out
                rw [List.take_of_length_le (by have := Hlen.out; omega)] at h3
                simp [Hlen.out, h3]
              exact ⟨k + 1, by omega, by go_num, all_snoc (d := []) hlt Hall.out hok, Hbi.out⟩
            case measure => simp [intOf]; omega
      · have hl3 : ((row.length : Int) != 3) = true := by rw [bne_iff_ne]; omega
        go_wp2
        go_ret
        have hfin : dfaOk next ends = false := dfaOk_bad hlt (by rw [← Hrw.out]; exact rowOk_len hlen)
        exact ⟨by rw [← Hr.out, hfin]; rfl, Hend.out⟩
    · have hfin : dfaOk next ends = (inB next.length 1 40 && decide (ends.length = next.length)) := by
        have h3 := hall
        rw [List.take_of_length_le (by omega)] at h3
        simp [dfaOk, h3]
      have Hfin := Lib.hid hfin
      clear hfin hall hr1 hr2
      cases hin : inB next.length 1 40
      · have Hin := Lib.hid hin; clear hin
        go_wp2_with (go_at_call 73; refine (l1In_any _ _ _ _ _ Hin.out).mono ?_; rintro e w' ⟨rfl, rfl⟩)
        go_ret
        exact ⟨by rw [← Hr.out, Hfin.out, Hin.out]; rfl, Hend.out⟩
      · have Hin := Lib.hid hin; clear hin
        go_wp2_with (go_at_call 73; refine (l1In_any _ _ _ _ _ Hin.out).mono ?_; rintro e w' ⟨rfl, rfl⟩)
        go_ret
        refine ⟨?_, Hend.out⟩
        rw [← Hr.out, Hfin.out, Hin.out]
        exact ret_bool (by rw [beq_len]; rfl)
end Go.Proofs.Ytalbofnhcpjilaa
namespace Go.Proofs.Ytalbofnhcpjilaa
open Go.RowKit
theorem quiet_eq {P : Program} {f : FuncId} {args : Array Value} {w : World} {n : Nat} {v : Value}
    (h : Calls P f args (w.drewN n) fun e w' => e = .returned v ∧ w.drewN n = w') : Calls P f args (w.drewN n) fun e w'' => e = .returned v ∧ ∃ m, w'' = w.drewN m :=
  h.mono fun _ _ ⟨he, hm⟩ => ⟨he, n, hm.symm⟩
end Go.Proofs.Ytalbofnhcpjilaa
namespace Go.Proofs.Ytalbofnhcpjilaa
open Go.RowKit
theorem mem_getD {α : Type} {l : List α} {k : Nat} {d : α} (hk : k < l.length) : l.getD k d ∈ l := by
  simp [hk]
theorem eqFields2 {P : Program} {ti : TypeId} {fs : List Field} (d : Nat) (x1 x2 y1 y2 : Int) (w : World) (hi : P.underlying ti = some (.int .i64))
    (hf : fs.map (fun f => (f.name == "_", f.type, f.offset)) = [(false, ti, 0), (false, ti, 1)]) :
    (Op.eqFields (d + 1) #[.int .i64 x1, .int .i64 x2] #[.int .i64 y1, .int .i64 y2] fs).run P w = .ok (x1 == y1 && x2 == y2) w := by
  obtain ⟨f, g, rfl⟩ : ∃ f g, fs = [f, g] := by
    have hl : fs.length = 2 := by simpa using congrArg List.length hf
    match fs with
    | [] => simp at hl
    | [_] => simp at hl
    | [f, g] => exact ⟨f, g, rfl⟩
    | _ :: _ :: _ :: _ => simp at hl
  simp only [List.map_cons, List.map_nil, List.cons.injEq, Prod.mk.injEq, and_true] at hf
  obtain ⟨⟨f1, f2, f3⟩, g1, g2, g3⟩ := hf
  have f1' : f.name ≠ "_" := by simpa using f1
  have g1' : g.name ≠ "_" := by simpa using g1
  simp only [Op.eqFields, f1', g1', f2, f3, g2, g3, ne_eq, not_false_eq_true, if_true]
  cases h1 : x1 == y1 <;> cases h2 : x2 == y2 <;> simp [go_sem, hi, h1, h2, part, isAgg, run_underlying hi]
end Go.Proofs.Ytalbofnhcpjilaa
namespace Go.Proofs.Ytalbofnhcpjilaa
open Go.RowKit
def firstIdx {α : Type} (p : α → Bool) (xs : List α) : Int := if xs.any p then (xs.findIdx p : Int) else -1
theorem firstIdx_hit {α : Type} {p : α → Bool} {xs : List α} {k : Nat} {d : α} (hk : k < xs.length) (h : (xs.take k).any p = false) (hp : p (xs.getD k d) = true) : firstIdx p xs = k := by
  have hp' : p xs[k] = true := by simpa [hk] using hp
  have h1 : xs.any p = true := List.any_eq_true.2 ⟨xs[k], List.getElem_mem hk, hp'⟩
  unfold firstIdx
  rw [if_pos h1]
  have : xs.findIdx p = k := by
    rw [List.findIdx_eq hk]
    refine ⟨hp', fun j hj => ?_⟩
    rw [List.any_eq_false] at h
    have := h xs[j] (by rw [List.mem_take_iff_getElem]; exact ⟨j, by omega, rfl⟩)
    simpa using this
  rw [this]
theorem firstIdx_miss {α : Type} {p : α → Bool} {xs : List α} {k : Nat} (hk : xs.length ≤ k) (h : (xs.take k).any p = false) : firstIdx p xs = -1 := by
  rw [List.take_of_length_le hk] at h
  unfold firstIdx
  rw [h]; rfl
theorem firstIdx_any {α : Type} (p : α → Bool) (xs : List α) : decide (0 ≤ firstIdx p xs) = xs.any p := by
  unfold firstIdx
  cases h : xs.any p <;> simp
theorem any_snoc {α : Type} {p : α → Bool} {l : List α} {k : Nat} {d : α} (hk : k < l.length) (h : (l.take k).any p = false) (hp : p (l.getD k d) = false) : (l.take (k + 1)).any p = false := by
  rw [List.take_succ_eq_append_getElem hk, List.any_append, h]
  simpa [hk] using hp
def stepP (a b : DfaD) (p : Int × Int) (c : Nat) : Int × Int := ((a.next.getD p.1.toNat []).getD c 0, (b.next.getD p.2.toNat []).getD c 0)
def inPair (a b : DfaD) (p : Int × Int) : Bool := inB p.1 0 ((a.next.length : Int) - 1) && inB p.2 0 ((b.next.length : Int) - 1)
theorem inB_true {x lo hi : Int} (h : inB x lo hi = true) : lo ≤ x ∧ x ≤ hi := by simpa [inB] using h
theorem dfaOk_row {next : List (List Int)} {ends : List Bool} (h : dfaOk next ends = true) {i : Nat} (hi : i < next.length) :
    (next.getD i []).length = 3 ∧ ∀ c, c < 3 → 0 ≤ (next.getD i []).getD c 0 ∧ (next.getD i []).getD c 0 < next.length := by
  simp only [dfaOk, Bool.and_eq_true, List.all_eq_true] at h
  have hr := h.1.1 _ (mem_getD (d := []) hi)
  simp only [rowOk, Bool.and_eq_true, decide_eq_true_eq, List.all_eq_true] at hr
  refine ⟨hr.1, fun c hc => ?_⟩
  have := inB_true (hr.2 _ (mem_getD (d := 0) (show c < (next.getD i []).length by omega)))
  omega
theorem dfaOk_len {next : List (List Int)} {ends : List Bool} (h : dfaOk next ends = true) : 1 ≤ next.length ∧ next.length ≤ 40 ∧ ends.length = next.length := by
  simp only [dfaOk, Bool.and_eq_true, decide_eq_true_eq] at h
  have := inB_true h.1.2
  omega
end Go.Proofs.Ytalbofnhcpjilaa
