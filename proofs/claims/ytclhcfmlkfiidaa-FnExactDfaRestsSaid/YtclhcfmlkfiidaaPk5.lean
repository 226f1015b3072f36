/-
  The first of the things met that ends, and its word: plain laws; the same for the numbered automaton.
  No condition: this text speaks of no program.
  Two searches that go alike find alike: a map that tells apart what is met; the automata of what was met are the same.
  No condition: this text speaks of no program.
-/
import Derived.Test.YtclhcfmlkfiidaaBfs
import Derived.Test.YtclhcfmlkfiidaaOwn
namespace Go.Proofs.Ytclhcfmlkfiidaa
open Go.RowKit

theorem memD {α : Type} {xs : List α} {k : Nat} {d : α} (h : k < xs.length) : xs.getD k d ∈ xs := by
  rw [List.getD_eq_getElem?_getD, List.getElem?_eq_getElem h]
  simp
theorem getD_at {α : Type} {xs : List α} {k : Nat} {d : α} (h : k < xs.length) : xs.getD k d = xs[k] := by simp [h]

/-- Where a state leads. -/
def dnx (d : DfaD) (s : Int) (c : Nat) : Int := (d.next.getD s.toNat []).getD c 0
def den (d : DfaD) (s : Int) : Bool := d.ends.getD s.toNat false
/-- The first of the things met that ends: its word. -/
def firstHit {α : Type} (en : α → Bool) (s : Bs α) : Option (List Nat) := ((s.met.zip s.words).find? fun p => en p.1).map (·.2)
/-- As an automaton is after the checks. -/
def fine (d : DfaD) : Prop := 1 ≤ d.next.length ∧ d.next.length ≤ 100000 ∧ d.ends.length = d.next.length ∧ ∀ i, i < d.next.length → (d.next.getD i []).length = 3 ∧ ∀ c, c < 3 → 0 ≤ (d.next.getD i []).getD c 0 ∧ (d.next.getD i []).getD c 0 < d.next.length

theorem firstHit_at {α : Type} {en : α → Bool} {s t : Bs α} {k : Nat} {d : α} (hst : s.le t) (hl : s.words.length = s.met.length) (htl : t.words.length = t.met.length) (hk : k < s.met.length) (hno : ∀ j, j < k → en (s.met.getD j d) = false) (hyes : en (s.met.getD k d) = true) : firstHit en t = some (s.words.getD k []) := by
  have hml : s.met.length ≤ t.met.length := hst.1.length_le
  have hget : ∀ j, j < s.met.length → t.met.getD j d = s.met.getD j d := fun j hj => by
    obtain ⟨u, hu⟩ := hst.1
    rw [← hu]
    simp [List.getElem?_append_left hj]
  have hgw : t.words.getD k [] = s.words.getD k [] := by
    obtain ⟨u, hu⟩ := hst.2
    rw [← hu]
    simp [List.getElem?_append_left (show k < s.words.length by omega)]
  have hat : ∀ j, (hj : j < t.met.length) → t.met[j] = t.met.getD j d := fun j hj => by simp [hj]
  have hf : (t.met.zip t.words).find? (fun p => en p.1) = some (t.met.getD k d, t.words.getD k []) := by
    rw [List.find?_eq_some_iff_getElem]
    refine ⟨by simp only; rw [hget k hk]; exact hyes, k, by rw [List.length_zip]; omega, ?_, fun j hj => ?_⟩
    · simp [List.getElem_zip, show k < t.met.length by omega, show k < t.words.length by omega]
    · simp only [List.getElem_zip]
      rw [hat j (by omega), hget j (by omega), hno j hj]
      rfl
  unfold firstHit
  rw [hf, ← hgw]
  rfl
theorem firstHit_none {α : Type} {en : α → Bool} {s : Bs α} {d : α} (hno : ∀ j, j < s.met.length → en (s.met.getD j d) = false) : firstHit en s = none := by
  unfold firstHit
  rw [List.find?_eq_none.2]
  · rfl
  · intro p hp
    obtain ⟨j, hj, rfl⟩ := List.mem_iff_getElem.1 hp
    have hjm : j < s.met.length := by rw [List.length_zip] at hj; omega
    have := hno j hjm
    simp only [List.getElem_zip]
    rw [List.getD_eq_getElem?_getD, List.getElem?_eq_getElem hjm] at this
    simpa using this
theorem firstHit_congr {α β : Type} (e1 : α → Bool) (e2 : β → Bool) : ∀ (l1 : List α) (l2 : List β) (ws : List (List Nat)), l1.length = l2.length → (∀ j (h1 : j < l1.length) (h2 : j < l2.length), e1 l1[j] = e2 l2[j]) → firstHit e1 ⟨l1, ws⟩ = firstHit e2 ⟨l2, ws⟩
  | [], [], ws, _, _ => by simp [firstHit]
  | [], _ :: _, _, h, _ => by simp at h
  | _ :: _, [], _, h, _ => by simp at h
  | x :: l1, y :: l2, [], _, _ => by simp [firstHit]
  | x :: l1, y :: l2, v :: ws, hl, h => by
    have ih := firstHit_congr e1 e2 l1 l2 ws (by simpa using hl) (fun j h1 h2 => by have := h (j + 1) (by simpa using h1) (by simpa using h2); simpa using this)
    have h0 : e1 x = e2 y := h 0 (by simp) (by simp)
    unfold firstHit at ih ⊢
    simp only [List.zip_cons_cons, List.find?_cons, h0]
    cases e2 y <;> simp_all

section
variable {α : Type} [DecidableEq α] {nx nx' : α → Nat → α} {a : α}
theorem brow_congr {x : α} {wd : List Nat} {s : Bs α} (h : ∀ c, c < 3 → nx x c = nx' x c) : ∀ n, n ≤ 3 → brow nx x wd s n = brow nx' x wd s n
  | 0, _ => rfl
  | n + 1, hn => by
    show bvisit nx x wd (brow nx x wd s n) n = bvisit nx' x wd (brow nx' x wd s n) n
    rw [brow_congr h n (by omega)]
    unfold bvisit
    rw [h n (by omega)]
theorem bat_congr {Q : α → Prop} (h0 : Q a) (hv : ∀ x c, c < 3 → Q x → Q (nx x c)) (he : ∀ x c, c < 3 → Q x → nx x c = nx' x c) : ∀ k, bat nx a k = bat nx' a k
  | 0 => rfl
  | k + 1 => by
    have ih := bat_congr h0 hv he k
    by_cases h : k < (bat nx a k).met.length
    · rw [bat_succ h, bat_succ (by rw [← ih]; exact h)]
      unfold bpart
      rw [← ih]
      exact brow_congr (fun c hc => he _ c hc (bat_all h0 hv k _ (memD h))) 3 (by omega)
    · rw [bat_stay (by omega), bat_stay (by rw [← ih]; omega), ih]
theorem bat_closed {K : Nat} (hK : (bat nx a K).met.length ≤ K) {x : α} (hx : x ∈ (bat nx a K).met) {c : Nat} (hc : c < 3) : nx x c ∈ (bat nx a K).met := by
  obtain ⟨k, hk, rfl⟩ := List.mem_iff_getElem.1 hx
  have hkk : k < (bat nx a k).met.length := by
    by_cases h : k < (bat nx a k).met.length
    · exact h
    · have := bat_done (nx := nx) (a := a) (k := k) (m := K) (by omega) (by omega)
      rw [this] at hk
      omega
  have e : (bat nx a K).met[k] = (bat nx a k).met.getD k a := by
    rw [← prefix_getD (bat_le (nx := nx) (a := a) (show k ≤ K by omega)).1 hkk a, getD_at hk]
  rw [e]
  exact (bpart_le_bat (nx := nx) (a := a) hkk (Nat.le_refl 3) (show k < K by omega)).1.subset (bpart_mem hc)
theorem bat_wlen : ∀ k : Nat, ∀ wd ∈ (bat nx a k).words, wd.length ≤ k
  | 0, wd, h => by simp [bat] at h; simp [h]
  | k + 1, wd, h => by
    have ih := bat_wlen k
    by_cases hk : k < (bat nx a k).met.length
    · rw [bat_succ hk] at h
      have hg := (bat_good (nx := nx) (a := a) k).2.1
      refine brow_ind (fun t => ∀ wd ∈ t.words, wd.length ≤ k + 1) (fun wd h => Nat.le_succ_of_le (ih wd h)) (fun t c _ ht => ?_) 3 (Nat.le_refl 3) wd h
      unfold bvisit
      split
      · exact ht
      · intro v hv
        simp only [List.mem_append, List.mem_singleton] at hv
        rcases hv with hv | rfl
        · exact ht v hv
        · have := ih _ (memD (d := []) (show k < (bat nx a k).words.length by omega))
          simpa using this
    · rw [bat_stay (by omega)] at h
      exact Nat.le_succ_of_le (ih wd h)
theorem bat_mem_first (K : Nat) : a ∈ (bat nx a K).met := by
  have h := memD (d := a) (bat_pos (nx := nx) (a := a) K)
  rwa [bat_first] at h

/-- The automaton of what was met. -/
def numRow (nx : α → Nat → α) (F : List α) (x : α) : List Int := (List.range 3).map fun c => (placeOf F (nx x c) : Int)
def numDfa (nx : α → Nat → α) (en : α → Bool) (F : List α) : DfaD := ⟨F.map (numRow nx F), F.map en⟩
theorem numDfa_len (nx : α → Nat → α) (en : α → Bool) (F : List α) : (numDfa nx en F).next.length = F.length := by simp [numDfa]
theorem numDfa_row {en : α → Bool} {F : List α} {i : Nat} (hi : i < F.length) : (numDfa nx en F).next.getD i [] = numRow nx F (F.getD i a) := by
  simp [numDfa, List.getElem?_eq_getElem hi]
theorem numRow_at {F : List α} {x : α} {c : Nat} (hc : c < 3) : (numRow nx F x).getD c 0 = (placeOf F (nx x c) : Int) := by
  simp [numRow, hc]
theorem dnx_num {en : α → Bool} {F : List α} {s : Int} {c : Nat} (h0 : 0 ≤ s) (h1 : s < F.length) (hc : c < 3) : dnx (numDfa nx en F) s c = numNext nx a F s c := by
  unfold dnx numNext
  rw [numDfa_row (a := a) (by omega), numRow_at hc]
theorem den_num {en : α → Bool} {F : List α} {i : Nat} (hi : i < F.length) : den (numDfa nx en F) (i : Int) = en F[i] := by
  simp [den, numDfa, hi]
theorem fine_num {en : α → Bool} {K : Nat} (hK : (bat nx a K).met.length ≤ K) (hK2 : K ≤ 100000) : fine (numDfa nx en (bat nx a K).met) := by
  refine ⟨?_, ?_, ?_, fun i hi => ?_⟩
  · rw [numDfa_len]; exact bat_pos K
  · rw [numDfa_len]; omega
  · simp [numDfa]
  · rw [numDfa_len] at hi
    rw [numDfa_row (a := a) hi]
    refine ⟨by simp [numRow], fun c hc => ?_⟩
    rw [numRow_at hc, numDfa_len]
    exact ⟨by omega, by exact_mod_cast placeOf_lt (bat_closed hK (memD hi) hc)⟩
/-- The numbered automaton hits first where the things themselves do. -/
theorem firstHit_num {en : α → Bool} {K : Nat} (hK : (bat nx a K).met.length ≤ K) :
    firstHit (den (numDfa nx en (bat nx a K).met)) (bat (dnx (numDfa nx en (bat nx a K).met)) 0 (numDfa nx en (bat nx a K).met).next.length) = firstHit en (bat nx a K) := by
  rw [numDfa_len]
  obtain ⟨m, hm⟩ : ∃ m, m = (bat nx a K).met.length := ⟨_, rfl⟩
  have hle : (bat nx a m).met.length ≤ m := by
    have := (bat_le (nx := nx) (a := a) (show m ≤ K by omega)).1.length_le
    omega
  have hd : bat nx a K = bat nx a m := bat_done hle (by omega)
  have hp := bat_pos (nx := nx) (a := a) K
  have hlt : ∀ (s : Int) c, c < 3 → 0 ≤ s ∧ s < m → 0 ≤ numNext nx a (bat nx a K).met s c ∧ numNext nx a (bat nx a K).met s c < m := fun s c hc hs => by
    unfold numNext
    have := placeOf_lt (bat_closed hK (memD (d := a) (show s.toNat < (bat nx a K).met.length by omega)) hc)
    omega
  have e1 : bat (numNext nx a (bat nx a K).met) 0 m = bat (dnx (numDfa nx en (bat nx a K).met)) 0 m :=
    bat_congr (Q := fun s => 0 ≤ s ∧ s < (m : Int)) (by omega) (fun s c hc hs => hlt s c hc hs) (fun s c hc hs => (dnx_num (by omega) (by omega) hc).symm) m
  rw [← hm, ← e1, num_sim nx a K m (by omega), ← hd]
  show firstHit _ _ = firstHit en ⟨(bat nx a K).met, (bat nx a K).words⟩
  refine firstHit_congr _ _ _ _ _ (by simp [upInts]) fun j h1 h2 => ?_
  have : (upInts (bat nx a K).met.length)[j] = (j : Int) := by simp [upInts]
  rw [this]
  exact den_num h2
end
end Go.Proofs.Ytclhcfmlkfiidaa
namespace Go.Proofs.Ytclhcfmlkfiidaa
open Go.RowKit

section
variable {α β : Type} [DecidableEq α] [DecidableEq β] {nx : α → Nat → α} {nx' : β → Nat → β} {a : α} {f : α → β} {Q : α → Prop}
theorem brow_mapQ (hv : ∀ x c, c < 3 → Q x → Q (nx x c)) (hf : ∀ x y, Q x → Q y → f x = f y → x = y) (hn : ∀ x c, c < 3 → Q x → f (nx x c) = nx' (f x) c) {x : α} (hx : Q x) (wd : List Nat) {s : Bs α} (hs : ∀ y ∈ s.met, Q y) :
    ∀ n, n ≤ 3 → brow nx' (f x) wd ⟨s.met.map f, s.words⟩ n = ⟨(brow nx x wd s n).met.map f, (brow nx x wd s n).words⟩ ∧ ∀ y ∈ (brow nx x wd s n).met, Q y
  | 0, _ => ⟨rfl, hs⟩
  | n + 1, hn3 => by
    obtain ⟨h1, h2⟩ := brow_mapQ hv hf hn hx wd hs n (by omega)
    have hq := hv x n (by omega) hx
    have hm : nx' (f x) n ∈ (brow nx x wd s n).met.map f ↔ nx x n ∈ (brow nx x wd s n).met := by
      rw [← hn x n (by omega) hx]
      constructor
      · intro h
        obtain ⟨y, hy, e⟩ := List.mem_map.1 h
        rw [← hf _ _ (h2 y hy) hq e]
        exact hy
      · exact fun h => List.mem_map.2 ⟨_, h, rfl⟩
    have e : brow nx' (f x) wd ⟨s.met.map f, s.words⟩ (n + 1) = bvisit nx' (f x) wd (brow nx' (f x) wd ⟨s.met.map f, s.words⟩ n) n := rfl
    have e2 : brow nx x wd s (n + 1) = bvisit nx x wd (brow nx x wd s n) n := rfl
    rw [e, e2, h1]
    unfold bvisit
    by_cases h : nx x n ∈ (brow nx x wd s n).met
    · rw [if_pos h, if_pos (hm.2 h)]
      exact ⟨rfl, h2⟩
    · rw [if_neg h, if_neg (fun h2 => h (hm.1 h2))]
      refine ⟨by simp [hn x n (by omega) hx], fun y hy => ?_⟩
      simp only [List.mem_append, List.mem_singleton] at hy
      rcases hy with hy | rfl
      · exact h2 y hy
      · exact hq
theorem bat_mapQ (h0 : Q a) (hv : ∀ x c, c < 3 → Q x → Q (nx x c)) (hf : ∀ x y, Q x → Q y → f x = f y → x = y) (hn : ∀ x c, c < 3 → Q x → f (nx x c) = nx' (f x) c) : ∀ k, bat nx' (f a) k = ⟨(bat nx a k).met.map f, (bat nx a k).words⟩
  | 0 => rfl
  | k + 1 => by
    have ih := bat_mapQ h0 hv hf hn k
    have hl : (bat nx' (f a) k).met.length = (bat nx a k).met.length := by rw [ih]; simp
    by_cases h : k < (bat nx a k).met.length
    · rw [bat_succ h, bat_succ (by rw [hl]; exact h)]
      unfold bpart
      rw [ih]
      have hx : ((bat nx a k).met.map f).getD k (f a) = f ((bat nx a k).met.getD k a) := by simp [h]
      simp only [hx]
      exact (brow_mapQ hv hf hn (bat_all h0 hv k _ (memD h)) _ (bat_all h0 hv k) 3 (by omega)).1
    · rw [bat_stay (by omega), bat_stay (by omega), ih]
theorem placeOf_map {L : List α} {x : α} (hf : ∀ y ∈ L, f y = f x → y = x) : placeOf (L.map f) (f x) = placeOf L x := by
  unfold placeOf
  induction L with
  | nil => rfl
  | cons y l ih =>
    have h1 := hf y (by simp)
    have h2 := ih fun z hz => hf z (by simp [hz])
    simp only [List.map_cons, List.idxOf_cons]
    by_cases h : y = x
    · subst h; simp
    · have : f y ≠ f x := fun e => h (h1 e)
      have e1 : (f y == f x) = false := by simpa using this
      have e2 : (y == x) = false := by simpa using h
      rw [e1, e2]
      simp [h2]
theorem numDfa_mapQ {en : α → Bool} {en' : β → Bool} {K : Nat} (h0 : Q a) (hv : ∀ x c, c < 3 → Q x → Q (nx x c)) (hf : ∀ x y, Q x → Q y → f x = f y → x = y) (hn : ∀ x c, c < 3 → Q x → f (nx x c) = nx' (f x) c) (he : ∀ x, Q x → en' (f x) = en x) :
    numDfa nx' en' (bat nx' (f a) K).met = numDfa nx en (bat nx a K).met := by
  have hm := congrArg Bs.met (bat_mapQ h0 hv hf hn K)
  simp only at hm
  have hq := bat_all h0 hv K
  rw [hm]
  unfold numDfa
  have e1 : ((bat nx a K).met.map f).map (numRow nx' ((bat nx a K).met.map f)) = (bat nx a K).met.map (numRow nx (bat nx a K).met) := by
    rw [List.map_map]
    refine List.map_congr_left fun x hx => ?_
    unfold numRow
    refine List.map_congr_left fun c hc => ?_
    have hc3 : c < 3 := List.mem_range.1 hc
    rw [← hn x c hc3 (hq x hx), placeOf_map fun y hy e => hf _ _ (hq y hy) (hv x c hc3 (hq x hx)) e]
  have e2 : ((bat nx a K).met.map f).map en' = (bat nx a K).met.map en := by
    rw [List.map_map]
    exact List.map_congr_left fun x hx => he x (hq x hx)
  rw [e1, e2]
end
end Go.Proofs.Ytclhcfmlkfiidaa
