/-
  The smallest automaton, plain: classes of an automaton and of its reachable part agree; both ways of making it small are the same.
  No condition: this text speaks of no program.
-/
import Derived.Test.YtclhcfmlkfiidaaMo
import Derived.Test.YtclhcfmlkfiidaaPk5
namespace Go.Proofs.Ytclhcfmlkfiidaa
open Go.RowKit

theorem clAt_sim {n m : Nat} {nx nx' : Nat → Nat → Nat} {en en' : Nat → Bool} (φ : Nat → Nat) (hφ : ∀ i, i < m → φ i < n) (hst : ∀ i c, i < m → c < 3 → nx' i c < m ∧ φ (nx' i c) = nx (φ i) c) (hen : ∀ i, i < m → en' i = en (φ i)) :
    ∀ (r : Nat) {i j : Nat}, i < m → j < m → (clAt m nx' en' r i = clAt m nx' en' r j ↔ clAt n nx en r (φ i) = clAt n nx en r (φ j))
  | 0, i, j, hi, hj => by
    rw [cl0_eq hi hj, cl0_eq (hφ i hi) (hφ j hj), hen i hi, hen j hj]
  | r + 1, i, j, hi, hj => by
    have ih := fun {i j : Nat} (hi : i < m) (hj : j < m) => clAt_sim φ hφ hst hen r hi hj
    show refineC m nx' (clAt m nx' en' r) i = refineC m nx' (clAt m nx' en' r) j ↔ refineC n nx (clAt n nx en r) (φ i) = refineC n nx (clAt n nx en r) (φ j)
    rw [refine_eq hi hj, refine_eq (hφ i hi) (hφ j hj), sameAt_iff, sameAt_iff, ih hi hj]
    constructor
    · rintro ⟨h1, h2⟩
      refine ⟨h1, fun c hc => ?_⟩
      have h := (ih (hst i c hi hc).1 (hst j c hj hc).1).1 (h2 c hc)
      rwa [(hst i c hi hc).2, (hst j c hj hc).2] at h
    · rintro ⟨h1, h2⟩
      refine ⟨h1, fun c hc => (ih (hst i c hi hc).1 (hst j c hj hc).1).2 ?_⟩
      rw [(hst i c hi hc).2, (hst j c hj hc).2]
      exact h2 c hc
/-- The classes at the end agree, too, where the part is not greater. -/
theorem clEnd_sim {n m : Nat} {nx nx' : Nat → Nat → Nat} {en en' : Nat → Bool} (φ : Nat → Nat) (hmn : m ≤ n) (hφ : ∀ i, i < m → φ i < n) (hst : ∀ i c, i < m → c < 3 → nx' i c < m ∧ φ (nx' i c) = nx (φ i) c) (hen : ∀ i, i < m → en' i = en (φ i)) {i j : Nat} (hi : i < m) (hj : j < m) :
    clEnd m nx' en' i = clEnd m nx' en' j ↔ clEnd n nx en (φ i) = clEnd n nx en (φ j) := by
  have hin : ∀ s c, s < m → c < 3 → nx' s c < m := fun s c hs hc => (hst s c hs hc).1
  have hs := clEnd_stays hin en'
  have e1 := stays_all hin hs n hmn i hi
  have e2 := stays_all hin hs n hmn j hj
  show clAt m nx' en' m i = clAt m nx' en' m j ↔ _
  rw [← e1, ← e2]
  exact clAt_sim φ hφ hst hen n hi hj

def nxD (d : DfaD) (s c : Nat) : Nat := ((d.next.getD s []).getD c 0).toNat
def enD (d : DfaD) (s : Nat) : Bool := d.ends.getD s false
def clD (d : DfaD) (s : Nat) : Nat := clEnd d.next.length (nxD d) (enD d) s
def trimD (d : DfaD) : DfaD := numDfa (dnx d) (den d) (bat (dnx d) 0 d.next.length).met
def nxM (d : DfaD) (s : Int) (c : Nat) : Int := (clD d (nxD d s.toNat c) : Nat)
/-- As the program makes it small. -/
def minD (d : DfaD) : DfaD := numDfa (nxM d) (den d) (bat (nxM d) ((clD d 0 : Nat) : Int) d.next.length).met
/-- The classes in the place of the states. -/
def foldD (x : DfaD) : DfaD := ⟨(List.range x.next.length).map fun k => (List.range 3).map fun c => ((clD x (nxD x k c) : Nat) : Int), x.ends⟩
/-- As the reference makes it small. -/
def smallD (d : DfaD) : DfaD := trimD (foldD (trimD d))
theorem nxD_lt {d : DfaD} (hd : fine d) {s c : Nat} (hs : s < d.next.length) (hc : c < 3) : nxD d s c < d.next.length ∧ dnx d (s : Int) c = ((nxD d s c : Nat) : Int) := by
  obtain ⟨-, -, -, h⟩ := hd
  obtain ⟨-, h2⟩ := h s hs
  obtain ⟨a, b⟩ := h2 c hc
  unfold nxD dnx
  rw [Int.toNat_natCast]
  omega
theorem clD_le {d : DfaD} (s : Nat) (hs : s < d.next.length) : clD d s ≤ s ∧ clD d (clD d s) = clD d s := by
  have h := clAt_good (n := d.next.length) (nx := nxD d) (enD d) d.next.length
  exact ⟨h.le s hs, h.id s hs⟩
theorem met_facts {d : DfaD} (hd : fine d) (K : Nat) : (∀ x ∈ (bat (dnx d) 0 K).met, 0 ≤ x ∧ x < (d.next.length : Int)) ∧ (bat (dnx d) 0 K).met.length ≤ d.next.length := by
  have h1 : ∀ x ∈ (bat (dnx d) 0 K).met, 0 ≤ x ∧ x < (d.next.length : Int) := by
    refine bat_all (Q := fun x => 0 ≤ x ∧ x < (d.next.length : Int)) ⟨by omega, by have := hd.1; omega⟩ (fun x c hc hx => ?_) K
    obtain ⟨s, rfl⟩ := Int.eq_ofNat_of_zero_le hx.1
    obtain ⟨a, b⟩ := nxD_lt hd (s := s) (by omega) hc
    rw [b]
    omega
  refine ⟨h1, ?_⟩
  have := nodup_le (bat_good (nx := dnx d) (a := 0) K).1 (m := upInts d.next.length) fun x hx => by
    obtain ⟨a, b⟩ := h1 x hx
    obtain ⟨s, rfl⟩ := Int.eq_ofNat_of_zero_le a
    exact mem_upInts.2 (by omega)
  rwa [upInts_len] at this
/-- Where the numbers of the trimmed automaton come from. -/
def phiD (d : DfaD) (i : Nat) : Nat := ((bat (dnx d) 0 d.next.length).met.getD i 0).toNat
theorem trim_facts {d : DfaD} (hd : fine d) : fine (trimD d) ∧ (trimD d).next.length ≤ d.next.length ∧ (∀ i, i < (trimD d).next.length → phiD d i < d.next.length) ∧
    (∀ i c, i < (trimD d).next.length → c < 3 → nxD (trimD d) i c < (trimD d).next.length ∧ phiD d (nxD (trimD d) i c) = nxD d (phiD d i) c) ∧ (∀ i, i < (trimD d).next.length → enD (trimD d) i = enD d (phiD d i)) ∧ phiD d 0 = 0 := by
  obtain ⟨h1, h2⟩ := met_facts hd d.next.length
  have hf := fine_num (nx := dnx d) (a := (0 : Int)) (en := den d) h2 (by have := hd.2.1; omega)
  have hl : (trimD d).next.length = (bat (dnx d) 0 d.next.length).met.length := numDfa_len _ _ _
  have hphi : ∀ i, i < (bat (dnx d) 0 d.next.length).met.length → (bat (dnx d) 0 d.next.length).met.getD i 0 = ((phiD d i : Nat) : Int) ∧ phiD d i < d.next.length := fun i hi => by
    obtain ⟨a, b⟩ := h1 _ (memD (d := 0) hi)
    unfold phiD
    omega
  refine ⟨hf, by rw [hl]; exact h2, fun i hi => (hphi i (by rw [← hl]; exact hi)).2, fun i c hi hc => ?_, fun i hi => ?_, ?_⟩
  · have hi' : i < (bat (dnx d) 0 d.next.length).met.length := by rw [← hl]; exact hi
    refine ⟨(nxD_lt hf hi hc).1, ?_⟩
    obtain ⟨p1, p2⟩ := hphi i hi'
    have hn : nxD (trimD d) i c = placeOf (bat (dnx d) 0 d.next.length).met (dnx d ((bat (dnx d) 0 d.next.length).met.getD i 0) c) := by
      unfold nxD trimD
      rw [numDfa_row (a := (0 : Int)) hi', numRow_at hc, Int.toNat_natCast]
    have hm := bat_closed (nx := dnx d) (a := (0 : Int)) h2 (memD (d := 0) hi') hc
    rw [hn]
    unfold phiD
    rw [getD_idx hm, p1, (nxD_lt hd p2 hc).2, Int.toNat_natCast]
    rfl
  · have hi' : i < (bat (dnx d) 0 d.next.length).met.length := by rw [← hl]; exact hi
    unfold enD trimD phiD
    simp [numDfa, hi', den]
  · unfold phiD
    rw [bat_first]
    rfl
theorem fold_facts {x : DfaD} (hx : fine x) : fine (foldD x) ∧ (foldD x).next.length = x.next.length ∧ ∀ k c, k < x.next.length → c < 3 → dnx (foldD x) (k : Int) c = ((clD x (nxD x k c) : Nat) : Int) := by
  have hl : (foldD x).next.length = x.next.length := by simp [foldD]
  have hr : ∀ k, k < x.next.length → (foldD x).next.getD k [] = (List.range 3).map fun c => ((clD x (nxD x k c) : Nat) : Int) := fun k hk => by simp [foldD, hk]
  have hc : ∀ k c, k < x.next.length → c < 3 → ((foldD x).next.getD k []).getD c 0 = ((clD x (nxD x k c) : Nat) : Int) := fun k c hk hc => by rw [hr k hk]; simp [hc]
  refine ⟨⟨by rw [hl]; exact hx.1, by rw [hl]; exact hx.2.1, by rw [hl]; exact hx.2.2.1, fun i hi => ?_⟩, hl, fun k c hk h3 => ?_⟩
  · rw [hl] at hi
    refine ⟨by rw [hr i hi]; simp, fun c h3 => ?_⟩
    rw [hc i c hi h3, hl]
    have h1 := (nxD_lt hx hi h3).1
    have h2 := (clD_le (nxD x i c) h1).1
    omega
  · unfold dnx
    rw [Int.toNat_natCast]
    exact hc k c hk h3
theorem small_min {d : DfaD} (hd : fine d) : smallD d = minD d := by
  obtain ⟨hx, hmn, hφ, hst, hen, hφ0⟩ := trim_facts hd
  obtain ⟨x, hxe⟩ : ∃ x, x = trimD d := ⟨_, rfl⟩
  unfold smallD
  rw [← hxe] at hx hmn hφ hst hen ⊢
  obtain ⟨hff, hfl, hfn⟩ := fold_facts hx
  have hm0 : 0 < x.next.length := hx.1
  have hsim := fun {i j : Nat} (hi : i < x.next.length) (hj : j < x.next.length) => clEnd_sim (n := d.next.length) (m := x.next.length) (nx := nxD d) (nx' := nxD x) (en := enD d) (en' := enD x) (phiD d) hmn hφ hst hen hi hj
  have hdin : ∀ s c, s < d.next.length → c < 3 → nxD d s c < d.next.length := fun s c hs hc => (nxD_lt hd hs hc).1
  have hmet := (met_facts hff x.next.length).2
  rw [hfl] at hmet
  have hbat : bat (dnx (foldD x)) 0 d.next.length = bat (dnx (foldD x)) 0 x.next.length := bat_done hmet hmn
  have key := numDfa_mapQ (nx := dnx (foldD x)) (nx' := nxM d) (a := (0 : Int)) (f := fun j : Int => ((clD d (phiD d j.toNat) : Nat) : Int)) (Q := fun j => ∃ k : Nat, j = (k : Int) ∧ k < x.next.length ∧ clD x k = k) (en := den (foldD x)) (en' := den d) (K := d.next.length)
    ⟨0, rfl, hm0, Nat.le_zero.1 (clD_le 0 hm0).1⟩ ?_ ?_ ?_ ?_
  · unfold trimD minD
    rw [hfl, ← hbat, ← key]
    have e : ((clD d (phiD d (0 : Int).toNat) : Nat) : Int) = ((clD d 0 : Nat) : Int) := by
      show ((clD d (phiD d 0) : Nat) : Int) = _
      rw [hφ0]
    simp only [e]
  · rintro j c hc ⟨k, rfl, hk, -⟩
    rw [hfn k c hk hc]
    have h1 := (nxD_lt hx hk hc).1
    obtain ⟨h2, h3⟩ := clD_le (nxD x k c) h1
    exact ⟨_, rfl, by omega, h3⟩
  · rintro j j' ⟨k, rfl, hk, hr⟩ ⟨k', rfl, hk', hr'⟩ h
    simp only [Int.toNat_natCast] at h
    have h1 : clD d (phiD d k) = clD d (phiD d k') := by omega
    have h2 : clD x k = clD x k' := (hsim hk hk').2 h1
    rw [hr, hr'] at h2
    rw [h2]
  · rintro j c hc ⟨k, rfl, hk, -⟩
    rw [hfn k c hk hc]
    obtain ⟨h1, -⟩ := nxD_lt hx hk hc
    obtain ⟨h2, h3⟩ := clD_le (nxD x k c) h1
    simp only [Int.toNat_natCast, nxM]
    have a1 : clD d (phiD d (clD x (nxD x k c))) = clD d (phiD d (nxD x k c)) := (hsim (by omega) h1).1 h3
    rw [a1, (hst k c hk hc).2]
    obtain ⟨h4, h5⟩ := clD_le (phiD d k) (hφ k hk)
    have a2 : clD d (nxD d (clD d (phiD d k)) c) = clD d (nxD d (phiD d k) c) := clEnd_eq hdin (en := enD d) (s := clD d (phiD d k)) (t := phiD d k) (by have := hφ k hk; omega) (hφ k hk) h5 c hc
    rw [a2]
  · rintro j ⟨k, rfl, hk, -⟩
    obtain ⟨h4, h5⟩ := clD_le (phiD d k) (hφ k hk)
    have a := clEnd_ends (n := d.next.length) (nx := nxD d) (en := enD d) (s := clD d (phiD d k)) (t := phiD d k) (by have := hφ k hk; omega) (hφ k hk) h5
    simp only [Int.toNat_natCast]
    show enD d (((clD d (phiD d k) : Nat) : Int).toNat) = enD x (((k : Nat) : Int).toNat)
    rw [Int.toNat_natCast, Int.toNat_natCast, a, hen k hk]
end Go.Proofs.Ytclhcfmlkfiidaa
