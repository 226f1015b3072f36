/-
  The language of an automaton with choices, plain: ways through it, and what joins, repeats, unites and turns languages.
  No condition: this text speaks of no program.
-/
import Derived.Test.YtjcegbcmomfgaaaCv
import Derived.Test.YtjcegbcmomfgaaaNd
namespace Go.Proofs.Ytjcegbcmomfgaaa
open Go.RowKit

/-- A way through an automaton that spells a word. -/
inductive Pth (ms : List (Int × Int × Int)) : Int → List Nat → Int → Prop
  | here (s : Int) : Pth ms s [] s
  | eps {s t u : Int} {w : List Nat} : (s, -1, t) ∈ ms → Pth ms t w u → Pth ms s w u
  | step {s t u : Int} {c : Nat} {w : List Nat} : (s, (c : Int), t) ∈ ms → Pth ms t w u → Pth ms s (c :: w) u

theorem Pth.append {ms : List (Int × Int × Int)} {s t u : Int} {x y : List Nat} (h : Pth ms s x t) (h' : Pth ms t y u) : Pth ms s (x ++ y) u := by
  induction h with
  | here s => exact h'
  | eps hm _ ih => exact .eps hm (ih h')
  | step hm _ ih => exact .step hm (ih h')
theorem Pth.mono {ms ns : List (Int × Int × Int)} (hs : ∀ m ∈ ms, m ∈ ns) {s t : Int} {x : List Nat} (h : Pth ms s x t) : Pth ns s x t := by
  induction h with
  | here s => exact .here s
  | eps hm _ ih => exact .eps (hs _ hm) ih
  | step hm _ ih => exact .step (hs _ hm) ih
/-- A map of states that keeps moves, but for moves without a letter that it makes to nothing. -/
theorem Pth.map {ms ns : List (Int × Int × Int)} (f : Int → Int) (hs : ∀ m ∈ ms, (f m.1, m.2.1, f m.2.2) ∈ ns ∨ (m.2.1 = -1 ∧ f m.1 = f m.2.2)) {s t : Int} {x : List Nat} (h : Pth ms s x t) : Pth ns (f s) x (f t) := by
  induction h with
  | here s => exact .here _
  | eps hm _ ih =>
    rcases hs _ hm with h | ⟨_, h⟩
    · exact .eps h ih
    · exact h ▸ ih
  | step hm _ ih =>
    rcases hs _ hm with h | ⟨h, _⟩
    · exact .step h ih
    · simp only at h; omega
theorem Pth.in {ms : List (Int × Int × Int)} {n : Nat} (hm : mvIn n ms) {s t : Int} {x : List Nat} (h : Pth ms s x t) (hs : 0 ≤ s ∧ s < (n : Int)) : 0 ≤ t ∧ t < (n : Int) := by
  induction h with
  | here s => exact hs
  | eps h _ ih => exact ih (hm _ h).2
  | step h _ ih => exact ih (hm _ h).2

/-- The states after a word. -/
def runS (n : NfaD) (cs : List Nat) : Nat := cs.foldl (fun v (c : Nat) => stV 40 n.moves v (c : Int)) (clV 40 n.moves (setV n.firsts))
def accS (n : NfaD) (cs : List Nat) : Bool := n.ends.any fun s => (runS n cs).testBit s.toNat

theorem nat_of (P : Nat → Prop) : ∀ n : Nat, ∃ u : Nat, ∀ t, u.testBit t = true ↔ t < n ∧ P t
  | 0 => ⟨0, fun t => by simp⟩
  | n + 1 => by
    obtain ⟨u, hu⟩ := nat_of P n
    by_cases hp : P n
    · refine ⟨adj u n, fun t => ?_⟩
      rw [has_adj, Bool.or_eq_true, hu, decide_eq_true_eq]
      constructor
      · rintro (⟨h1, h2⟩ | rfl)
        · exact ⟨by omega, h2⟩
        · exact ⟨by omega, hp⟩
      · rintro ⟨h1, h2⟩
        by_cases h : n = t
        · exact .inr h
        · exact .inl ⟨by omega, h2⟩
    · refine ⟨u, fun t => ?_⟩
      rw [hu]
      constructor
      · rintro ⟨h1, h2⟩
        exact ⟨by omega, h2⟩
      · rintro ⟨h1, h2⟩
        by_cases h : t = n
        · subst h; exact absurd h2 hp
        · exact ⟨by omega, h2⟩

theorem Pth.closed {ms : List (Int × Int × Int)} {u : Nat} (hu : closedV ms u) {s t : Int} {x : List Nat} (h : Pth ms s x t) (hx : x = []) (hs : u.testBit s.toNat = true) : u.testBit t.toNat = true := by
  induction h with
  | here s => exact hs
  | eps hm _ ih => exact ih hx (hu _ hm rfl hs)
  | step hm _ ih => cases hx

/-- What closing adds is what ways without letters reach. -/
theorem clV_pth {ms : List (Int × Int × Int)} (hm : mvIn 40 ms) {v t : Nat} (hv : v < 2 ^ 40) : (clV 40 ms v).testBit t = true ↔ ∃ s : Nat, s < 40 ∧ v.testBit s = true ∧ Pth ms s [] t := by
  constructor
  · intro h
    obtain ⟨u, hu⟩ := nat_of (fun t => ∃ s : Nat, s < 40 ∧ v.testBit s = true ∧ Pth ms s [] t) 40
    have hc : closedV ms u := by
      intro m hmm he hf
      obtain ⟨h1, s, hs, hvs, hp⟩ := (hu _).1 hf
      have h2 := hm m hmm
      refine (hu _).2 ⟨by omega, s, hs, hvs, ?_⟩
      have e1 : ((m.1.toNat : Nat) : Int) = m.1 := by omega
      have e2 : ((m.2.2.toNat : Nat) : Int) = m.2.2 := by omega
      rw [e1] at hp
      rw [e2]
      refine hp.append (y := []) (.eps ?_ (.here _))
      rw [← he]
      exact hmm
    have hsub : subV v u := by
      intro s hs
      have : s < 40 := by
        by_cases h : s < 40
        · exact h
        · rw [Nat.testBit_lt_two_pow (Nat.lt_of_lt_of_le hv (Nat.pow_le_pow_right (by omega) (by omega)))] at hs
          cases hs
      exact (hu s).2 ⟨this, s, this, hs, .here _⟩
    exact ((hu t).1 (clV_in hc hsub t h)).2
  · rintro ⟨s, hs, hvs, hp⟩
    have := hp.closed (clV_closed hm v) rfl (by rw [Int.toNat_natCast]; exact clV_sub 40 ms v s hvs)
    rwa [Int.toNat_natCast] at this

theorem stFold_bit {c : Int} {v : Nat} : ∀ (l : List (Int × Int × Int)) (u t : Nat), (l.foldl (stMove v c) u).testBit t = true ↔ u.testBit t = true ∨ ∃ m ∈ l, m.2.1 = c ∧ v.testBit m.1.toNat = true ∧ m.2.2.toNat = t
  | [], u, t => by simp
  | m :: l, u, t => by
    rw [List.foldl_cons, stFold_bit l, stMove]
    split
    · rename_i h
      rw [Bool.and_eq_true, decide_eq_true_eq] at h
      rw [has_adj, Bool.or_eq_true, decide_eq_true_eq]
      constructor
      · rintro ((h1 | h1) | ⟨x, hx, h1⟩)
        · exact .inl h1
        · exact .inr ⟨m, by simp, h.1, h.2, h1⟩
        · exact .inr ⟨x, by simp [hx], h1⟩
      · rintro (h1 | ⟨x, hx, h1⟩)
        · exact .inl (.inl h1)
        · rcases List.mem_cons.1 hx with rfl | hx
          · exact .inl (.inr h1.2.2)
          · exact .inr ⟨x, hx, h1⟩
    · rename_i h
      rw [Bool.and_eq_true, decide_eq_true_eq] at h
      constructor
      · rintro (h1 | ⟨x, hx, h1⟩)
        · exact .inl h1
        · exact .inr ⟨x, by simp [hx], h1⟩
      · rintro (h1 | ⟨x, hx, h1⟩)
        · exact .inl h1
        · rcases List.mem_cons.1 hx with rfl | hx
          · exact absurd ⟨h1.1, h1.2.1⟩ h
          · exact .inr ⟨x, hx, h1⟩

theorem lt_of_bit {v s n : Nat} (hv : v < 2 ^ n) (hs : v.testBit s = true) : s < n := by
  by_cases h : s < n
  · exact h
  · rw [Nat.testBit_lt_two_pow (Nat.lt_of_lt_of_le hv (Nat.pow_le_pow_right (by omega) (by omega)))] at hs
    cases hs

theorem stV_pth {ms : List (Int × Int × Int)} (hm : mvIn 40 ms) {v t : Nat} (c : Nat) : (stV 40 ms v (c : Int)).testBit t = true ↔ ∃ x, x ∈ ms ∧ x.2.1 = (c : Int) ∧ v.testBit x.1.toNat = true ∧ Pth ms x.2.2 [] t := by
  have hlt : ms.foldl (stMove v c) 0 < 2 ^ 40 := foldl_inv _ (fun u => u < 2 ^ 40) (fun _ _ hx hu => stMove_lt hm hx hu) (by decide)
  unfold stV
  rw [clV_pth hm hlt]
  constructor
  · rintro ⟨s, hs, hb, hp⟩
    rw [stFold_bit] at hb
    rcases hb with hb | ⟨m, hmm, h1, h2, h3⟩
    · simp at hb
    · refine ⟨m, hmm, h1, h2, ?_⟩
      have e : m.2.2 = (s : Int) := by have := (hm m hmm).2; omega
      rw [e]
      exact hp
  · rintro ⟨x, hx, h1, h2, hp⟩
    have h4 := (hm x hx).2
    refine ⟨x.2.2.toNat, by omega, ?_, ?_⟩
    · rw [stFold_bit]
      exact .inr ⟨x, hx, h1, h2, rfl⟩
    · have e : ((x.2.2.toNat : Nat) : Int) = x.2.2 := by omega
      rw [e]
      exact hp

/-- The first letter of a way. -/
theorem Pth.split {ms : List (Int × Int × Int)} {s u : Int} {x : List Nat} (h : Pth ms s x u) : ∀ {c : Nat} {w : List Nat}, x = c :: w → ∃ m, m ∈ ms ∧ m.2.1 = (c : Int) ∧ Pth ms s [] m.1 ∧ Pth ms m.2.2 w u := by
  induction h with
  | here s => intro c w h; cases h
  | eps hm _ ih =>
    intro c w h
    obtain ⟨m, h1, h2, h3, h4⟩ := ih h
    exact ⟨m, h1, h2, .eps hm h3, h4⟩
  | step hm hp ih =>
    intro c w h
    injection h with h1 h2
    subst h1
    subst h2
    exact ⟨_, hm, rfl, .here _, hp⟩

theorem stV_closed {ms : List (Int × Int × Int)} (hm : mvIn 40 ms) (v : Nat) (c : Int) : closedV ms (stV 40 ms v c) := clV_closed hm _

theorem foldl_pth {ms : List (Int × Int × Int)} (hm : mvIn 40 ms) : ∀ (cs : List Nat) (V : Nat), V < 2 ^ 40 → closedV ms V → ∀ t, (cs.foldl (fun v (c : Nat) => stV 40 ms v (c : Int)) V).testBit t = true ↔ ∃ s : Nat, s < 40 ∧ V.testBit s = true ∧ Pth ms s cs t
  | [], V, hV, hc, t => by
    rw [List.foldl_nil]
    constructor
    · intro h
      exact ⟨t, lt_of_bit hV h, h, .here _⟩
    · rintro ⟨s, hs, h1, h2⟩
      have := h2.closed hc rfl (by rwa [Int.toNat_natCast])
      rwa [Int.toNat_natCast] at this
  | c :: cs, V, hV, hc, t => by
    rw [List.foldl_cons, foldl_pth hm cs _ (stV_lt hm V c) (stV_closed hm V c)]
    constructor
    · rintro ⟨s, hs, h1, h2⟩
      rw [stV_pth hm] at h1
      obtain ⟨x, hx, h3, h4, h5⟩ := h1
      have h6 := (hm x hx).1
      refine ⟨x.1.toNat, by omega, h4, ?_⟩
      have e : ((x.1.toNat : Nat) : Int) = x.1 := by omega
      rw [e]
      refine .step (t := x.2.2) ?_ (h5.append h2)
      rw [← h3]
      exact hx
    · rintro ⟨s, hs, h1, h2⟩
      obtain ⟨m, h3, h4, h5, h6⟩ := h2.split rfl
      have h7 := (hm m h3).2
      refine ⟨m.2.2.toNat, by omega, ?_, ?_⟩
      · rw [stV_pth hm]
        have := h5.closed hc rfl (by rwa [Int.toNat_natCast])
        refine ⟨m, h3, h4, this, ?_⟩
        have e : ((m.2.2.toNat : Nat) : Int) = m.2.2 := by omega
        rw [e]
        exact .here _
      · have e : ((m.2.2.toNat : Nat) : Int) = m.2.2 := by omega
        rw [e]
        exact h6

theorem accS_pth {n : NfaD} (hn : nfaOk n = true) (cs : List Nat) : accS n cs = true ↔ ∃ f ∈ n.firsts, ∃ e ∈ n.ends, Pth n.moves f cs e := by
  obtain ⟨m, hm, hm40, hmv, -, hf, -, he, -⟩ := nfaOk_facts hn
  have hm4 := mvIn_40 hmv hm40
  have hfi : inN 40 n.firsts := fun s hs => by have := hf s hs; omega
  have hlt : clV 40 n.moves (setV n.firsts) < 2 ^ 40 := clIt_lt hm4 (setV_lt hfi) 40
  have hrun := foldl_pth hm4 cs _ hlt (clV_closed hm4 (setV n.firsts))
  unfold accS runS
  rw [List.any_eq_true]
  constructor
  · rintro ⟨e, hee, hb⟩
    obtain ⟨s, hs, h1, h2⟩ := (hrun _).1 hb
    rw [clV_pth hm4 (setV_lt hfi)] at h1
    obtain ⟨r, hr, h3, h4⟩ := h1
    rw [setV_bit, List.any_eq_true] at h3
    obtain ⟨f, hff, h5⟩ := h3
    have h5 := of_decide_eq_true h5
    have h6 := hf f hff
    have h7 := he e hee
    refine ⟨f, hff, e, hee, ?_⟩
    have e1 : (r : Int) = f := by omega
    have e2 : ((e.toNat : Nat) : Int) = e := by omega
    rw [e1] at h4
    rw [e2] at h2
    exact h4.append h2
  · rintro ⟨f, hff, e, hee, hp⟩
    have h6 := hf f hff
    have h7 := he e hee
    refine ⟨e, hee, (hrun _).2 ⟨f.toNat, by omega, ?_, ?_⟩⟩
    · exact clV_sub 40 n.moves _ _ (setV_mem hff)
    · have e1 : ((f.toNat : Nat) : Int) = f := by omega
      have e2 : ((e.toNat : Nat) : Int) = e := by omega
      rw [e1, e2]
      exact hp

/-- Two automata accept the same word, if ways of each are ways of the other. -/
theorem accS_same {n m : NfaD} (hn : nfaOk n = true) (hm : nfaOk m = true) {x y : List Nat} (h1 : ∀ f ∈ n.firsts, ∀ e ∈ n.ends, Pth n.moves f x e → ∃ g ∈ m.firsts, ∃ d ∈ m.ends, Pth m.moves g y d) (h2 : ∀ f ∈ m.firsts, ∀ e ∈ m.ends, Pth m.moves f y e → ∃ g ∈ n.firsts, ∃ d ∈ n.ends, Pth n.moves g x d) : accS n x = accS m y := by
  rw [Bool.eq_iff_iff, accS_pth hn, accS_pth hm]
  exact ⟨fun ⟨f, hf, e, he, hp⟩ => h1 f hf e he hp, fun ⟨f, hf, e, he, hp⟩ => h2 f hf e he hp⟩

-- repeated
theorem star_nil {a : NfaD} (hs : nfaOk (starN a) = true) : accS (starN a) [] = true :=
  (accS_pth hs _).2 ⟨a.states, by simp [starN], a.states, by simp [starN], .here _⟩
theorem star_cat {a : NfaD} (hs : nfaOk (starN a) = true) {x y : List Nat} (hx : accS (starN a) x = true) (hy : accS (starN a) y = true) : accS (starN a) (x ++ y) = true := by
  rw [accS_pth hs] at *
  obtain ⟨f, hf, e, he, hp⟩ := hx
  obtain ⟨g, hg, d, hd, hq⟩ := hy
  simp only [starN, List.mem_singleton] at hf he hg hd
  subst hf he hg hd
  exact ⟨a.states, by simp [starN], a.states, by simp [starN], hp.append hq⟩
theorem star_has {a : NfaD} (ha : nfaOk a = true) (hs : nfaOk (starN a) = true) {x : List Nat} (hx : accS a x = true) : accS (starN a) x = true := by
  rw [accS_pth ha] at hx
  obtain ⟨f, hf, e, he, hp⟩ := hx
  refine (accS_pth hs _).2 ⟨a.states, by simp [starN], a.states, by simp [starN], ?_⟩
  have h1 : Pth (starN a).moves f x e := hp.mono fun m hm => by simp [starN, hm]
  have h2 : Pth (starN a).moves a.states [] f := .eps (by simp [starN, hf]) (.here _)
  have h3 : Pth (starN a).moves e [] a.states := .eps (by simp only [starN, List.mem_append, List.mem_map]; exact .inr ⟨e, he, rfl⟩) (.here _)
  have h4 := (h2.append h1).append h3
  rwa [List.nil_append, List.append_nil] at h4
theorem star_star {a : NfaD} (hs : nfaOk (starN a) = true) (hss : nfaOk (starN (starN a)) = true) (x : List Nat) : accS (starN (starN a)) x = accS (starN a) x := by
  rw [Bool.eq_iff_iff]
  constructor
  · intro h
    rw [accS_pth hss] at h
    obtain ⟨f, hf, e, he, hp⟩ := h
    simp only [starN, List.mem_singleton] at hf he
    subst hf he
    obtain ⟨m, hm, -, hmv, -⟩ := nfaOk_facts hs
    have hq := hp.map (ns := (starN a).moves) (fun s => if s = a.states + 1 then a.states else s) ?_
    · simp only [↓reduceIte] at hq
      exact (accS_pth hs _).2 ⟨a.states, by simp [starN], a.states, by simp [starN], hq⟩
    · intro y hy
      have hy' : y ∈ (starN a).moves ∨ y = (a.states + 1, -1, a.states) ∨ y = (a.states, -1, a.states + 1) := by
        rw [show (starN (starN a)).moves = ((starN a).moves ++ [(a.states + 1, -1, a.states)]) ++ [(a.states, -1, a.states + 1)] from rfl] at hy
        simpa only [List.mem_append, List.mem_singleton, or_assoc] using hy
      rcases hy' with hy | rfl | rfl
      · left
        have h1 := hmv y hy
        have h2 : (starN a).states = a.states + 1 := rfl
        rw [if_neg (by omega), if_neg (by omega)]
        exact hy
      · right
        refine ⟨rfl, ?_⟩
        simp only [↓reduceIte]
        rw [if_neg (by omega)]
      · right
        refine ⟨rfl, ?_⟩
        simp only [↓reduceIte]
        rw [if_neg (by omega)]
  · exact star_has hs hss

-- turned
theorem Pth.turn {ms : List (Int × Int × Int)} {s t : Int} {x : List Nat} (h : Pth ms s x t) : Pth (ms.map turnM) t x.reverse s := by
  induction h with
  | here s => exact .here s
  | eps hm _ ih => 
    have := ih.append (y := []) (.eps (List.mem_map.2 ⟨_, hm, rfl⟩) (.here _))
    rwa [List.append_nil] at this
  | step hm _ ih =>
    rw [List.reverse_cons]
    exact ih.append (.step (List.mem_map.2 ⟨_, hm, rfl⟩) (.here _))
theorem turn_turn (n : NfaD) : turnN (turnN n) = n := by
  obtain ⟨s, ms, f, e⟩ := n
  have : turnM ∘ turnM = id := rfl
  simp [turnN, this]
theorem turn_ok {n : NfaD} (hn : nfaOk n = true) : nfaOk (turnN n) = true := by
  unfold nfaOk at *
  simp only [Bool.and_eq_true, turnN, List.length_map, List.all_map] at *
  refine ⟨⟨⟨⟨hn.1.1.1.1, hn.1.1.1.2⟩, hn.1.2⟩, hn.1.1.2⟩, ?_⟩
  rw [List.all_eq_true]
  intro x hx
  have := List.all_eq_true.1 hn.2 x hx
  simp only [mvOk, turnM, Function.comp, Bool.and_eq_true] at *
  exact ⟨⟨this.1.2, this.1.1⟩, this.2⟩
theorem turn_acc {n : NfaD} (hn : nfaOk n = true) (x : List Nat) : accS (turnN n) x.reverse = accS n x := by
  refine accS_same (turn_ok hn) hn ?_ ?_
  · intro f hf e he hp
    have h := hp.turn
    rw [List.reverse_reverse] at h
    refine ⟨e, he, f, hf, ?_⟩
    have h2 : (turnN n).moves.map turnM = n.moves := congrArg NfaD.moves (turn_turn n)
    rwa [h2] at h
  · intro f hf e he hp
    exact ⟨e, he, f, hf, hp.turn⟩

-- either, joined: the second automaton is moved up
theorem Pth.up {ms : List (Int × Int × Int)} (d : Int) {s t : Int} {x : List Nat} (h : Pth ms s x t) : Pth (ms.map (shM d)) (s + d) x (t + d) :=
  h.map (· + d) fun m hm => .inl (List.mem_map.2 ⟨m, hm, rfl⟩)
theorem Pth.down {ms : List (Int × Int × Int)} {d : Int} {s t : Int} {x : List Nat} (h : Pth (ms.map (shM d)) s x t) : Pth ms (s - d) x (t - d) :=
  h.map (· - d) fun m hm => by
    obtain ⟨y, hy, rfl⟩ := List.mem_map.1 hm
    left
    have e1 : (shM d y).1 - d = y.1 := by simp [shM]
    have e2 : (shM d y).2.2 - d = y.2.2 := by simp [shM]
    simp only [e1, e2]
    exact hy

theorem Pth.low {ms ns : List (Int × Int × Int)} {d : Int} (h1 : ∀ m ∈ ms, m.1 < d ∧ m.2.2 < d) (h2 : ∀ m ∈ ns, ¬ m.1 < d) {s t : Int} {x : List Nat} (h : Pth (ms ++ ns) s x t) (hs : s < d) : Pth ms s x t := by
  induction h with
  | here s => exact .here s
  | eps hm _ ih =>
    rcases List.mem_append.1 hm with hm | hm
    · exact .eps hm (ih (h1 _ hm).2)
    · exact absurd hs (h2 _ hm)
  | step hm _ ih =>
    rcases List.mem_append.1 hm with hm | hm
    · exact .step hm (ih (h1 _ hm).2)
    · exact absurd hs (h2 _ hm)
theorem Pth.high {ms ns : List (Int × Int × Int)} {d : Int} (h1 : ∀ m ∈ ms, m.1 < d) (h2 : ∀ m ∈ ns, d ≤ m.2.2) {s t : Int} {x : List Nat} (h : Pth (ms ++ ns) s x t) (hs : d ≤ s) : Pth ns s x t := by
  induction h with
  | here s => exact .here s
  | eps hm _ ih =>
    rcases List.mem_append.1 hm with hm | hm
    · have := h1 _ hm; simp only at this; omega
    · exact .eps hm (ih (h2 _ hm))
  | step hm _ ih =>
    rcases List.mem_append.1 hm with hm | hm
    · have := h1 _ hm; simp only at this; omega
    · exact .step hm (ih (h2 _ hm))

theorem either_acc {p q : NfaD} (hp : nfaOk p = true) (hq : nfaOk q = true) (he : nfaOk (eithN p q) = true) (x : List Nat) : accS (eithN p q) x = (accS p x || accS q x) := by
  obtain ⟨a, ha, -, hpm, -, hpf, -, hpe, -⟩ := nfaOk_facts hp
  obtain ⟨b, hb, -, hqm, -, hqf, -, hqe, -⟩ := nfaOk_facts hq
  have m1 : ∀ m ∈ p.moves, m.1 < p.states ∧ m.2.2 < p.states := fun m hm => by have := hpm m hm; omega
  have m2 : ∀ m ∈ q.moves.map (shM p.states), p.states ≤ m.1 ∧ p.states ≤ m.2.2 := fun m hm => by
    obtain ⟨y, hy, rfl⟩ := List.mem_map.1 hm
    have := hqm y hy
    simp only [shM]
    omega
  rw [Bool.eq_iff_iff, Bool.or_eq_true, accS_pth he, accS_pth hp, accS_pth hq]
  constructor
  · rintro ⟨f, hf, e, hee, hw⟩
    have hw : Pth (p.moves ++ q.moves.map (shM p.states)) f x e := hw
    rcases List.mem_append.1 (show f ∈ p.firsts ++ q.firsts.map (· + p.states) from hf) with hf | hf
    · left
      have h1 := hpf f hf
      have h2 := hw.low m1 (fun m hm => by have := m2 m hm; omega) (by omega)
      have h3 := h2.in hpm h1
      rcases List.mem_append.1 (show e ∈ p.ends ++ q.ends.map (· + p.states) from hee) with hee | hee
      · exact ⟨f, hf, e, hee, h2⟩
      · obtain ⟨y, hy, rfl⟩ := List.mem_map.1 hee
        have := hqe y hy
        omega
    · right
      obtain ⟨g, hg, rfl⟩ := List.mem_map.1 hf
      have h1 := hqf g hg
      have h2 := (hw.high (fun m hm => (m1 m hm).1) (fun m hm => (m2 m hm).2) (by omega)).down
      rw [show g + p.states - p.states = g by omega] at h2
      have h3 := h2.in hqm h1
      rcases List.mem_append.1 (show e ∈ p.ends ++ q.ends.map (· + p.states) from hee) with hee | hee
      · have := hpe e hee
        omega
      · obtain ⟨y, hy, rfl⟩ := List.mem_map.1 hee
        rw [show y + p.states - p.states = y by omega] at h2
        exact ⟨g, hg, y, hy, h2⟩
  · rintro (⟨f, hf, e, hee, hw⟩ | ⟨f, hf, e, hee, hw⟩)
    · exact ⟨f, List.mem_append.2 (.inl hf), e, List.mem_append.2 (.inl hee), hw.mono fun m hm => List.mem_append.2 (.inl hm)⟩
    · exact ⟨f + p.states, List.mem_append.2 (.inr (List.mem_map.2 ⟨f, hf, rfl⟩)), e + p.states, List.mem_append.2 (.inr (List.mem_map.2 ⟨e, hee, rfl⟩)), (hw.up p.states).mono fun m hm => List.mem_append.2 (.inr hm)⟩

/-- A way from the first part into the second one crosses once. -/
theorem Pth.cross {p q : NfaD} {a b : Nat} (ha : p.states = (a : Int)) (hpm : mvIn a p.moves) (hqm : mvIn b q.moves) (hpe : inN a p.ends) (hqf : inN b q.firsts) {s t : Int} {x : List Nat} (h : Pth (joinN p q).moves s x t) (ht : p.states ≤ t) : (s < p.states → ∃ k, k ≤ x.length ∧ ∃ e ∈ p.ends, ∃ f ∈ q.firsts, Pth p.moves s (x.take k) e ∧ Pth q.moves f (x.drop k) (t - p.states)) ∧ (p.states ≤ s → Pth q.moves (s - p.states) x (t - p.states)) := by
  induction h with
  | here s => exact ⟨fun h => by omega, fun _ => .here _⟩
  | @eps s' t' u w hm _ ih =>
    obtain ⟨i1, i2⟩ := ih ht
    rcases List.mem_append.1 hm with hm | hm
    · rcases List.mem_append.1 hm with hm | hm
      · have h1 := hpm _ hm
        simp only at h1
        refine ⟨fun h => ?_, fun h => by omega⟩
        obtain ⟨k, hk, e, he, f, hf, h2, h3⟩ := i1 (by omega)
        exact ⟨k, hk, e, he, f, hf, .eps hm h2, h3⟩
      · obtain ⟨y, hy, e⟩ := List.mem_map.1 (show _ ∈ q.moves.map (shM p.states) from hm)
        have h1 := hqm _ hy
        injection e with e1 e2
        injection e2 with e2 e3
        refine ⟨fun h => by omega, fun h => .eps (t := t' - p.states) ?_ (i2 (by omega))⟩
        rw [← e1, ← e3, show y.1 + p.states - p.states = y.1 by omega, show y.2.2 + p.states - p.states = y.2.2 by omega, ← e2]
        exact hy
    · obtain ⟨y, hy, e⟩ := List.mem_flatMap.1 hm
      obtain ⟨z, hz, e⟩ := List.mem_map.1 e
      obtain ⟨z, hz', rfl⟩ := List.mem_map.1 (show z ∈ q.firsts.map (· + p.states) from hz)
      injection e with e1 e2
      injection e2 with e2 e3
      have h1 := hpe y hy
      have h2 := hqf z hz'
      refine ⟨fun h => ⟨0, Nat.zero_le _, y, hy, z, hz', ?_, ?_⟩, fun h => by omega⟩
      · rw [e1]
        exact .here _
      · have := i2 (by omega)
        rw [← e3, show z + p.states - p.states = z by omega] at this
        exact this
  | @step s' t' u c w hm _ ih =>
    obtain ⟨i1, i2⟩ := ih ht
    rcases List.mem_append.1 hm with hm | hm
    · rcases List.mem_append.1 hm with hm | hm
      · have h1 := hpm _ hm
        simp only at h1
        refine ⟨fun h => ?_, fun h => by omega⟩
        obtain ⟨k, hk, e, he, f, hf, h2, h3⟩ := i1 (by omega)
        exact ⟨k + 1, by simp only [List.length_cons]; omega, e, he, f, hf, .step hm h2, h3⟩
      · obtain ⟨y, hy, e⟩ := List.mem_map.1 (show _ ∈ q.moves.map (shM p.states) from hm)
        have h1 := hqm _ hy
        injection e with e1 e2
        injection e2 with e2 e3
        refine ⟨fun h => by omega, fun h => .step (t := t' - p.states) ?_ (i2 (by omega))⟩
        rw [← e1, ← e3, show y.1 + p.states - p.states = y.1 by omega, show y.2.2 + p.states - p.states = y.2.2 by omega, ← e2]
        exact hy
    · obtain ⟨y, hy, e⟩ := List.mem_flatMap.1 hm
      obtain ⟨z, hz, e⟩ := List.mem_map.1 e
      injection e with e1 e2
      injection e2 with e2 e3
      omega

theorem join_acc {p q : NfaD} (hp : nfaOk p = true) (hq : nfaOk q = true) (hj : nfaOk (joinN p q) = true) (x : List Nat) : accS (joinN p q) x = true ↔ ∃ k, k ≤ x.length ∧ accS p (x.take k) = true ∧ accS q (x.drop k) = true := by
  obtain ⟨a, ha, -, hpm, -, hpf, -, hpe, -⟩ := nfaOk_facts hp
  obtain ⟨b, hb, -, hqm, -, hqf, -, hqe, -⟩ := nfaOk_facts hq
  rw [accS_pth hj]
  constructor
  · rintro ⟨f, hf, e, he, hw⟩
    obtain ⟨y, hy, rfl⟩ := List.mem_map.1 (show e ∈ q.ends.map (· + p.states) from he)
    have h1 := hpf f hf
    have h2 := hqe y hy
    obtain ⟨k, hk, g, hg, z, hz, h3, h4⟩ := (hw.cross ha hpm hqm hpe hqf (by omega)).1 (by omega)
    rw [show y + p.states - p.states = y by omega] at h4
    exact ⟨k, hk, (accS_pth hp _).2 ⟨f, hf, g, hg, h3⟩, (accS_pth hq _).2 ⟨z, hz, y, hy, h4⟩⟩
  · rintro ⟨k, hk, h1, h2⟩
    obtain ⟨f, hf, e, he, h3⟩ := (accS_pth hp _).1 h1
    obtain ⟨g, hg, d, hd, h4⟩ := (accS_pth hq _).1 h2
    refine ⟨f, hf, d + p.states, List.mem_map.2 ⟨d, hd, rfl⟩, ?_⟩
    have h5 : Pth (joinN p q).moves f (x.take k) e := h3.mono fun m hm => by simp only [joinN, List.mem_append]; exact .inl (.inl hm)
    have h6 : Pth (joinN p q).moves (g + p.states) (x.drop k) (d + p.states) := (h4.up p.states).mono fun m hm => by simp only [joinN, List.mem_append]; exact .inl (.inr hm)
    have h7 : Pth (joinN p q).moves e [] (g + p.states) := .eps (by
      simp only [joinN, List.mem_append, List.mem_flatMap, List.mem_map]
      exact .inr ⟨e, he, g + p.states, List.mem_map.2 ⟨g, hg, rfl⟩, rfl⟩) (.here _)
    have h8 := (h5.append h7).append h6
    rwa [List.append_nil, List.take_append_drop] at h8

/-- The automaton of the empty word. -/
def epsN : NfaD := ⟨1, [], [0], [0]⟩
theorem eps_ok : nfaOk epsN = true := by decide
theorem eps_acc (x : List Nat) : accS epsN x = true ↔ x = [] := by
  rw [accS_pth eps_ok]
  constructor
  · rintro ⟨f, hf, e, he, hw⟩
    cases hw with
    | here => rfl
    | eps h => cases h
    | step h => cases h
  · rintro rfl
    exact ⟨0, by simp [epsN], 0, by simp [epsN], .here _⟩
theorem join_eps {p : NfaD} (hp : nfaOk p = true) (hj : nfaOk (joinN p epsN) = true) (x : List Nat) : accS (joinN p epsN) x = accS p x := by
  rw [Bool.eq_iff_iff, join_acc hp eps_ok hj]
  constructor
  · rintro ⟨k, hk, h1, h2⟩
    rw [eps_acc, List.drop_eq_nil_iff] at h2
    rwa [List.take_of_length_le h2] at h1
  · intro h
    exact ⟨x.length, Nat.le_refl _, by rwa [List.take_length], by rw [eps_acc, List.drop_length]⟩
theorem eps_join {p : NfaD} (hp : nfaOk p = true) (hj : nfaOk (joinN epsN p) = true) (x : List Nat) : accS (joinN epsN p) x = accS p x := by
  rw [Bool.eq_iff_iff, join_acc eps_ok hp hj]
  constructor
  · rintro ⟨k, hk, h1, h2⟩
    rw [eps_acc, List.take_eq_nil_iff] at h1
    rcases h1 with rfl | rfl
    · rwa [List.drop_zero] at h2
    · rwa [List.drop_nil] at h2
  · intro h
    exact ⟨0, Nat.zero_le _, by rw [List.take_zero, eps_acc], by rwa [List.drop_zero]⟩
end Go.Proofs.Ytjcegbcmomfgaaa
