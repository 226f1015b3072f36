/-
  The language of an automaton with choices, plain: ways through it, and what joins, repeats, unites and turns languages.
  No condition: this text speaks of no program.
-/
import Derived.Test.YtfgpkadhegdffaaPk17Nd
namespace Go.Proofs.Ytfgpkadhegdffaa
open Go.RowKit
inductive Pth (ms : List (Int × Int × Int)) : Int → List Nat → Int → Prop
  | here (s : Int) : Pth ms s [] s
  | eps {s t u : Int} {w : List Nat} : (s, -1, t) ∈ ms → Pth ms t w u → Pth ms s w u
  | step {s t u : Int} {c : Nat} {w : List Nat} : (s, (c : Int), t) ∈ ms → Pth ms t w u → Pth ms s (c :: w) u
theorem Pth.append {ms : List (Int × Int × Int)} {s t u : Int} {x y : List Nat} (h : Pth ms s x t) (h' : Pth ms t y u) : Pth ms s (x ++ y) u := by
  induction h with
  | here s => exact h'
  | eps hm _ ih => exact .eps hm (ih h')
  | step hm _ ih => exact .step hm (ih h')
theorem Pth.mono {ms ns : List (Int × Int × Int)} (hs : ∀ m ∈ ms, m ∈ ns) {s t : Int} {x : List Nat} (h : Pth ms s x t) : Pth ns s x t := by
  induction h with
  | here s => exact .here s
  | eps hm _ ih => exact .eps (hs _ hm) ih
  | step hm _ ih => exact .step (hs _ hm) ih
theorem Pth.map {ms ns : List (Int × Int × Int)} (f : Int → Int) (hs : ∀ m ∈ ms, (f m.1, m.2.1, f m.2.2) ∈ ns ∨ (m.2.1 = -1 ∧ f m.1 = f m.2.2)) {s t : Int} {x : List Nat} (h : Pth ms s x t) : Pth ns (f s) x (f t) := by
  induction h with
  | here s => exact .here _
  | eps hm _ ih =>
    rcases hs _ hm with h | ⟨_, h⟩
    · exact .eps h ih
    · exact h ▸ ih
  | step hm _ ih =>
    rcases hs _ hm with h | ⟨h, _⟩
    · exact .step h ih
    · simp only at h; omega
theorem Pth.in {ms : List (Int × Int × Int)} {n : Nat} (hm : mvIn n ms) {s t : Int} {x : List Nat} (h : Pth ms s x t) (hs : 0 ≤ s ∧ s < (n : Int)) : 0 ≤ t ∧ t < (n : Int) := by
  induction h with
  | here s => exact hs
  | eps h _ ih => exact ih (hm _ h).2
  | step h _ ih => exact ih (hm _ h).2
def runS (n : NfaD) (cs : List Nat) : Nat := cs.foldl (fun v (c : Nat) => stV 40 n.moves v (c : Int)) (clV 40 n.moves (setV n.firsts))
def accS (n : NfaD) (cs : List Nat) : Bool := n.ends.any fun s => (runS n cs).testBit s.toNat
theorem nat_of (P : Nat → Prop) : ∀ n : Nat, ∃ u : Nat, ∀ t, u.testBit t = true ↔ t < n ∧ P t
  | 0 => ⟨0, fun t => by simp⟩
  | n + 1 => by
    obtain ⟨u, hu⟩ := nat_of P n
    by_cases hp : P n
    · refine ⟨adj u n, fun t => ?_⟩
      rw [has_adj, Bool.or_eq_true, hu, decide_eq_true_eq]
      constructor
      · rintro (⟨h1, h2⟩ | rfl)
        · exact ⟨by omega, h2⟩
        · exact ⟨by omega, hp⟩
      · rintro ⟨h1, h2⟩
        by_cases h : n = t
        · exact .inr h
        · exact .inl ⟨by omega, h2⟩
    · refine ⟨u, fun t => ?_⟩
      rw [hu]
      constructor
      · rintro ⟨h1, h2⟩
        exact ⟨by omega, h2⟩
      · rintro ⟨h1, h2⟩
        by_cases h : t = n
        · subst h; exact absurd h2 hp
        · exact ⟨by omega, h2⟩
theorem Pth.closed {ms : List (Int × Int × Int)} {u : Nat} (hu : closedV ms u) {s t : Int} {x : List Nat} (h : Pth ms s x t) (hx : x = []) (hs : u.testBit s.toNat = true) : u.testBit t.toNat = true := by
  induction h with
  | here s => exact hs
  | eps hm _ ih => exact ih hx (hu _ hm rfl hs)
  | step hm _ ih => cases hx
theorem clV_pth {ms : List (Int × Int × Int)} (hm : mvIn 40 ms) {v t : Nat} (hv : v < 2 ^ 40) : (clV 40 ms v).testBit t = true ↔ ∃ s : Nat, s < 40 ∧ v.testBit s = true ∧ Pth ms s [] t := by
  constructor
  · intro h
    obtain ⟨u, hu⟩ := nat_of (fun t => ∃ s : Nat, s < 40 ∧ v.testBit s = true ∧ Pth ms s [] t) 40
    have hc : closedV ms u := by
      intro m hmm he hf
      obtain ⟨h1, s, hs, hvs, hp⟩ := (hu _).1 hf
      have h2 := hm m hmm
      refine (hu _).2 ⟨by omega, s, hs, hvs, ?_⟩
      have e1 : ((m.1.toNat : Nat) : Int) = m.1 := by omega
      have e2 : ((m.2.2.toNat : Nat) : Int) = m.2.2 := by omega
      rw [e1] at hp
      rw [e2]
      refine hp.append (y := []) (.eps ?_ (.here _))
      rw [← he]
      exact hmm
    have hsub : subV v u := by
      intro s hs
      have : s < 40 := by
        by_cases h : s < 40
        · exact h
        · rw [Nat.testBit_lt_two_pow (Nat.lt_of_lt_of_le hv (Nat.pow_le_pow_right (by omega) (by omega)))] at hs
          cases hs
      exact (hu s).2 ⟨this, s, this, hs, .here _⟩
    exact ((hu t).1 (clV_in hc hsub t h)).2
  · rintro ⟨s, hs, hvs, hp⟩
    have := hp.closed (clV_closed hm v) rfl (by rw [Int.toNat_natCast]; exact clV_sub 40 ms v s hvs)
    rwa [Int.toNat_natCast] at this
theorem stFold_bit {c : Int} {v : Nat} : ∀ (l : List (Int × Int × Int)) (u t : Nat), (l.foldl (stMove v c) u).testBit t = true ↔ u.testBit t = true ∨ ∃ m ∈ l, m.2.1 = c ∧ v.testBit m.1.toNat = true ∧ m.2.2.toNat = t
  | [], u, t => by simp
  | m :: l, u, t => by
    rw [List.foldl_cons, stFold_bit l, stMove]
    split
    · rename_i h
      rw [Bool.and_eq_true, decide_eq_true_eq] at h
      rw [has_adj, Bool.or_eq_true, decide_eq_true_eq]
      constructor
      · rintro ((h1 | h1) | ⟨x, hx, h1⟩)
        · exact .inl h1
        · exact .inr ⟨m, by simp, h.1, h.2, h1⟩
        · exact .inr ⟨x, by simp [hx], h1⟩
      · rintro (h1 | ⟨x, hx, h1⟩)
        · exact .inl (.inl h1)
        · rcases List.mem_cons.1 hx with rfl | hx
          · exact .inl (.inr h1.2.2)
          · exact .inr ⟨x, hx, h1⟩
    · rename_i h
      rw [Bool.and_eq_true, decide_eq_true_eq] at h
      constructor
      · rintro (h1 | ⟨x, hx, h1⟩)
        · exact .inl h1
        · exact .inr ⟨x, by simp [hx], h1⟩
      · rintro (h1 | ⟨x, hx, h1⟩)
        · exact .inl h1
        · rcases List.mem_cons.1 hx with rfl | hx
          · exact absurd ⟨h1.1, h1.2.1⟩ h
          · exact .inr ⟨x, hx, h1⟩
theorem lt_of_bit {v s n : Nat} (hv : v < 2 ^ n) (hs : v.testBit s = true) : s < n := by
  by_cases h : s < n
  · exact h
  · rw [Nat.testBit_lt_two_pow (Nat.lt_of_lt_of_le hv (Nat.pow_le_pow_right (by omega) (by omega)))] at hs
    cases hs
theorem stV_pth {ms : List (Int × Int × Int)} (hm : mvIn 40 ms) {v t : Nat} (c : Nat) : (stV 40 ms v (c : Int)).testBit t = true ↔ ∃ x, x ∈ ms ∧ x.2.1 = (c : Int) ∧ v.testBit x.1.toNat = true ∧ Pth ms x.2.2 [] t := by
  have hlt : ms.foldl (stMove v c) 0 < 2 ^ 40 := foldl_inv _ (fun u => u < 2 ^ 40) (fun _ _ hx hu => stMove_lt hm hx hu) (by decide)
  unfold stV
  rw [clV_pth hm hlt]
  constructor
  · rintro ⟨s, hs, hb, hp⟩
    rw [stFold_bit] at hb
    rcases hb with hb | ⟨m, hmm, h1, h2, h3⟩
    · simp at hb
    · refine ⟨m, hmm, h1, h2, ?_⟩
      have e : m.2.2 = (s : Int) := by have := (hm m hmm).2; omega
      rw [e]
      exact hp
  · rintro ⟨x, hx, h1, h2, hp⟩
    have h4 := (hm x hx).2
    refine ⟨x.2.2.toNat, by omega, ?_, ?_⟩
    · rw [stFold_bit]
      exact .inr ⟨x, hx, h1, h2, rfl⟩
    · have e : ((x.2.2.toNat : Nat) : Int) = x.2.2 := by omega
      rw [e]
      exact hp
theorem Pth.split {ms : List (Int × Int × Int)} {s u : Int} {x : List Nat} (h : Pth ms s x u) : ∀ {c : Nat} {w : List Nat}, x = c :: w → ∃ m, m ∈ ms ∧ m.2.1 = (c : Int) ∧ Pth ms s [] m.1 ∧ Pth ms m.2.2 w u := by
  induction h with
  | here s => intro c w h; cases h
  | eps hm _ ih =>
    intro c w h
    obtain ⟨m, h1, h2, h3, h4⟩ := ih h
    exact ⟨m, h1, h2, .eps hm h3, h4⟩
  | step hm hp ih =>
    intro c w h
    injection h with h1 h2
    subst h1
    subst h2
    exact ⟨_, hm, rfl, .here _, hp⟩
theorem stV_closed {ms : List (Int × Int × Int)} (hm : mvIn 40 ms) (v : Nat) (c : Int) : closedV ms (stV 40 ms v c) := clV_closed hm _
theorem foldl_pth {ms : List (Int × Int × Int)} (hm : mvIn 40 ms) : ∀ (cs : List Nat) (V : Nat), V < 2 ^ 40 → closedV ms V → ∀ t, (cs.foldl (fun v (c : Nat) => stV 40 ms v (c : Int)) V).testBit t = true ↔ ∃ s : Nat, s < 40 ∧ V.testBit s = true ∧ Pth ms s cs t
  | [], V, hV, hc, t => by
    rw [List.foldl_nil]
    constructor
    · intro h
      exact ⟨t, lt_of_bit hV h, h, .here _⟩
    · rintro ⟨s, hs, h1, h2⟩
      have := h2.closed hc rfl (by rwa [Int.toNat_natCast])
      rwa [Int.toNat_natCast] at this
  | c :: cs, V, hV, hc, t => by
    rw [List.foldl_cons, foldl_pth hm cs _ (stV_lt hm V c) (stV_closed hm V c)]
    constructor
    · rintro ⟨s, hs, h1, h2⟩
      rw [stV_pth hm] at h1
      obtain ⟨x, hx, h3, h4, h5⟩ := h1
      have h6 := (hm x hx).1
      refine ⟨x.1.toNat, by omega, h4, ?_⟩
      have e : ((x.1.toNat : Nat) : Int) = x.1 := by omega
      rw [e]
      refine .step (t := x.2.2) ?_ (h5.append h2)
      rw [← h3]
      exact hx
    · rintro ⟨s, hs, h1, h2⟩
      obtain ⟨m, h3, h4, h5, h6⟩ := h2.split rfl
      have h7 := (hm m h3).2
      refine ⟨m.2.2.toNat, by omega, ?_, ?_⟩
      · rw [stV_pth hm]
        have := h5.closed hc rfl (by rwa [Int.toNat_natCast])
        refine ⟨m, h3, h4, this, ?_⟩
        have e : ((m.2.2.toNat : Nat) : Int) = m.2.2 := by omega
        rw [e]
        exact .here _
      · have e : ((m.2.2.toNat : Nat) : Int) = m.2.2 := by omega
        rw [e]
        exact h6
theorem accS_pth {n : NfaD} (hn : nfaOk n = true) (cs : List Nat) : accS n cs = true ↔ ∃ f ∈ n.firsts, ∃ e ∈ n.ends, Pth n.moves f cs e := by
  obtain ⟨m, hm, hm40, hmv, -, hf, -, he, -⟩ := nfaOk_facts hn
  have hm4 := mvIn_40 hmv hm40
  have hfi : inN 40 n.firsts := fun s hs => by have := hf s hs; omega
  have hlt : clV 40 n.moves (setV n.firsts) < 2 ^ 40 := clIt_lt hm4 (setV_lt hfi) 40
  have hrun := foldl_pth hm4 cs _ hlt (clV_closed hm4 (setV n.firsts))
  unfold accS runS
  rw [List.any_eq_true]
  constructor
  · rintro ⟨e, hee, hb⟩
    obtain ⟨s, hs, h1, h2⟩ := (hrun _).1 hb
    rw [clV_pth hm4 (setV_lt hfi)] at h1
    obtain ⟨r, hr, h3, h4⟩ := h1
    rw [setV_bit, List.any_eq_true] at h3
    obtain ⟨f, hff, h5⟩ := h3
    have h5 := of_decide_eq_true h5
    have h6 := hf f hff
    have h7 := he e hee
    refine ⟨f, hff, e, hee, ?_⟩
    have e1 : (r : Int) = f := by omega
    have e2 : ((e.toNat : Nat) : Int) = e := by omega
    rw [e1] at h4
    rw [e2] at h2
    exact h4.append h2
  · rintro ⟨f, hff, e, hee, hp⟩
    have h6 := hf f hff
    have h7 := he e hee
    refine ⟨e, hee, (hrun _).2 ⟨f.toNat, by omega, ?_, ?_⟩⟩
    · exact clV_sub 40 n.moves _ _ (setV_mem hff)
    · have e1 : ((f.toNat : Nat) : Int) = f := by omega
      have e2 : ((e.toNat : Nat) : Int) = e := by omega
      rw [e1, e2]
      exact hp
theorem Pth.up {ms : List (Int × Int × Int)} (d : Int) {s t : Int} {x : List Nat} (h : Pth ms s x t) : Pth (ms.map (shM d)) (s + d) x (t + d) :=
  h.map (· + d) fun m hm => .inl (List.mem_map.2 ⟨m, hm, rfl⟩)
theorem Pth.cross {p q : NfaD} {a b : Nat} (ha : p.states = (a : Int)) (hpm : mvIn a p.moves) (hqm : mvIn b q.moves) (hpe : inN a p.ends) (hqf : inN b q.firsts) {s t : Int} {x : List Nat} (h : Pth (joinN p q).moves s x t) (ht : p.states ≤ t) : (s < p.states → ∃ k, k ≤ x.length ∧ ∃ e ∈ p.ends, ∃ f ∈ q.firsts, Pth p.moves s (x.take k) e ∧ Pth q.moves f (x.drop k) (t - p.states)) ∧ (p.states ≤ s → Pth q.moves (s - p.states) x (t - p.states)) := by
  induction h with
  | here s => exact ⟨fun h => by omega, fun _ => .here _⟩
  | @eps s' t' u w hm _ ih =>
    obtain ⟨i1, i2⟩ := ih ht
    rcases List.mem_append.1 hm with hm | hm
    · rcases List.mem_append.1 hm with hm | hm
      · have h1 := hpm _ hm
        simp only at h1
        refine ⟨fun h => ?_, fun h => by omega⟩
        obtain ⟨k, hk, e, he, f, hf, h2, h3⟩ := i1 (by omega)
        exact ⟨k, hk, e, he, f, hf, .eps hm h2, h3⟩
      · obtain ⟨y, hy, e⟩ := List.mem_map.1 (show _ ∈ q.moves.map (shM p.states) from hm)
        have h1 := hqm _ hy
        injection e with e1 e2
        injection e2 with e2 e3
        refine ⟨fun h => by omega, fun h => .eps (t := t' - p.states) ?_ (i2 (by omega))⟩
        rw [← e1, ← e3, show y.1 + p.states - p.states = y.1 by omega, show y.2.2 + p.states - p.states = y.2.2 by omega, ← e2]
        exact hy
    · obtain ⟨y, hy, e⟩ := List.mem_flatMap.1 hm
      obtain ⟨z, hz, e⟩ := List.mem_map.1 e
      obtain ⟨z, hz', rfl⟩ := List.mem_map.1 (show z ∈ q.firsts.map (· + p.states) from hz)
      injection e with e1 e2
      injection e2 with e2 e3
      have h1 := hpe y hy
      have h2 := hqf z hz'
      refine ⟨fun h => ⟨0, Nat.zero_le _, y, hy, z, hz', ?_, ?_⟩, fun h => by omega⟩
      · rw [e1]
        exact .here _
      · have := i2 (by omega)
        rw [← e3, show z + p.states - p.states = z by omega] at this
        exact this
  | @step s' t' u c w hm _ ih =>
    obtain ⟨i1, i2⟩ := ih ht
    rcases List.mem_append.1 hm with hm | hm
    · rcases List.mem_append.1 hm with hm | hm
      · have h1 := hpm _ hm
        simp only at h1
        refine ⟨fun h => ?_, fun h => by omega⟩
        obtain ⟨k, hk, e, he, f, hf, h2, h3⟩ := i1 (by omega)
        exact ⟨k + 1, by simp only [List.length_cons]; omega, e, he, f, hf, .step hm h2, h3⟩
      · obtain ⟨y, hy, e⟩ := List.mem_map.1 (show _ ∈ q.moves.map (shM p.states) from hm)
        have h1 := hqm _ hy
        injection e with e1 e2
        injection e2 with e2 e3
        refine ⟨fun h => by omega, fun h => .step (t := t' - p.states) ?_ (i2 (by omega))⟩
        rw [← e1, ← e3, show y.1 + p.states - p.states = y.1 by omega, show y.2.2 + p.states - p.states = y.2.2 by omega, ← e2]
        exact hy
    · obtain ⟨y, hy, e⟩ := List.mem_flatMap.1 hm
      obtain ⟨z, hz, e⟩ := List.mem_map.1 e
      injection e with e1 e2
      injection e2 with e2 e3
      omega
end Go.Proofs.Ytfgpkadhegdffaa
namespace Go.Proofs.Ytfgpkadhegdffaa
open Go.RowKit
theorem det_okK {K : Nat} {n : NfaD} {D : DfaD} (h : detK K n = some D) : nfaOk n = true ∧ (metS n K).length ≤ K ∧ D = numDfa (nxS n) (enS n) (metS n K) := by
  unfold detK at h
  split at h
  · rename_i h1
    exact ⟨h1.1, h1.2, (Option.some.inj h).symm⟩
  · cases h
theorem foldl_nxS {n : NfaD} : ∀ (w : List Nat) (v : Nat), w.foldl (nxS n) (((v : Nat) : Int), 0) = (((w.foldl (fun v (c : Nat) => stV 40 n.moves v (c : Int)) v : Nat) : Int), 0)
  | [], _ => rfl
  | c :: w, v => by
    rw [List.foldl_cons, List.foldl_cons, ← foldl_nxS w]
    rfl
theorem det_accK {K : Nat} {n : NfaD} {D : DfaD} (h : detK K n = some D) {w : List Nat} (hw : isW w) : accD D w = accS n w := by
  obtain ⟨-, h2, rfl⟩ := det_okK h
  rw [accD_num h2 hw, foldl_nxS]
  rfl
end Go.Proofs.Ytfgpkadhegdffaa
namespace Go.Proofs.Ytfgpkadhegdffaa
open Go.RowKit
theorem stOk_ofP {l : List Int} {m : Int} (h : ∀ j, j < l.length → (0 ≤ l.getD j 0 ∧ l.getD j 0 ≤ m - 1) ∧ (0 < j → l.getD (j - 1) 0 < l.getD j 0)) : stOk l m = true := by
  unfold stOk
  rw [List.all_eq_true]
  intro j hj
  obtain ⟨h1, h2⟩ := h j (List.mem_range.1 hj)
  unfold okAt
  rw [Bool.and_eq_true, Bool.or_eq_true]
  refine ⟨by simp only [inB, Bool.and_eq_true, decide_eq_true_eq]; exact h1, ?_⟩
  by_cases h0 : j = 0
  · exact .inl (decide_eq_true h0)
  · exact .inr (decide_eq_true (h2 (by omega)))
theorem bit_two {s t : Nat} : (2 ^ s).testBit t = decide (s = t) := by
  rw [Nat.testBit_two_pow]
theorem mvs_mem {d : DfaD} : ∀ {k : Nat} {m : Int × Int × Int}, m ∈ mvs d k ↔ ∃ s c : Nat, s < k ∧ c < 3 ∧ m = ((s : Int), (c : Int), (d.next.getD s []).getD c 0)
  | 0, m => by simp [mvs]
  | k + 1, m => by
    rw [show mvs d (k + 1) = mvs d k ++ rowM d k from rfl, List.mem_append, mvs_mem]
    constructor
    · rintro (⟨s, c, h1, h2, h3⟩ | h)
      · exact ⟨s, c, by omega, h2, h3⟩
      · obtain ⟨c, hc, rfl⟩ := List.mem_map.1 h
        exact ⟨k, c, by omega, List.mem_range.1 hc, rfl⟩
    · rintro ⟨s, c, h1, h2, h3⟩
      by_cases h : s = k
      · subst h
        exact .inr (List.mem_map.2 ⟨c, List.mem_range.2 h2, h3.symm⟩)
      · exact .inl ⟨s, c, by omega, h2, h3⟩
theorem nfaOf_closed {d : DfaD} (k u : Nat) : closedV (mvs d k) u := by
  intro m hm he
  obtain ⟨s, c, -, -, rfl⟩ := mvs_mem.1 hm
  simp only at he
  omega
theorem bit_ext {a b : Nat} (h : ∀ t, a.testBit t = true ↔ b.testBit t = true) : a = b := by
  apply Nat.eq_of_testBit_eq
  intro t
  rw [Bool.eq_iff_iff]
  exact h t
theorem stV_one {d : DfaD} (hd : dfaOk d.next d.ends = true) {s c : Nat} (hs : s < d.next.length) (hc : c < 3) : ∃ q : Nat, q < d.next.length ∧ stV 40 (mvs d d.next.length) (2 ^ s) (c : Int) = 2 ^ q := by
  have hr := (dfaOk_row hd hs).2 c hc
  obtain ⟨q, hq⟩ := Int.eq_ofNat_of_zero_le hr.1
  refine ⟨q, by omega, ?_⟩
  unfold stV
  rw [clV_idem (nfaOf_closed _ _)]
  apply bit_ext
  intro t
  rw [stFold_bit, bit_two, decide_eq_true_eq]
  constructor
  · rintro (h | ⟨m, hm, h1, h2, h3⟩)
    · simp at h
    · obtain ⟨s', c', h4, h5, rfl⟩ := mvs_mem.1 hm
      rw [bit_two, decide_eq_true_eq] at h2
      simp only [Int.toNat_natCast] at h2
      subst h2
      have : c' = c := by simp only at h1; omega
      subst this
      simp only [hq] at h3
      omega
  · rintro rfl
    right
    refine ⟨_, mvs_mem.2 ⟨s, c, hs, hc, rfl⟩, rfl, ?_, ?_⟩
    · rw [bit_two]
      simp
    · simp only [hq]
      omega
theorem met_one {d : DfaD} (hd : dfaOk d.next d.ends = true) (K : Nat) : (metS (nfaOf d) K).length ≤ d.next.length := by
  have hl := dfaOk_len hd
  have hf : fstV (nfaOf d) = 2 ^ 0 := by
    unfold fstV
    rw [show (nfaOf d).moves = mvs d d.next.length from rfl, clV_idem (nfaOf_closed _ _)]
    rfl
  have hall : ∀ x ∈ metS (nfaOf d) K, ∃ s : Nat, s < d.next.length ∧ x = (((2 ^ s : Nat) : Int), 0) := by
    refine bat_all (Q := fun x => ∃ s : Nat, s < d.next.length ∧ x = (((2 ^ s : Nat) : Int), 0)) ⟨0, by omega, by rw [hf]⟩ ?_ K
    rintro x c hc ⟨s, hs, rfl⟩
    obtain ⟨q, hq, h⟩ := stV_one hd hs hc
    refine ⟨q, hq, ?_⟩
    unfold nxS
    rw [show (nfaOf d).moves = mvs d d.next.length from rfl]
    simp only [Int.toNat_natCast]
    rw [h]
  have := nodup_le (bat_good (nx := nxS (nfaOf d)) (a := (((fstV (nfaOf d) : Nat) : Int), 0)) K).1 (m := (List.range d.next.length).map fun s => (((2 ^ s : Nat) : Int), (0 : Int))) fun x hx => by
    obtain ⟨s, hs, rfl⟩ := hall x hx
    exact List.mem_map.2 ⟨s, List.mem_range.2 hs, rfl⟩
  simpa using this
theorem eds_pair (d : DfaD) : ∀ k, (eds d k).Pairwise (· < ·)
  | 0 => List.Pairwise.nil
  | k + 1 => by
    unfold eds
    split
    · rw [List.pairwise_append]
      refine ⟨eds_pair d k, List.pairwise_singleton _ _, fun x hx y hy => ?_⟩
      rw [List.mem_singleton.1 hy]
      exact (eds_in d k x hx).2
    · exact eds_pair d k
theorem nfaOf_ok {d : DfaD} (hd : dfaOk d.next d.ends = true) : nfaOk (nfaOf d) = true := by
  have hl := dfaOk_len hd
  unfold nfaOk
  simp only [Bool.and_eq_true, decide_eq_true_eq]
  refine ⟨⟨⟨⟨?_, ?_⟩, ?_⟩, ?_⟩, ?_⟩
  · show inB (d.next.length : Int) 0 40 = true
    simp only [inB, Bool.and_eq_true, decide_eq_true_eq]
    exact ⟨by omega, by omega⟩
  · show (mvs d d.next.length).length ≤ 400
    rw [mvs_len]
    omega
  · refine stOk_ofP fun j hj => ?_
    have hj : j < 1 := hj
    obtain rfl : j = 0 := by omega
    refine ⟨?_, fun h => by omega⟩
    simp only [nfaOf, List.getD_cons_zero]
    omega
  · refine stOk_ofP fun j hj => ?_
    have hj : j < (eds d d.next.length).length := hj
    have h1 := eds_in d _ _ (memD (d := (0 : Int)) hj)
    refine ⟨?_, fun h => ?_⟩
    · show 0 ≤ (eds d d.next.length).getD j 0 ∧ (eds d d.next.length).getD j 0 ≤ (d.next.length : Int) - 1
      omega
    · have := List.pairwise_iff_getElem.1 (eds_pair d d.next.length) (j - 1) j (by omega) hj (by omega)
      show (eds d d.next.length).getD (j - 1) 0 < (eds d d.next.length).getD j 0
      rw [getD_at (by omega), getD_at hj]
      exact this
  · rw [List.all_eq_true]
    intro m hm
    obtain ⟨s, c, h1, h2, rfl⟩ := mvs_mem.1 (show m ∈ mvs d d.next.length from hm)
    have hr := (dfaOk_row hd h1).2 c h2
    show mvOk (d.next.length : Int) _ = true
    simp only [mvOk, inB, Bool.and_eq_true, decide_eq_true_eq]
    exact ⟨⟨⟨by omega, by omega⟩, by omega, by omega⟩, by omega, by omega⟩
end Go.Proofs.Ytfgpkadhegdffaa
namespace Go.Proofs.Ytfgpkadhegdffaa
open Go.RowKit
theorem runD_nil (d : DfaD) (s : Int) : runD d s [] = s := rfl
theorem runD_cons (d : DfaD) (s : Int) (c : Nat) (w : List Nat) : runD d s (c :: w) = runD d (dnx d s c) w := rfl
theorem runD_app (d : DfaD) (s : Int) (u w : List Nat) : runD d s (u ++ w) = runD d (runD d s u) w := by simp [runD]
theorem isW_cons {c : Nat} {w : List Nat} (h : isW (c :: w)) : c < 3 ∧ isW w := ⟨h c (by simp), fun b hb => h b (by simp [hb])⟩
theorem isW_nil : isW [] := fun c hc => by simp at hc
theorem isW_mk {c : Nat} {w : List Nat} (hc : c < 3) (h : isW w) : isW (c :: w) := fun b hb => by
  rcases List.mem_cons.1 hb with rfl | hb
  · exact hc
  · exact h b hb
theorem fine_nx {d : DfaD} (hd : fine d) {s c : Nat} (hs : s < d.next.length) (hc : c < 3) : nxD d s c < d.next.length ∧ dnx d (s : Int) c = ((nxD d s c : Nat) : Int) := nxD_lt hd hs hc
theorem runD_nat {d : DfaD} (hd : fine d) : ∀ (w : List Nat) {s : Nat}, isW w → s < d.next.length → ∃ t : Nat, t < d.next.length ∧ runD d (s : Int) w = (t : Int)
  | [], s, _, hs => ⟨s, hs, rfl⟩
  | c :: w, s, hw, hs => by
    obtain ⟨h1, h2⟩ := isW_cons hw
    obtain ⟨h3, h4⟩ := fine_nx hd hs h1
    rw [runD_cons, h4]
    exact runD_nat hd w h2 h3
theorem den_nat (d : DfaD) (s : Nat) : den d (s : Int) = enD d s := by simp [den, enD]
theorem cl_run {d : DfaD} (hd : fine d) : ∀ (w : List Nat) {s t : Nat}, isW w → s < d.next.length → t < d.next.length → clD d s = clD d t → den d (runD d (s : Int) w) = den d (runD d (t : Int) w)
  | [], s, t, _, hs, ht, h => by
    rw [runD_nil, runD_nil, den_nat, den_nat]
    exact clEnd_ends hs ht h
  | c :: w, s, t, hw, hs, ht, h => by
    obtain ⟨h1, h2⟩ := isW_cons hw
    obtain ⟨h3, h4⟩ := fine_nx hd hs h1
    obtain ⟨h5, h6⟩ := fine_nx hd ht h1
    rw [runD_cons, runD_cons, h4, h6]
    exact cl_run hd w h2 h3 h5 (clEnd_eq (fun s c hs hc => (fine_nx hd hs hc).1) hs ht h c h1)
theorem run_clAt {d : DfaD} (hd : fine d) : ∀ (i : Nat) {s t : Nat}, s < d.next.length → t < d.next.length → (∀ w, isW w → den d (runD d (s : Int) w) = den d (runD d (t : Int) w)) → clAt d.next.length (nxD d) (enD d) i s = clAt d.next.length (nxD d) (enD d) i t
  | 0, s, t, hs, ht, h => by
    refine (cl0_eq hs ht).2 ?_
    have := h [] isW_nil
    rwa [runD_nil, runD_nil, den_nat, den_nat] at this
  | i + 1, s, t, hs, ht, h => by
    refine (refine_eq hs ht).2 ((sameAt_iff _).2 ⟨run_clAt hd i hs ht h, fun c hc => ?_⟩)
    obtain ⟨h3, h4⟩ := fine_nx hd hs hc
    obtain ⟨h5, h6⟩ := fine_nx hd ht hc
    refine run_clAt hd i h3 h5 fun w hw => ?_
    have := h (c :: w) (isW_mk hc hw)
    rwa [runD_cons, runD_cons, h4, h6] at this
theorem run_cl {d : DfaD} (hd : fine d) {s t : Nat} (hs : s < d.next.length) (ht : t < d.next.length) (h : ∀ w, isW w → den d (runD d (s : Int) w) = den d (runD d (t : Int) w)) : clD d s = clD d t := run_clAt hd _ hs ht h
theorem clD_lt {d : DfaD} {s : Nat} (hs : s < d.next.length) : clD d s < d.next.length := by have := (clD_le (d := d) s hs).1; omega
theorem cl_self {d : DfaD} (hd : fine d) {s : Nat} (hs : s < d.next.length) {w : List Nat} (hw : isW w) : den d (runD d ((clD d s : Nat) : Int) w) = den d (runD d (s : Int) w) :=
  cl_run hd w hw (clD_lt hs) hs (clD_le s hs).2
theorem metM_facts {d : DfaD} (hf : fine d) (K : Nat) : (∀ x ∈ (bat (nxM d) ((clD d 0 : Nat) : Int) K).met, ∃ s : Nat, x = (s : Int) ∧ s < d.next.length ∧ clD d s = s) ∧ (bat (nxM d) ((clD d 0 : Nat) : Int) K).met.length ≤ d.next.length := by
  have hl : 1 ≤ d.next.length := hf.1
  have h1 : ∀ x ∈ (bat (nxM d) ((clD d 0 : Nat) : Int) K).met, ∃ s : Nat, x = (s : Int) ∧ s < d.next.length ∧ clD d s = s := by
    refine bat_all (Q := fun x => ∃ s : Nat, x = (s : Int) ∧ s < d.next.length ∧ clD d s = s) ?_ (fun x c hc hx => ?_) K
    · exact ⟨clD d 0, rfl, clD_lt (by omega), (clD_le 0 (by omega)).2⟩
    · obtain ⟨s, rfl, hs, -⟩ := hx
      have h2 := (nxD_lt hf hs hc).1
      exact ⟨clD d (nxD d s c), by simp [nxM], clD_lt h2, (clD_le _ h2).2⟩
  refine ⟨h1, ?_⟩
  have h2 := nodup_le (bat_good (nx := nxM d) (a := ((clD d 0 : Nat) : Int)) K).1 (m := upInts d.next.length) (fun x hx => by
    obtain ⟨s, rfl, hs, -⟩ := h1 x hx
    rw [mem_upInts]
    exact hs)
  rw [upInts_len] at h2
  exact h2
theorem minD_at {d : DfaD} (hd : fine d) {K : Nat} (hK : d.next.length ≤ K) : minD d = numDfa (nxM d) (den d) (bat (nxM d) ((clD d 0 : Nat) : Int) K).met := by
  unfold minD
  rw [bat_done (metM_facts hd _).2 hK]
theorem fine_min {d : DfaD} (hd : fine d) : fine (minD d) := fine_num (metM_facts hd _).2 hd.2.1
theorem foldl_nxM {d : DfaD} (hd : fine d) : ∀ (w : List Nat) {s : Nat}, isW w → s < d.next.length → ∃ t : Nat, t < d.next.length ∧ w.foldl (nxM d) ((clD d s : Nat) : Int) = ((clD d t : Nat) : Int) ∧ runD d (s : Int) w = (t : Int)
  | [], s, _, hs => ⟨s, hs, rfl, rfl⟩
  | c :: w, s, hw, hs => by
    obtain ⟨h1, h2⟩ := isW_cons hw
    obtain ⟨h3, h4⟩ := fine_nx hd hs h1
    obtain ⟨t, ht, e1, e2⟩ := foldl_nxM hd w h2 h3
    refine ⟨t, ht, ?_, by rw [runD_cons, h4]; exact e2⟩
    have e3 : nxM d ((clD d s : Nat) : Int) c = ((clD d (nxD d s c) : Nat) : Int) := by
      unfold nxM
      rw [Int.toNat_natCast]
      congr 1
      exact clEnd_eq (fun s c hs hc => (fine_nx hd hs hc).1) (clD_lt hs) hs (clD_le s hs).2 c h1
    rw [List.foldl_cons, e3]
    exact e1
theorem min_acc {d : DfaD} (hd : fine d) {w : List Nat} (hw : isW w) : accD (minD d) w = accD d w := by
  unfold minD
  rw [accD_num (metM_facts hd _).2 hw]
  obtain ⟨t, ht, e1, e2⟩ := foldl_nxM hd w hw (show 0 < d.next.length from hd.1)
  rw [e1, den_nat]
  unfold accD
  rw [show (0 : Int) = ((0 : Nat) : Int) from rfl, e2, den_nat]
  exact clEnd_ends (clD_lt ht) ht (clD_le t ht).2
theorem trim_acc {d : DfaD} (hd : fine d) {w : List Nat} (hw : isW w) : accD (trimD d) w = accD d w := by
  unfold trimD
  rw [accD_num (met_facts hd _).2 hw]
  rfl
theorem min_canon {x y : DfaD} (hx : fine x) (hy : fine y) (h : ∀ w, isW w → accD x w = accD y w) : minD x = minD y := by
  obtain ⟨K, hK⟩ : ∃ K, K = x.next.length + y.next.length := ⟨_, rfl⟩
  rw [minD_at hx (show x.next.length ≤ K by omega), minD_at hy (show y.next.length ≤ K by omega)]
  have lx : 0 < x.next.length := hx.1
  have ly : 0 < y.next.length := hy.1
  let nq : Int × Int → Nat → Int × Int := fun p c => (nxM x p.1 c, nxM y p.2 c)
  let Q : Int × Int → Prop := fun p => ∃ s t : Nat, p = ((s : Int), (t : Int)) ∧ s < x.next.length ∧ t < y.next.length ∧ clD x s = s ∧ clD y t = t ∧ ∀ w, isW w → den x (runD x (s : Int) w) = den y (runD y (t : Int) w)
  let a : Int × Int := (((clD x 0 : Nat) : Int), ((clD y 0 : Nat) : Int))
  have h0 : Q a := ⟨clD x 0, clD y 0, rfl, clD_lt lx, clD_lt ly, (clD_le 0 lx).2, (clD_le 0 ly).2, fun w hw => by
    rw [cl_self hx lx hw, cl_self hy ly hw]
    exact h w hw⟩
  have hv : ∀ p c, c < 3 → Q p → Q (nq p c) := by
    rintro p c hc ⟨s, t, rfl, hs, ht, -, -, hr⟩
    obtain ⟨h3, h4⟩ := fine_nx hx hs hc
    obtain ⟨h5, h6⟩ := fine_nx hy ht hc
    refine ⟨clD x (nxD x s c), clD y (nxD y t c), by simp [nq, nxM], clD_lt h3, clD_lt h5, (clD_le _ h3).2, (clD_le _ h5).2, fun w hw => ?_⟩
    rw [cl_self hx h3 hw, cl_self hy h5 hw]
    have := hr (c :: w) (isW_mk hc hw)
    rwa [runD_cons, runD_cons, h4, h6] at this
  have f1 : ∀ p q, Q p → Q q → p.1 = q.1 → p = q := by
    rintro p q ⟨s, t, rfl, hs, ht, -, e1, r1⟩ ⟨s', t', rfl, hs', ht', -, e2, r2⟩ he
    simp only [Int.ofNat_inj] at he
    subst he
    have := run_cl hy ht ht' fun w hw => (r1 w hw).symm.trans (r2 w hw)
    rw [e1, e2] at this
    rw [this]
  have f2 : ∀ p q, Q p → Q q → p.2 = q.2 → p = q := by
    rintro p q ⟨s, t, rfl, hs, ht, e1, -, r1⟩ ⟨s', t', rfl, hs', ht', e2, -, r2⟩ he
    simp only [Int.ofNat_inj] at he
    subst he
    have := run_cl hx hs hs' fun w hw => (r1 w hw).trans (r2 w hw).symm
    rw [e1, e2] at this
    rw [this]
  have m1 := numDfa_mapQ (nx := nq) (nx' := nxM x) (a := a) (f := Prod.fst) (Q := Q) (en := fun p => den x p.1) (en' := den x) (K := K) h0 hv f1 (fun _ _ _ _ => rfl) (fun _ _ => rfl)
  have m2 := numDfa_mapQ (nx := nq) (nx' := nxM y) (a := a) (f := Prod.snd) (Q := Q) (en := fun p => den x p.1) (en' := den y) (K := K) h0 hv f2 (fun _ _ _ _ => rfl) (fun p hp => by
    obtain ⟨s, t, rfl, -, -, -, -, r⟩ := hp
    exact (r [] isW_nil).symm)
  exact m1.trans m2.symm
theorem min_min {d : DfaD} (hd : fine d) : minD (minD d) = minD d := min_canon (fine_min hd) hd fun _ hw => min_acc hd hw
theorem min_self {d : DfaD} (hd : fine d) (ht : trimD d = d) (hr : ∀ s t : Nat, s < d.next.length → t < d.next.length → (∀ w, isW w → den d (runD d (s : Int) w) = den d (runD d (t : Int) w)) → s = t) : minD d = d := by
  have hc : ∀ s, s < d.next.length → clD d s = s := fun s hs => hr _ _ (clD_lt hs) hs fun w hw => cl_self hd hs hw
  have h0 : 0 < d.next.length := hd.1
  have hb := bat_congr (nx := dnx d) (nx' := nxM d) (a := (0 : Int)) (Q := fun x => ∃ s : Nat, x = (s : Int) ∧ s < d.next.length) ⟨0, rfl, h0⟩ (by
    rintro x c hc ⟨s, rfl, hs⟩
    obtain ⟨h3, h4⟩ := fine_nx hd hs hc
    exact ⟨_, h4, h3⟩) (by
    rintro x c hc' ⟨s, rfl, hs⟩
    obtain ⟨h3, h4⟩ := fine_nx hd hs hc'
    unfold nxM
    rw [Int.toNat_natCast, hc _ h3, h4]) d.next.length
  refine Eq.trans ?_ ht
  unfold minD trimD
  rw [hc 0 h0, show ((0 : Nat) : Int) = 0 from rfl, ← hb]
  unfold numDfa
  congr 1
  refine List.map_congr_left fun x hx => ?_
  unfold numRow
  refine List.map_congr_left fun c hc' => ?_
  obtain ⟨h1, -⟩ := met_facts hd d.next.length
  obtain ⟨g1, g2⟩ := h1 x hx
  obtain ⟨s, rfl⟩ := Int.eq_ofNat_of_zero_le g1
  obtain ⟨h3, h4⟩ := fine_nx hd (show s < d.next.length by omega) (List.mem_range.1 hc')
  unfold nxM
  rw [Int.toNat_natCast, hc _ h3, h4]
theorem num_residual {α : Type} [DecidableEq α] {nx : α → Nat → α} {a : α} {en : α → Bool} {K : Nat} (hK : (bat nx a K).met.length ≤ K) {i : Nat} (hi : i < (bat nx a K).met.length) {w : List Nat} (hw : isW w) :
    den (numDfa nx en (bat nx a K).met) (runD (numDfa nx en (bat nx a K).met) (i : Int) w) = en (w.foldl nx ((bat nx a K).met.getD i a)) := by
  obtain ⟨h1, h2⟩ := run_num (en := en) hK w hw _ (memD (d := a) hi)
  rw [idx_getD hi (bat_good K).1] at h2
  rw [h2, den_num (placeOf_lt h1)]
  congr 1
  exact List.getElem_idxOf _
theorem min_reduced {d : DfaD} (hd : fine d) {s t : Nat} (hs : s < (minD d).next.length) (ht : t < (minD d).next.length) (h : ∀ w, isW w → den (minD d) (runD (minD d) (s : Int) w) = den (minD d) (runD (minD d) (t : Int) w)) : s = t := by
  have hK := (metM_facts hd d.next.length).2
  have hin := (metM_facts hd d.next.length).1
  have hl : (minD d).next.length = (bat (nxM d) ((clD d 0 : Nat) : Int) d.next.length).met.length := numDfa_len _ _ _
  rw [hl] at hs ht
  have h1 := hin _ (memD (d := ((clD d 0 : Nat) : Int)) hs)
  have h2 := hin _ (memD (d := ((clD d 0 : Nat) : Int)) ht)
  obtain ⟨p, hp, hpl, hpc⟩ := h1
  obtain ⟨q, hq, hql, hqc⟩ := h2
  have key : p = q := by
    rw [← hpc, ← hqc]
    refine run_cl hd hpl hql fun w hw => ?_
    have h3 := h w hw
    unfold minD at h3
    rw [num_residual hK hs hw, num_residual hK ht hw, hp, hq] at h3
    have e := fun (r : Nat) (hr : r < d.next.length) (hc : clD d r = r) => foldl_nxM hd w hw hr
    obtain ⟨u, hu, u1, u2⟩ := e p hpl hpc
    obtain ⟨v, hv, v1, v2⟩ := e q hql hqc
    rw [hpc] at u1
    rw [hqc] at v1
    rw [u1, v1, den_nat, den_nat] at h3
    rw [u2, v2, den_nat, den_nat, ← clEnd_ends (clD_lt hu) hu (clD_le u hu).2, h3]
    exact clEnd_ends (clD_lt hv) hv (clD_le v hv).2
  have e1 := idx_getD hs (bat_good (nx := nxM d) (a := ((clD d 0 : Nat) : Int)) d.next.length).1 ((clD d 0 : Nat) : Int)
  have e2 := idx_getD ht (bat_good (nx := nxM d) (a := ((clD d 0 : Nat) : Int)) d.next.length).1 ((clD d 0 : Nat) : Int)
  rw [hp] at e1
  rw [hq, ← key] at e2
  exact e1.symm.trans e2
theorem min_trim {d : DfaD} (hd : fine d) : trimD (minD d) = minD d := trim_num (metM_facts hd _).2
theorem stV_nx {d : DfaD} (hd : dfaOk d.next d.ends = true) {s c : Nat} (hs : s < d.next.length) (hc : c < 3) : stV 40 (mvs d d.next.length) (2 ^ s) (c : Int) = 2 ^ nxD d s c := by
  have hr := (dfaOk_row hd hs).2 c hc
  unfold stV
  rw [clV_idem (nfaOf_closed _ _)]
  apply bit_ext
  intro t
  rw [stFold_bit, bit_two, decide_eq_true_eq]
  constructor
  · rintro (h | ⟨m, hm, h1, h2, h3⟩)
    · simp at h
    · obtain ⟨s', c', h4, h5, rfl⟩ := mvs_mem.1 hm
      rw [bit_two, decide_eq_true_eq] at h2
      simp only [Int.toNat_natCast] at h2
      subst h2
      have : c' = c := by simp only at h1; omega
      subst this
      exact h3
  · rintro rfl
    right
    refine ⟨_, mvs_mem.2 ⟨s, c, hs, hc, rfl⟩, rfl, ?_, rfl⟩
    rw [bit_two]
    simp
theorem fst_nfaOf (d : DfaD) : fstV (nfaOf d) = 2 ^ 0 := by
  unfold fstV
  rw [show (nfaOf d).moves = mvs d d.next.length from rfl, clV_idem (nfaOf_closed _ _)]
  rfl
theorem eds_mem {d : DfaD} : ∀ {k : Nat} {x : Int}, x ∈ eds d k ↔ ∃ s : Nat, x = (s : Int) ∧ s < k ∧ enD d s = true
  | 0, x => by simp [eds]
  | k + 1, x => by
    have ih := eds_mem (d := d) (k := k) (x := x)
    unfold eds
    by_cases h : d.ends.getD k false = true
    · rw [if_pos h, List.mem_append, ih, List.mem_singleton]
      constructor
      · rintro (⟨s, h1, h2, h3⟩ | rfl)
        · exact ⟨s, h1, by omega, h3⟩
        · exact ⟨k, rfl, by omega, h⟩
      · rintro ⟨s, h1, h2, h3⟩
        by_cases hk : s = k
        · subst hk; exact .inr h1
        · exact .inl ⟨s, h1, by omega, h3⟩
    · rw [if_neg h, ih]
      constructor
      · rintro ⟨s, h1, h2, h3⟩
        exact ⟨s, h1, by omega, h3⟩
      · rintro ⟨s, h1, h2, h3⟩
        by_cases hk : s = k
        · subst hk; exact absurd h3 h
        · exact ⟨s, h1, by omega, h3⟩
theorem det_nfaOf {d : DfaD} (hd : dfaOk d.next d.ends = true) {K : Nat} (hK : d.next.length ≤ K) : detK K (nfaOf d) = some (trimD d) := by
  have hl := dfaOk_len hd
  have hf := fine_of hd
  unfold detK
  rw [if_pos ⟨nfaOf_ok hd, Nat.le_trans (met_one hd K) hK⟩]
  congr 1
  let f : Int → Int × Int := fun x => (((2 ^ x.toNat : Nat) : Int), 0)
  let Q : Int → Prop := fun x => ∃ s : Nat, x = (s : Int) ∧ s < d.next.length
  have hm := numDfa_mapQ (nx := dnx d) (nx' := nxS (nfaOf d)) (a := (0 : Int)) (f := f) (Q := Q) (en := den d) (en' := enS (nfaOf d)) (K := K) ⟨0, rfl, by omega⟩ (by
    rintro x c hc ⟨s, rfl, hs⟩
    obtain ⟨h3, h4⟩ := fine_nx hf hs hc
    exact ⟨_, h4, h3⟩) (by
    rintro x y ⟨s, rfl, hs⟩ ⟨t, rfl, ht⟩ h
    have h1 : ((2 ^ s : Nat) : Int) = ((2 ^ t : Nat) : Int) := congrArg Prod.fst h
    have : s = t := (Nat.pow_right_inj (show 1 < 2 by omega)).1 (Int.ofNat_inj.1 h1)
    rw [this]) (by
    rintro x c hc ⟨s, rfl, hs⟩
    obtain ⟨h3, h4⟩ := fine_nx hf hs hc
    simp only [f, h4, nxS, Int.toNat_natCast]
    rw [show (nfaOf d).moves = mvs d d.next.length from rfl, stV_nx hd hs hc]) (by
    rintro x ⟨s, rfl, hs⟩
    rw [den_nat]
    simp only [f, enS, Int.toNat_natCast]
    unfold endV
    rw [show (nfaOf d).ends = eds d d.next.length from rfl, Bool.eq_iff_iff, List.any_eq_true]
    constructor
    · rintro ⟨x, hx, hb⟩
      obtain ⟨t, rfl, ht, he⟩ := eds_mem.1 hx
      rw [bit_two, decide_eq_true_eq] at hb
      simp only [Int.toNat_natCast] at hb
      rw [hb]
      exact he
    · intro he
      refine ⟨(s : Int), eds_mem.2 ⟨s, rfl, hs, he⟩, ?_⟩
      rw [bit_two]
      simp)
  have h0 : f 0 = ((((fstV (nfaOf d) : Nat) : Int), 0) : Int × Int) := by rw [fst_nfaOf]; rfl
  rw [h0] at hm
  refine hm.trans ?_
  unfold trimD
  rw [bat_done (met_facts hf _).2 hK]
theorem nfaOf_acc {d : DfaD} (hd : dfaOk d.next d.ends = true) {w : List Nat} (hw : isW w) : accS (nfaOf d) w = accD d w := by
  rw [← det_accK (det_nfaOf hd (Nat.le_refl _)) hw, trim_acc (fine_of hd) hw]
def cntP : Nat → (List Nat → Bool) → Nat
  | 0, p => if p [] = true then 1 else 0
  | n + 1, p => cntP n (fun w => p (0 :: w)) + cntP n (fun w => p (1 :: w)) + cntP n (fun w => p (2 :: w))
theorem cntP_le : ∀ (n : Nat) (p : List Nat → Bool), cntP n p ≤ 3 ^ n
  | 0, p => by
    show (if p [] = true then 1 else 0) ≤ 1
    split <;> omega
  | n + 1, p => by
    have h0 := cntP_le n (fun w => p (0 :: w))
    have h1 := cntP_le n (fun w => p (1 :: w))
    have h2 := cntP_le n (fun w => p (2 :: w))
    show cntP n (fun w => p (0 :: w)) + cntP n (fun w => p (1 :: w)) + cntP n (fun w => p (2 :: w)) ≤ _
    rw [Nat.pow_succ]
    omega
theorem cntP_congr : ∀ (n : Nat) {p q : List Nat → Bool}, (∀ w, isW w → w.length = n → p w = q w) → cntP n p = cntP n q
  | 0, p, q, h => by
    show (if p [] = true then 1 else 0) = (if q [] = true then 1 else 0)
    rw [h [] (fun c hc => by cases hc) rfl]
  | n + 1, p, q, h => by
    have hc : ∀ a, a < 3 → cntP n (fun w => p (a :: w)) = cntP n (fun w => q (a :: w)) := fun a ha => cntP_congr n fun w hw hl => h (a :: w) (fun c hc => by
      rcases List.mem_cons.1 hc with rfl | hc
      · exact ha
      · exact hw c hc) (by rw [List.length_cons, hl])
    show cntP n (fun w => p (0 :: w)) + cntP n (fun w => p (1 :: w)) + cntP n (fun w => p (2 :: w)) = cntP n (fun w => q (0 :: w)) + cntP n (fun w => q (1 :: w)) + cntP n (fun w => q (2 :: w))
    rw [hc 0 (by omega), hc 1 (by omega), hc 2 (by omega)]
theorem cntP_snoc : ∀ (n : Nat) (p : List Nat → Bool), cntP (n + 1) p = cntP n (fun w => p (w ++ [0])) + cntP n (fun w => p (w ++ [1])) + cntP n (fun w => p (w ++ [2]))
  | 0, _ => rfl
  | n + 1, p => by
    show cntP (n + 1) (fun w => p (0 :: w)) + cntP (n + 1) (fun w => p (1 :: w)) + cntP (n + 1) (fun w => p (2 :: w)) = _
    rw [cntP_snoc n, cntP_snoc n, cntP_snoc n]
    show _ = (cntP n (fun w => p (0 :: w ++ [0])) + cntP n (fun w => p (1 :: w ++ [0])) + cntP n (fun w => p (2 :: w ++ [0]))) + (cntP n (fun w => p (0 :: w ++ [1])) + cntP n (fun w => p (1 :: w ++ [1])) + cntP n (fun w => p (2 :: w ++ [1]))) + (cntP n (fun w => p (0 :: w ++ [2])) + cntP n (fun w => p (1 :: w ++ [2])) + cntP n (fun w => p (2 :: w ++ [2])))
    simp only [List.cons_append]
    omega
theorem cntP_rev : ∀ (n : Nat) (p : List Nat → Bool), cntP n (fun w => p w.reverse) = cntP n p
  | 0, _ => rfl
  | n + 1, p => by
    rw [cntP_snoc n p]
    show cntP n (fun w => p (0 :: w).reverse) + cntP n (fun w => p (1 :: w).reverse) + cntP n (fun w => p (2 :: w).reverse) = _
    simp only [List.reverse_cons]
    rw [cntP_rev n (fun w => p (w ++ [0])), cntP_rev n (fun w => p (w ++ [1])), cntP_rev n (fun w => p (w ++ [2]))]
def cntD (d : DfaD) (n : Nat) (s : Int) : Nat := cntP n fun w => den d (runD d s w)
theorem cntD_zero (d : DfaD) (s : Int) : cntD d 0 s = if den d s = true then 1 else 0 := rfl
theorem cntD_succ (d : DfaD) (n : Nat) (s : Int) : cntD d (n + 1) s = cntD d n (dnx d s 0) + cntD d n (dnx d s 1) + cntD d n (dnx d s 2) := rfl
theorem cntD_le (d : DfaD) (n : Nat) (s : Int) : cntD d n s ≤ 3 ^ n := cntP_le n _
theorem cntD_small {d : DfaD} {n : Nat} {s : Int} (h : n ≤ 30) : cntD d n s ≤ 205891132094649 := Nat.le_trans (cntD_le d n s) (Nat.le_trans (Nat.pow_le_pow_right (by omega) h) (by decide))
variable {P : Program}
theorem St.setAll {w0 w : World} {L : List Ent} (h : St w0 w L) (i : Nat) {b : Nat} {cs : Array Value} {T : TypeId} (hx : L[i]? = some (Ent.box b cs T)) (cs' : Array Value) : St w0 (w.setRow b cs') (L.set i (Ent.box b cs' T)) := by
  have hb : Bx w b cs T := (h.has i _ hx).1
  have hb' : Bx (w.setRow b cs') b cs' T := setRow_heap w b cs cs' T (0, 0) hb
  exact h.turn i hx _ rfl rfl rfl (by simp [World.setRow]) (fun k _ hk => setRow_other w b k cs' hk) hb' fun k hk => by
    have hk : k = b := hk
    subst hk
    exact ⟨hb'.lt, Or.inl rfl⟩
theorem wpList_loadAll {ops : Array Oper} {rest : List Oper} {op : Oper} {a : Act} {w : World} {Q : Exit → Act → World → Prop} (hgd : op.guard = none) (ty : TypeId) (x : Operand) (ho : op.op = .load ty x) (b : Nat) (hx : a.eval x = .pointer (some ⟨b, 0, none⟩)) (T : TypeId) (cs : Array Value) (d : TypeDesc) (hb : Bx w b cs T)
    (hu : P.underlying ty = some d) (hd : d.isRow = true) (hi : (P.info? ty).map (·.size) = some cs.size) (h : wpList P ops Q rest (a.put op.dst (.agg cs)) w) : wpList P ops Q (op :: rest) a w := by
  have hc : w.rangeAt b 0 cs.toList := fun j v hv => by
    rw [Nat.zero_add, hb.cell j]
    simpa using hv
  exact wpList_load_mid hgd ty x ho b 0 hx cs.toList d hc hu hd (by simpa using hi) (by simpa using h)
theorem wpList_storeAll {ops : Array Oper} {rest : List Oper} {op : Oper} {a : Act} {w : World} {Q : Exit → Act → World → Prop} (hgd : op.guard = none) (ty : TypeId) (x y : Operand) (ho : op.op = .store ty x y) (b : Nat) (T : TypeId) (cs cs' : Array Value) (hx : a.eval x = .pointer (some ⟨b, 0, none⟩)) (hy : a.eval y = .agg cs')
    (hb : Bx w b cs T) (hi : (P.info? ty).map (·.size) = some cs'.size) (hl : cs.size = cs'.size) (h1 : ∀ v ∈ cs'.toList, v.oneCell' = true) (h : wpList P ops Q rest (a.put op.dst undef) (w.setRow b cs')) : wpList P ops Q (op :: rest) a w :=
  wpList_plain hgd fun K hK => by
    have hr := run_storeVar_row (P := P) w b T ty cs cs' hb hi hl (Array.all_eq_true_iff_forall_mem.2 fun v hv => h1 v (by simpa using hv))
    unfold Oper.wp execOp
    simp only [ho, hx, hy, Instr.storeAt, Instr.sureAddr, Sem.run_bind, Sem.run_pure, Result.andThen_ok, hr]
    exact hK _ _ h
theorem results_cell1 {fn : Func} {p : Tmp} {ty : TypeId} (h : fn.results = #[.cell p ty]) (tmps : Array Value) (P : Program) (w : World) :
    (results fn tmps).run P w = ((asAddr (tmps.getD p undef)).run P w).andThen fun a w₁ => (loadVar ty a).run P w₁ := by
  simp only [results, h]
  simp [Sem.run_bind, Result.andThen]
theorem results_cellAll {fn : Func} {p : Tmp} {ty : TypeId} (h : fn.results = #[.cell p ty]) (tmps : Array Value) (P : Program) (w : World) (b : Nat) (T : TypeId) (cs : Array Value) (d : TypeDesc) (hp : tmps.getD p undef = .pointer (some ⟨b, 0, none⟩)) (hb : Bx w b cs T) (hu : P.underlying ty = some d) (hd : d.isRow = true) (hi : (P.info? ty).map (·.size) = some cs.size) :
    (results fn tmps).run P w = .ok (.agg cs) w := by
  rw [results_cell1 h, hp]
  have hl : (loadVar ty ⟨b, 0, none⟩).run P w = .ok (.agg cs) w := run_loadVar_row w b T ty cs (0, 0) d hb hu (by cases d <;> simp_all [TypeDesc.isRow]) hi
  simp [asAddr, Result.andThen, hl]
def Ent.inn (X y : Ent) : Prop := (∀ w, X.holds w → y.holds w) ∧ ∀ k, y.foot k → X.foot k
theorem Ent.inn_refl (X : Ent) : X.inn X := ⟨fun _ h => h, fun _ h => h⟩
theorem Ent.inn_all {R : List Ent} {x y : Ent} (hx : x ∈ R) (h : x.inn y) : (Ent.all R).inn y := ⟨fun w hw => h.1 w (hw x hx), fun k hk => ⟨x, hx, h.2 k hk⟩⟩
theorem St.innSt {w0 w : World} {L : List Ent} {X y : Ent} (h : St w0 w L) (i : Nat) (hx : L[i]? = some X) (hin : X.inn y) : St w0 w (L.set i y) := h.same i hx y (hin.1 w) hin.2
theorem St.innRcell {w0 w : World} {L : List Ent} {X : Ent} (h : St w0 w L) (i j : Nat) (hx : L[i]? = some X) {e size g n cap : Nat} {cs : List Value} {v : Value} (hin : X.inn (Ent.row e size (.slice (some ⟨g, 0, none⟩) n cap) n cs)) (hj : j < n * size) (hv : cs[j]? = some v) : w.cell? ⟨g, j, none⟩ = some v := by
  have hl : i < L.length := (List.getElem?_eq_some_iff.1 hx).1
  exact (h.innSt i hx hin).rcell i j (List.getElem?_set_self hl) hj hv
end Go.Proofs.Ytfgpkadhegdffaa
