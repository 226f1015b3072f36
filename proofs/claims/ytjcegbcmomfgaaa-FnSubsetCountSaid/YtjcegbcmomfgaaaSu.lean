/-
  An automaton without choices meets singletons only, plain.
  No condition: this text speaks of no program.
  The walks over SubsetCount, of the program and of the reference.
  Condition: the automaton is readable.
-/
import Derived.Test.YtjcegbcmomfgaaaTw
import Derived.Test.YtjcegbcmomfgaaaLa
import Derived.Test.YtjcegbcmomfgaaaDm
namespace Go.Proofs.Ytjcegbcmomfgaaa
open Go.RowKit

theorem stOk_ofP {l : List Int} {m : Int} (h : ∀ j, j < l.length → (0 ≤ l.getD j 0 ∧ l.getD j 0 ≤ m - 1) ∧ (0 < j → l.getD (j - 1) 0 < l.getD j 0)) : stOk l m = true := by
  unfold stOk
  rw [List.all_eq_true]
  intro j hj
  obtain ⟨h1, h2⟩ := h j (List.mem_range.1 hj)
  unfold okAt
  rw [Bool.and_eq_true, Bool.or_eq_true]
  refine ⟨by simp only [inB, Bool.and_eq_true, decide_eq_true_eq]; exact h1, ?_⟩
  by_cases h0 : j = 0
  · exact .inl (decide_eq_true h0)
  · exact .inr (decide_eq_true (h2 (by omega)))
theorem bit_two {s t : Nat} : (2 ^ s).testBit t = decide (s = t) := by
  rw [Nat.testBit_two_pow]
theorem mvs_mem {d : DfaD} : ∀ {k : Nat} {m : Int × Int × Int}, m ∈ mvs d k ↔ ∃ s c : Nat, s < k ∧ c < 3 ∧ m = ((s : Int), (c : Int), (d.next.getD s []).getD c 0)
  | 0, m => by simp [mvs]
  | k + 1, m => by
    rw [show mvs d (k + 1) = mvs d k ++ rowM d k from rfl, List.mem_append, mvs_mem]
    constructor
    · rintro (⟨s, c, h1, h2, h3⟩ | h)
      · exact ⟨s, c, by omega, h2, h3⟩
      · obtain ⟨c, hc, rfl⟩ := List.mem_map.1 h
        exact ⟨k, c, by omega, List.mem_range.1 hc, rfl⟩
    · rintro ⟨s, c, h1, h2, h3⟩
      by_cases h : s = k
      · subst h
        exact .inr (List.mem_map.2 ⟨c, List.mem_range.2 h2, h3.symm⟩)
      · exact .inl ⟨s, c, by omega, h2, h3⟩
theorem nfaOf_closed {d : DfaD} (k u : Nat) : closedV (mvs d k) u := by
  intro m hm he
  obtain ⟨s, c, -, -, rfl⟩ := mvs_mem.1 hm
  simp only at he
  omega
theorem bit_ext {a b : Nat} (h : ∀ t, a.testBit t = true ↔ b.testBit t = true) : a = b := by
  apply Nat.eq_of_testBit_eq
  intro t
  rw [Bool.eq_iff_iff]
  exact h t
theorem stV_one {d : DfaD} (hd : dfaOk d.next d.ends = true) {s c : Nat} (hs : s < d.next.length) (hc : c < 3) : ∃ q : Nat, q < d.next.length ∧ stV 40 (mvs d d.next.length) (2 ^ s) (c : Int) = 2 ^ q := by
  have hr := (dfaOk_row hd hs).2 c hc
  obtain ⟨q, hq⟩ := Int.eq_ofNat_of_zero_le hr.1
  refine ⟨q, by omega, ?_⟩
  unfold stV
  rw [clV_idem (nfaOf_closed _ _)]
  apply bit_ext
  intro t
  rw [stFold_bit, bit_two, decide_eq_true_eq]
  constructor
  · rintro (h | ⟨m, hm, h1, h2, h3⟩)
    · simp at h
    · obtain ⟨s', c', h4, h5, rfl⟩ := mvs_mem.1 hm
      rw [bit_two, decide_eq_true_eq] at h2
      simp only [Int.toNat_natCast] at h2
      subst h2
      have : c' = c := by simp only at h1; omega
      subst this
      simp only [hq] at h3
      omega
  · rintro rfl
    right
    refine ⟨_, mvs_mem.2 ⟨s, c, hs, hc, rfl⟩, rfl, ?_, ?_⟩
    · rw [bit_two]
      simp
    · simp only [hq]
      omega
theorem met_one {d : DfaD} (hd : dfaOk d.next d.ends = true) (K : Nat) : (metS (nfaOf d) K).length ≤ d.next.length := by
  have hl := dfaOk_len hd
  have hf : fstV (nfaOf d) = 2 ^ 0 := by
    unfold fstV
    rw [show (nfaOf d).moves = mvs d d.next.length from rfl, clV_idem (nfaOf_closed _ _)]
    rfl
  have hall : ∀ x ∈ metS (nfaOf d) K, ∃ s : Nat, s < d.next.length ∧ x = (((2 ^ s : Nat) : Int), 0) := by
    refine bat_all (Q := fun x => ∃ s : Nat, s < d.next.length ∧ x = (((2 ^ s : Nat) : Int), 0)) ⟨0, by omega, by rw [hf]⟩ ?_ K
    rintro x c hc ⟨s, hs, rfl⟩
    obtain ⟨q, hq, h⟩ := stV_one hd hs hc
    refine ⟨q, hq, ?_⟩
    unfold nxS
    rw [show (nfaOf d).moves = mvs d d.next.length from rfl]
    simp only [Int.toNat_natCast]
    rw [h]
  have := nodup_le (bat_good (nx := nxS (nfaOf d)) (a := (((fstV (nfaOf d) : Nat) : Int), 0)) K).1 (m := (List.range d.next.length).map fun s => (((2 ^ s : Nat) : Int), (0 : Int))) fun x hx => by
    obtain ⟨s, hs, rfl⟩ := hall x hx
    exact List.mem_map.2 ⟨s, List.mem_range.2 hs, rfl⟩
  simpa using this
theorem eds_pair (d : DfaD) : ∀ k, (eds d k).Pairwise (· < ·)
  | 0 => List.Pairwise.nil
  | k + 1 => by
    unfold eds
    split
    · rw [List.pairwise_append]
      refine ⟨eds_pair d k, List.pairwise_singleton _ _, fun x hx y hy => ?_⟩
      rw [List.mem_singleton.1 hy]
      exact (eds_in d k x hx).2
    · exact eds_pair d k
theorem nfaOf_ok {d : DfaD} (hd : dfaOk d.next d.ends = true) : nfaOk (nfaOf d) = true := by
  have hl := dfaOk_len hd
  unfold nfaOk
  simp only [Bool.and_eq_true, decide_eq_true_eq]
  refine ⟨⟨⟨⟨?_, ?_⟩, ?_⟩, ?_⟩, ?_⟩
  · show inB (d.next.length : Int) 0 40 = true
    simp only [inB, Bool.and_eq_true, decide_eq_true_eq]
    exact ⟨by omega, by omega⟩
  · show (mvs d d.next.length).length ≤ 400
    rw [mvs_len]
    omega
  · refine stOk_ofP fun j hj => ?_
    have hj : j < 1 := hj
    obtain rfl : j = 0 := by omega
    refine ⟨?_, fun h => by omega⟩
    simp only [nfaOf, List.getD_cons_zero]
    omega
  · refine stOk_ofP fun j hj => ?_
    have hj : j < (eds d d.next.length).length := hj
    have h1 := eds_in d _ _ (memD (d := (0 : Int)) hj)
    refine ⟨?_, fun h => ?_⟩
    · show 0 ≤ (eds d d.next.length).getD j 0 ∧ (eds d d.next.length).getD j 0 ≤ (d.next.length : Int) - 1
      omega
    · have := List.pairwise_iff_getElem.1 (eds_pair d d.next.length) (j - 1) j (by omega) hj (by omega)
      show (eds d d.next.length).getD (j - 1) 0 < (eds d d.next.length).getD j 0
      rw [getD_at (by omega), getD_at hj]
      exact this
  · rw [List.all_eq_true]
    intro m hm
    obtain ⟨s, c, h1, h2, rfl⟩ := mvs_mem.1 (show m ∈ mvs d d.next.length from hm)
    have hr := (dfaOk_row hd h1).2 c h2
    show mvOk (d.next.length : Int) _ = true
    simp only [mvOk, inB, Bool.and_eq_true, decide_eq_true_eq]
    exact ⟨⟨⟨by omega, by omega⟩, by omega, by omega⟩, by omega, by omega⟩
end Go.Proofs.Ytjcegbcmomfgaaa
namespace Go.Proofs.Ytjcegbcmomfgaaa
open Go.RowKit

/-- How many sets are met, at most one more than fit; -1 where the automaton is not in order. -/
def cntK (K : Nat) (n : NfaD) : Int := if nfaOk n = true then (if (metS n K).length ≤ K then ((metS n K).length : Int) else 41) else -1

set_option maxRecDepth 100000 in
set_option maxHeartbeats 4000000 in
theorem implCountK_any (K : Nat) (hK : K = 40) (n : NfaD) (v : Value) (w : World) (h : NfaR 0 w v n) (c : Int) (hc : cntK K n = c) :
    Calls Try.prog 14 #[v] w fun e w' => e = .returned (.int .i64 c) ∧ Below w.heap.size w w' := by
  have H := Lib.hid h
  obtain ⟨v1, v2, v3, rfl, g1, g2, g3, -, -⟩ := h
  have hS0 := (St.start w).alloc _ rfl #[.int .i64 n.states, v1, v2, v3] 26
  have e0 := hS0.cell (v := .int .i64 n.states) 0 0 rfl rfl
  have e1 := hS0.cell (v := v1) 0 1 rfl rfl
  have e2 := hS0.cell (v := v2) 0 2 rfl rfl
  have e3 := hS0.cell (v := v3) 0 3 rfl rfl
  cases hok : nfaOk n
  · obtain rfl : c = -1 := by rw [← hc]; unfold cntK; rw [if_neg (by rw [hok]; simp)]
    have Hhok := Lib.hid hok; clear hok
    have HhS0 := Lib.hid hS0; clear hS0
    clear g1 g2 g3 hc
    go_enter Try.func14, Try.ntmps14
    go_wp2_with fail
    refine (implNfaValid_any n _ _ (H.out.below HhS0.out.bel) _ Hhok.out).mono ?_
    rintro e w1 ⟨rfl, hb1⟩
    have HS1 := Lib.hid (HhS0.out.call hb1)
    clear hb1
    go_wp2
    go_ret
    exact ⟨rfl, HS1.out.bel⟩
  · obtain ⟨m, hm, hm40, hmv, hml, hf, hfl, he, hel⟩ := nfaOk_facts hok
    have hdet := fun (u : World) (hu : Below w.heap.size w u) => determinize_any n K hK v1 v2 v3 u (mvIn_40 hmv hm40) (by omega) (fun s hs => by have := hf s hs; omega) (by omega) (fun s hs => by have := he s hs; omega) (g1.below hu) (g2.below hu) (g3.below hu)
    have Hdet := Lib.hid hdet
    unfold cntK at hc
    rw [if_pos hok] at hc
    have Hhok := Lib.hid hok; clear hok
    have HhS0 := Lib.hid hS0; clear hS0
    have Hhc := Lib.hid hc; clear hc
    clear g1 g2 g3 hdet hm
    go_enter Try.func14, Try.ntmps14
    go_wp2_with fail
    refine (implNfaValid_any n _ _ (H.out.below HhS0.out.bel) _ Hhok.out).mono ?_
    rintro e w1 ⟨rfl, hb1⟩
    have HS1 := Lib.hid (HhS0.out.call hb1)
    clear hb1 e0 e1 e2 e3
    have e0 := HS1.out.cell (v := .int .i64 n.states) 0 0 rfl rfl
    have e1 := HS1.out.cell (v := v1) 0 1 rfl rfl
    have e2 := HS1.out.cell (v := v2) 0 2 rfl rfl
    have e3 := HS1.out.cell (v := v3) 0 3 rfl rfl
    go_wp2_with fail
    refine (Hdet.out _ HS1.out.bel).mono ?_
    rintro e w2 ⟨hr, hb2⟩
    unfold RDet at hr
    have HS2 := Lib.hid (HS1.out.call hb2)
    clear hb2 e0 e1 e2 e3
    have hc := Hhc.out
    by_cases hle : (metS n K).length ≤ K
    · rw [if_pos hle] at hr hc
      obtain ⟨an, cn, ae, ce, rfl, -⟩ := hr
      obtain ⟨ln, hln⟩ : ∃ ln, ln = (metS n K).length := ⟨_, rfl⟩
      rw [← hln] at hc ⊢
      rw [← hln] at hle
      subst hc
      have Hhln := Lib.hid hln; clear hln
      clear hle hK
      have HS3 := Lib.hid (HS2.out.alloc _ rfl #[.slice an ln cn, .slice ae ln ce] 33)
      go_wp2
      go_ret
      exact ⟨rfl, HS3.out.bel⟩
    · rw [if_neg hle] at hr hc
      subst hr
      subst hc
      clear hle hK
      have HS3 := Lib.hid (HS2.out.alloc _ rfl #[.slice none 0 0, .slice none 0 0] 33)
      go_wp2
      go_ret
      exact ⟨rfl, HS3.out.bel⟩
set_option maxRecDepth 100000 in
set_option maxHeartbeats 4000000 in
theorem specCountK_any (K : Nat) (hK : K = 40) (n : NfaD) (v : Value) (w : World) (h : NfaR 0 w v n) (c : Int) (hc : cntK K n = c) :
    Calls Try.prog 15 #[v] w fun e w' => e = .returned (.int .i64 c) ∧ Below w.heap.size w w' := by
  have H := Lib.hid h
  obtain ⟨v1, v2, v3, rfl, g1, g2, g3, -, -⟩ := h
  have hS0 := (St.start w).alloc _ rfl #[.int .i64 n.states, v1, v2, v3] 26
  have e0 := hS0.cell (v := .int .i64 n.states) 0 0 rfl rfl
  have e1 := hS0.cell (v := v1) 0 1 rfl rfl
  have e2 := hS0.cell (v := v2) 0 2 rfl rfl
  have e3 := hS0.cell (v := v3) 0 3 rfl rfl
  cases hok : nfaOk n
  · obtain rfl : c = -1 := by rw [← hc]; unfold cntK; rw [if_neg (by rw [hok]; simp)]
    have Hhok := Lib.hid hok; clear hok
    have HhS0 := Lib.hid hS0; clear hS0
    clear g1 g2 g3 hc
    go_enter Try.func15, Try.ntmps15
    go_wp2_with fail
    refine (specNfaValid_any n _ _ (H.out.below HhS0.out.bel) _ Hhok.out).mono ?_
    rintro e w1 ⟨rfl, hb1⟩
    have HS1 := Lib.hid (HhS0.out.call hb1)
    clear hb1
    go_wp2
    go_ret
    exact ⟨rfl, HS1.out.bel⟩
  · obtain ⟨m, hm, hm40, hmv, hml, hf, hfl, he, hel⟩ := nfaOk_facts hok
    have hnn : n = ⟨(m : Int), n.moves, n.firsts, n.ends⟩ := by rw [← hm]
    have hsub := fun (u : World) (hu : Below w.heap.size w u) => l9SubsetsK_any m K hK n.moves n.firsts n.ends v1 v2 v3 u hm40 hmv (by omega) hf (by omega) (g1.below hu) (g2.below hu)
    rw [← hnn, ← hm] at hsub
    have Hsub := Lib.hid hsub
    unfold cntK at hc
    rw [if_pos hok] at hc
    have Hhok := Lib.hid hok; clear hok
    have HhS0 := Lib.hid hS0; clear hS0
    have Hhc := Lib.hid hc; clear hc
    clear g1 g2 g3 hsub hm hnn
    go_enter Try.func15, Try.ntmps15
    go_wp2_with fail
    refine (specNfaValid_any n _ _ (H.out.below HhS0.out.bel) _ Hhok.out).mono ?_
    rintro e w1 ⟨rfl, hb1⟩
    have HS1 := Lib.hid (HhS0.out.call hb1)
    clear hb1 e0 e1 e2 e3
    have e0 := HS1.out.cell (v := .int .i64 n.states) 0 0 rfl rfl
    have e1 := HS1.out.cell (v := v1) 0 1 rfl rfl
    have e2 := HS1.out.cell (v := v2) 0 2 rfl rfl
    have e3 := HS1.out.cell (v := v3) 0 3 rfl rfl
    go_wp2_with fail
    refine (Hsub.out _ HS1.out.bel).mono ?_
    rintro e w2 ⟨a1, d1, a2, d2, l1, l2, rfl, hl1, hr⟩
    clear e0 e1 e2 e3
    have hc := Hhc.out
    by_cases hle : (metS n K).length ≤ K
    · rw [if_pos hle] at hr hc
      obtain ⟨hl, vs1, vs2, hS'⟩ := hr
      have HS2 := Lib.hid (HS1.out.call hS'.bel)
      have hc1 : c = (l1 : Int) := by rw [← hc, hl]
      subst hc1
      have hmin : min (l1 : Int) 41 = (l1 : Int) := by omega
      have hlt : ¬ (41 : Int) < (l1 : Int) := by omega
      have Hhl := Lib.hid hl; clear hl
      clear hS' hc hle hK
      go_wp2
      go_ret
      exact ⟨rfl, HS2.out.bel⟩
    · rw [if_neg hle] at hr hc
      obtain ⟨hl, hb⟩ := hr
      subst hc
      have HS2 := Lib.hid (HS1.out.call hb)
      have hmin : min (l1 : Int) 41 = 41 := by omega
      have hlt : (41 : Int) ≤ (l1 : Int) := by omega
      clear hb hle hK
      go_wp2
      all_goals first
        | (go_ret; exact ⟨rfl, HS2.out.bel⟩)
        | (obtain rfl : l1 = 41 := by omega
           go_ret
           exact ⟨rfl, HS2.out.bel⟩)
end Go.Proofs.Ytjcegbcmomfgaaa
