/-
  The walk over the law FnNfaAccepts.
  Condition: the argument reads as bytes.
  An automaton without choices meets singletons only, plain.
  No condition: this text speaks of no program.
  The walks over SubsetCount, of the program and of the reference.
  Condition: the automaton is readable.
  The walk over the law FnDeterminize.
  Conditions: the arguments read as bytes.
-/
import Derived.Test.YtjcegbcmomfgaaaLa
import Derived.Test.YtjcegbcmomfgaaaDz
import Derived.Test.YtjcegbcmomfgaaaSi
import Derived.Test.YtjcegbcmomfgaaaTw
import Derived.Test.YtjcegbcmomfgaaaDm
import Derived.Test.YtjcegbcmomfgaaaDe
import Derived.Test.YtjcegbcmomfgaaaWr
namespace Go.Proofs.Ytjcegbcmomfgaaa
open Go.RowKit

theorem det_some {n : NfaD} {D : DfaD} (hD : (det n).getD zeroD = D) (hf : (det n).isSome = true) : det n = some D := by
  obtain ⟨x, hx⟩ := Option.isSome_iff_exists.1 hf
  rw [hx] at hD ⊢
  exact congrArg some hD
theorem det_accT {n : NfaD} {D : DfaD} {l : List Nat} (h : det n = some D) (hw : wdOk l = true) : accD D (lets l) = accT n l := by
  unfold accT
  rw [det_accK h (lets_isW hw), (det_okK h).1, hw]
  simp
theorem okA_of_fine {d : DfaD} (h : fine d) (h40 : d.next.length ≤ 40) : dfaOk d.next d.ends = true := by
  obtain ⟨h1, -, h3, hr⟩ := h
  simp only [dfaOk, Bool.and_eq_true, List.all_eq_true, decide_eq_true_eq]
  refine ⟨⟨fun x hx => ?_, ?_⟩, h3⟩
  · obtain ⟨i, hi, e⟩ := List.getElem_of_mem hx
    obtain ⟨a, b⟩ := hr i hi
    rw [getD_at hi, e] at a b
    simp only [rowOk, Bool.and_eq_true, decide_eq_true_eq, List.all_eq_true]
    refine ⟨a, fun y hy => ?_⟩
    obtain ⟨c, hc, e2⟩ := List.getElem_of_mem hy
    have := b c (by omega)
    rw [getD_at hc, e2] at this
    unfold inB
    simp
    omega
  · unfold inB
    simp
    omega
theorem det_dfaOk {n : NfaD} {D : DfaD} (h : det n = some D) : dfaOk D.next D.ends = true := by
  obtain ⟨-, h2, rfl⟩ := det_okK h
  exact okA_of_fine (fine_num h2 (by decide)) (by rw [numDfa_len]; exact h2)
set_option maxRecDepth 100000 in
set_option maxHeartbeats 8000000 in
theorem drawAccepts_any (bs : List Nat) (v : Value) (w : World) (hb : Bytes 0 w v bs) (hlen : bs.length ≤ 100000000) :
    Calls Try.prog 6 #[v] w fun e w' => ∃ (n : NfaD) (l : List Nat) (a1 a2 a3 : Option Addr) (c1 c2 c3 : Nat), -1 ≤ n.states ∧ n.states ≤ 41 ∧ n.moves.length ≤ 401 ∧ n.firsts.length ≤ 41 ∧ n.ends.length ≤ 41 ∧ isT l ∧ l.length ≤ 10 ∧
      e = .returned (.tuple #[.agg #[.int .i64 n.states, .slice a1 n.moves.length c1, .slice a2 n.firsts.length c2, .slice a3 n.ends.length c3], .string (txB l)]) ∧ St w w' [Ent.row 76 3 (.slice a1 n.moves.length c1) n.moves.length (n.moves.flatMap moveCells), Ent.row 3 1 (.slice a2 n.firsts.length c2) n.firsts.length (intCells n.firsts), Ent.row 3 1 (.slice a3 n.ends.length c3) n.ends.length (intCells n.ends)] := by
  have hS0 := (St.start w).alloc _ rfl #[.int .i64 0, .slice none 0 0, .slice none 0 0, .slice none 0 0] 26
  have Hb := Lib.hid hb
  have HhS0 := Lib.hid hS0; clear hS0
  clear hb
  go_enter Try.func6, Try.ntmps6
  go_wp2_with fail
  refine (drawRun_any bs v _ (Hb.out.below HhS0.out.bel) hlen).mono ?_
  rintro e w1 ⟨n, l, a1, a2, a3, c1, c2, c3, h0, h1, h2, h3, h4, ht, hl, rfl, hS'⟩
  have HS1 := Lib.hid (HhS0.out.cat hS')
  clear hS'
  have f0 := HS1.out.fr 0 0 rfl
  have k0 := HS1.out.cell (v := .int .i64 0) 0 0 rfl rfl
  have f1 := HS1.out.fr 0 1 rfl
  have k1 := HS1.out.cell (v := .slice none 0 0) 0 1 rfl rfl
  have f2 := HS1.out.fr 0 2 rfl
  have k2 := HS1.out.cell (v := .slice none 0 0) 0 2 rfl rfl
  have f3 := HS1.out.fr 0 3 rfl
  have k3 := HS1.out.cell (v := .slice none 0 0) 0 3 rfl rfl
  have HS2 := Lib.hid ((((HS1.out.set 0 rfl 0 (.int .i64 n.states)).set 0 rfl 1 (.slice a1 n.moves.length c1)).set 0 rfl 2 (.slice a2 n.firsts.length c2)).set 0 rfl 3 (.slice a3 n.ends.length c3))
  have q0 := HS2.out.cell (v := .int .i64 n.states) 0 0 rfl rfl
  have q1 := HS2.out.cell (v := .slice a1 n.moves.length c1) 0 1 rfl rfl
  have q2 := HS2.out.cell (v := .slice a2 n.firsts.length c2) 0 2 rfl rfl
  have q3 := HS2.out.cell (v := .slice a3 n.ends.length c3) 0 3 rfl rfl
  have Ht := Lib.hid ht
  clear ht
  go_wp2
  refine bodyPost_ret (v := .tuple #[.agg #[.int .i64 n.states, .slice a1 n.moves.length c1, .slice a2 n.firsts.length c2, .slice a3 n.ends.length c3], .string (txB l)]) (by simp [results, Try.results6, go_sem, q0, q1, q2, q3]) rfl ?_
  exact ⟨n, l, a1, a2, a3, c1, c2, c3, h0, h1, h2, h3, h4, Ht.out, hl, rfl, HS2.out.pick [1, 2, 3] (by decide)⟩
set_option maxRecDepth 100000 in
set_option maxHeartbeats 16000000 in
theorem nfaAccepts_walk (bs : List Nat) (v : Value) (w : World) (hb : Bytes 0 w v bs) :
    Calls Try.prog 3 #[v] w fun e w' => e = .returned (.bool true) ∧ Below w.heap.size w w' := by
  have HB := Lib.hid hb
  obtain ⟨av, cv, rfl, hcv1, hcv2, -⟩ := hb.form
  clear hb
  by_cases hlen : 1048576 < bs.length
  · have hl2 : (1048576 : Int) < bs.length := by omega
    go_enter Try.func3, Try.ntmps3
    go_wp2
    go_ret
    exact ⟨rfl, Below.refl _ _⟩
  have hl2 : ¬ (1048576 : Int) < bs.length := by omega
  go_enter Try.func3, Try.ntmps3
  go_wp2_with fail
  refine (drawAccepts_any bs _ _ HB.out (by omega)).mono ?_
  rintro e w1 ⟨n, l, a1, a2, a3, c1, c2, c3, hs0, hs1, hm, hf, he, ht, hl10, rfl, hS⟩
  have HS := Lib.hid (hS.alloc _ rfl #[.int .i64 n.states, .slice a1 n.moves.length c1, .slice a2 n.firsts.length c2, .slice a3 n.ends.length c3] 26)
  have e0 := HS.out.cell (v := .int .i64 n.states) 3 0 rfl rfl
  have e1 := HS.out.cell (v := .slice a1 n.moves.length c1) 3 1 rfl rfl
  have e2 := HS.out.cell (v := .slice a2 n.firsts.length c2) 3 2 rfl rfl
  have e3 := HS.out.cell (v := .slice a3 n.ends.length c3) 3 3 rfl rfl
  obtain ⟨q, hq⟩ : ∃ q, accT n l = q := ⟨_, rfl⟩
  have hqq : (q != q) = false := by cases q <;> rfl
  have hqq2 : (q == q) = true := beq_self_eq_true q
  have Hhq := Lib.hid hq; clear hq
  have Hht := Lib.hid ht; clear ht
  clear hS
  go_wp2_with fail
  refine (nfaAccepts_any n l _ _ Hht.out (by omega) (nfaR_rows HS.out 0 1 2 rfl rfl rfl (by omega) (by omega)) _ Hhq.out).mono ?_
  rintro e w2 ⟨rfl, hb2⟩
  have HS2 := Lib.hid (HS.out.call hb2)
  clear hb2 e0 e1 e2 e3
  have e0 := HS2.out.cell (v := .int .i64 n.states) 3 0 rfl rfl
  have e1 := HS2.out.cell (v := .slice a1 n.moves.length c1) 3 1 rfl rfl
  have e2 := HS2.out.cell (v := .slice a2 n.firsts.length c2) 3 2 rfl rfl
  have e3 := HS2.out.cell (v := .slice a3 n.ends.length c3) 3 3 rfl rfl
  go_wp2_with fail
  refine (specAccepts_any n l _ _ Hht.out (by omega) (by omega) (nfaR_rows HS2.out 0 1 2 rfl rfl rfl (by omega) (by omega)) _ Hhq.out).mono ?_
  rintro e w3 ⟨rfl, hb3⟩
  have HS3 := Lib.hid (HS2.out.call hb3)
  clear hb3 e0 e1 e2 e3
  have e0 := HS3.out.cell (v := .int .i64 n.states) 3 0 rfl rfl
  have e1 := HS3.out.cell (v := .slice a1 n.moves.length c1) 3 1 rfl rfl
  have e2 := HS3.out.cell (v := .slice a2 n.firsts.length c2) 3 2 rfl rfl
  have e3 := HS3.out.cell (v := .slice a3 n.ends.length c3) 3 3 rfl rfl
  obtain ⟨D, hD⟩ : ∃ D, (det n).getD zeroD = D := ⟨_, rfl⟩
  cases hfb : (det n).isSome
  · have HhD := Lib.hid hD; clear hD
    have Hhfb := Lib.hid hfb; clear hfb
    go_wp2_with fail
    refine (implDet_any n D _ HhD.out Hhfb.out _ _ (nfaR_rows HS3.out 0 1 2 rfl rfl rfl (by omega) (by omega))).mono ?_
    rintro e w4 ⟨⟨b1, d1, b2, d2, rfl, -⟩, hb4⟩
    have HS4 := Lib.hid (HS3.out.call hb4)
    have HS5 := Lib.hid (HS4.out.alloc _ rfl #[.slice b1 D.next.length d1, .slice b2 D.ends.length d2] 33)
    clear hb4 e0 e1 e2 e3
    go_wp2_with (go_at_call 12; refine (alive_any _).mono ?_; rintro e w' ⟨rfl, rfl⟩)
    go_ret
    exact ⟨rfl, HS5.out.bel⟩
  · have hdet := det_some hD hfb
    have hdok := det_dfaOk hdet
    cases hwd : wdOk l
    · have HhD := Lib.hid hD; clear hD
      have Hhfb := Lib.hid hfb; clear hfb
      have Hhdet := Lib.hid hdet; clear hdet
      have Hhdok := Lib.hid hdok; clear hdok
      have Hhwd := Lib.hid hwd; clear hwd
      go_wp2_with fail
      refine (implDet_any n D _ HhD.out Hhfb.out _ _ (nfaR_rows HS3.out 0 1 2 rfl rfl rfl (by omega) (by omega))).mono ?_
      rintro e w4 ⟨⟨b1, d1, b2, d2, rfl, -⟩, hb4⟩
      have HS4 := Lib.hid (HS3.out.call hb4)
      have HS5 := Lib.hid (HS4.out.alloc _ rfl #[.slice b1 D.next.length d1, .slice b2 D.ends.length d2] 33)
      clear hb4 e0 e1 e2 e3
      go_wp2_with (first | (go_at_call 10; refine (specWordValid_any l _ Hht.out (by omega) _ Hhwd.out).mono ?_; rintro e w' ⟨rfl, rfl⟩) | (go_at_call 12; refine (alive_any _).mono ?_; rintro e w' ⟨rfl, rfl⟩))
      go_ret
      exact ⟨rfl, HS5.out.bel⟩
    · have hacc : accD D (lets l) = q := by rw [det_accT hdet hwd]; exact Hhq.out
      have hda := fun (u : World) (x : Value) (hu : DfaR 0 u x D) => dfaAccepts_any D l x u Hht.out (by omega) hu hdok hwd
      rw [hacc] at hda
      have Hda := Lib.hid hda
      have HhD := Lib.hid hD; clear hD
      have Hhfb := Lib.hid hfb; clear hfb
      have Hhdet := Lib.hid hdet; clear hdet
      have Hhdok := Lib.hid hdok; clear hdok
      have Hhwd := Lib.hid hwd; clear hwd
      have Hhacc := Lib.hid hacc; clear hacc
      clear hda
      go_wp2_with fail
      refine (implDet_any n D _ HhD.out Hhfb.out _ _ (nfaR_rows HS3.out 0 1 2 rfl rfl rfl (by omega) (by omega))).mono ?_
      rintro e w4 ⟨⟨b1, d1, b2, d2, rfl, hdo⟩, hb4⟩
      have HS4 := Lib.hid (HS3.out.call hb4)
      have HDr := Lib.hid ((hdo.r).mono (Nat.zero_le _))
      have HS5 := Lib.hid (HS4.out.alloc _ rfl #[.slice b1 D.next.length d1, .slice b2 D.ends.length d2] 33)
      clear hb4 hdo e0 e1 e2 e3
      have g0 := HS5.out.cell (v := .slice b1 D.next.length d1) 4 0 rfl rfl
      have g1 := HS5.out.cell (v := .slice b2 D.ends.length d2) 4 1 rfl rfl
      go_wp2_with (go_at_call 10; refine (specWordValid_any l _ Hht.out (by omega) _ Hhwd.out).mono ?_; rintro e w' ⟨rfl, rfl⟩)
      refine (Hda.out _ _ (HDr.out.below ((Below.refl _ _).alloc (Nat.le_refl _) _))).mono ?_
      rintro e w6 ⟨rfl, hb6⟩
      have HS6 := Lib.hid (HS5.out.call hb6)
      clear hb6 g0 g1
      go_wp2_with (go_at_call 12; refine (alive_any _).mono ?_; rintro e w' ⟨rfl, rfl⟩)
      go_ret
      exact ⟨rfl, HS6.out.bel⟩
end Go.Proofs.Ytjcegbcmomfgaaa
namespace Go.Proofs.Ytjcegbcmomfgaaa
open Go.RowKit

theorem stOk_ofP {l : List Int} {m : Int} (h : ∀ j, j < l.length → (0 ≤ l.getD j 0 ∧ l.getD j 0 ≤ m - 1) ∧ (0 < j → l.getD (j - 1) 0 < l.getD j 0)) : stOk l m = true := by
  unfold stOk
  rw [List.all_eq_true]
  intro j hj
  obtain ⟨h1, h2⟩ := h j (List.mem_range.1 hj)
  unfold okAt
  rw [Bool.and_eq_true, Bool.or_eq_true]
  refine ⟨by simp only [inB, Bool.and_eq_true, decide_eq_true_eq]; exact h1, ?_⟩
  by_cases h0 : j = 0
  · exact .inl (decide_eq_true h0)
  · exact .inr (decide_eq_true (h2 (by omega)))
theorem bit_two {s t : Nat} : (2 ^ s).testBit t = decide (s = t) := by
  rw [Nat.testBit_two_pow]
theorem mvs_mem {d : DfaD} : ∀ {k : Nat} {m : Int × Int × Int}, m ∈ mvs d k ↔ ∃ s c : Nat, s < k ∧ c < 3 ∧ m = ((s : Int), (c : Int), (d.next.getD s []).getD c 0)
  | 0, m => by simp [mvs]
  | k + 1, m => by
    rw [show mvs d (k + 1) = mvs d k ++ rowM d k from rfl, List.mem_append, mvs_mem]
    constructor
    · rintro (⟨s, c, h1, h2, h3⟩ | h)
      · exact ⟨s, c, by omega, h2, h3⟩
      · obtain ⟨c, hc, rfl⟩ := List.mem_map.1 h
        exact ⟨k, c, by omega, List.mem_range.1 hc, rfl⟩
    · rintro ⟨s, c, h1, h2, h3⟩
      by_cases h : s = k
      · subst h
        exact .inr (List.mem_map.2 ⟨c, List.mem_range.2 h2, h3.symm⟩)
      · exact .inl ⟨s, c, by omega, h2, h3⟩
theorem nfaOf_closed {d : DfaD} (k u : Nat) : closedV (mvs d k) u := by
  intro m hm he
  obtain ⟨s, c, -, -, rfl⟩ := mvs_mem.1 hm
  simp only at he
  omega
theorem bit_ext {a b : Nat} (h : ∀ t, a.testBit t = true ↔ b.testBit t = true) : a = b := by
  apply Nat.eq_of_testBit_eq
  intro t
  rw [Bool.eq_iff_iff]
  exact h t
theorem stV_one {d : DfaD} (hd : dfaOk d.next d.ends = true) {s c : Nat} (hs : s < d.next.length) (hc : c < 3) : ∃ q : Nat, q < d.next.length ∧ stV 40 (mvs d d.next.length) (2 ^ s) (c : Int) = 2 ^ q := by
  have hr := (dfaOk_row hd hs).2 c hc
  obtain ⟨q, hq⟩ := Int.eq_ofNat_of_zero_le hr.1
  refine ⟨q, by omega, ?_⟩
  unfold stV
  rw [clV_idem (nfaOf_closed _ _)]
  apply bit_ext
  intro t
  rw [stFold_bit, bit_two, decide_eq_true_eq]
  constructor
  · rintro (h | ⟨m, hm, h1, h2, h3⟩)
    · simp at h
    · obtain ⟨s', c', h4, h5, rfl⟩ := mvs_mem.1 hm
      rw [bit_two, decide_eq_true_eq] at h2
      simp only [Int.toNat_natCast] at h2
      subst h2
      have : c' = c := by simp only at h1; omega
      subst this
      simp only [hq] at h3
      omega
  · rintro rfl
    right
    refine ⟨_, mvs_mem.2 ⟨s, c, hs, hc, rfl⟩, rfl, ?_, ?_⟩
    · rw [bit_two]
      simp
    · simp only [hq]
      omega
theorem met_one {d : DfaD} (hd : dfaOk d.next d.ends = true) (K : Nat) : (metS (nfaOf d) K).length ≤ d.next.length := by
  have hl := dfaOk_len hd
  have hf : fstV (nfaOf d) = 2 ^ 0 := by
    unfold fstV
    rw [show (nfaOf d).moves = mvs d d.next.length from rfl, clV_idem (nfaOf_closed _ _)]
    rfl
  have hall : ∀ x ∈ metS (nfaOf d) K, ∃ s : Nat, s < d.next.length ∧ x = (((2 ^ s : Nat) : Int), 0) := by
    refine bat_all (Q := fun x => ∃ s : Nat, s < d.next.length ∧ x = (((2 ^ s : Nat) : Int), 0)) ⟨0, by omega, by rw [hf]⟩ ?_ K
    rintro x c hc ⟨s, hs, rfl⟩
    obtain ⟨q, hq, h⟩ := stV_one hd hs hc
    refine ⟨q, hq, ?_⟩
    unfold nxS
    rw [show (nfaOf d).moves = mvs d d.next.length from rfl]
    simp only [Int.toNat_natCast]
    rw [h]
  have := nodup_le (bat_good (nx := nxS (nfaOf d)) (a := (((fstV (nfaOf d) : Nat) : Int), 0)) K).1 (m := (List.range d.next.length).map fun s => (((2 ^ s : Nat) : Int), (0 : Int))) fun x hx => by
    obtain ⟨s, hs, rfl⟩ := hall x hx
    exact List.mem_map.2 ⟨s, List.mem_range.2 hs, rfl⟩
  simpa using this
theorem eds_pair (d : DfaD) : ∀ k, (eds d k).Pairwise (· < ·)
  | 0 => List.Pairwise.nil
  | k + 1 => by
    unfold eds
    split
    · rw [List.pairwise_append]
      refine ⟨eds_pair d k, List.pairwise_singleton _ _, fun x hx y hy => ?_⟩
      rw [List.mem_singleton.1 hy]
      exact (eds_in d k x hx).2
    · exact eds_pair d k
theorem nfaOf_ok {d : DfaD} (hd : dfaOk d.next d.ends = true) : nfaOk (nfaOf d) = true := by
  have hl := dfaOk_len hd
  unfold nfaOk
  simp only [Bool.and_eq_true, decide_eq_true_eq]
  refine ⟨⟨⟨⟨?_, ?_⟩, ?_⟩, ?_⟩, ?_⟩
  · show inB (d.next.length : Int) 0 40 = true
    simp only [inB, Bool.and_eq_true, decide_eq_true_eq]
    exact ⟨by omega, by omega⟩
  · show (mvs d d.next.length).length ≤ 400
    rw [mvs_len]
    omega
  · refine stOk_ofP fun j hj => ?_
    have hj : j < 1 := hj
    obtain rfl : j = 0 := by omega
    refine ⟨?_, fun h => by omega⟩
    simp only [nfaOf, List.getD_cons_zero]
    omega
  · refine stOk_ofP fun j hj => ?_
    have hj : j < (eds d d.next.length).length := hj
    have h1 := eds_in d _ _ (memD (d := (0 : Int)) hj)
    refine ⟨?_, fun h => ?_⟩
    · show 0 ≤ (eds d d.next.length).getD j 0 ∧ (eds d d.next.length).getD j 0 ≤ (d.next.length : Int) - 1
      omega
    · have := List.pairwise_iff_getElem.1 (eds_pair d d.next.length) (j - 1) j (by omega) hj (by omega)
      show (eds d d.next.length).getD (j - 1) 0 < (eds d d.next.length).getD j 0
      rw [getD_at (by omega), getD_at hj]
      exact this
  · rw [List.all_eq_true]
    intro m hm
    obtain ⟨s, c, h1, h2, rfl⟩ := mvs_mem.1 (show m ∈ mvs d d.next.length from hm)
    have hr := (dfaOk_row hd h1).2 c h2
    show mvOk (d.next.length : Int) _ = true
    simp only [mvOk, inB, Bool.and_eq_true, decide_eq_true_eq]
    exact ⟨⟨⟨by omega, by omega⟩, by omega, by omega⟩, by omega, by omega⟩
end Go.Proofs.Ytjcegbcmomfgaaa
namespace Go.Proofs.Ytjcegbcmomfgaaa
open Go.RowKit

/-- How many sets are met, at most one more than fit; -1 where the automaton is not in order. -/
def cntK (K : Nat) (n : NfaD) : Int := if nfaOk n = true then (if (metS n K).length ≤ K then ((metS n K).length : Int) else 41) else -1

set_option maxRecDepth 100000 in
set_option maxHeartbeats 4000000 in
theorem implCountK_any (K : Nat) (hK : K = 40) (n : NfaD) (v : Value) (w : World) (h : NfaR 0 w v n) (c : Int) (hc : cntK K n = c) :
    Calls Try.prog 14 #[v] w fun e w' => e = .returned (.int .i64 c) ∧ Below w.heap.size w w' := by
  have H := Lib.hid h
  obtain ⟨v1, v2, v3, rfl, g1, g2, g3, -, -⟩ := h
  have hS0 := (St.start w).alloc _ rfl #[.int .i64 n.states, v1, v2, v3] 26
  have e0 := hS0.cell (v := .int .i64 n.states) 0 0 rfl rfl
  have e1 := hS0.cell (v := v1) 0 1 rfl rfl
  have e2 := hS0.cell (v := v2) 0 2 rfl rfl
  have e3 := hS0.cell (v := v3) 0 3 rfl rfl
  cases hok : nfaOk n
  · obtain rfl : c = -1 := by rw [← hc]; unfold cntK; rw [if_neg (by rw [hok]; simp)]
    have Hhok := Lib.hid hok; clear hok
    have HhS0 := Lib.hid hS0; clear hS0
    clear g1 g2 g3 hc
    go_enter Try.func14, Try.ntmps14
    go_wp2_with fail
    refine (implNfaValid_any n _ _ (H.out.below HhS0.out.bel) _ Hhok.out).mono ?_
    rintro e w1 ⟨rfl, hb1⟩
    have HS1 := Lib.hid (HhS0.out.call hb1)
    clear hb1
    go_wp2
    go_ret
    exact ⟨rfl, HS1.out.bel⟩
  · obtain ⟨m, hm, hm40, hmv, hml, hf, hfl, he, hel⟩ := nfaOk_facts hok
    have hdet := fun (u : World) (hu : Below w.heap.size w u) => determinize_any n K hK v1 v2 v3 u (mvIn_40 hmv hm40) (by omega) (fun s hs => by have := hf s hs; omega) (by omega) (fun s hs => by have := he s hs; omega) (g1.below hu) (g2.below hu) (g3.below hu)
    have Hdet := Lib.hid hdet
    unfold cntK at hc
    rw [if_pos hok] at hc
    have Hhok := Lib.hid hok; clear hok
    have HhS0 := Lib.hid hS0; clear hS0
    have Hhc := Lib.hid hc; clear hc
    clear g1 g2 g3 hdet hm
    go_enter Try.func14, Try.ntmps14
    go_wp2_with fail
    refine (implNfaValid_any n _ _ (H.out.below HhS0.out.bel) _ Hhok.out).mono ?_
    rintro e w1 ⟨rfl, hb1⟩
    have HS1 := Lib.hid (HhS0.out.call hb1)
    clear hb1 e0 e1 e2 e3
    have e0 := HS1.out.cell (v := .int .i64 n.states) 0 0 rfl rfl
    have e1 := HS1.out.cell (v := v1) 0 1 rfl rfl
    have e2 := HS1.out.cell (v := v2) 0 2 rfl rfl
    have e3 := HS1.out.cell (v := v3) 0 3 rfl rfl
    go_wp2_with fail
    refine (Hdet.out _ HS1.out.bel).mono ?_
    rintro e w2 ⟨hr, hb2⟩
    unfold RDet at hr
    have HS2 := Lib.hid (HS1.out.call hb2)
    clear hb2 e0 e1 e2 e3
    have hc := Hhc.out
    by_cases hle : (metS n K).length ≤ K
    · rw [if_pos hle] at hr hc
      obtain ⟨an, cn, ae, ce, rfl, -⟩ := hr
      obtain ⟨ln, hln⟩ : ∃ ln, ln = (metS n K).length := ⟨_, rfl⟩
      rw [← hln] at hc ⊢
      rw [← hln] at hle
      subst hc
      have Hhln := Lib.hid hln; clear hln
      clear hle hK
      have HS3 := Lib.hid (HS2.out.alloc _ rfl #[.slice an ln cn, .slice ae ln ce] 33)
      go_wp2
      go_ret
      exact ⟨rfl, HS3.out.bel⟩
    · rw [if_neg hle] at hr hc
      subst hr
      subst hc
      clear hle hK
      have HS3 := Lib.hid (HS2.out.alloc _ rfl #[.slice none 0 0, .slice none 0 0] 33)
      go_wp2
      go_ret
      exact ⟨rfl, HS3.out.bel⟩
set_option maxRecDepth 100000 in
set_option maxHeartbeats 4000000 in
theorem specCountK_any (K : Nat) (hK : K = 40) (n : NfaD) (v : Value) (w : World) (h : NfaR 0 w v n) (c : Int) (hc : cntK K n = c) :
    Calls Try.prog 15 #[v] w fun e w' => e = .returned (.int .i64 c) ∧ Below w.heap.size w w' := by
  have H := Lib.hid h
  obtain ⟨v1, v2, v3, rfl, g1, g2, g3, -, -⟩ := h
  have hS0 := (St.start w).alloc _ rfl #[.int .i64 n.states, v1, v2, v3] 26
  have e0 := hS0.cell (v := .int .i64 n.states) 0 0 rfl rfl
  have e1 := hS0.cell (v := v1) 0 1 rfl rfl
  have e2 := hS0.cell (v := v2) 0 2 rfl rfl
  have e3 := hS0.cell (v := v3) 0 3 rfl rfl
  cases hok : nfaOk n
  · obtain rfl : c = -1 := by rw [← hc]; unfold cntK; rw [if_neg (by rw [hok]; simp)]
    have Hhok := Lib.hid hok; clear hok
    have HhS0 := Lib.hid hS0; clear hS0
    clear g1 g2 g3 hc
    go_enter Try.func15, Try.ntmps15
    go_wp2_with fail
    refine (specNfaValid_any n _ _ (H.out.below HhS0.out.bel) _ Hhok.out).mono ?_
    rintro e w1 ⟨rfl, hb1⟩
    have HS1 := Lib.hid (HhS0.out.call hb1)
    clear hb1
    go_wp2
    go_ret
    exact ⟨rfl, HS1.out.bel⟩
  · obtain ⟨m, hm, hm40, hmv, hml, hf, hfl, he, hel⟩ := nfaOk_facts hok
    have hnn : n = ⟨(m : Int), n.moves, n.firsts, n.ends⟩ := by rw [← hm]
    have hsub := fun (u : World) (hu : Below w.heap.size w u) => l9SubsetsK_any m K hK n.moves n.firsts n.ends v1 v2 v3 u hm40 hmv (by omega) hf (by omega) (g1.below hu) (g2.below hu)
    rw [← hnn, ← hm] at hsub
    have Hsub := Lib.hid hsub
    unfold cntK at hc
    rw [if_pos hok] at hc
    have Hhok := Lib.hid hok; clear hok
    have HhS0 := Lib.hid hS0; clear hS0
    have Hhc := Lib.hid hc; clear hc
    clear g1 g2 g3 hsub hm hnn
    go_enter Try.func15, Try.ntmps15
    go_wp2_with fail
    refine (specNfaValid_any n _ _ (H.out.below HhS0.out.bel) _ Hhok.out).mono ?_
    rintro e w1 ⟨rfl, hb1⟩
    have HS1 := Lib.hid (HhS0.out.call hb1)
    clear hb1 e0 e1 e2 e3
    have e0 := HS1.out.cell (v := .int .i64 n.states) 0 0 rfl rfl
    have e1 := HS1.out.cell (v := v1) 0 1 rfl rfl
    have e2 := HS1.out.cell (v := v2) 0 2 rfl rfl
    have e3 := HS1.out.cell (v := v3) 0 3 rfl rfl
    go_wp2_with fail
    refine (Hsub.out _ HS1.out.bel).mono ?_
    rintro e w2 ⟨a1, d1, a2, d2, l1, l2, rfl, hl1, hr⟩
    clear e0 e1 e2 e3
    have hc := Hhc.out
    by_cases hle : (metS n K).length ≤ K
    · rw [if_pos hle] at hr hc
      obtain ⟨hl, vs1, vs2, hS'⟩ := hr
      have HS2 := Lib.hid (HS1.out.call hS'.bel)
      have hc1 : c = (l1 : Int) := by rw [← hc, hl]
      subst hc1
      have hmin : min (l1 : Int) 41 = (l1 : Int) := by omega
      have hlt : ¬ (41 : Int) < (l1 : Int) := by omega
      have Hhl := Lib.hid hl; clear hl
      clear hS' hc hle hK
      go_wp2
      go_ret
      exact ⟨rfl, HS2.out.bel⟩
    · rw [if_neg hle] at hr hc
      obtain ⟨hl, hb⟩ := hr
      subst hc
      have HS2 := Lib.hid (HS1.out.call hb)
      have hmin : min (l1 : Int) 41 = 41 := by omega
      have hlt : (41 : Int) ≤ (l1 : Int) := by omega
      clear hb hle hK
      go_wp2
      all_goals first
        | (go_ret; exact ⟨rfl, HS2.out.bel⟩)
        | (obtain rfl : l1 = 41 := by omega
           go_ret
           exact ⟨rfl, HS2.out.bel⟩)
end Go.Proofs.Ytjcegbcmomfgaaa
namespace Go.Proofs.Ytjcegbcmomfgaaa
open Go.RowKit

set_option maxRecDepth 100000 in
set_option maxHeartbeats 8000000 in
theorem drawDetSame_any (bs : List Nat) (v : Value) (w : World) (hb : Bytes 0 w v bs) (hlen : bs.length ≤ 100000000) :
    Calls Try.prog 17 #[v] w fun e w' => ∃ (n : NfaD) (a1 a2 a3 : Option Addr) (c1 c2 c3 : Nat), -1 ≤ n.states ∧ n.states ≤ 41 ∧ n.moves.length ≤ 401 ∧ n.firsts.length ≤ 41 ∧ n.ends.length ≤ 41 ∧
      e = .returned (.agg #[.int .i64 n.states, .slice a1 n.moves.length c1, .slice a2 n.firsts.length c2, .slice a3 n.ends.length c3]) ∧ St w w' [Ent.row 76 3 (.slice a1 n.moves.length c1) n.moves.length (n.moves.flatMap moveCells), Ent.row 3 1 (.slice a2 n.firsts.length c2) n.firsts.length (intCells n.firsts), Ent.row 3 1 (.slice a3 n.ends.length c3) n.ends.length (intCells n.ends)] := by
  have hS0 := (St.start w).alloc _ rfl #[.int .i64 0, .slice none 0 0, .slice none 0 0, .slice none 0 0] 26
  have Hb := Lib.hid hb
  have HhS0 := Lib.hid hS0; clear hS0
  clear hb
  go_enter Try.func17, Try.ntmps17
  go_wp2_with fail
  refine (open2_any bs v _ (Hb.out.below HhS0.out.bel) hlen).mono ?_
  rintro e w1 ⟨vb, bs', hl', hB, rfl, hS'⟩
  obtain ⟨b, hbb⟩ : ∃ b, b = (w.alloc (.cells #[.int .i64 0, .slice none 0 0, .slice none 0 0, .slice none 0 0] 26)).heap.size := ⟨_, rfl⟩
  rw [← hbb] at hS'
  rw [← hbb]
  have hB1 := hB w Hb.out
  have HB := Lib.hid hB1
  have HS1 := Lib.hid ((HhS0.out.cat hS').pick [1, 0] (by decide))
  have Hhbb := Lib.hid hbb; clear hbb
  clear hS' hB hB1
  go_wp2_with fail
  refine (l20Nfa_any bs' vb b 0 12 w w1 _ HB.out hl' (by omega) (by omega) HS1.out).mono ?_
  rintro e w2 ⟨n, pn, a1, a2, a3, c1, c2, c3, hpn, hs0, hs1, hm, hf, he, rfl, hS2⟩
  have HS := Lib.hid hS2
  clear hS2
  have f0 := HS.out.fr 1 0 rfl
  have k0 := HS.out.cell (v := .int .i64 0) 1 0 rfl rfl
  have f1 := HS.out.fr 1 1 rfl
  have k1 := HS.out.cell (v := .slice none 0 0) 1 1 rfl rfl
  have f2 := HS.out.fr 1 2 rfl
  have k2 := HS.out.cell (v := .slice none 0 0) 1 2 rfl rfl
  have f3 := HS.out.fr 1 3 rfl
  have k3 := HS.out.cell (v := .slice none 0 0) 1 3 rfl rfl
  have HS3 := Lib.hid ((((HS.out.set 1 rfl 0 (.int .i64 n.states)).set 1 rfl 1 (.slice a1 n.moves.length c1)).set 1 rfl 2 (.slice a2 n.firsts.length c2)).set 1 rfl 3 (.slice a3 n.ends.length c3))
  have q0 := HS3.out.cell (v := .int .i64 n.states) 1 0 rfl rfl
  have q1 := HS3.out.cell (v := .slice a1 n.moves.length c1) 1 1 rfl rfl
  have q2 := HS3.out.cell (v := .slice a2 n.firsts.length c2) 1 2 rfl rfl
  have q3 := HS3.out.cell (v := .slice a3 n.ends.length c3) 1 3 rfl rfl
  go_wp2
  refine bodyPost_ret (v := .agg #[.int .i64 n.states, .slice a1 n.moves.length c1, .slice a2 n.firsts.length c2, .slice a3 n.ends.length c3]) (by simp [results, Try.results17, go_sem, q0, q1, q2, q3]) rfl ?_
  exact ⟨n, a1, a2, a3, c1, c2, c3, hs0, hs1, hm, hf, he, rfl, HS3.out.pick [2, 3, 4] (by decide)⟩
theorem det_trim {n : NfaD} {D : DfaD} (h : det n = some D) : trimD D = D := by
  obtain ⟨-, h2, rfl⟩ := det_okK h
  exact trim_num h2
theorem det_cnt {n : NfaD} {D : DfaD} (h : det n = some D) : cntK forty n = (D.next.length : Int) := by
  obtain ⟨h1, h2, rfl⟩ := det_okK h
  unfold cntK
  rw [if_pos h1, if_pos h2, numDfa_len]
theorem det_accQ {n : NfaD} {D : DfaD} (h : det n = some D) (l : List Nat) : accT n l = (wdOk l && accD D (lets l)) := by
  cases hw : wdOk l
  · unfold accT
    rw [hw]
    simp
  · rw [Bool.true_and]
    exact (det_accT h hw).symm
theorem det_zero {n : NfaD} {D : DfaD} (hD : (det n).getD zeroD = D) (hf : (det n).isSome = false) : D.next.length = 0 := by
  cases h : det n with
  | none => rw [← hD, h]; rfl
  | some x => rw [h] at hf; cases hf
set_option maxRecDepth 100000 in
set_option maxHeartbeats 16000000 in
theorem detSame_walk (bs cs : List Nat) (v u : Value) (w : World) (hb : Bytes 0 w v bs) (hc : Bytes 0 w u cs) :
    Calls Try.prog 5 #[v, u] w fun e w' => e = .returned (.bool true) ∧ Below w.heap.size w w' := by
  have HB := Lib.hid hb
  have HC := Lib.hid hc
  obtain ⟨av, cv, rfl, hcv1, hcv2, -⟩ := hb.form
  obtain ⟨au, cu, rfl, hcu1, hcu2, -⟩ := hc.form
  clear hb hc
  by_cases hlen : 1048576 < bs.length
  · have hl2 : (1048576 : Int) < bs.length := by omega
    go_enter Try.func5, Try.ntmps5
    go_wp2
    go_ret
    exact ⟨rfl, Below.refl _ _⟩
  have hl2 : ¬ (1048576 : Int) < bs.length := by omega
  by_cases hlen2 : 1048576 < cs.length
  · have hl3 : (1048576 : Int) < cs.length := by omega
    go_enter Try.func5, Try.ntmps5
    go_wp2
    go_ret
    exact ⟨rfl, Below.refl _ _⟩
  have hl3 : ¬ (1048576 : Int) < cs.length := by omega
  go_enter Try.func5, Try.ntmps5
  go_wp2_with fail
  refine (drawDetSame_any bs _ _ HB.out (by omega)).mono ?_
  rintro e w1 ⟨n, a1, a2, a3, c1, c2, c3, hs0, hs1, hm, hf, he, rfl, hS⟩
  have HS := Lib.hid (hS.alloc _ rfl #[.int .i64 n.states, .slice a1 n.moves.length c1, .slice a2 n.firsts.length c2, .slice a3 n.ends.length c3] 26)
  have e0 := HS.out.cell (v := .int .i64 n.states) 3 0 rfl rfl
  have e1 := HS.out.cell (v := .slice a1 n.moves.length c1) 3 1 rfl rfl
  have e2 := HS.out.cell (v := .slice a2 n.firsts.length c2) 3 2 rfl rfl
  have e3 := HS.out.cell (v := .slice a3 n.ends.length c3) 3 3 rfl rfl
  obtain ⟨D, hD⟩ : ∃ D, (det n).getD zeroD = D := ⟨_, rfl⟩
  clear hS
  cases hfb : (det n).isSome
  · have hz := det_zero hD hfb
    have hz0 : ((D.next.length : Int) == 0) = true := by rw [hz]; rfl
    have Hhz := Lib.hid hz; clear hz
    have HhD := Lib.hid hD; clear hD
    have Hhfb := Lib.hid hfb; clear hfb
    go_wp2_with fail
    refine (implDet_any n D _ HhD.out Hhfb.out _ _ (nfaR_rows HS.out 0 1 2 rfl rfl rfl (by omega) (by omega))).mono ?_
    rintro e w2 ⟨⟨b1, d1, b2, d2, rfl, hdo⟩, hb2⟩
    have hS2 := (HS.out.call hb2).alloc _ rfl #[.slice b1 D.next.length d1, .slice b2 D.ends.length d2] 33
    have hdr := ((hdo.r).mono (Nat.zero_le _)).below ((Below.refl w2.heap.size w2).alloc (Nat.le_refl _) (.cells #[.slice b1 D.next.length d1, .slice b2 D.ends.length d2] 33))
    have HS2 := Lib.hid hS2
    have HDr2 := Lib.hid hdr
    clear hb2 hdo hdr hS2 e0 e1 e2 e3
    have e0 := HS2.out.cell (v := .int .i64 n.states) 3 0 rfl rfl
    have e1 := HS2.out.cell (v := .slice a1 n.moves.length c1) 3 1 rfl rfl
    have e2 := HS2.out.cell (v := .slice a2 n.firsts.length c2) 3 2 rfl rfl
    have e3 := HS2.out.cell (v := .slice a3 n.ends.length c3) 3 3 rfl rfl
    go_wp2_with fail
    refine (specDet_any n D _ HhD.out Hhfb.out _ _ (nfaR_rows HS2.out 0 1 2 rfl rfl rfl (by omega) (by omega))).mono ?_
    rintro e w3 ⟨⟨x1, y1, x2, y2, rfl, hxr⟩, hb3⟩
    have hS3 := (HS2.out.call hb3).alloc _ rfl #[.slice x1 D.next.length y1, .slice x2 D.ends.length y2] 33
    have hxr3 := hxr.below ((Below.refl w3.heap.size w3).alloc (Nat.le_refl _) (.cells #[.slice x1 D.next.length y1, .slice x2 D.ends.length y2] 33))
    have hdr3 := (HDr2.out.below hb3).below ((Below.refl w3.heap.size w3).alloc (Nat.le_refl _) (.cells #[.slice x1 D.next.length y1, .slice x2 D.ends.length y2] 33))
    have HS3 := Lib.hid hS3
    have HXr := Lib.hid hxr3
    have HDr3 := Lib.hid hdr3
    clear hb3 hxr hxr3 hdr3 hS3 e0 e1 e2 e3
    have e0 := HS3.out.cell (v := .slice b1 D.next.length d1) 4 0 rfl rfl
    have e1 := HS3.out.cell (v := .slice b2 D.ends.length d2) 4 1 rfl rfl
    have f0 := HS3.out.cell (v := .slice x1 D.next.length y1) 5 0 rfl rfl
    have f1 := HS3.out.cell (v := .slice x2 D.ends.length y2) 5 1 rfl rfl
    go_wp2_with fail
    refine (sameDfa_any D _ _ _ HDr3.out HXr.out).mono ?_
    rintro e w4 ⟨rfl, hb4⟩
    have HS4 := Lib.hid (HS3.out.call hb4)
    have HDr4 := Lib.hid (HDr3.out.below hb4)
    clear hb4 e0 e1 f0 f1
    have e0 := HS4.out.cell (v := .slice b1 D.next.length d1) 4 0 rfl rfl
    go_wp2_with (go_at_call 12; refine (alive_any _).mono ?_; rintro e w' ⟨rfl, rfl⟩)
    go_ret
    exact ⟨rfl, HS4.out.bel⟩
  · have hdet := det_some hD hfb
    have hdok := det_dfaOk hdet
    have htrm := det_trim hdet
    have hcnt := det_cnt hdet
    have haccq := det_accQ hdet
    have htr := fun (u : World) (x : Value) (hu : DfaR 0 u x D) => implDfaTrim_any D x u hdok hu D htrm
    have Htr := Lib.hid htr
    have HhD := Lib.hid hD; clear hD
    have Hhfb := Lib.hid hfb; clear hfb
    have Hhdet := Lib.hid hdet; clear hdet
    have Hhdok := Lib.hid hdok; clear hdok
    have Hhtrm := Lib.hid htrm; clear htrm
    have Hhcnt := Lib.hid hcnt; clear hcnt
    have Hhaccq := Lib.hid haccq; clear haccq
    clear htr
    go_wp2_with fail
    refine (implDet_any n D _ HhD.out Hhfb.out _ _ (nfaR_rows HS.out 0 1 2 rfl rfl rfl (by omega) (by omega))).mono ?_
    rintro e w2 ⟨⟨b1, d1, b2, d2, rfl, hdo⟩, hb2⟩
    have hS2 := (HS.out.call hb2).alloc _ rfl #[.slice b1 D.next.length d1, .slice b2 D.ends.length d2] 33
    have hdr := ((hdo.r).mono (Nat.zero_le _)).below ((Below.refl w2.heap.size w2).alloc (Nat.le_refl _) (.cells #[.slice b1 D.next.length d1, .slice b2 D.ends.length d2] 33))
    have HS2 := Lib.hid hS2
    have HDr2 := Lib.hid hdr
    clear hb2 hdo hdr hS2 e0 e1 e2 e3
    have e0 := HS2.out.cell (v := .int .i64 n.states) 3 0 rfl rfl
    have e1 := HS2.out.cell (v := .slice a1 n.moves.length c1) 3 1 rfl rfl
    have e2 := HS2.out.cell (v := .slice a2 n.firsts.length c2) 3 2 rfl rfl
    have e3 := HS2.out.cell (v := .slice a3 n.ends.length c3) 3 3 rfl rfl
    go_wp2_with fail
    refine (specDet_any n D _ HhD.out Hhfb.out _ _ (nfaR_rows HS2.out 0 1 2 rfl rfl rfl (by omega) (by omega))).mono ?_
    rintro e w3 ⟨⟨x1, y1, x2, y2, rfl, hxr⟩, hb3⟩
    have hS3 := (HS2.out.call hb3).alloc _ rfl #[.slice x1 D.next.length y1, .slice x2 D.ends.length y2] 33
    have hxr3 := hxr.below ((Below.refl w3.heap.size w3).alloc (Nat.le_refl _) (.cells #[.slice x1 D.next.length y1, .slice x2 D.ends.length y2] 33))
    have hdr3 := (HDr2.out.below hb3).below ((Below.refl w3.heap.size w3).alloc (Nat.le_refl _) (.cells #[.slice x1 D.next.length y1, .slice x2 D.ends.length y2] 33))
    have HS3 := Lib.hid hS3
    have HXr := Lib.hid hxr3
    have HDr3 := Lib.hid hdr3
    clear hb3 hxr hxr3 hdr3 hS3 e0 e1 e2 e3
    have e0 := HS3.out.cell (v := .slice b1 D.next.length d1) 4 0 rfl rfl
    have e1 := HS3.out.cell (v := .slice b2 D.ends.length d2) 4 1 rfl rfl
    have f0 := HS3.out.cell (v := .slice x1 D.next.length y1) 5 0 rfl rfl
    have f1 := HS3.out.cell (v := .slice x2 D.ends.length y2) 5 1 rfl rfl
    go_wp2_with fail
    refine (sameDfa_any D _ _ _ HDr3.out HXr.out).mono ?_
    rintro e w4 ⟨rfl, hb4⟩
    have HS4 := Lib.hid (HS3.out.call hb4)
    have HDr4 := Lib.hid (HDr3.out.below hb4)
    clear hb4 e0 e1 f0 f1
    go_wp2_with fail
    refine (drawWord_any cs _ _ (HC.out.below HS4.out.bel) (by omega)).mono ?_
    rintro e w5 ⟨l, ht, hl, rfl, hb5⟩
    have HS5 := Lib.hid (HS4.out.call hb5)
    have HDr := Lib.hid (HDr4.out.below hb5)
    have HNr := Lib.hid (nfaR_rows HS5.out 0 1 2 rfl rfl rfl (by omega) (by omega))
    obtain ⟨q, hq⟩ : ∃ q, (wdOk l && accD D (lets l)) = q := ⟨_, rfl⟩
    have hacc := (Hhaccq.out l).trans hq
    have hqq : (q == q) = true := beq_self_eq_true q
    have Hhq := Lib.hid hq; clear hq
    have Hhacc := Lib.hid hacc; clear hacc
    have Hht := Lib.hid ht; clear ht
    have N0 := Lib.hid (HS5.out.cell (v := .int .i64 n.states) 3 0 rfl rfl)
    have N1 := Lib.hid (HS5.out.cell (v := .slice a1 n.moves.length c1) 3 1 rfl rfl)
    have N2 := Lib.hid (HS5.out.cell (v := .slice a2 n.firsts.length c2) 3 2 rfl rfl)
    have N3 := Lib.hid (HS5.out.cell (v := .slice a3 n.ends.length c3) 3 3 rfl rfl)
    have C0 := Lib.hid (HS5.out.cell (v := .slice b1 D.next.length d1) 4 0 rfl rfl)
    have C1 := Lib.hid (HS5.out.cell (v := .slice b2 D.ends.length d2) 4 1 rfl rfl)
    have HltN := Lib.hid (HS5.out.boxlt 3 rfl).2
    have HltC := Lib.hid (HS5.out.boxlt 4 rfl).2
    clear hb5
    go_wp2
    refine wp_region_any (by kernel_rfl) ?_
    refine wpAny_invA (fun A listed a w' => ∃ (l0 l1 l2 l3 l4 l5 l6 l7 l8 l9 l10 l11 l12 l13 l14 l15 l16 l17 l18 l19 l20 l21 l22 l23 l24 l25 : Bool) (ay1 : Option Addr) (cy1 : Nat) (ay2 : Option Addr) (cy2 : Nat) (yvs : List Value), listed = #[l0, l1, l2, l3, l4, l5, l6, l7, l8, l9, l10, l11, l12, l13, l14, l15, l16, l17, l18, l19, l20, l21, l22, l23, l24, l25] ∧
        a = ⟨((((((((((((((((((((((((((A.tmps.setIfInBounds 51 (if l0 = true then .agg #[.slice b1 D.next.length d1, .slice b2 D.ends.length d2] else A.tmps.getD 51 undef)).setIfInBounds 52 (if l1 = true then .bool true else A.tmps.getD 52 undef)).setIfInBounds 53 (if l2 = true then .bool true else A.tmps.getD 53 undef)).setIfInBounds 54 (if l3 = true then .agg #[.slice b1 D.next.length d1, .slice b2 D.ends.length d2] else A.tmps.getD 54 undef)).setIfInBounds 55 (if l4 = true then .string (txB l) else A.tmps.getD 55 undef)).setIfInBounds 56 (if l5 = true then .bool q else A.tmps.getD 56 undef)).setIfInBounds 57 (if l6 = true then .agg #[.int .i64 n.states, .slice a1 n.moves.length c1, .slice a2 n.firsts.length c2, .slice a3 n.ends.length c3] else A.tmps.getD 57 undef)).setIfInBounds 58 (if l7 = true then .string (txB l) else A.tmps.getD 58 undef)).setIfInBounds 59 (if l8 = true then .bool q else A.tmps.getD 59 undef)).setIfInBounds 60 (if l9 = true then .bool true else A.tmps.getD 60 undef)).setIfInBounds 61 (if l10 = true then .bool true else A.tmps.getD 61 undef)).setIfInBounds 62 (if l11 = true then .bool true else A.tmps.getD 62 undef)).setIfInBounds 63 (if l12 = true then .agg #[.slice b1 D.next.length d1, .slice b2 D.ends.length d2] else A.tmps.getD 63 undef)).setIfInBounds 64 (if l13 = true then .agg #[.slice ay1 D.next.length cy1, .slice ay2 D.ends.length cy2] else A.tmps.getD 64 undef)).setIfInBounds 65 (if l14 = true then .agg #[.slice b1 D.next.length d1, .slice b2 D.ends.length d2] else A.tmps.getD 65 undef)).setIfInBounds 66 (if l15 = true then .bool true else A.tmps.getD 66 undef)).setIfInBounds 67 (if l16 = true then .bool true else A.tmps.getD 67 undef)).setIfInBounds 68 (if l17 = true then .bool true else A.tmps.getD 68 undef)).setIfInBounds 69 (if l18 = true then .agg #[.int .i64 n.states, .slice a1 n.moves.length c1, .slice a2 n.firsts.length c2, .slice a3 n.ends.length c3] else A.tmps.getD 69 undef)).setIfInBounds 70 (if l19 = true then .int .i64 (D.next.length : Int) else A.tmps.getD 70 undef)).setIfInBounds 71 (if l20 = true then .pointer (some ⟨w2.heap.size, 0, none⟩) else A.tmps.getD 71 undef)).setIfInBounds 72 (if l21 = true then .slice b1 D.next.length d1 else A.tmps.getD 72 undef)).setIfInBounds 73 (if l22 = true then .int .i64 (D.next.length : Int) else A.tmps.getD 73 undef)).setIfInBounds 74 (if l23 = true then .bool true else A.tmps.getD 74 undef)).setIfInBounds 75 (if l24 = true then .bool true else A.tmps.getD 75 undef)).setIfInBounds 4 (.bool l25)), A.defers⟩ ∧
        St w5 w' [(if l13 = true then Ent.rows 24 3 (.slice ay1 D.next.length cy1) yvs (D.next.map intCells) else Ent.nil), (if l13 = true then Ent.row 4 1 (.slice ay2 D.ends.length cy2) D.ends.length (boolCells D.ends) else Ent.nil)]) ?_ ?_ ?_
    · rintro listed a w' ⟨l0, l1, l2, l3, l4, l5, l6, l7, l8, l9, l10, l11, l12, l13, l14, l15, l16, l17, l18, l19, l20, l21, l22, l23, l24, l25, ay1, cy1, ay2, cy2, yvs, rfl, rfl, hS⟩ i hi
      obtain ⟨hun, o, ho, hall⟩ := mem_ready.1 hi
      have hlt := (Array.getElem?_eq_some_iff.1 ho).1
      refine wpOp_step ho (fun K hK => ?_)
      clear hi
      have HS := Lib.hid hS
      clear hS
      simp only [List.setIfInBounds_toArray, List.set_cons_zero, List.set_cons_succ, Array.getD_eq_getD_getElem?, List.getElem?_toArray, List.getElem?_cons_zero, List.getElem?_cons_succ, Option.getD_some]
      obtain h | h | h | h | h | h | h | h | h | h | h | h | h | h | h | h | h | h | h | h | h | h | h | h | h | h : i = 0 ∨ i = 1 ∨ i = 2 ∨ i = 3 ∨ i = 4 ∨ i = 5 ∨ i = 6 ∨ i = 7 ∨ i = 8 ∨ i = 9 ∨ i = 10 ∨ i = 11 ∨ i = 12 ∨ i = 13 ∨ i = 14 ∨ i = 15 ∨ i = 16 ∨ i = 17 ∨ i = 18 ∨ i = 19 ∨ i = 20 ∨ i = 21 ∨ i = 22 ∨ i = 23 ∨ i = 24 ∨ i = 25 := by simp at hlt; omega
      all_goals subst h
      all_goals simp only [List.getElem?_toArray, List.getElem?_cons_zero, List.getElem?_cons_succ, Option.some.injEq] at ho
      all_goals subst ho
      all_goals simp [Region.binds] at hun hall
      · subst hun
        have e0 := (bcell HS.out.bel (w2.heap.size) 0 HltC.out).trans C0.out
        have e1 := (bcell HS.out.bel (w2.heap.size) 1 HltC.out).trans C1.out
        go_simp
        exact hK _ _ ⟨true, l1, l2, l3, l4, l5, l6, l7, l8, l9, l10, l11, l12, l13, l14, l15, l16, l17, l18, l19, l20, l21, l22, l23, l24, l25, ay1, cy1, ay2, cy2, yvs, rfl, (by simp only [↓reduceIte, Bool.false_eq_true, List.setIfInBounds_toArray, List.set_cons_zero, List.set_cons_succ, Array.getD_eq_getD_getElem?, List.getElem?_toArray, List.getElem?_cons_zero, List.getElem?_cons_succ, Option.getD_some]), HS.out⟩
      · obtain rfl := hall
        subst hun
        go_simp
        go_at_call 21
        refine (implDfaValid_any D _ _ (HDr.out.below HS.out.bel) _ Hhdok.out).mono ?_
        rintro e u1 ⟨rfl, hb⟩
        have hS2 := HS.out.call hb
        have HhS2 := Lib.hid hS2; clear hS2
        go_simp
        exact hK _ _ ⟨true, true, l2, l3, l4, l5, l6, l7, l8, l9, l10, l11, l12, l13, l14, l15, l16, l17, l18, l19, l20, l21, l22, l23, l24, l25, ay1, cy1, ay2, cy2, yvs, rfl, (by simp only [↓reduceIte, Bool.false_eq_true, List.setIfInBounds_toArray, List.set_cons_zero, List.set_cons_succ, Array.getD_eq_getD_getElem?, List.getElem?_toArray, List.getElem?_cons_zero, List.getElem?_cons_succ, Option.getD_some]), HhS2.out⟩
      · obtain rfl := hall
        subst hun
        go_simp
        exact hK _ _ ⟨l0, true, true, l3, l4, l5, l6, l7, l8, l9, l10, l11, l12, l13, l14, l15, l16, l17, l18, l19, l20, l21, l22, l23, l24, l25, ay1, cy1, ay2, cy2, yvs, rfl, (by simp only [↓reduceIte, Bool.false_eq_true, List.setIfInBounds_toArray, List.set_cons_zero, List.set_cons_succ, Array.getD_eq_getD_getElem?, List.getElem?_toArray, List.getElem?_cons_zero, List.getElem?_cons_succ, Option.getD_some]), HS.out⟩
      · obtain rfl := hall
        subst hun
        have e0 := (bcell HS.out.bel (w2.heap.size) 0 HltC.out).trans C0.out
        have e1 := (bcell HS.out.bel (w2.heap.size) 1 HltC.out).trans C1.out
        go_simp
        exact hK _ _ ⟨l0, l1, true, true, l4, l5, l6, l7, l8, l9, l10, l11, l12, l13, l14, l15, l16, l17, l18, l19, l20, l21, l22, l23, l24, l25, ay1, cy1, ay2, cy2, yvs, rfl, (by simp only [↓reduceIte, Bool.false_eq_true, List.setIfInBounds_toArray, List.set_cons_zero, List.set_cons_succ, Array.getD_eq_getD_getElem?, List.getElem?_toArray, List.getElem?_cons_zero, List.getElem?_cons_succ, Option.getD_some]), HS.out⟩
      · obtain rfl := hall
        subst hun
        go_simp
        exact hK _ _ ⟨l0, l1, true, l3, true, l5, l6, l7, l8, l9, l10, l11, l12, l13, l14, l15, l16, l17, l18, l19, l20, l21, l22, l23, l24, l25, ay1, cy1, ay2, cy2, yvs, rfl, (by simp only [↓reduceIte, Bool.false_eq_true, List.setIfInBounds_toArray, List.set_cons_zero, List.set_cons_succ, Array.getD_eq_getD_getElem?, List.getElem?_toArray, List.getElem?_cons_zero, List.getElem?_cons_succ, Option.getD_some]), HS.out⟩
      · obtain ⟨rfl, rfl, rfl⟩ := hall
        subst hun
        go_simp
        go_at_call 11
        refine (dfaAccT_any D l _ _ Hht.out (by omega) (HDr.out.below HS.out.bel) Hhdok.out _ Hhq.out).mono ?_
        rintro e u1 ⟨rfl, hb⟩
        have hS2 := HS.out.call hb
        have HhS2 := Lib.hid hS2; clear hS2
        go_simp
        exact hK _ _ ⟨l0, l1, true, true, true, true, l6, l7, l8, l9, l10, l11, l12, l13, l14, l15, l16, l17, l18, l19, l20, l21, l22, l23, l24, l25, ay1, cy1, ay2, cy2, yvs, rfl, (by simp only [↓reduceIte, Bool.false_eq_true, List.setIfInBounds_toArray, List.set_cons_zero, List.set_cons_succ, Array.getD_eq_getD_getElem?, List.getElem?_toArray, List.getElem?_cons_zero, List.getElem?_cons_succ, Option.getD_some]), HhS2.out⟩
      · obtain rfl := hall
        subst hun
        have e0 := (bcell HS.out.bel (w1.heap.size) 0 HltN.out).trans N0.out
        have e1 := (bcell HS.out.bel (w1.heap.size) 1 HltN.out).trans N1.out
        have e2 := (bcell HS.out.bel (w1.heap.size) 2 HltN.out).trans N2.out
        have e3 := (bcell HS.out.bel (w1.heap.size) 3 HltN.out).trans N3.out
        go_simp
        exact hK _ _ ⟨l0, l1, true, l3, l4, l5, true, l7, l8, l9, l10, l11, l12, l13, l14, l15, l16, l17, l18, l19, l20, l21, l22, l23, l24, l25, ay1, cy1, ay2, cy2, yvs, rfl, (by simp only [↓reduceIte, Bool.false_eq_true, List.setIfInBounds_toArray, List.set_cons_zero, List.set_cons_succ, Array.getD_eq_getD_getElem?, List.getElem?_toArray, List.getElem?_cons_zero, List.getElem?_cons_succ, Option.getD_some]), HS.out⟩
      · obtain rfl := hall
        subst hun
        go_simp
        exact hK _ _ ⟨l0, l1, true, l3, l4, l5, l6, true, l8, l9, l10, l11, l12, l13, l14, l15, l16, l17, l18, l19, l20, l21, l22, l23, l24, l25, ay1, cy1, ay2, cy2, yvs, rfl, (by simp only [↓reduceIte, Bool.false_eq_true, List.setIfInBounds_toArray, List.set_cons_zero, List.set_cons_succ, Array.getD_eq_getD_getElem?, List.getElem?_toArray, List.getElem?_cons_zero, List.getElem?_cons_succ, Option.getD_some]), HS.out⟩
      · obtain ⟨rfl, rfl, rfl, rfl⟩ := hall
        subst hun
        go_simp
        go_at_call 7
        refine (nfaAccepts_any n l _ _ Hht.out (by omega) (HNr.out.below HS.out.bel) _ Hhacc.out).mono ?_
        rintro e u1 ⟨rfl, hb⟩
        have hS2 := HS.out.call hb
        have HhS2 := Lib.hid hS2; clear hS2
        go_simp
        exact hK _ _ ⟨l0, l1, true, l3, l4, true, true, true, true, l9, l10, l11, l12, l13, l14, l15, l16, l17, l18, l19, l20, l21, l22, l23, l24, l25, ay1, cy1, ay2, cy2, yvs, rfl, (by simp only [↓reduceIte, Bool.false_eq_true, List.setIfInBounds_toArray, List.set_cons_zero, List.set_cons_succ, Array.getD_eq_getD_getElem?, List.getElem?_toArray, List.getElem?_cons_zero, List.getElem?_cons_succ, Option.getD_some]), HhS2.out⟩
      · obtain ⟨rfl, rfl, rfl⟩ := hall
        subst hun
        go_simp
        exact hK _ _ ⟨l0, l1, true, l3, l4, true, l6, l7, true, true, l10, l11, l12, l13, l14, l15, l16, l17, l18, l19, l20, l21, l22, l23, l24, l25, ay1, cy1, ay2, cy2, yvs, rfl, (by simp only [↓reduceIte, Bool.false_eq_true, List.setIfInBounds_toArray, List.set_cons_zero, List.set_cons_succ, Array.getD_eq_getD_getElem?, List.getElem?_toArray, List.getElem?_cons_zero, List.getElem?_cons_succ, Option.getD_some]), HS.out⟩
      · obtain ⟨rfl, rfl⟩ := hall
        subst hun
        go_simp
        exact hK _ _ ⟨l0, l1, true, l3, l4, l5, l6, l7, l8, true, true, l11, l12, l13, l14, l15, l16, l17, l18, l19, l20, l21, l22, l23, l24, l25, ay1, cy1, ay2, cy2, yvs, rfl, (by simp only [↓reduceIte, Bool.false_eq_true, List.setIfInBounds_toArray, List.set_cons_zero, List.set_cons_succ, Array.getD_eq_getD_getElem?, List.getElem?_toArray, List.getElem?_cons_zero, List.getElem?_cons_succ, Option.getD_some]), HS.out⟩
      · obtain ⟨rfl, rfl⟩ := hall
        subst hun
        go_simp
        exact hK _ _ ⟨l0, l1, l2, l3, l4, l5, l6, l7, true, l9, true, true, l12, l13, l14, l15, l16, l17, l18, l19, l20, l21, l22, l23, l24, l25, ay1, cy1, ay2, cy2, yvs, rfl, (by simp only [↓reduceIte, Bool.false_eq_true, List.setIfInBounds_toArray, List.set_cons_zero, List.set_cons_succ, Array.getD_eq_getD_getElem?, List.getElem?_toArray, List.getElem?_cons_zero, List.getElem?_cons_succ, Option.getD_some]), HS.out⟩
      · obtain rfl := hall
        subst hun
        have e0 := (bcell HS.out.bel (w2.heap.size) 0 HltC.out).trans C0.out
        have e1 := (bcell HS.out.bel (w2.heap.size) 1 HltC.out).trans C1.out
        go_simp
        exact hK _ _ ⟨l0, l1, l2, l3, l4, l5, l6, l7, l8, l9, l10, true, true, l13, l14, l15, l16, l17, l18, l19, l20, l21, l22, l23, l24, l25, ay1, cy1, ay2, cy2, yvs, rfl, (by simp only [↓reduceIte, Bool.false_eq_true, List.setIfInBounds_toArray, List.set_cons_zero, List.set_cons_succ, Array.getD_eq_getD_getElem?, List.getElem?_toArray, List.getElem?_cons_zero, List.getElem?_cons_succ, Option.getD_some]), HS.out⟩
      · obtain ⟨rfl, rfl⟩ := hall
        subst hun
        go_simp
        go_at_call 22
        refine (Htr.out _ _ (HDr.out.below HS.out.bel)).mono ?_
        rintro e u1 ⟨z1, z2, z3, z4, zs, rfl, hb⟩
        have hS2 := (HS.out.cat hb).pick [2, 3] (by decide)
        have HhS2 := Lib.hid hS2; clear hS2
        go_simp
        exact hK _ _ ⟨l0, l1, l2, l3, l4, l5, l6, l7, l8, l9, l10, true, true, true, l14, l15, l16, l17, l18, l19, l20, l21, l22, l23, l24, l25, z1, z2, z3, z4, zs, rfl, (by simp only [↓reduceIte, Bool.false_eq_true, List.setIfInBounds_toArray, List.set_cons_zero, List.set_cons_succ, Array.getD_eq_getD_getElem?, List.getElem?_toArray, List.getElem?_cons_zero, List.getElem?_cons_succ, Option.getD_some]), HhS2.out⟩
      · obtain rfl := hall
        subst hun
        have e0 := (bcell HS.out.bel (w2.heap.size) 0 HltC.out).trans C0.out
        have e1 := (bcell HS.out.bel (w2.heap.size) 1 HltC.out).trans C1.out
        go_simp
        exact hK _ _ ⟨l0, l1, l2, l3, l4, l5, l6, l7, l8, l9, l10, true, l12, l13, true, l15, l16, l17, l18, l19, l20, l21, l22, l23, l24, l25, ay1, cy1, ay2, cy2, yvs, rfl, (by simp only [↓reduceIte, Bool.false_eq_true, List.setIfInBounds_toArray, List.set_cons_zero, List.set_cons_succ, Array.getD_eq_getD_getElem?, List.getElem?_toArray, List.getElem?_cons_zero, List.getElem?_cons_succ, Option.getD_some]), HS.out⟩
      · obtain ⟨rfl, rfl, -, rfl⟩ := hall
        subst hun
        go_simp
        go_at_call 19
        refine (sameDfa_any D _ _ _ (dfaR_rows HS.out 0 1 rfl rfl) (HDr.out.below HS.out.bel)).mono ?_
        rintro e u1 ⟨rfl, hb⟩
        have hS2 := HS.out.call hb
        have HhS2 := Lib.hid hS2; clear hS2
        go_simp
        exact hK _ _ ⟨l0, l1, l2, l3, l4, l5, l6, l7, l8, l9, l10, true, l12, true, true, true, l16, l17, l18, l19, l20, l21, l22, l23, l24, l25, ay1, cy1, ay2, cy2, yvs, rfl, (by simp only [↓reduceIte, Bool.false_eq_true, List.setIfInBounds_toArray, List.set_cons_zero, List.set_cons_succ, Array.getD_eq_getD_getElem?, List.getElem?_toArray, List.getElem?_cons_zero, List.getElem?_cons_succ, Option.getD_some]), HhS2.out⟩
      · obtain ⟨rfl, rfl⟩ := hall
        subst hun
        go_simp
        exact hK _ _ ⟨l0, l1, l2, l3, l4, l5, l6, l7, l8, l9, l10, true, l12, l13, l14, true, true, l17, l18, l19, l20, l21, l22, l23, l24, l25, ay1, cy1, ay2, cy2, yvs, rfl, (by simp only [↓reduceIte, Bool.false_eq_true, List.setIfInBounds_toArray, List.set_cons_zero, List.set_cons_succ, Array.getD_eq_getD_getElem?, List.getElem?_toArray, List.getElem?_cons_zero, List.getElem?_cons_succ, Option.getD_some]), HS.out⟩
      · obtain ⟨rfl, rfl⟩ := hall
        subst hun
        go_simp
        exact hK _ _ ⟨l0, l1, l2, l3, l4, l5, l6, l7, l8, l9, l10, l11, l12, l13, l14, true, true, true, l18, l19, l20, l21, l22, l23, l24, l25, ay1, cy1, ay2, cy2, yvs, rfl, (by simp only [↓reduceIte, Bool.false_eq_true, List.setIfInBounds_toArray, List.set_cons_zero, List.set_cons_succ, Array.getD_eq_getD_getElem?, List.getElem?_toArray, List.getElem?_cons_zero, List.getElem?_cons_succ, Option.getD_some]), HS.out⟩
      · obtain rfl := hall
        subst hun
        have e0 := (bcell HS.out.bel (w1.heap.size) 0 HltN.out).trans N0.out
        have e1 := (bcell HS.out.bel (w1.heap.size) 1 HltN.out).trans N1.out
        have e2 := (bcell HS.out.bel (w1.heap.size) 2 HltN.out).trans N2.out
        have e3 := (bcell HS.out.bel (w1.heap.size) 3 HltN.out).trans N3.out
        go_simp
        exact hK _ _ ⟨l0, l1, l2, l3, l4, l5, l6, l7, l8, l9, l10, l11, l12, l13, l14, l15, l16, true, true, l19, l20, l21, l22, l23, l24, l25, ay1, cy1, ay2, cy2, yvs, rfl, (by simp only [↓reduceIte, Bool.false_eq_true, List.setIfInBounds_toArray, List.set_cons_zero, List.set_cons_succ, Array.getD_eq_getD_getElem?, List.getElem?_toArray, List.getElem?_cons_zero, List.getElem?_cons_succ, Option.getD_some]), HS.out⟩
      · obtain ⟨rfl, rfl⟩ := hall
        subst hun
        go_simp
        go_at_call 14
        refine (implCountK_any forty rfl n _ _ (HNr.out.below HS.out.bel) _ Hhcnt.out).mono ?_
        rintro e u1 ⟨rfl, hb⟩
        have hS2 := HS.out.call hb
        have HhS2 := Lib.hid hS2; clear hS2
        go_simp
        exact hK _ _ ⟨l0, l1, l2, l3, l4, l5, l6, l7, l8, l9, l10, l11, l12, l13, l14, l15, l16, true, true, true, l20, l21, l22, l23, l24, l25, ay1, cy1, ay2, cy2, yvs, rfl, (by simp only [↓reduceIte, Bool.false_eq_true, List.setIfInBounds_toArray, List.set_cons_zero, List.set_cons_succ, Array.getD_eq_getD_getElem?, List.getElem?_toArray, List.getElem?_cons_zero, List.getElem?_cons_succ, Option.getD_some]), HhS2.out⟩
      · obtain rfl := hall
        subst hun
        go_simp
        exact hK _ _ ⟨l0, l1, l2, l3, l4, l5, l6, l7, l8, l9, l10, l11, l12, l13, l14, l15, l16, true, l18, l19, true, l21, l22, l23, l24, l25, ay1, cy1, ay2, cy2, yvs, rfl, (by simp only [↓reduceIte, Bool.false_eq_true, List.setIfInBounds_toArray, List.set_cons_zero, List.set_cons_succ, Array.getD_eq_getD_getElem?, List.getElem?_toArray, List.getElem?_cons_zero, List.getElem?_cons_succ, Option.getD_some]), HS.out⟩
      · obtain ⟨rfl, rfl⟩ := hall
        subst hun
        have e0 := (bcell HS.out.bel (w2.heap.size) 0 HltC.out).trans C0.out
        go_simp
        exact hK _ _ ⟨l0, l1, l2, l3, l4, l5, l6, l7, l8, l9, l10, l11, l12, l13, l14, l15, l16, true, l18, l19, true, true, l22, l23, l24, l25, ay1, cy1, ay2, cy2, yvs, rfl, (by simp only [↓reduceIte, Bool.false_eq_true, List.setIfInBounds_toArray, List.set_cons_zero, List.set_cons_succ, Array.getD_eq_getD_getElem?, List.getElem?_toArray, List.getElem?_cons_zero, List.getElem?_cons_succ, Option.getD_some]), HS.out⟩
      · obtain ⟨rfl, rfl⟩ := hall
        subst hun
        go_simp
        exact hK _ _ ⟨l0, l1, l2, l3, l4, l5, l6, l7, l8, l9, l10, l11, l12, l13, l14, l15, l16, true, l18, l19, l20, true, true, l23, l24, l25, ay1, cy1, ay2, cy2, yvs, rfl, (by simp only [↓reduceIte, Bool.false_eq_true, List.setIfInBounds_toArray, List.set_cons_zero, List.set_cons_succ, Array.getD_eq_getD_getElem?, List.getElem?_toArray, List.getElem?_cons_zero, List.getElem?_cons_succ, Option.getD_some]), HS.out⟩
      · obtain ⟨rfl, rfl, rfl⟩ := hall
        subst hun
        go_simp
        exact hK _ _ ⟨l0, l1, l2, l3, l4, l5, l6, l7, l8, l9, l10, l11, l12, l13, l14, l15, l16, true, l18, true, l20, l21, true, true, l24, l25, ay1, cy1, ay2, cy2, yvs, rfl, (by simp only [↓reduceIte, Bool.false_eq_true, List.setIfInBounds_toArray, List.set_cons_zero, List.set_cons_succ, Array.getD_eq_getD_getElem?, List.getElem?_toArray, List.getElem?_cons_zero, List.getElem?_cons_succ, Option.getD_some]), HS.out⟩
      · obtain ⟨rfl, rfl⟩ := hall
        subst hun
        go_simp
        exact hK _ _ ⟨l0, l1, l2, l3, l4, l5, l6, l7, l8, l9, l10, l11, l12, l13, l14, l15, l16, true, l18, l19, l20, l21, l22, true, true, l25, ay1, cy1, ay2, cy2, yvs, rfl, (by simp only [↓reduceIte, Bool.false_eq_true, List.setIfInBounds_toArray, List.set_cons_zero, List.set_cons_succ, Array.getD_eq_getD_getElem?, List.getElem?_toArray, List.getElem?_cons_zero, List.getElem?_cons_succ, Option.getD_some]), HS.out⟩
      · obtain ⟨rfl, rfl, rfl, rfl, rfl, rfl, rfl, rfl, rfl, rfl, rfl, rfl, rfl, rfl, rfl, rfl, rfl, rfl, rfl, rfl, rfl, -, rfl, rfl, rfl, rfl, -⟩ := hall
        subst hun
        go_simp
        exact hK _ _ ⟨true, true, true, true, true, true, true, true, true, true, true, true, true, true, true, true, true, true, true, true, true, true, true, true, true, true, ay1, cy1, ay2, cy2, yvs, rfl, (by simp only [↓reduceIte, Bool.false_eq_true, List.setIfInBounds_toArray, List.set_cons_zero, List.set_cons_succ, Array.getD_eq_getD_getElem?, List.getElem?_toArray, List.getElem?_cons_zero, List.getElem?_cons_succ, Option.getD_some]), HS.out⟩
    · rintro listed a w' ⟨l0, l1, l2, l3, l4, l5, l6, l7, l8, l9, l10, l11, l12, l13, l14, l15, l16, l17, l18, l19, l20, l21, l22, l23, l24, l25, ay1, cy1, ay2, cy2, yvs, rfl, rfl, hS⟩ hr
      have hall := ready_nilM (by kernel_rfl) rfl hr
      obtain rfl : l0 = true := by simpa using hall 0 (by simp)
      obtain rfl : l1 = true := by simpa using hall 1 (by simp)
      obtain rfl : l2 = true := by simpa using hall 2 (by simp)
      obtain rfl : l3 = true := by simpa using hall 3 (by simp)
      obtain rfl : l4 = true := by simpa using hall 4 (by simp)
      obtain rfl : l5 = true := by simpa using hall 5 (by simp)
      obtain rfl : l6 = true := by simpa using hall 6 (by simp)
      obtain rfl : l7 = true := by simpa using hall 7 (by simp)
      obtain rfl : l8 = true := by simpa using hall 8 (by simp)
      obtain rfl : l9 = true := by simpa using hall 9 (by simp)
      obtain rfl : l10 = true := by simpa using hall 10 (by simp)
      obtain rfl : l11 = true := by simpa using hall 11 (by simp)
      obtain rfl : l12 = true := by simpa using hall 12 (by simp)
      obtain rfl : l13 = true := by simpa using hall 13 (by simp)
      obtain rfl : l14 = true := by simpa using hall 14 (by simp)
      obtain rfl : l15 = true := by simpa using hall 15 (by simp)
      obtain rfl : l16 = true := by simpa using hall 16 (by simp)
      obtain rfl : l17 = true := by simpa using hall 17 (by simp)
      obtain rfl : l18 = true := by simpa using hall 18 (by simp)
      obtain rfl : l19 = true := by simpa using hall 19 (by simp)
      obtain rfl : l20 = true := by simpa using hall 20 (by simp)
      obtain rfl : l21 = true := by simpa using hall 21 (by simp)
      obtain rfl : l22 = true := by simpa using hall 22 (by simp)
      obtain rfl : l23 = true := by simpa using hall 23 (by simp)
      obtain rfl : l24 = true := by simpa using hall 24 (by simp)
      obtain rfl : l25 = true := by simpa using hall 25 (by simp)
      clear hall hr 
      simp only [↓reduceIte] at hS ⊢
      simp only [List.setIfInBounds_toArray, List.set_cons_zero, List.set_cons_succ, Array.getD_eq_getD_getElem?, List.getElem?_toArray, List.getElem?_cons_zero, List.getElem?_cons_succ, Option.getD_some]
      have HSf := Lib.hid hS
      clear hS
      go_wp2
      go_ret
      exact ⟨rfl, HS5.out.bel.trans (HSf.out.bel.mono HS5.out.bel.size)⟩
    · refine ⟨false, false, false, false, false, false, false, false, false, false, false, false, false, false, false, false, false, false, false, false, false, false, false, false, false, false, none, 0, none, 0, [], rfl, (by simp only [↓reduceIte, Bool.false_eq_true, List.setIfInBounds_toArray, List.set_cons_zero, List.set_cons_succ, Array.getD_eq_getD_getElem?, List.getElem?_toArray, List.getElem?_cons_zero, List.getElem?_cons_succ, Option.getD_some]), ?_⟩
      exact (St.start w5).drew.pick [0, 1] (by decide)
end Go.Proofs.Ytjcegbcmomfgaaa
