/-
  Automata with one choice at a time determinized; turned twice and determinized twice (Brzozowski): plain.
  No condition: this text speaks of no program.
-/
import Derived.Test.YthhbjkgchabfmaaPk48Su
namespace Go.Proofs.Ythhbjkgchabfmaa
open Go.RowKit
theorem stV_nx {d : DfaD} (hd : dfaOk d.next d.ends = true) {s c : Nat} (hs : s < d.next.length) (hc : c < 3) : stV 40 (mvs d d.next.length) (2 ^ s) (c : Int) = 2 ^ nxD d s c := by
  have hr := (dfaOk_row hd hs).2 c hc
  unfold stV
  rw [clV_idem (nfaOf_closed _ _)]
  apply bit_ext
  intro t
  rw [stFold_bit, bit_two, decide_eq_true_eq]
  constructor
  · rintro (h | ⟨m, hm, h1, h2, h3⟩)
    · simp at h
    · obtain ⟨s', c', h4, h5, rfl⟩ := mvs_mem.1 hm
      rw [bit_two, decide_eq_true_eq] at h2
      simp only [Int.toNat_natCast] at h2
      subst h2
      have : c' = c := by simp only at h1; omega
      subst this
      exact h3
  · rintro rfl
    right
    refine ⟨_, mvs_mem.2 ⟨s, c, hs, hc, rfl⟩, rfl, ?_, rfl⟩
    rw [bit_two]
    simp
theorem fst_nfaOf (d : DfaD) : fstV (nfaOf d) = 2 ^ 0 := by
  unfold fstV
  rw [show (nfaOf d).moves = mvs d d.next.length from rfl, clV_idem (nfaOf_closed _ _)]
  rfl
theorem det_nfaOf {d : DfaD} (hd : dfaOk d.next d.ends = true) {K : Nat} (hK : d.next.length ≤ K) : detK K (nfaOf d) = some (trimD d) := by
  have hl := dfaOk_len hd
  have hf := fine_of hd
  unfold detK
  rw [if_pos ⟨nfaOf_ok hd, Nat.le_trans (met_one hd K) hK⟩]
  congr 1
  let f : Int → Int × Int := fun x => (((2 ^ x.toNat : Nat) : Int), 0)
  let Q : Int → Prop := fun x => ∃ s : Nat, x = (s : Int) ∧ s < d.next.length
  have hm := numDfa_mapQ (nx := dnx d) (nx' := nxS (nfaOf d)) (a := (0 : Int)) (f := f) (Q := Q) (en := den d) (en' := enS (nfaOf d)) (K := K) ⟨0, rfl, by omega⟩ (by
    rintro x c hc ⟨s, rfl, hs⟩
    obtain ⟨h3, h4⟩ := fine_nx hf hs hc
    exact ⟨_, h4, h3⟩) (by
    rintro x y ⟨s, rfl, hs⟩ ⟨t, rfl, ht⟩ h
    have h1 : ((2 ^ s : Nat) : Int) = ((2 ^ t : Nat) : Int) := congrArg Prod.fst h
    have : s = t := (Nat.pow_right_inj (show 1 < 2 by omega)).1 (Int.ofNat_inj.1 h1)
    rw [this]) (by
    rintro x c hc ⟨s, rfl, hs⟩
    obtain ⟨h3, h4⟩ := fine_nx hf hs hc
    simp only [f, h4, nxS, Int.toNat_natCast]
    rw [show (nfaOf d).moves = mvs d d.next.length from rfl, stV_nx hd hs hc]) (by
    rintro x ⟨s, rfl, hs⟩
    rw [den_nat]
    simp only [f, enS, Int.toNat_natCast]
    unfold endV
    rw [show (nfaOf d).ends = eds d d.next.length from rfl, Bool.eq_iff_iff, List.any_eq_true]
    constructor
    · rintro ⟨x, hx, hb⟩
      obtain ⟨t, rfl, ht, he⟩ := eds_mem.1 hx
      rw [bit_two, decide_eq_true_eq] at hb
      simp only [Int.toNat_natCast] at hb
      rw [hb]
      exact he
    · intro he
      refine ⟨(s : Int), eds_mem.2 ⟨s, rfl, hs, he⟩, ?_⟩
      rw [bit_two]
      simp)
  have h0 : f 0 = ((((fstV (nfaOf d) : Nat) : Int), 0) : Int × Int) := by rw [fst_nfaOf]; rfl
  rw [h0] at hm
  refine hm.trans ?_
  unfold trimD
  rw [bat_done (met_facts hf _).2 hK]
theorem nfaOf_acc {d : DfaD} (hd : dfaOk d.next d.ends = true) {w : List Nat} (hw : isW w) : accS (nfaOf d) w = accD d w := by
  rw [← det_accK (det_nfaOf hd (Nat.le_refl _)) hw, trim_acc (fine_of hd) hw]
theorem tdK_det {d : DfaD} (hd : dfaOk d.next d.ends = true) (K : Nat) : tdK K d = detK K (turnN (nfaOf d)) := by
  unfold tdK detQK detK
  by_cases h : (metS (turnN (nfaOf d)) K).length ≤ K
  · rw [if_pos h, if_pos ⟨turn_ok (nfaOf_ok hd), h⟩]
  · rw [if_neg h, if_neg (fun h' => h h'.2)]
theorem isW_rev {w : List Nat} (h : isW w) : isW w.reverse := fun c hc => h c (by simpa using hc)
theorem td_acc {d y : DfaD} (hd : dfaOk d.next d.ends = true) {K : Nat} (h : tdK K d = some y) {w : List Nat} (hw : isW w) : accD y w = accD d w.reverse := by
  rw [tdK_det hd] at h
  rw [det_accK h hw, ← nfaOf_acc hd (isW_rev hw), ← turn_acc (nfaOf_ok hd) w.reverse, List.reverse_reverse]
theorem td_num {d y : DfaD} (hd : dfaOk d.next d.ends = true) {K : Nat} (h : tdK K d = some y) : trimD y = y := by
  rw [tdK_det hd] at h
  obtain ⟨-, h2, rfl⟩ := det_okK h
  exact trim_num h2
theorem td_ok {d y : DfaD} {K : Nat} (hK : K = 40) (h : tdK K d = some y) : dfaOk y.next y.ends = true := detQK_ok hK h
theorem trim_reach {y : DfaD} (hy : fine y) (ht : trimD y = y) {s : Nat} (hs : s < y.next.length) : ∃ u, isW u ∧ runD y 0 u = (s : Int) := by
  have hK := (met_facts hy y.next.length).2
  have hl : y.next.length = (bat (dnx y) 0 y.next.length).met.length := by
    have h1 := congrArg (fun d => d.next.length) ht
    simp only [trimD, numDfa_len] at h1
    exact h1.symm
  obtain ⟨x, hx⟩ : ∃ x, x = (bat (dnx y) 0 y.next.length).met.getD s 0 := ⟨_, rfl⟩
  have hall : ∀ x ∈ (bat (dnx y) 0 y.next.length).met, ∃ u, isW u ∧ u.foldl (dnx y) 0 = x := by
    refine bat_all (Q := fun x => ∃ u, isW u ∧ u.foldl (dnx y) 0 = x) ⟨[], isW_nil, rfl⟩ ?_ _
    rintro x c hc ⟨u, h1, rfl⟩
    exact ⟨u ++ [c], isW_app h1 (isW_mk hc isW_nil), by simp⟩
  have hsl : s < (bat (dnx y) 0 y.next.length).met.length := by omega
  obtain ⟨u, h1, h2⟩ := hall x (by rw [hx]; exact memD hsl)
  refine ⟨u, h1, ?_⟩
  obtain ⟨-, h4⟩ := run_num (en := den y) hK u h1 0 (bat_mem_first _)
  have h0 : placeOf (bat (dnx y) 0 y.next.length).met 0 = 0 := by
    have e := idx_getD (bat_pos (nx := dnx y) (a := (0 : Int)) y.next.length) (bat_good (nx := dnx y) (a := (0 : Int)) y.next.length).1 (0 : Int)
    rw [bat_first] at e
    exact e
  rw [h0, h2, hx, idx_getD hsl (bat_good _).1] at h4
  rw [show numDfa (dnx y) (den y) (bat (dnx y) 0 y.next.length).met = y from ht] at h4
  exact h4
theorem turn_turnM (ms : List (Int × Int × Int)) : (ms.map turnM).map turnM = ms := by
  rw [List.map_map]
  exact List.map_id'' (fun _ => rfl) ms
theorem td_reduced {y x : DfaD} (hy : dfaOk y.next y.ends = true) (ht : trimD y = y) {K : Nat} (h : tdK K y = some x) : ∀ s t : Nat, s < x.next.length → t < x.next.length → (∀ w, isW w → den x (runD x (s : Int) w) = den x (runD x (t : Int) w)) → s = t := by
  rw [tdK_det hy] at h
  obtain ⟨hok, hle, rfl⟩ := det_okK h
  have hly := dfaOk_len hy
  have hmv : mvIn y.next.length (turnN (nfaOf y)).moves := (turnN_det (nfaOf_det hy)).mv
  have hmv40 : mvIn 40 (turnN (nfaOf y)).moves := mvIn_40 hmv hly.2.1
  have hin : inN y.next.length (turnN (nfaOf y)).firsts := (turnN_det (nfaOf_det hy)).f
  obtain ⟨M, hM⟩ : ∃ M, M = metS (turnN (nfaOf y)) K := ⟨_, rfl⟩
  have hall : ∀ p ∈ M, isM y.next.length p := by
    rw [hM]
    exact bat_all (Q := fun x => isM y.next.length x) (fstV_M hmv hin) (fun x c hc _ => nxS_M hmv x c) K
  have hcl : ∀ v, closedV (turnN (nfaOf y)).moves v := fun v m hm he => by
    obtain ⟨m', hm', rfl⟩ := List.mem_map.1 (show m ∈ (mvs y y.next.length).map turnM from hm)
    obtain ⟨s, c, -, -, rfl⟩ := mvs_mem.1 hm'
    simp only [turnM] at he
    omega
  have key : ∀ i, i < M.length → ∀ q : Nat, ∀ u, isW u → runD y 0 u = (q : Int) → q < y.next.length → (den (numDfa (nxS (turnN (nfaOf y))) (enS (turnN (nfaOf y))) M) (runD (numDfa (nxS (turnN (nfaOf y))) (enS (turnN (nfaOf y))) M) (i : Int) u.reverse) = true ↔ (M.getD i (0, 0)).1.toNat.testBit q = true) := by
    intro i hi q u hu hq hql
    have h1 := num_residual (i := i) (en := enS (turnN (nfaOf y))) hle (by rw [hM] at hi; exact hi) (isW_rev hu)
    rw [show (bat (nxS (turnN (nfaOf y))) (((fstV (turnN (nfaOf y)) : Nat) : Int), 0) K).met = M from hM.symm] at h1
    rw [h1]
    obtain ⟨v, hv, hv2⟩ := hall _ (memD (d := (0, 0)) hi)
    rw [show M.getD i (((fstV (turnN (nfaOf y)) : Nat) : Int), 0) = M.getD i (0, 0) by rw [getD_at hi, getD_at hi], hv2, foldl_nxS]
    have hv40 : v < 2 ^ 40 := Nat.lt_of_lt_of_le hv (Nat.pow_le_pow_right (by omega) hly.2.1)
    simp only [enS, Int.toNat_natCast]
    unfold endV
    rw [show (turnN (nfaOf y)).ends = [0] from rfl]
    simp only [List.any_cons, List.any_nil, Bool.or_false]
    rw [show (0 : Int).toNat = 0 from rfl, foldl_pth hmv40 _ _ hv40 (hcl v)]
    constructor
    · rintro ⟨s, hs, hb, hp⟩
      have hp2 := hp.turn
      rw [show (turnN (nfaOf y)).moves.map turnM = mvs y y.next.length from turn_turnM _, List.reverse_reverse] at hp2
      have := pth_run hy u (show 0 < y.next.length by omega) hp2 hu
      rw [show ((0 : Nat) : Int) = 0 from rfl, hq] at this
      have : q = s := by exact_mod_cast this
      rw [this]
      exact hb
    · intro hb
      refine ⟨q, by omega, hb, ?_⟩
      have hp := (run_pth hy u (show 0 < y.next.length by omega) hu).turn
      rw [show ((0 : Nat) : Int) = 0 from rfl, hq] at hp
      exact hp
  rw [← hM, numDfa_len]
  intro s t hs ht' hr
  have h1 := hall _ (memD (d := (0, 0)) hs)
  have h2 := hall _ (memD (d := (0, 0)) ht')
  obtain ⟨v, hv, hv2⟩ := h1
  obtain ⟨v', hv', hv2'⟩ := h2
  have hvv : v = v' := by
    apply bit_ext
    intro q
    by_cases hq : q < y.next.length
    · obtain ⟨u, hu, hu2⟩ := trim_reach (fine_of hy) ht hq
      have e1 := key s hs q u hu hu2 hq
      have e2 := key t ht' q u hu hu2 hq
      rw [hr _ (isW_rev hu)] at e1
      rw [hv2] at e1
      rw [hv2'] at e2
      simp only [Int.toNat_natCast] at e1 e2
      exact e1.symm.trans e2
    · constructor
      · intro hb
        exact absurd (lt_of_bit hv hb) hq
      · intro hb
        exact absurd (lt_of_bit hv' hb) hq
  have hgn : M.Nodup := by rw [hM]; exact (bat_good _).1
  have e : M.getD s (0, 0) = M.getD t (0, 0) := by rw [hv2, hv2', hvv]
  have e1 := idx_getD hs hgn ((0, 0) : Int × Int)
  have e2 := idx_getD ht' hgn ((0, 0) : Int × Int)
  rw [e] at e1
  exact e1.symm.trans e2
theorem tt_min {K : Nat} (hK : K = 40) {d x : DfaD} (h : ttK K d = some x) : x = minD d := by
  unfold ttK at h
  by_cases hd : dfaOk d.next d.ends = true
  · rw [if_pos hd, Option.bind_eq_some_iff] at h
    obtain ⟨y, h1, h2⟩ := h
    have hy := td_ok hK h1
    have hx := td_ok hK h2
    have e1 : minD x = x := min_self (fine_of hx) (td_num hy h2) (td_reduced hy (td_num hd h1) h2)
    have e2 : minD x = minD d := min_canon (fine_of hx) (fine_of hd) fun w hw => by
      rw [td_acc hy h2 hw, td_acc hd h1 (isW_rev hw), List.reverse_reverse]
    rw [← e1, e2]
  · rw [if_neg hd] at h
    cases h
end Go.Proofs.Ythhbjkgchabfmaa
