/-
  The walks over the program's learner where it changes: close, refine.
  Conditions: the language is a valid automaton; the words of the table have letters below three; a start is no longer than its place in the list.
-/
import Derived.Test.YtclhcfmlkfiidaaLg
namespace Go.Proofs.Ytclhcfmlkfiidaa
open Go.RowKit

/-- The starts are words, and none is longer than its place. -/
def LOk (st : List (List Nat)) : Prop := (∀ x ∈ st, isW x) ∧ ∀ i, i < st.length → (st.getD i []).length ≤ i
theorem LOk.visit {β : Type} [DecidableEq β] {key : List Nat → β} {s : List (List Nat)} (h : LOk s) {w : List Nat} (hw : isW w) (hl : w.length ≤ s.length) : LOk (kvisit key s w) := by
  unfold kvisit
  split
  · exact h
  · refine ⟨fun x hx => ?_, fun i hi => ?_⟩
    · rcases List.mem_append.1 hx with hx | hx
      · exact h.1 x hx
      · simp only [List.mem_singleton] at hx
        rw [hx]
        exact hw
    · simp only [List.length_append, List.length_singleton] at hi
      by_cases hin : i < s.length
      · have := h.2 i hin
        simp only [List.getD_eq_getElem?_getD] at this ⊢
        rw [List.getElem?_append_left hin]
        exact this
      · obtain rfl : i = s.length := by omega
        simpa using hl
theorem LOk.row {β : Type} [DecidableEq β] {key : List Nat → β} {s : List (List Nat)} (h : LOk s) {k : Nat} (hk : k < s.length) : ∀ n, n ≤ 3 → LOk (krow key s (s.getD k []) n) ∧ s.length ≤ (krow key s (s.getD k []) n).length
  | 0, _ => ⟨h, Nat.le_refl _⟩
  | n + 1, hn => by
    obtain ⟨h1, h2⟩ := h.row (key := key) hk n (by omega)
    have h3 := (kvisit_pre (key := key) (krow key s (s.getD k []) n) (s.getD k [] ++ [n])).length_le
    refine ⟨h1.visit (isW_append (h.1 _ (memD hk)) (isW_one (by omega))) ?_, Nat.le_trans h2 h3⟩
    have := h.2 k hk
    rw [List.length_append, List.length_singleton]
    omega
theorem LOk.kat {β : Type} [DecidableEq β] {key : List Nat → β} {s : List (List Nat)} (h : LOk s) : ∀ k, LOk (kat key s k)
  | 0 => h
  | k + 1 => by
    have ih := LOk.kat (key := key) h k
    by_cases hk : k < (Go.Proofs.Ytclhcfmlkfiidaa.kat key s k).length
    · rw [kat_succ hk]
      exact (ih.row hk 3 (by omega)).1
    · rw [kat_stay (by omega)]
      exact ih
theorem LOk.part {β : Type} [DecidableEq β] {key : List Nat → β} {s : List (List Nat)} (h : LOk s) {k : Nat} (hk : k < (Go.Proofs.Ytclhcfmlkfiidaa.kat key s k).length) {n : Nat} (hn : n ≤ 3) : LOk (kpart key s k n) := ((LOk.kat h k).row hk n hn).1
theorem LOk.okWs {st : List (List Nat)} (h : LOk st) (hl : st.length ≤ 1000) : ∀ x ∈ st, isW x ∧ x.length ≤ 399999 := fun x hx => by
  refine ⟨h.1 x hx, ?_⟩
  obtain ⟨i, hi, e⟩ := List.getElem_of_mem hx
  have := h.2 i hi
  rw [getD_at hi, e] at this
  omega
theorem strs_of_row {w : World} {B e n : Nat} {v : Value} {ws : List (List Nat)} (hr : w.ownsRow B e 1 v n (wdCells ws)) : Strs 0 w v ws := by
  have e1 : n = ws.length := by have := hr.1; simp at this; omega
  subst e1
  exact ((own_of_row hr).sl (by omega)).mono (Nat.zero_le _)
theorem St.lmem {w0 w : World} {L : List Ent} (h : St w0 w L) (i j k : Nat) {b n m : Nat} {vn ve vs vr : Value} {d : DfaD} {st re : List (List Nat)} (hi : L[i]? = some (Ent.box b #[vn, ve, vs, vr] 113)) (hj : L[j]? = some (Ent.row 9 1 vs n (wdCells st))) (hk : L[k]? = some (Ent.row 9 1 vr m (wdCells re)))
    (hd : DfaR 0 w0 (.agg #[vn, ve]) d) : LMem w b vn ve vs vr d st re :=
  ⟨h.box i hi, hd.below h.bel, strs_of_row (h.row j hj), strs_of_row (h.row k hk)⟩
theorem wdCells_snoc (l : List (List Nat)) (x : List Nat) : wdCells (l ++ [x]) = wdCells l ++ [.string (wdB x)] := by simp [wdCells]
theorem findB_key {d : DfaD} {re T : List (List Nat)} {x : List Nat} : (rowW d re x ∈ T.map (rowW d re) ∧ 0 ≤ findB (T.map (rowW d re)) (rowW d re x)) ∨ (rowW d re x ∉ T.map (rowW d re) ∧ findB (T.map (rowW d re)) (rowW d re x) = -1) := by
  by_cases h : rowW d re x ∈ T.map (rowW d re)
  · left
    refine ⟨h, ?_⟩
    unfold findB
    rw [if_pos h]
    omega
  · exact Or.inr ⟨h, findB_none h⟩

set_option maxRecDepth 100000 in
set_option maxHeartbeats 4000000 in
theorem lclose_any (w0 w : World) (X : Ent) (d : DfaD) (st re : List (List Nat)) (b n m : Nat) (vn ve vs vr : Value) (hd : dfaOk d.next d.ends = true) (hst : LOk st) (hnd : (st.map (rowW d re)).Nodup) (hre : okWs re) (hrl : re.length ≤ 100000) (hl : DfaR 0 w0 (.agg #[vn, ve]) d)
    (hS : St w0 w [Ent.box b #[vn, ve, vs, vr] 113, Ent.row 9 1 vs n (wdCells st), Ent.row 9 1 vr m (wdCells re), X]) :
    Calls Try.prog 90 #[.pointer (some ⟨b, 0, none⟩)] w fun e w' => e = .returned (.tuple #[]) ∧ ∃ vs' n', St w0 w' [Ent.box b #[vn, ve, vs', vr] 113, Ent.row 9 1 vs' n' (wdCells (closeW d st re)), Ent.row 9 1 vr m (wdCells re), X] := by
  have hlen := dfaOk_len hd
  have hK : ∀ K, (kat (rowW d re) st K).length ≤ 40 := fun K => by
    have := rows_le hd (LOk.kat hst K).1 (kat_nodup hnd K)
    omega
  have hP : ∀ k c, k < (kat (rowW d re) st k).length → c ≤ 3 → (kpart (rowW d re) st k c).length ≤ 40 := fun k c h1 h2 => by
    have := rows_le hd (LOk.part hst h1 h2).1 (kpart_nodup hnd k c)
    omega
  obtain ⟨i0, hi, hz0, hz1, hz2⟩ := info_parts Try.infoStr
  obtain ⟨W, hW⟩ : ∃ W : World, W = w := ⟨_, rfl⟩
  have Hhd := Lib.hid hd; clear hd
  have Hhst := Lib.hid hst; clear hst
  have Hhnd := Lib.hid hnd; clear hnd
  have Hhre := Lib.hid hre; clear hre
  have Hhl := Lib.hid hl; clear hl
  have HhS := Lib.hid hS; clear hS
  have HhK := Lib.hid hK; clear hK
  have HhP := Lib.hid hP; clear hP
  have Hhlen := Lib.hid hlen; clear hlen
  have Hhi := Lib.hid hi; clear hi
  have Hhz0 := Lib.hid hz0; clear hz0
  have Hhz1 := Lib.hid hz1; clear hz1
  have Hhz2 := Lib.hid hz2; clear hz2
  go_enter Try.func90, Try.ntmps90
  go_wp2
  go_loopw [2] (fun i wr => ∃ (k n' : Nat) (vs' : Value), i = .int .i64 k ∧ k ≤ (kat (rowW d re) st k).length ∧ St w0 wr [Ent.box b #[vn, ve, vs', vr] 113, Ent.row 9 1 vs' n' (wdCells (kat (rowW d re) st k)), Ent.row 9 1 vr m (wdCells re), X])
    (fun i _ => 41 - (intOf i).toNat)
  case atStart => exact ⟨0, n, vs, rfl, Nat.zero_le _, HhS.out⟩
  case round =>
    obtain ⟨k, n', vs', rfl, hk, hS⟩ := hrel
    obtain ⟨wo, hwo⟩ : ∃ wo : World, wo = wr := ⟨_, rfl⟩
    subst hwo
    obtain ⟨S, hSS⟩ : ∃ S, S = kat (rowW d re) st k := ⟨_, rfl⟩
    have hK1 := HhK.out k
    rw [← hSS] at hk hS hK1
    obtain rfl : n' = S.length := by have := (hS.row 1 rfl).1; simp at this; omega
    obtain ⟨a1, c1, rfl, -⟩ := hS.rowany 1 rfl
    have e2 := hS.cell (v := .slice a1 S.length c1) 0 2 rfl rfl
    have HhS := Lib.hid hS; clear hS
    have HhSS := Lib.hid hSS; clear hSS
    by_cases hlt : k < S.length
    · have hkS : k < (kat (rowW d re) st k).length := by rw [← HhSS.out]; exact hlt
      have hlt2 : (k : Int) < S.length := by omega
      obtain ⟨s, hs⟩ : ∃ s, s = S.getD k [] := ⟨_, rfl⟩
      have hsS : (kat (rowW d re) st k).getD k [] = s := by rw [← HhSS.out]; exact hs.symm
      have hsW : isW s ∧ s.length ≤ 40 := by
        have h := LOk.kat (key := rowW d re) Hhst.out k
        rw [← HhSS.out] at h
        have h2 := h.2 k hlt
        rw [← hs] at h2
        exact ⟨by rw [hs]; exact h.1 _ (memD hlt), by omega⟩
      have HhkS := Lib.hid hkS; clear hkS
      have Hhs := Lib.hid hs; clear hs
      have HhsS := Lib.hid hsS; clear hsS
      have HhsW := Lib.hid hsW; clear hsW
      go_wp2
      go_loopw [14] (fun i wi => ∃ (c n' : Nat) (vs' : Value), i = .int .i64 c ∧ c ≤ 3 ∧ St w0 wi [Ent.box b #[vn, ve, vs', vr] 113, Ent.row 9 1 vs' n' (wdCells (kpart (rowW d re) st k c)), Ent.row 9 1 vr m (wdCells re), X])
        (fun i _ => 3 - (intOf i).toNat)
      case atStart => exact ⟨0, S.length, .slice a1 S.length c1, rfl, by omega, by rw [kpart_zero, ← HhSS.out]; exact HhS.out⟩
      case round =>
        obtain ⟨c, n', vs', rfl, hc3, hSi⟩ := hrel
        obtain ⟨wp, hwp⟩ : ∃ wp : World, wp = wr := ⟨_, rfl⟩
        subst hwp
        clear e2
        by_cases hc : c < 3
        · have hPk := HhP.out k c HhkS.out hc3
          have hpre := kpart_pre (key := rowW d re) (s0 := st) (k := k) (Nat.zero_le c)
          have hTok := LOk.part Hhst.out HhkS.out hc3
          have hsucc := kpart_succ (key := rowW d re) (s0 := st) k c
          rw [HhsS.out] at hsucc
          rw [kpart_zero, ← HhSS.out] at hpre
          obtain ⟨T1, hT1⟩ : ∃ T1, T1 = kpart (rowW d re) st k (c + 1) := ⟨_, rfl⟩
          obtain ⟨T, hT⟩ : ∃ T, T = kpart (rowW d re) st k c := ⟨_, rfl⟩
          rw [← hT] at hPk hpre hTok hsucc hSi
          rw [← hT1] at hsucc
          obtain rfl : n' = T.length := by have := (hSi.row 1 rfl).1; simp at this; omega
          have hkT : k < T.length := Nat.lt_of_lt_of_le hlt hpre.length_le
          have hsT : T.getD k [] = s := (prefix_getD hpre hlt _).trans Hhs.out.symm
          obtain ⟨g1, d1, rfl⟩ := hSi.rowform 1 rfl (by omega)
          obtain ⟨hcap1, hcap2⟩ := hSi.rowcap 1 rfl
          have x2 := hSi.cell (v := .slice (some ⟨g1, 0, none⟩) T.length d1) 0 2 rfl rfl
          have xk := hSi.rcell (v := .string (wdB s)) 1 k rfl (by omega) (by rw [← hsT]; simp [wdCells, hkT])
          have xf := hSi.fr 0 2 rfl
          obtain ⟨hadd, hnlt⟩ := add_words s [c] (by have := HhsW.out.2; omega) (by simp)
          have hlet := fun (w : World) => letterText_any c hc w
          have hkT2 : (k : Int) < T.length := by omega
          have hc4 : (c : Int) < 3 := by omega
          have hok := hTok.okWs (by omega)
          have hstart := fun (w' : World) (h' : St w0 w' [Ent.box b #[vn, ve, .slice (some ⟨g1, 0, none⟩) T.length d1, vr] 113, Ent.row 9 1 (.slice (some ⟨g1, 0, none⟩) T.length d1) T.length (wdCells T), Ent.row 9 1 vr m (wdCells re), X]) =>
            startOf_any d T re (s ++ [c]) b vn ve (.slice (some ⟨g1, 0, none⟩) T.length d1) vr w' Hhd.out (fun x hx => ⟨(hok x hx).1, by have := (hok x hx).2; omega⟩) (by omega) Hhre.out hrl (isW_append HhsW.out.1 (isW_one hc)) (by rw [List.length_append]; have := HhsW.out.2; simp; omega) (h'.lmem 0 1 2 rfl rfl rfl Hhl.out)
          have Hlet := Lib.hid hlet
          have Hst := Lib.hid hstart
          have HhT := Lib.hid hT; clear hT
          have HhT1 := Lib.hid hT1; clear hT1
          have Hhpre := Lib.hid hpre; clear hpre
          have HhTok := Lib.hid hTok; clear hTok
          have Hhsucc := Lib.hid hsucc; clear hsucc
          have HhSi := Lib.hid hSi; clear hSi
          have HhsT := Lib.hid hsT; clear hsT
          clear hlet hstart hok
          go_wp2
          go_quiet (((go_at_call 114; with_reducible exact quiet_eq (Hlet.out _))))
          go_wp2_with fail
          refine (Hst.out _ (HhSi.out.drewN _)).mono ?_
          rintro e w2 ⟨rfl, hb2⟩
          have hS2 := (HhSi.out.drewN _).call hb2
          rcases findB_key (d := d) (re := re) (T := T) (x := s ++ [c]) with ⟨hm, hp⟩ | ⟨hm, hp⟩
          · have hT1T : T1 = T := Hhsucc.out.trans (kvisit_old hm)
            obtain ⟨p, hpp⟩ : ∃ p, p = findB (T.map (rowW d re)) (rowW d re (s ++ [c])) := ⟨_, rfl⟩
            rw [← hpp] at hp
            rw [← hpp]
            have hp2 : ¬ (p < 0) := by omega
            have HhS2 := Lib.hid hS2; clear hS2
            have Hhm := Lib.hid hm; clear hm
            have Hhpp := Lib.hid hpp; clear hpp
            have HhT1T := Lib.hid hT1T; clear hT1T
            clear hb2 x2 xk xf
            go_wp2
            go_roundw
            case rel => exact ⟨c + 1, T.length, .slice (some ⟨g1, 0, none⟩) T.length d1, by go_num, by omega, by rw [← HhT1.out, HhT1T.out]; exact HhS2.out⟩
            case measure => simp [intOf]; omega
          · have hT1T : T1 = T ++ [s ++ [c]] := Hhsucc.out.trans (kvisit_new hm)
            rw [hp]
            have y2 := hS2.cell (v := .slice (some ⟨g1, 0, none⟩) T.length d1) 0 2 rfl rfl
            have hSa := hS2.alloc_ (.cells #[.string (wdB (s ++ [c]))] 9)
            have hRw := hSa.row 1 rfl
            have HhS2 := Lib.hid hS2; clear hS2
            have HhSa := Lib.hid hSa; clear hSa
            have HhRw := Lib.hid hRw; clear hRw
            have Hhm := Lib.hid hm; clear hm
            have HhT1T := Lib.hid hT1T; clear hT1T
            clear hb2 x2 xk xf hp
            go_wp2_with (at_builtin; refine wpList_append_lies _ rfl _ _ _ rfl _ 9 i0 (.string { data := #[] }) 1 16 Try.underlying103 Hhi.out Hhz0.out Hhz1.out Hhz2.out rfl (by omega) _ T.length _ rfl HhRw.out ⟨w2.heap.size, 0, none⟩ 1 1 [.string (wdB (s ++ [c]))] rfl rfl (World.news_of_block (heap_alloc_new w2 _)) one_str (by omega) (by unfold maxLen; omega) (by omega) HhSa.out.size _ rfl ?_; intro g6 c6 w6 hown6 hgrow6 hat6 hlt6; have HS6 := Lib.hid (HhSa.out.app 1 rfl hown6 hgrow6 hat6); have y1 := HS6.out.cell (v := .slice (some ⟨g1, 0, none⟩) T.length d1) 0 2 rfl rfl; have y3 := HS6.out.fr 0 2 rfl; clear hown6 hgrow6 hat6 hlt6)
            go_roundw
            case rel =>
              refine ⟨c + 1, T.length + 1, .slice (some ⟨g6, 0, none⟩) (T.length + 1) c6, by go_num, by omega, ?_⟩
              rw [← HhT1.out, HhT1T.out, wdCells_snoc]
              exact HS6.out.set 0 rfl 2 (.slice (some ⟨g6, 0, none⟩) (T.length + 1) c6)
            case measure => simp [intOf]; omega
        · obtain rfl : c = 3 := by omega
          have hbs := kat_succ (key := rowW d re) (s0 := st) HhkS.out
          have hle := (kpart_pre (key := rowW d re) (s0 := st) (k := k) (Nat.zero_le 3)).length_le
          rw [kpart_zero, ← HhSS.out] at hle
          have Hhbs := Lib.hid hbs; clear hbs
          have Hhle := Lib.hid hle; clear hle
          have HhSi := Lib.hid hSi; clear hSi
          go_wp2
          go_roundw
          case rel => exact ⟨k + 1, n', vs', by go_num, by rw [Hhbs.out]; have := Hhle.out; omega, by rw [Hhbs.out]; exact HhSi.out⟩
          case measure => simp [intOf]; omega
    · have hkS : k = S.length := by omega
      have hfin : closeW d st re = S := by
        unfold closeW
        rcases Nat.le_total k (d.next.length + 1) with h | h
        · rw [kat_done (k := k) (by rw [← HhSS.out]; omega) h, ← HhSS.out]
        · have h2 := rows_le Hhd.out (LOk.kat Hhst.out k).1 (kat_nodup Hhnd.out k)
          rw [← HhSS.out] at h2
          omega
      have hnl : ¬ ((k : Int) < S.length) := by omega
      have HhkS := Lib.hid hkS; clear hkS
      have Hhfin := Lib.hid hfin; clear hfin
      go_wp2
      refine bodyPost_end (v := .tuple #[]) (by simp [results, Try.results90, go_sem]) rfl ⟨rfl, _, _, by rw [Hhfin.out]; exact HhS.out⟩
end Go.Proofs.Ytclhcfmlkfiidaa
