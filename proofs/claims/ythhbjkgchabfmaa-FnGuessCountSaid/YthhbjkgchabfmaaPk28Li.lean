/-
  The walks over the program's learner where it changes: close, refine.
  Conditions: the language is a valid automaton; the words of the table have letters below three; a start is no longer than its place in the list.
-/
import Derived.Test.YthhbjkgchabfmaaPk27Lg
namespace Go.Proofs.Ythhbjkgchabfmaa
open Go.RowKit
def LOk (st : List (List Nat)) : Prop := (∀ x ∈ st, isW x) ∧ ∀ i, i < st.length → (st.getD i []).length ≤ i
theorem LOk.visit {β : Type} [DecidableEq β] {key : List Nat → β} {s : List (List Nat)} (h : LOk s) {w : List Nat} (hw : isW w) (hl : w.length ≤ s.length) : LOk (kvisit key s w) := by
  unfold kvisit
  split
  · exact h
  · refine ⟨fun x hx => ?_, fun i hi => ?_⟩
    · rcases List.mem_append.1 hx with hx | hx
      · exact h.1 x hx
      · simp only [List.mem_singleton] at hx
        rw [hx]
        exact hw
    · simp only [List.length_append, List.length_singleton] at hi
      by_cases hin : i < s.length
      · have := h.2 i hin
        simp only [List.getD_eq_getElem?_getD] at this ⊢
        rw [List.getElem?_append_left hin]
        exact this
      · obtain rfl : i = s.length := by omega
        simpa using hl
theorem LOk.row {β : Type} [DecidableEq β] {key : List Nat → β} {s : List (List Nat)} (h : LOk s) {k : Nat} (hk : k < s.length) : ∀ n, n ≤ 3 → LOk (krow key s (s.getD k []) n) ∧ s.length ≤ (krow key s (s.getD k []) n).length
  | 0, _ => ⟨h, Nat.le_refl _⟩
  | n + 1, hn => by
    obtain ⟨h1, h2⟩ := h.row (key := key) hk n (by omega)
    have h3 := (kvisit_pre (key := key) (krow key s (s.getD k []) n) (s.getD k [] ++ [n])).length_le
    refine ⟨h1.visit (isW_append (h.1 _ (memD hk)) (isW_one (by omega))) ?_, Nat.le_trans h2 h3⟩
    have := h.2 k hk
    rw [List.length_append, List.length_singleton]
    omega
theorem LOk.kat {β : Type} [DecidableEq β] {key : List Nat → β} {s : List (List Nat)} (h : LOk s) : ∀ k, LOk (kat key s k)
  | 0 => h
  | k + 1 => by
    have ih := LOk.kat (key := key) h k
    by_cases hk : k < (Go.Proofs.Ythhbjkgchabfmaa.kat key s k).length
    · rw [kat_succ hk]
      exact (ih.row hk 3 (by omega)).1
    · rw [kat_stay (by omega)]
      exact ih
theorem LOk.part {β : Type} [DecidableEq β] {key : List Nat → β} {s : List (List Nat)} (h : LOk s) {k : Nat} (hk : k < (Go.Proofs.Ythhbjkgchabfmaa.kat key s k).length) {n : Nat} (hn : n ≤ 3) : LOk (kpart key s k n) := ((LOk.kat h k).row hk n hn).1
theorem LOk.okWs {st : List (List Nat)} (h : LOk st) (hl : st.length ≤ 1000) : ∀ x ∈ st, isW x ∧ x.length ≤ 399999 := fun x hx => by
  refine ⟨h.1 x hx, ?_⟩
  obtain ⟨i, hi, e⟩ := List.getElem_of_mem hx
  have := h.2 i hi
  rw [getD_at hi, e] at this
  omega
theorem strs_of_row {w : World} {B e n : Nat} {v : Value} {ws : List (List Nat)} (hr : w.ownsRow B e 1 v n (wdCells ws)) : Strs 0 w v ws := by
  have e1 : n = ws.length := by have := hr.1; simp at this; omega
  subst e1
  exact ((own_of_row hr).sl (by omega)).mono (Nat.zero_le _)
theorem St.lmem {w0 w : World} {L : List Ent} (h : St w0 w L) (i j k : Nat) {b n m : Nat} {vn ve vs vr : Value} {d : DfaD} {st re : List (List Nat)} (hi : L[i]? = some (Ent.box b #[vn, ve, vs, vr] 138)) (hj : L[j]? = some (Ent.row 9 1 vs n (wdCells st))) (hk : L[k]? = some (Ent.row 9 1 vr m (wdCells re)))
    (hd : DfaR 0 w0 (.agg #[vn, ve]) d) : LMem w b vn ve vs vr d st re :=
  ⟨h.box i hi, hd.below h.bel, strs_of_row (h.row j hj), strs_of_row (h.row k hk)⟩
theorem wdCells_snoc (l : List (List Nat)) (x : List Nat) : wdCells (l ++ [x]) = wdCells l ++ [.string (wdB x)] := by simp [wdCells]
theorem findB_key {d : DfaD} {re T : List (List Nat)} {x : List Nat} : (rowW d re x ∈ T.map (rowW d re) ∧ 0 ≤ findB (T.map (rowW d re)) (rowW d re x)) ∨ (rowW d re x ∉ T.map (rowW d re) ∧ findB (T.map (rowW d re)) (rowW d re x) = -1) := by
  by_cases h : rowW d re x ∈ T.map (rowW d re)
  · left
    refine ⟨h, ?_⟩
    unfold findB
    rw [if_pos h]
    omega
  · exact Or.inr ⟨h, findB_none h⟩
set_option maxRecDepth 100000 in
set_option maxHeartbeats 4000000 in
theorem lclose_any (w0 w : World) (X : Ent) (d : DfaD) (st re : List (List Nat)) (b n m : Nat) (vn ve vs vr : Value) (hd : dfaOk d.next d.ends = true) (hst : LOk st) (hnd : (st.map (rowW d re)).Nodup) (hre : okWs re) (hrl : re.length ≤ 100000) (hl : DfaR 0 w0 (.agg #[vn, ve]) d)
    (hS : St w0 w [Ent.box b #[vn, ve, vs, vr] 138, Ent.row 9 1 vs n (wdCells st), Ent.row 9 1 vr m (wdCells re), X]) :
    Calls Try.prog 135 #[.pointer (some ⟨b, 0, none⟩)] w fun e w' => e = .returned (.tuple #[]) ∧ ∃ vs' n', St w0 w' [Ent.box b #[vn, ve, vs', vr] 138, Ent.row 9 1 vs' n' (wdCells (closeW d st re)), Ent.row 9 1 vr m (wdCells re), X] := by
  have hlen := dfaOk_len hd
  have hK : ∀ K, (kat (rowW d re) st K).length ≤ 40 := fun K => by
    have := rows_le hd (LOk.kat hst K).1 (kat_nodup hnd K)
    omega
  have hP : ∀ k c, k < (kat (rowW d re) st k).length → c ≤ 3 → (kpart (rowW d re) st k c).length ≤ 40 := fun k c h1 h2 => by
    have := rows_le hd (LOk.part hst h1 h2).1 (kpart_nodup hnd k c)
    omega
  obtain ⟨i0, hi, hz0, hz1, hz2⟩ := info_parts Try.infoStr
  obtain ⟨W, hW⟩ : ∃ W : World, W = w := ⟨_, rfl⟩
  have Hhd := Lib.hid hd; clear hd
  have Hhst := Lib.hid hst; clear hst
  have Hhnd := Lib.hid hnd; clear hnd
  have Hhre := Lib.hid hre; clear hre
  have Hhl := Lib.hid hl; clear hl
  have HhS := Lib.hid hS; clear hS
  have HhK := Lib.hid hK; clear hK
  have HhP := Lib.hid hP; clear hP
  have Hhlen := Lib.hid hlen; clear hlen
  have Hhi := Lib.hid hi; clear hi
  have Hhz0 := Lib.hid hz0; clear hz0
  have Hhz1 := Lib.hid hz1; clear hz1
  have Hhz2 := Lib.hid hz2; clear hz2
  go_enter Try.func135, Try.ntmps135
  go_wp2
  go_loopw [2] (fun i wr => ∃ (k n' : Nat) (vs' : Value), i = .int .i64 k ∧ k ≤ (kat (rowW d re) st k).length ∧ St w0 wr [Ent.box b #[vn, ve, vs', vr] 138, Ent.row 9 1 vs' n' (wdCells (kat (rowW d re) st k)), Ent.row 9 1 vr m (wdCells re), X])
    (fun i _ => 41 - (intOf i).toNat)
  case atStart => exact ⟨0, n, vs, rfl, Nat.zero_le _, HhS.out⟩
  case round =>
    obtain ⟨k, n', vs', rfl, hk, hS⟩ := hrel
    obtain ⟨wo, hwo⟩ : ∃ wo : World, wo = wr := ⟨_, rfl⟩
    subst hwo
    obtain ⟨S, hSS⟩ : ∃ S, S = kat (rowW d re) st k := ⟨_, rfl⟩
    have hK1 := HhK.out k
    rw [← hSS] at hk hS hK1
    obtain rfl : n' = S.length := by have := (hS.row 1 rfl).1; simp at this; omega
    obtain ⟨a1, c1, rfl, -⟩ := hS.rowany 1 rfl
    have e2 := hS.cell (v := .slice a1 S.length c1) 0 2 rfl rfl
    have HhS := Lib.hid hS; clear hS
    have HhSS := Lib.hid hSS; clear hSS
    by_cases hlt : k < S.length
    · have hkS : k < (kat (rowW d re) st k).length := by rw [← HhSS.out]; exact hlt
      have hlt2 : (k : Int) < S.length := by omega
      obtain ⟨s, hs⟩ : ∃ s, s = S.getD k [] := ⟨_, rfl⟩
      have hsS : (kat (rowW d re) st k).getD k [] = s := by rw [← HhSS.out]; exact hs.symm
      have hsW : isW s ∧ s.length ≤ 40 := by
        have h := LOk.kat (key := rowW d re) Hhst.out k
        rw [← HhSS.out] at h
        have h2 := h.2 k hlt
        rw [← hs] at h2
        exact ⟨by rw [hs]; exact h.1 _ (memD hlt), by omega⟩
      have HhkS := Lib.hid hkS; clear hkS
      have Hhs := Lib.hid hs; clear hs
      have HhsS := Lib.hid hsS; clear hsS
      have HhsW := Lib.hid hsW; clear hsW
      go_wp2
      go_loopw [14] (fun i wi => ∃ (c n' : Nat) (vs' : Value), i = .int .i64 c ∧ c ≤ 3 ∧ St w0 wi [Ent.box b #[vn, ve, vs', vr] 138, Ent.row 9 1 vs' n' (wdCells (kpart (rowW d re) st k c)), Ent.row 9 1 vr m (wdCells re), X])
        (fun i _ => 3 - (intOf i).toNat)
      case atStart => exact ⟨0, S.length, .slice a1 S.length c1, rfl, by omega, by rw [kpart_zero, ← HhSS.out]; exact HhS.out⟩
      case round =>
        obtain ⟨c, n', vs', rfl, hc3, hSi⟩ := hrel
        obtain ⟨wp, hwp⟩ : ∃ wp : World, wp = wr := ⟨_, rfl⟩
        subst hwp
        clear e2
        by_cases hc : c < 3
        · have hPk := HhP.out k c HhkS.out hc3
          have hpre := kpart_pre (key := rowW d re) (s0 := st) (k := k) (Nat.zero_le c)
          have hTok := LOk.part Hhst.out HhkS.out hc3
          have hsucc := kpart_succ (key := rowW d re) (s0 := st) k c
          rw [HhsS.out] at hsucc
          rw [kpart_zero, ← HhSS.out] at hpre
          obtain ⟨T1, hT1⟩ : ∃ T1, T1 = kpart (rowW d re) st k (c + 1) := ⟨_, rfl⟩
          obtain ⟨T, hT⟩ : ∃ T, T = kpart (rowW d re) st k c := ⟨_, rfl⟩
          rw [← hT] at hPk hpre hTok hsucc hSi
          rw [← hT1] at hsucc
          obtain rfl : n' = T.length := by have := (hSi.row 1 rfl).1; simp at this; omega
          have hkT : k < T.length := Nat.lt_of_lt_of_le hlt hpre.length_le
          have hsT : T.getD k [] = s := (prefix_getD hpre hlt _).trans Hhs.out.symm
          obtain ⟨g1, d1, rfl⟩ := hSi.rowform 1 rfl (by omega)
          obtain ⟨hcap1, hcap2⟩ := hSi.rowcap 1 rfl
          have x2 := hSi.cell (v := .slice (some ⟨g1, 0, none⟩) T.length d1) 0 2 rfl rfl
          have xk := hSi.rcell (v := .string (wdB s)) 1 k rfl (by omega) (by rw [← hsT]; simp [wdCells, hkT])
          have xf := hSi.fr 0 2 rfl
          obtain ⟨hadd, hnlt⟩ := add_words s [c] (by have := HhsW.out.2; omega) (by simp)
          have hlet := fun (w : World) => letterText_any c hc w
          have hkT2 : (k : Int) < T.length := by omega
          have hc4 : (c : Int) < 3 := by omega
          have hok := hTok.okWs (by omega)
          have hstart := fun (w' : World) (h' : St w0 w' [Ent.box b #[vn, ve, .slice (some ⟨g1, 0, none⟩) T.length d1, vr] 138, Ent.row 9 1 (.slice (some ⟨g1, 0, none⟩) T.length d1) T.length (wdCells T), Ent.row 9 1 vr m (wdCells re), X]) =>
            startOf_any d T re (s ++ [c]) b vn ve (.slice (some ⟨g1, 0, none⟩) T.length d1) vr w' Hhd.out (fun x hx => ⟨(hok x hx).1, by have := (hok x hx).2; omega⟩) (by omega) Hhre.out hrl (isW_append HhsW.out.1 (isW_one hc)) (by rw [List.length_append]; have := HhsW.out.2; simp; omega) (h'.lmem 0 1 2 rfl rfl rfl Hhl.out)
          have Hlet := Lib.hid hlet
          have Hst := Lib.hid hstart
          have HhT := Lib.hid hT; clear hT
          have HhT1 := Lib.hid hT1; clear hT1
          have Hhpre := Lib.hid hpre; clear hpre
          have HhTok := Lib.hid hTok; clear hTok
          have Hhsucc := Lib.hid hsucc; clear hsucc
          have HhSi := Lib.hid hSi; clear hSi
          have HhsT := Lib.hid hsT; clear hsT
          clear hlet hstart hok
          go_wp2
          go_quiet (((go_at_call 123; with_reducible exact quiet_eq (Hlet.out _))))
          go_wp2_with fail
          refine (Hst.out _ (HhSi.out.drewN _)).mono ?_
          rintro e w2 ⟨rfl, hb2⟩
          have hS2 := (HhSi.out.drewN _).call hb2
          rcases findB_key (d := d) (re := re) (T := T) (x := s ++ [c]) with ⟨hm, hp⟩ | ⟨hm, hp⟩
          · have hT1T : T1 = T := Hhsucc.out.trans (kvisit_old hm)
            obtain ⟨p, hpp⟩ : ∃ p, p = findB (T.map (rowW d re)) (rowW d re (s ++ [c])) := ⟨_, rfl⟩
            rw [← hpp] at hp
            rw [← hpp]
            have hp2 : ¬ (p < 0) := by omega
            have HhS2 := Lib.hid hS2; clear hS2
            have Hhm := Lib.hid hm; clear hm
            have Hhpp := Lib.hid hpp; clear hpp
            have HhT1T := Lib.hid hT1T; clear hT1T
            clear hb2 x2 xk xf
            go_wp2
            go_roundw
            case rel => exact ⟨c + 1, T.length, .slice (some ⟨g1, 0, none⟩) T.length d1, by go_num, by omega, by rw [← HhT1.out, HhT1T.out]; exact HhS2.out⟩
            case measure => simp [intOf]; omega
          · have hT1T : T1 = T ++ [s ++ [c]] := Hhsucc.out.trans (kvisit_new hm)
            rw [hp]
            have y2 := hS2.cell (v := .slice (some ⟨g1, 0, none⟩) T.length d1) 0 2 rfl rfl
            have hSa := hS2.alloc_ (.cells #[.string (wdB (s ++ [c]))] 9)
            have hRw := hSa.row 1 rfl
            have HhS2 := Lib.hid hS2; clear hS2
            have HhSa := Lib.hid hSa; clear hSa
            have HhRw := Lib.hid hRw; clear hRw
            have Hhm := Lib.hid hm; clear hm
            have HhT1T := Lib.hid hT1T; clear hT1T
            clear hb2 x2 xk xf hp
            go_wp2_with (at_builtin; refine wpList_append_lies _ rfl _ _ _ rfl _ 9 i0 (.string { data := #[] }) 1 16 Try.underlying123 Hhi.out Hhz0.out Hhz1.out Hhz2.out rfl (by omega) _ T.length _ rfl HhRw.out ⟨w2.heap.size, 0, none⟩ 1 1 [.string (wdB (s ++ [c]))] rfl rfl (World.news_of_block (heap_alloc_new w2 _)) one_str (by omega) (by unfold maxLen; omega) (by omega) HhSa.out.size _ rfl ?_; intro g6 c6 w6 hown6 hgrow6 hat6 hlt6; have HS6 := Lib.hid (HhSa.out.app 1 rfl hown6 hgrow6 hat6); have y1 := HS6.out.cell (v := .slice (some ⟨g1, 0, none⟩) T.length d1) 0 2 rfl rfl; have y3 := HS6.out.fr 0 2 rfl; clear hown6 hgrow6 hat6 hlt6)
            go_roundw
            case rel =>
              refine ⟨c + 1, T.length + 1, .slice (some ⟨g6, 0, none⟩) (T.length + 1) c6, by go_num, by omega, ?_⟩
              rw [← HhT1.out, HhT1T.out, wdCells_snoc]
              exact HS6.out.set 0 rfl 2 (.slice (some ⟨g6, 0, none⟩) (T.length + 1) c6)
            case measure => simp [intOf]; omega
        · obtain rfl : c = 3 := by omega
          have hbs := kat_succ (key := rowW d re) (s0 := st) HhkS.out
          have hle := (kpart_pre (key := rowW d re) (s0 := st) (k := k) (Nat.zero_le 3)).length_le
          rw [kpart_zero, ← HhSS.out] at hle
          have Hhbs := Lib.hid hbs; clear hbs
          have Hhle := Lib.hid hle; clear hle
          have HhSi := Lib.hid hSi; clear hSi
          go_wp2
          go_roundw
          case rel => exact ⟨k + 1, n', vs', by go_num, by rw [Hhbs.out]; have := Hhle.out; omega, by rw [Hhbs.out]; exact HhSi.out⟩
          case measure => simp [intOf]; omega
    · have hkS : k = S.length := by omega
      have hfin : closeW d st re = S := by
        unfold closeW
        rcases Nat.le_total k (d.next.length + 1) with h | h
        · rw [kat_done (k := k) (by rw [← HhSS.out]; omega) h, ← HhSS.out]
        · have h2 := rows_le Hhd.out (LOk.kat Hhst.out k).1 (kat_nodup Hhnd.out k)
          rw [← HhSS.out] at h2
          omega
      have hnl : ¬ ((k : Int) < S.length) := by omega
      have HhkS := Lib.hid hkS; clear hkS
      have Hhfin := Lib.hid hfin; clear hfin
      go_wp2
      refine bodyPost_end (v := .tuple #[]) (by simp [results, Try.results135, go_sem]) rfl ⟨rfl, _, _, by rw [Hhfin.out]; exact HhS.out⟩
theorem slice_to (s : List Nat) (k : Nat) (j : Int) (hj : j = (k : Int)) (hk : k ≤ s.length) : ∀ w' : World, (Instr.slice 9 (.string (wdB s)) none (some (.int .i64 j)) none).run Try.prog w' = .ok (.string (wdB (s.take k))) w' := fun w' => by
  subst hj
  rw [run_slice_string_h w' 9 (wdB s) Try.underlying9 .i64 k (by omega) (by rw [wdB_size]; omega), Int.toNat_natCast, wdB_take]
theorem slice_from (s : List Nat) (k : Nat) (j : Int) (hj : j = (k : Int)) (hk : k ≤ s.length) : ∀ w' : World, (Instr.slice 9 (.string (wdB s)) (some (.int .i64 j)) none none).run Try.prog w' = .ok (.string (wdB (s.drop k))) w' := fun w' => by
  subst hj
  rw [run_slice_string_l w' 9 (wdB s) Try.underlying9 .i64 k (by omega) (by rw [wdB_size]; omega), Int.toNat_natCast, wdB_drop]
set_option maxRecDepth 100000 in
set_option maxHeartbeats 8000000 in
theorem lrefine_any (w0 w : World) (X : Ent) (d g : DfaD) (st re : List (List Nat)) (s : List Nat) (b n m : Nat) (vn ve vs vr gn ge : Value) (hd : dfaOk d.next d.ends = true) (hgo : dfaOk g.next g.ends = true) (hgl : g.next.length = st.length) (hst : LOk st) (hre : okWs re) (hrl : re.length ≤ 100000) (hs : isW s) (hsl : s.length ≤ 2000)
    (hl : DfaR 0 w0 (.agg #[vn, ve]) d) (hg : DfaR 0 w (.agg #[gn, ge]) g) (hc1 : cutW d st g s < s.length) (hc2 : (accD d (mixW st g s (cutW d st g s)) != accD d (mixW st g s (cutW d st g s + 1))) = true) (hc3 : ∀ k, k < cutW d st g s → (accD d (mixW st g s k) != accD d (mixW st g s (k + 1))) = false)
    (hS : St w0 w [Ent.box b #[vn, ve, vs, vr] 138, Ent.row 9 1 vs n (wdCells st), Ent.row 9 1 vr m (wdCells re), X]) :
    Calls Try.prog 137 #[.pointer (some ⟨b, 0, none⟩), .agg #[gn, ge], .string (wdB s)] w fun e w' => e = .returned (.tuple #[]) ∧ ∃ vr' m', St w0 w' [Ent.box b #[vn, ve, vs, vr'] 138, Ent.row 9 1 vs n (wdCells st), Ent.row 9 1 vr' m' (wdCells (re ++ [s.drop (cutW d st g s + 1)])), X] := by
  have hgn := dfaOk_len hgo
  have hst40 : st.length ≤ 40 := by omega
  have hss : (wdB s).size = s.length := wdB_size s
  obtain rfl : n = st.length := by have := (hS.row 1 rfl).1; simp at this; omega
  obtain rfl : m = re.length := by have := (hS.row 2 rfl).1; simp at this; omega
  obtain ⟨gs, cs, rfl⟩ := hS.rowform 1 rfl (by omega)
  obtain ⟨hcap1, hcap2⟩ := hS.rowcap 1 rfl
  obtain ⟨ar, cr, rfl, -⟩ := hS.rowany 2 rfl
  obtain ⟨C, hC⟩ : ∃ C, C = cutW d st g s := ⟨_, rfl⟩
  rw [← hC] at hc1 hc2 hc3
  rw [← hC]
  have hSg := hS.alloc _ rfl #[gn, ge] 26
  have hwg : Below w.heap.size w (w.alloc (.cells #[gn, ge] 26)) := (Below.refl _ _).alloc (Nat.le_refl _) _
  -- where the guess leads
  have hq : ∀ k, k ≤ s.length → ∃ q : Nat, q < st.length ∧ runD g 0 (s.take k) = (q : Int) := fun k hk => by
    obtain ⟨h1, h2⟩ := runD_in hgo (isW_take hs k) (s := 0) (by omega) (by omega)
    obtain ⟨q, hq⟩ := Int.eq_ofNat_of_zero_le h1
    exact ⟨q, by omega, hq⟩
  have hrun : ∀ k q : Nat, k ≤ s.length → runD g 0 (s.take k) = (q : Int) → ∀ w' : World, Below w.heap.size w w' → Calls Try.prog 122 #[.agg #[gn, ge], .int .i64 0, .string (wdB (s.take k))] w' fun e w2 => e = .returned (.int .i64 (q : Nat)) ∧ Below w'.heap.size w' w2 := fun k q hk hq w' hb => by
    have h := runD_any g 0 (s.take k) (.agg #[gn, ge]) w' hgo (by omega) (isW_take hs k) (by rw [List.length_take]; omega) (hg.below hb)
    have e : runD g ((0 : Nat) : Int) (s.take k) = (q : Int) := hq
    rw [e] at h
    exact h
  have hstw : ∀ q, q < st.length → isW (st.getD q []) ∧ (st.getD q []).length ≤ 40 := fun q hq => ⟨hst.1 _ (memD hq), by have := hst.2 q hq; omega⟩
  have hacc : ∀ (q k : Nat), q < st.length → ∀ w' : World, Below w0.heap.size w0 w' → Calls Try.prog 83 #[.agg #[vn, ve], .string (wdB (st.getD q [] ++ s.drop k))] w' fun e w2 => e = .returned (.bool (accD d (st.getD q [] ++ s.drop k))) ∧ Below w'.heap.size w' w2 := fun q k hq w' hb =>
    accepts_any d _ _ w' hd (isW_append (hstw q hq).1 (isW_drop hs k)) (by rw [List.length_append, List.length_drop]; have := (hstw q hq).2; omega) (hl.below hb)
  obtain ⟨i0, hi, hz0, hz1, hz2⟩ := info_parts Try.infoStr
  have Hq := Lib.hid hq
  have Hrun := Lib.hid hrun
  have Hstw := Lib.hid hstw
  have Hacc := Lib.hid hacc
  have Hhd := Lib.hid hd; clear hd
  have Hhgo := Lib.hid hgo; clear hgo
  have Hhst := Lib.hid hst; clear hst
  have Hhre := Lib.hid hre; clear hre
  have Hhs := Lib.hid hs; clear hs
  have Hhl := Lib.hid hl; clear hl
  have Hhg := Lib.hid hg; clear hg
  have Hhc1 := Lib.hid hc1; clear hc1
  have Hhc2 := Lib.hid hc2; clear hc2
  have Hhc3 := Lib.hid hc3; clear hc3
  have HhC := Lib.hid hC; clear hC
  have HhSg := Lib.hid hSg; clear hSg
  have Hhwg := Lib.hid hwg; clear hwg
  have Hhi := Lib.hid hi; clear hi
  have Hhz0 := Lib.hid hz0; clear hz0
  have Hhz1 := Lib.hid hz1; clear hz1
  have Hhz2 := Lib.hid hz2; clear hz2
  have Hhgn := Lib.hid hgn; clear hgn
  clear hS hq hrun hstw hacc hgl
  go_enter Try.func137, Try.ntmps137
  go_wp2
  go_loopw [11] (fun i wr => ∃ k : Nat, i = .int .i64 k ∧ k ≤ C ∧ Below w.heap.size w wr ∧ St w0 wr [Ent.box b #[vn, ve, .slice (some ⟨gs, 0, none⟩) st.length cs, .slice ar re.length cr] 138, Ent.row 9 1 (.slice (some ⟨gs, 0, none⟩) st.length cs) st.length (wdCells st), Ent.row 9 1 (.slice ar re.length cr) re.length (wdCells re), X, Ent.box w.heap.size #[gn, ge] 26])
    (fun i _ => C + 1 - (intOf i).toNat)
  case atStart => exact ⟨0, rfl, Nat.zero_le _, Hhwg.out, HhSg.out⟩
  case round =>
    obtain ⟨k, rfl, hk, hb, hS⟩ := hrel
    obtain ⟨wp, hwp⟩ : ∃ wp : World, wp = wr := ⟨_, rfl⟩
    subst hwp
    have hks : k < s.length := by have := Hhc1.out; omega
    have hks2 : (k : Int) < s.length := by omega
    have hk3 : (k : Int) + 1 ≤ s.length := by omega
    have hk4 : (0 : Int) ≤ (k : Int) + 1 := by omega
    have hk5 : IntKind.i64.wrap ((k : Int) + 1) = (k : Int) + 1 := IntWalk.i64_in _ (by omega)
    obtain ⟨q1, hq1, hr1⟩ := Hq.out k (by omega)
    obtain ⟨q2, hq2, hr2⟩ := Hq.out (k + 1) (by omega)
    have hm1 : mixW st g s k = st.getD q1 [] ++ s.drop k := by unfold mixW; rw [hr1]; rfl
    have hm2 : mixW st g s (k + 1) = st.getD q2 [] ++ s.drop (k + 1) := by unfold mixW; rw [hr2]; rfl
    have hw1 := Hstw.out q1 hq1
    have hw2 := Hstw.out q2 hq2
    obtain ⟨hadd1, hnlt1⟩ := add_words (st.getD q1 []) (s.drop k) (by omega) (by rw [List.length_drop]; omega)
    obtain ⟨hadd2, hnlt2⟩ := add_words (st.getD q2 []) (s.drop (k + 1)) (by omega) (by rw [List.length_drop]; omega)
    have t1 := slice_to s k (k : Int) rfl (by omega)
    have t2 := slice_to s (k + 1) ((k : Int) + 1) (by push_cast; rfl) (by omega)
    have f1 := slice_from s k (k : Int) rfl (by omega)
    have f2 := slice_from s (k + 1) ((k : Int) + 1) (by push_cast; rfl) (by omega)
    have R1 := Lib.hid (Hrun.out k q1 (by omega) hr1)
    have R2 := Lib.hid (Hrun.out (k + 1) q2 (by omega) hr2)
    have A1 := Lib.hid (Hacc.out q1 k hq1)
    have A2 := Lib.hid (Hacc.out q2 (k + 1) hq2)
    have e0 := hS.cell (v := vn) 0 0 rfl rfl
    have e1 := hS.cell (v := ve) 0 1 rfl rfl
    have e2 := hS.cell (v := .slice (some ⟨gs, 0, none⟩) st.length cs) 0 2 rfl rfl
    have g0 := hS.cell (v := gn) 4 0 rfl rfl
    have g1 := hS.cell (v := ge) 4 1 rfl rfl
    have x1 := hS.rcell (v := .string (wdB (st.getD q1 []))) 1 q1 rfl (by omega) (by simp [wdCells, hq1])
    have x2 := hS.rcell (v := .string (wdB (st.getD q2 []))) 1 q2 rfl (by omega) (by simp [wdCells, hq2])
    have lb := (hS.boxlt 0 rfl).2
    have lg := (hS.boxlt 4 rfl).2
    have ls := (hS.rowlt 1 rfl).2
    obtain ⟨u1, hu1⟩ : ∃ u1, u1 = st.getD q1 [] := ⟨_, rfl⟩
    obtain ⟨u2, hu2⟩ : ∃ u2, u2 = st.getD q2 [] := ⟨_, rfl⟩
    rw [← hu1] at hm1 hadd1 hnlt1 x1 A1
    rw [← hu2] at hm2 hadd2 hnlt2 x2 A2
    have Hk := Lib.hid (fun (w' : World) (h : Below wp.heap.size wp w') => (show w'.cell? ⟨b, 0, none⟩ = some vn ∧ w'.cell? ⟨b, 1, none⟩ = some ve ∧ w'.cell? ⟨b, 2, none⟩ = some (.slice (some ⟨gs, 0, none⟩) st.length cs) ∧ w'.cell? ⟨w.heap.size, 0, none⟩ = some gn ∧ w'.cell? ⟨w.heap.size, 1, none⟩ = some ge ∧ w'.cell? ⟨gs, q1, none⟩ = some (.string (wdB u1)) ∧ w'.cell? ⟨gs, q2, none⟩ = some (.string (wdB u2)) from
      ⟨(bcell h _ _ lb).trans e0, (bcell h _ _ lb).trans e1, (bcell h _ _ lb).trans e2, (bcell h _ _ lg).trans g0, (bcell h _ _ lg).trans g1, (bcell h _ _ ls).trans x1, (bcell h _ _ ls).trans x2⟩))
    have hq1i : (q1 : Int) < st.length := by omega
    have hq2i : (q2 : Int) < st.length := by omega
    have Hb := Lib.hid hb
    have HhS := Lib.hid hS; clear hS
    have Hhr1 := Lib.hid hr1; clear hr1
    have Hhr2 := Lib.hid hr2; clear hr2
    have Hhm1 := Lib.hid hm1; clear hm1
    have Hhm2 := Lib.hid hm2; clear hm2
    have Hhw1 := Lib.hid hw1; clear hw1
    have Hhw2 := Lib.hid hw2; clear hw2
    have Hhu1 := Lib.hid hu1; clear hu1
    have Hhu2 := Lib.hid hu2; clear hu2
    clear hb
    go_wp2
    go_region_held3 (fun w' => w'.cell? ⟨b, 0, none⟩ = some vn ∧ w'.cell? ⟨b, 1, none⟩ = some ve ∧ w'.cell? ⟨b, 2, none⟩ = some (.slice (some ⟨gs, 0, none⟩) st.length cs) ∧ w'.cell? ⟨w.heap.size, 0, none⟩ = some gn ∧ w'.cell? ⟨w.heap.size, 1, none⟩ = some ge ∧ w'.cell? ⟨gs, q1, none⟩ = some (.string (wdB u1)) ∧ w'.cell? ⟨gs, q2, none⟩ = some (.string (wdB u2)))
      (first | go_keep | exact Hk.out _ hq0)
      (first
        | (go_at_call 122; (with_reducible refine (R1.out _ Hb.out.drew).mono ?_); rintro e v1 ⟨rfl, hq0'⟩; have hq0 : Below wp.heap.size wp v1 := ((Below.refl _ _).drew).trans hq0'))
    have Hq0 := Lib.hid hq0
    have B1 := Lib.hid (Hb.out.trans (hq0.mono Hb.out.size))
    have k1 := Hk.out _ hq0
    obtain ⟨y0, y1, y2, y3, y4, y5, y6⟩ := k1
    clear hq0 hq0' e0 e1 e2 g0 g1 x1 x2
    go_wp2
    go_region_held3 (fun w' => w'.cell? ⟨b, 0, none⟩ = some vn ∧ w'.cell? ⟨b, 1, none⟩ = some ve ∧ w'.cell? ⟨b, 2, none⟩ = some (.slice (some ⟨gs, 0, none⟩) st.length cs) ∧ w'.cell? ⟨w.heap.size, 0, none⟩ = some gn ∧ w'.cell? ⟨w.heap.size, 1, none⟩ = some ge ∧ w'.cell? ⟨gs, q1, none⟩ = some (.string (wdB u1)) ∧ w'.cell? ⟨gs, q2, none⟩ = some (.string (wdB u2)))
      (first | go_keep | exact Hk.out _ hq1)
      (first
        | (go_at_call 122; (with_reducible refine (R2.out _ B1.out.drew).mono ?_); rintro e v2 ⟨rfl, hq1'⟩; have hq1 : Below wp.heap.size wp v2 := (Hq0.out.drew).trans (hq1'.mono Hq0.out.size)))
    have Hq1 := Lib.hid hq1
    have B2 := Lib.hid (Hb.out.trans (hq1.mono Hb.out.size))
    have hS2 := HhS.out.call hq1
    obtain ⟨z0, z1, z2, z3, z4, z5, z6⟩ := Hk.out _ hq1
    clear hq1 hq1' y0 y1 y2 y3 y4 y5 y6
    have HhS2 := Lib.hid hS2; clear hS2
    obtain ⟨α, hα⟩ : ∃ α, α = accD d (u1 ++ s.drop k) := ⟨_, rfl⟩
    obtain ⟨β, hβ⟩ : ∃ β, β = accD d (u2 ++ s.drop (k + 1)) := ⟨_, rfl⟩
    rw [← hα] at A1
    rw [← hβ] at A2
    have hcmpL : k < C → (α != β) = false := fun h => by
      have := Hhc3.out k h
      rw [Hhm1.out, Hhm2.out, ← hα, ← hβ] at this
      exact this
    have hcmpE : k = C → (α != β) = true := fun h => by
      have := Hhc2.out
      rw [← h, Hhm1.out, Hhm2.out, ← hα, ← hβ] at this
      exact this
    have D2 : Hid (Below w0.heap.size w0 v2.drew) := Lib.hid HhS2.out.drew.bel
    have Hhα := Lib.hid hα; clear hα
    have Hhβ := Lib.hid hβ; clear hβ
    by_cases hkC : k < C
    · have hcmp := hcmpL hkC
      have hcmp2 : (!(α == β)) = false := hcmp
      clear hcmpL hcmpE
      go_wp2
      go_region_held3 (fun w' => w'.cell? ⟨b, 0, none⟩ = some vn ∧ w'.cell? ⟨b, 1, none⟩ = some ve ∧ w'.cell? ⟨b, 2, none⟩ = some (.slice (some ⟨gs, 0, none⟩) st.length cs) ∧ w'.cell? ⟨w.heap.size, 0, none⟩ = some gn ∧ w'.cell? ⟨w.heap.size, 1, none⟩ = some ge ∧ w'.cell? ⟨gs, q1, none⟩ = some (.string (wdB u1)) ∧ w'.cell? ⟨gs, q2, none⟩ = some (.string (wdB u2)))
        (first | go_keep | exact Hk.out _ hq2 | exact Hk.out _ hq3)
        (first
          | (go_at_call 83; (with_reducible refine (A1.out _ D2.out).mono ?_); rintro e v3 ⟨rfl, hr2'⟩; have hq2 : Below wp.heap.size wp v3 := (Hq1.out.drew).trans (hr2'.mono Hq1.out.size); have D3 : Hid (Below w0.heap.size w0 v3) := Lib.hid (HhS.out.call hq2).bel)
          | (go_at_call 83; (with_reducible refine (A2.out _ D2.out).mono ?_); rintro e v3 ⟨rfl, hr2'⟩; have hq2 : Below wp.heap.size wp v3 := (Hq1.out.drew).trans (hr2'.mono Hq1.out.size); have D3 : Hid (Below w0.heap.size w0 v3) := Lib.hid (HhS.out.call hq2).bel)
          | (go_at_call 83; (with_reducible refine (A2.out v3 D3.out).mono ?_); rintro e v4 ⟨rfl, hr3'⟩; have hq3 : Below wp.heap.size wp v4 := hq2.trans (hr3'.mono hq2.size))
          | (go_at_call 83; (with_reducible refine (A1.out v3 D3.out).mono ?_); rintro e v4 ⟨rfl, hr3'⟩; have hq3 : Below wp.heap.size wp v4 := hq2.trans (hr3'.mono hq2.size)))
      all_goals
        have HS4 := Lib.hid (HhS.out.call hq3)
        have B4 := Lib.hid (Hb.out.trans (hq3.mono Hb.out.size))
        clear hq2 hq3 hr2' hr3' z0 z1 z2 z3 z4 z5 z6
        go_wp2
        go_roundw
        case rel => exact ⟨k + 1, by go_num, by omega, B4.out, HS4.out⟩
        case measure => simp [intOf]; omega
    · have hkC' : k = C := by omega
      have hcmp := hcmpE hkC'
      have hcmp2 : (!(α == β)) = true := hcmp
      have HhkC' := Lib.hid hkC'; clear hkC'
      clear hcmpL hcmpE
      go_wp2
      go_region_held3 (fun w' => w'.cell? ⟨b, 0, none⟩ = some vn ∧ w'.cell? ⟨b, 1, none⟩ = some ve ∧ w'.cell? ⟨b, 2, none⟩ = some (.slice (some ⟨gs, 0, none⟩) st.length cs) ∧ w'.cell? ⟨w.heap.size, 0, none⟩ = some gn ∧ w'.cell? ⟨w.heap.size, 1, none⟩ = some ge ∧ w'.cell? ⟨gs, q1, none⟩ = some (.string (wdB u1)) ∧ w'.cell? ⟨gs, q2, none⟩ = some (.string (wdB u2)))
        (first | go_keep | exact Hk.out _ hq2 | exact Hk.out _ hq3)
        (first
          | (go_at_call 83; (with_reducible refine (A1.out _ D2.out).mono ?_); rintro e v3 ⟨rfl, hr2'⟩; have hq2 : Below wp.heap.size wp v3 := (Hq1.out.drew).trans (hr2'.mono Hq1.out.size); have D3 : Hid (Below w0.heap.size w0 v3) := Lib.hid (HhS.out.call hq2).bel)
          | (go_at_call 83; (with_reducible refine (A2.out _ D2.out).mono ?_); rintro e v3 ⟨rfl, hr2'⟩; have hq2 : Below wp.heap.size wp v3 := (Hq1.out.drew).trans (hr2'.mono Hq1.out.size); have D3 : Hid (Below w0.heap.size w0 v3) := Lib.hid (HhS.out.call hq2).bel)
          | (go_at_call 83; (with_reducible refine (A2.out v3 D3.out).mono ?_); rintro e v4 ⟨rfl, hr3'⟩; have hq3 : Below wp.heap.size wp v4 := hq2.trans (hr3'.mono hq2.size))
          | (go_at_call 83; (with_reducible refine (A1.out v3 D3.out).mono ?_); rintro e v4 ⟨rfl, hr3'⟩; have hq3 : Below wp.heap.size wp v4 := hq2.trans (hr3'.mono hq2.size)))
      all_goals
        have hS4 := HhS.out.call hq3
        have z9 := hS4.cell (v := .slice ar re.length cr) 0 3 rfl rfl
        have HS4 := Lib.hid hS4
        have HSa := Lib.hid ((hS4.alloc_ (.cells #[.string (wdB (s.drop (k + 1)))] 9)).drew)
        have z7 := (hS4.alloc_ (.cells #[.string (wdB (s.drop (k + 1)))] 9)).cell (v := .slice ar re.length cr) 0 3 rfl rfl
        have z8 := HSa.out.cell (v := .slice ar re.length cr) 0 3 rfl rfl
        clear hq2 hq3 hr2' hr3' z0 z1 z2 z3 z4 z5 z6 hS4
        go_wp2
        go_region_law (first
          | (refine step_append_lies _ (by rfl) _ _ _ (by rfl) w0.heap.size 9 i0 (.string { data := #[] }) 1 16 Try.underlying123 Hhi.out Hhz0.out Hhz1.out Hhz2.out (by rfl) (by omega) (.slice ar re.length cr) re.length (wdCells re) (by rfl) (HSa.out.row 2 rfl) ⟨v4.heap.size, 0, none⟩ 1 1 [.string (wdB (s.drop (k + 1)))] (by rfl) (by rfl) (World.news_of_block (show (v4.alloc (.cells #[.string (wdB (s.drop (k + 1)))] 9)).drew.heap[v4.heap.size]? = _ from heap_alloc_new v4 _)) one_str (by omega) (by unfold maxLen; omega) (by omega) HSa.out.size (v4.heap.size + 1) (by simp) ?_; intro g7 c7 w7 hown7 hgrow7 hat7 hlt7; have HS7 := Lib.hid (HSa.out.app 2 rfl hown7 hgrow7 (by have h := hat7; simpa using h)); have y1 := HS7.out.cell (v := .slice ar re.length cr) 0 3 rfl rfl; have y2 := HS7.out.fr 0 3 rfl; clear hown7 hgrow7 hat7))
        all_goals
          go_wp2
          have hq := (HS7.out.set 0 rfl 3 (.slice (some ⟨g7, 0, none⟩) (re.length + 1) c7)).pick [0, 1, 2, 3] (by decide)
          refine bodyPost_ret (v := .tuple #[]) (by simp [results, Try.results137, go_sem]) rfl ⟨rfl, .slice (some ⟨g7, 0, none⟩) (re.length + 1) c7, re.length + 1, ?_⟩
          rw [← HhkC'.out, wdCells_snoc]
          exact hq
def hitD (d : DfaD) (g : DfaD) : Option (List Nat) := hitP d g
theorem hitD_eq (d g : DfaD) : hitD d g = hitK mostP d g := rfl
theorem hitP_swap (g d : DfaD) : hitP g d = hitD d g := by
  rw [hitD_eq]
  unfold hitP
  exact hit_swap _ _ _
theorem mostP_le : mostP ≤ 1600 := Nat.le_refl _
theorem hitD_says {d g : DfaD} {w : List Nat} (h : hitD d g = some w) : isW w ∧ accD d w ≠ accD g w := by
  rw [hitD_eq] at h
  exact hit_says h
theorem hitD_ok (d : DfaD) : hitOk d (hitD d) := fun _ _ _ h => hitD_says h
theorem hitK_len {K : Nat} {a b : DfaD} {w : List Nat} (h : hitK K a b = some w) : w.length ≤ K := by
  have hg := (bat_good (nx := stepP a b) (a := ((0, 0) : Int × Int)) K).2.1
  obtain ⟨i, hi, hw, -⟩ := firstHit_some (d := ((0, 0) : Int × Int)) hg h
  rw [← hw]
  exact bat_wlen (nx := stepP a b) (a := ((0, 0) : Int × Int)) K _ (memD (by omega))
theorem hitD_len {d g : DfaD} {w : List Nat} (h : hitD d g = some w) : w.length ≤ 1600 := by
  rw [hitD_eq] at h
  have := hitK_len h
  have := mostP_le
  omega
def preW (d : DfaD) : Nat → List (List Nat)
  | 0 => [[]]
  | j + 1 => (tabW d (hitD d) j).1
def resW (d : DfaD) (j : Nat) : List (List Nat) := (tabW d (hitD d) j).2
def staW (d : DfaD) (j : Nat) : List (List Nat) := (tabW d (hitD d) j).1
def gueW (d : DfaD) (j : Nat) : DfaD := gssW d (hitD d) j
theorem closeW_pre (d : DfaD) : ∀ j, closeW d (preW d j) (resW d j) = staW d j
  | 0 => rfl
  | _ + 1 => rfl
theorem nodup_take {α : Type} {l m : List α} (h : l <+: m) (hm : m.Nodup) : l.Nodup := by
  obtain ⟨t, rfl⟩ := h
  exact (List.nodup_append.1 hm).1
theorem resW_succ (d : DfaD) (j : Nat) {w : List Nat} (h : hitD d (gueW d j) = some w) : resW d (j + 1) = resW d j ++ [w.drop (cutW d (staW d j) (gueW d j) w + 1)] := by
  show (tabW d (hitD d) j).2 ++ _ = _
  have h' : hitD d (guessW d (tabW d (hitD d) j).1 (tabW d (hitD d) j).2) = some w := h
  simp only [h', Option.getD_some]
  rfl
structure LTab (d : DfaD) (j : Nat) : Prop where
  pre : LOk (preW d j)
  nd : ((preW d j).map (rowW d (resW d j))).Nodup
  re : okWs (resW d j)
  rl : (resW d j).length ≤ j + 1
  inv : LInv d (staW d j) (resW d j)
  st : LOk (staW d j)
theorem LTab.at {d : DfaD} (hd : dfaOk d.next d.ends = true) : ∀ j, (∀ i, i < j → (hitD d (gueW d i)).isSome = true) → LTab d j
  | 0, hy => by
    have hinv := (tab_inv hd (hitD_ok d) 0 hy).1
    have h0 : LOk [[]] := ⟨fun x hx => by simp at hx; subst hx; intro c hc; simp at hc, fun i hi => by
      obtain rfl : i = 0 := by simpa using hi
      simp⟩
    exact ⟨h0, by simp [preW], fun x hx => by simp [resW, tabW] at hx; subst hx; exact ⟨fun c hc => by simp at hc, by simp⟩, by simp [resW, tabW], hinv, LOk.kat h0 _⟩
  | j + 1, hy => by
    have ih := LTab.at hd j fun i hi => hy i (by omega)
    have hinv := (tab_inv hd (hitD_ok d) (j + 1) hy).1
    obtain ⟨w, hw⟩ := Option.isSome_iff_exists.1 (hy j (by omega))
    have hr := resW_succ d j hw
    have hww := (hitD_says hw).1
    have hpre : preW d (j + 1) <+: staW d (j + 1) := kat_pre (key := rowW d (resW d (j + 1))) (s0 := preW d (j + 1)) (Nat.zero_le (d.next.length + 1))
    refine ⟨ih.st, ?_, fun x hx => ?_, ?_, hinv, LOk.kat (s := preW d (j + 1)) ih.st _⟩
    · obtain ⟨t, ht⟩ := hpre
      have h1 := hinv.nd
      refine nodup_take (m := (staW d (j + 1)).map (rowW d (resW d (j + 1)))) ⟨t.map (rowW d (resW d (j + 1))), ?_⟩ h1
      rw [← List.map_append, ht]
    · rw [hr] at hx
      rcases List.mem_append.1 hx with hx | hx
      · exact ih.re x hx
      · simp only [List.mem_singleton] at hx
        subst hx
        refine ⟨isW_drop hww _, ?_⟩
        have := hitD_len hw
        rw [List.length_drop]
        omega
    · rw [hr, List.length_append, List.length_singleton]
      have := ih.rl
      omega
/-! The guesses in memory. -/
def Ent.sub (X y : Ent) : Prop := (∀ w, X.holds w → y.holds w) ∧ ∀ k, y.foot k → X.foot k
def valCells (p : Value × Value) : List Value := [p.1, p.2]
def GMem (X : Ent) (vals : List (Value × Value)) (gs : List DfaD) : Prop := vals.length = gs.length ∧ ∀ i, i < gs.length →
  ∃ a1 c1 a2 c2 vs, vals.getD i (undef, undef) = (.slice a1 (gs.getD i ⟨[], []⟩).next.length c1, .slice a2 (gs.getD i ⟨[], []⟩).next.length c2) ∧
    Ent.sub X (Ent.rows 29 3 (.slice a1 (gs.getD i ⟨[], []⟩).next.length c1) vs ((gs.getD i ⟨[], []⟩).next.map intCells)) ∧ Ent.sub X (Ent.row 4 1 (.slice a2 (gs.getD i ⟨[], []⟩).next.length c2) (gs.getD i ⟨[], []⟩).next.length (boolCells (gs.getD i ⟨[], []⟩).ends))
theorem GMem.nil (X : Ent) : GMem X [] [] := ⟨rfl, fun i hi => absurd hi (by simp)⟩
theorem GMem.snoc {X : Ent} {vals : List (Value × Value)} {gs : List DfaD} (h : GMem X vals gs) {g : DfaD} {a1 a2 : Option Addr} {c1 c2 : Nat} {vs : List Value} :
    GMem (Ent.all [X, Ent.rows 29 3 (.slice a1 g.next.length c1) vs (g.next.map intCells), Ent.row 4 1 (.slice a2 g.next.length c2) g.next.length (boolCells g.ends)]) (vals ++ [(.slice a1 g.next.length c1, .slice a2 g.next.length c2)]) (gs ++ [g]) := by
  refine ⟨by simp [h.1], fun i hi => ?_⟩
  simp only [List.length_append, List.length_singleton] at hi
  by_cases hin : i < gs.length
  · obtain ⟨p1, q1, p2, q2, us, e, s1, s2⟩ := h.2 i hin
    have e1 : (gs ++ [g]).getD i ⟨[], []⟩ = gs.getD i ⟨[], []⟩ := by simp only [List.getD_eq_getElem?_getD]; rw [List.getElem?_append_left hin]
    have e2 : (vals ++ [((Value.slice a1 g.next.length c1), (Value.slice a2 g.next.length c2))]).getD i (undef, undef) = vals.getD i (undef, undef) := by simp only [List.getD_eq_getElem?_getD]; rw [List.getElem?_append_left (by rw [h.1]; exact hin)]
    rw [e1, e2]
    exact ⟨p1, q1, p2, q2, us, e, ⟨fun w hw => s1.1 w (hw X (by simp)), fun k hk => ⟨X, by simp, s1.2 k hk⟩⟩, ⟨fun w hw => s2.1 w (hw X (by simp)), fun k hk => ⟨X, by simp, s2.2 k hk⟩⟩⟩
  · obtain rfl : i = gs.length := by omega
    have e1 : (gs ++ [g]).getD gs.length ⟨[], []⟩ = g := by simp
    have e2 : (vals ++ [((Value.slice a1 g.next.length c1), (Value.slice a2 g.next.length c2))]).getD gs.length (undef, undef) = ((Value.slice a1 g.next.length c1), (Value.slice a2 g.next.length c2)) := by rw [← h.1]; simp
    rw [e1, e2]
    exact ⟨a1, c1, a2, c2, vs, rfl, ⟨fun w hw => hw _ (by simp), fun k hk => ⟨_, by simp, hk⟩⟩, ⟨fun w hw => hw _ (by simp), fun k hk => ⟨_, by simp, hk⟩⟩⟩
theorem rows_dfaR {w : World} {a1 a2 : Option Addr} {n c1 c2 : Nat} {vs : List Value} {g : DfaD} (h1 : (Ent.rows 29 3 (.slice a1 n c1) vs (g.next.map intCells)).holds w) (h2 : (Ent.row 4 1 (.slice a2 n c2) n (boolCells g.ends)).holds w) : DfaR 0 w (.agg #[.slice a1 n c1, .slice a2 n c2]) g := by
  refine ⟨_, _, rfl, ?_, bools_of_row (show w.ownsRow 0 4 1 (.slice a2 n c2) n (boolCells g.ends) from h2)⟩
  obtain ⟨p1, p2, -⟩ := h1
  rw [List.length_map] at p1 p2
  refine ⟨vs, (own_of_row p1).sl (by omega), fun i hi => ?_⟩
  have := p2 i hi
  have e1 : (g.next.map intCells).getD i [] = intCells (g.next.getD i []) := by simp [hi]
  rw [e1] at this
  have := (own_of_row this).sl (by omega)
  simpa [Ints] using this
theorem Try.infoDfa : (Try.prog.info? 26).map (fun i => (i.zero, i.size, i.bytes)) = some (some (.agg #[.slice none 0 0, .slice none 0 0]), 2, 48) := by kernel_rfl
def RLearn (d : DfaD) (J : Nat) (w : World) (e : Ending) (w' : World) : Prop := ∃ a c vals X, e = .returned (.slice a (J + 1) c) ∧ GMem X vals ((List.range (J + 1)).map (gueW d)) ∧ St w w' [Ent.row 26 2 (.slice a (J + 1) c) (J + 1) (vals.flatMap valCells), X]
set_option maxRecDepth 100000 in
set_option maxHeartbeats 8000000 in
theorem learn_any (d : DfaD) (J : Nat) (v : Value) (w : World) (hd : dfaOk d.next d.ends = true) (hno : (hitD d (gueW d J)).isSome = false) (hyes : ∀ i, i < J → (hitD d (gueW d i)).isSome = true) (h : DfaR 0 w v d) :
    Calls Try.prog 97 #[v] w fun e w' => RLearn d J w e w' := by
  obtain ⟨vn, ve, rfl, q1, q2⟩ := h
  have hl : DfaR 0 w (.agg #[vn, ve]) d := ⟨_, _, rfl, q1, q2⟩
  obtain ⟨i0, hi, hz0, hz1, hz2⟩ := info_parts Try.infoDfa
  have hS1 := (((St.start w).alloc _ rfl #[vn, ve] 26).alloc (w.heap.size + 1) (by simp) #[.string { data := #[] }] 9).alloc (w.heap.size + 1 + 1) (by simp) #[.string { data := #[] }] 9
  have hS2 := (hS1.boxrow 1 1 1 [.string { data := #[] }] rfl rfl (by unfold maxLen; omega)).boxrow 2 1 1 [.string { data := #[] }] rfl rfl (by unfold maxLen; omega)
  have hS3 := hS2.alloc (w.heap.size + 1 + 1 + 1) (by simp) #[vn, ve, .slice (some ⟨w.heap.size + 1, 0, none⟩) 1 1, .slice (some ⟨w.heap.size + 1 + 1, 0, none⟩) 1 1] 138
  have hS4 := ((hS3.nilRow 26 2).add (Below.refl _ _) Ent.nil trivial (fun k hk => hk.elim)).pick [3, 1, 2, 4, 5, 0] (by decide)
  have Hhd := Lib.hid hd; clear hd
  have Hhno := Lib.hid hno; clear hno
  have Hhyes := Lib.hid hyes; clear hyes
  have Hhl := Lib.hid hl; clear hl
  have Hhi := Lib.hid hi; clear hi
  have Hhz0 := Lib.hid hz0; clear hz0
  have Hhz1 := Lib.hid hz1; clear hz1
  have Hhz2 := Lib.hid hz2; clear hz2
  have HhS4 := Lib.hid hS4; clear hS4
  clear hS1 hS2 hS3 q1 q2
  go_enter Try.func97, Try.ntmps97
  go_wp2
  go_loopg [4] (J + 1) (fun gg gv wr => ∃ (j n m : Nat) (vs vr : Value) (a : Option Addr) (c : Nat) (vals : List (Value × Value)) (X : Ent), gg = J + 1 - j ∧ gv = .slice a j c ∧ j ≤ J ∧ GMem X vals ((List.range j).map (gueW d)) ∧
      St w wr [Ent.box (w.heap.size + 1 + 1 + 1) #[vn, ve, vs, vr] 138, Ent.row 9 1 vs n (wdCells (preW d j)), Ent.row 9 1 vr m (wdCells (resW d j)), Ent.row 26 2 (.slice a j c) j (vals.flatMap valCells), X, Ent.box w.heap.size #[vn, ve] 26])
  case atStart => exact ⟨0, 1, 1, _, _, none, 0, [], Ent.nil, rfl, rfl, Nat.zero_le _, GMem.nil _, HhS4.out⟩
  case round =>
    obtain ⟨j, n, m, vs, vr, a, c, vals, X, rfl, rfl, hj, hG, hS⟩ := hrel
    have hyj : ∀ i, i < j → (hitD d (gueW d i)).isSome = true := fun i hi => Hhyes.out i (by omega)
    have hT := LTab.at Hhd.out j hyj
    have hlt40 := tab_lt Hhd.out (hitD_ok d) (j := j) hyj
    have hcl := closeW_pre d j
    have hgok := guess_ok Hhd.out hT.inv
    have hSp := hS.pack (A := [Ent.box (w.heap.size + 1 + 1 + 1) #[vn, ve, vs, vr] 138, Ent.row 9 1 vs n (wdCells (preW d j)), Ent.row 9 1 vr m (wdCells (resW d j))]) (R := [Ent.row 26 2 (.slice a j c) j (vals.flatMap valCells), X, Ent.box w.heap.size #[vn, ve] 26])
    have HhS := Lib.hid hS; clear hS
    have HhG := Lib.hid hG; clear hG
    have HhT := Lib.hid hT; clear hT
    have Hhcl := Lib.hid hcl; clear hcl
    have Hhgok := Lib.hid hgok; clear hgok
    have Hhyj := Lib.hid hyj; clear hyj
    have HSp := Lib.hid hSp
    clear hSp
    go_wp2_with fail
    refine (lclose_any w _ _ d (preW d j) (resW d j) (w.heap.size + 1 + 1 + 1) n m vn ve vs vr Hhd.out HhT.out.pre HhT.out.nd HhT.out.re (by have := HhT.out.rl; omega) Hhl.out HSp.out).mono ?_
    rintro e w1 ⟨rfl, vs', n', hS1⟩
    rw [Hhcl.out] at hS1
    have hS2 := HhS.out.unpack (A := [Ent.box (w.heap.size + 1 + 1 + 1) #[vn, ve, vs, vr] 138, Ent.row 9 1 vs n (wdCells (preW d j)), Ent.row 9 1 vr m (wdCells (resW d j))]) (A' := [Ent.box (w.heap.size + 1 + 1 + 1) #[vn, ve, vs', vr] 138, Ent.row 9 1 vs' n' (wdCells (staW d j)), Ent.row 9 1 vr m (wdCells (resW d j))]) (R := [Ent.row 26 2 (.slice a j c) j (vals.flatMap valCells), X, Ent.box w.heap.size #[vn, ve] 26]) hS1
    have HhS2 := Lib.hid hS2; clear hS2
    clear hS1
    go_wp2_with fail
    have hsl : (staW d j).length ≤ 40 := by have := HhT.out.inv.le Hhd.out; have := dfaOk_len Hhd.out; omega
    refine (lguess_any d (staW d j) (resW d j) (w.heap.size + 1 + 1 + 1) vn ve vs' vr _ Hhd.out (HhT.out.st.okWs (by omega)) (by omega) HhT.out.re (by have := HhT.out.rl; omega) (HhS2.out.lmem 0 1 2 rfl rfl rfl Hhl.out)).mono ?_
    rintro e w2 ⟨a1, c1, a2, c2, us, rfl, hS'⟩
    obtain ⟨G, hGG⟩ : ∃ G, G = gueW d j := ⟨_, rfl⟩
    have hGW : guessW d (staW d j) (resW d j) = G := hGG.symm
    have hgl := guess_len d (staW d j) (resW d j)
    rw [hGW] at hS' hgl
    obtain ⟨n1, hn1⟩ : ∃ n1, n1 = (staW d j).length := ⟨_, rfl⟩
    rw [← hn1] at hgl hS'
    rw [← hn1]
    have hS4 := (HhS2.out.cat hS').alloc _ rfl #[.slice a1 n1 c1, .slice a2 n1 c2] 26
    have e0 := hS4.cell (v := .slice a1 n1 c1) 8 0 rfl rfl
    have e1 := hS4.cell (v := .slice a2 n1 c2) 8 1 rfl rfl
    have hS5 := hS4.alloc (w2.heap.size + 1) (by simp) #[.slice a1 n1 c1, .slice a2 n1 c2] 26
    have hRw := hS5.row 3 rfl
    have hbx := hS5.box 9 rfl
    have hgok' : dfaOk G.next G.ends = true := by rw [hGG]; exact Hhgok.out
    have HhS5 := Lib.hid hS5; clear hS5
    have HhRw := Lib.hid hRw; clear hRw
    have Hhbx := Lib.hid hbx; clear hbx
    have HhGG := Lib.hid hGG; clear hGG
    have HhGW := Lib.hid hGW; clear hGW
    have Hhgl := Lib.hid hgl; clear hgl
    have Hhn1 := Lib.hid hn1; clear hn1
    have Hhgok' := Lib.hid hgok'; clear hgok'
    clear hS' hS4
    go_wp2_with (at_builtin; refine wpList_append_lies _ rfl _ _ _ rfl _ 26 i0 (.agg #[.slice none 0 0, .slice none 0 0]) 2 48 Try.underlying96 Hhi.out Hhz0.out Hhz1.out Hhz2.out rfl (by omega) _ j _ rfl HhRw.out ⟨w2.heap.size + 1, 0, none⟩ 1 1 [.slice a1 n1 c1, .slice a2 n1 c2] rfl rfl (World.news_of_block Hhbx.out) (by intro u hu; simp at hu; rcases hu with rfl | rfl <;> rfl) (by omega) (by unfold maxLen; omega) (by omega) HhS5.out.size _ rfl ?_; intro g6 c6 w6 hown6 hgrow6 hat6 hlt6; have HS6 := Lib.hid (HhS5.out.app 3 rfl hown6 hgrow6 hat6); have y0 := HS6.out.cell (v := .slice a1 n1 c1) 8 0 rfl rfl; have y1 := HS6.out.cell (v := .slice a2 n1 c2) 8 1 rfl rfl; have y2 := HS6.out.cell (v := vn) 5 0 rfl rfl; have y3 := HS6.out.cell (v := ve) 5 1 rfl rfl; clear hown6 hgrow6 hat6 hlt6)
    clear e0 e1
    have hR6 := (HS6.out.has 6 _ rfl).1
    have hR7 := (HS6.out.has 7 _ rfl).1
    have hGR := rows_dfaR hR6 hR7
    refine (differ_any G d _ _ _ Hhgok'.out Hhd.out hGR (Hhl.out.below HS6.out.bel)).mono ?_
    rintro e w7 ⟨he, hb7⟩
    rw [hitP_swap] at he
    have hS7 := HS6.out.call hb7
    have HhS7 := Lib.hid hS7; clear hS7
    clear y0 y1 y2 y3 hR6 hR7 hGR hb7
    have hrng : (List.range (j + 1)).map (gueW d) = (List.range j).map (gueW d) ++ [G] := by rw [List.range_succ, List.map_append, HhGG.out]; rfl
    have Hhrng := Lib.hid hrng; clear hrng
    cases hh : hitD d G with
    | none =>
      rw [hh] at he
      have he' : e = .returned (.tuple #[.string { data := #[] }, .bool false]) := he
      clear he
      subst he'
      have hjJ : j = J := by
        rcases Nat.lt_or_ge j J with h | h
        · have := Hhyes.out j h
          rw [← HhGG.out, hh] at this
          cases this
        · omega
      subst hjJ
      have Hhh := Lib.hid hh; clear hh
      go_wp2
      go_ret
      have hq0 : St w w7 [Ent.row 26 2 (.slice (some ⟨g6, 0, none⟩) (j + 1) c6) (j + 1) (vals.flatMap valCells ++ [.slice a1 n1 c1, .slice a2 n1 c2]), X, Ent.rows 29 3 (.slice a1 n1 c1) us (G.next.map intCells), Ent.row 4 1 (.slice a2 n1 c2) n1 (boolCells G.ends)] := HhS7.out.pick [3, 4, 6, 7] (by decide)
      have hq := hq0.pack (A := [Ent.row 26 2 (.slice (some ⟨g6, 0, none⟩) (j + 1) c6) (j + 1) (vals.flatMap valCells ++ [.slice a1 n1 c1, .slice a2 n1 c2])]) (R := [X, Ent.rows 29 3 (.slice a1 n1 c1) us (G.next.map intCells), Ent.row 4 1 (.slice a2 n1 c2) n1 (boolCells G.ends)])
      have hgm := HhG.out.snoc (g := G) (a1 := a1) (a2 := a2) (c1 := c1) (c2 := c2) (vs := us)
      rw [Hhgl.out.1] at hgm
      refine ⟨some ⟨g6, 0, none⟩, c6, vals ++ [(.slice a1 n1 c1, .slice a2 n1 c2)], _, rfl, by rw [Hhrng.out]; exact hgm, ?_⟩
      rw [List.flatMap_append]
      exact hq
    | some wd =>
      rw [hh] at he
      have he' : e = .returned (.tuple #[.string (wdB wd), .bool true]) := he
      clear he
      subst he'
      have hjJ : j + 1 ≤ J := by
        rcases Nat.lt_or_ge j J with h | h
        · omega
        · obtain rfl : j = J := by omega
          have := Hhno.out
          rw [← HhGG.out, hh] at this
          cases this
      have hwd := hitD_says hh
      have hwl := hitD_len hh
      obtain ⟨hcut1, hcut2, hcut3⟩ := cut_at HhT.out.inv hwd.1 (by rw [HhGW.out]; exact hwd.2)
      rw [HhGW.out] at hcut1 hcut2 hcut3
      have hres := resW_succ d j (w := wd) (by rw [← HhGG.out]; exact hh)
      rw [← HhGG.out] at hres
      obtain rfl : n' = n1 := by have := (HhS7.out.row 1 rfl).1; simp at this; have := Hhn1.out; omega
      have Hhh := Lib.hid hh; clear hh
      have Hhwd := Lib.hid hwd; clear hwd
      have Hhcut1 := Lib.hid hcut1; clear hcut1
      have Hhcut2 := Lib.hid hcut2; clear hcut2
      have Hhcut3 := Lib.hid hcut3; clear hcut3
      have Hhres := Lib.hid hres; clear hres
      have hS8 : St w w7 [Ent.box (w.heap.size + 1 + 1 + 1) #[vn, ve, vs', vr] 138, Ent.row 9 1 vs' n' (wdCells (staW d j)), Ent.row 9 1 vr m (wdCells (resW d j)),
          Ent.row 26 2 (.slice (some ⟨g6, 0, none⟩) (j + 1) c6) (j + 1) (vals.flatMap valCells ++ [.slice a1 n' c1, .slice a2 n' c2]), Ent.box w.heap.size #[vn, ve] 26, Ent.box w2.heap.size #[.slice a1 n' c1, .slice a2 n' c2] 26, X, Ent.rows 29 3 (.slice a1 n' c1) us (G.next.map intCells), Ent.row 4 1 (.slice a2 n' c2) n' (boolCells G.ends)] := HhS7.out.pick [0, 1, 2, 3, 5, 8, 4, 6, 7] (by decide)
      have y0 := hS8.cell (v := .slice a1 n' c1) 5 0 rfl rfl
      have y1 := hS8.cell (v := .slice a2 n' c2) 5 1 rfl rfl
      have hGR := rows_dfaR (hS8.has 7 _ rfl).1 (hS8.has 8 _ rfl).1
      have hSp := hS8.pack (A := [Ent.box (w.heap.size + 1 + 1 + 1) #[vn, ve, vs', vr] 138, Ent.row 9 1 vs' n' (wdCells (staW d j)), Ent.row 9 1 vr m (wdCells (resW d j))]) (R := [Ent.row 26 2 (.slice (some ⟨g6, 0, none⟩) (j + 1) c6) (j + 1) (vals.flatMap valCells ++ [.slice a1 n' c1, .slice a2 n' c2]), Ent.box w.heap.size #[vn, ve] 26, Ent.box w2.heap.size #[.slice a1 n' c1, .slice a2 n' c2] 26, X, Ent.rows 29 3 (.slice a1 n' c1) us (G.next.map intCells), Ent.row 4 1 (.slice a2 n' c2) n' (boolCells G.ends)])
      have HSp2 := Lib.hid hSp
      have HS8 := Lib.hid hS8
      have HhGR := Lib.hid hGR; clear hGR
      clear hSp hS8
      go_wp2_with fail
      refine (lrefine_any w w7 _ d G (staW d j) (resW d j) wd (w.heap.size + 1 + 1 + 1) n' m vn ve vs' vr (.slice a1 n' c1) (.slice a2 n' c2) Hhd.out Hhgok'.out (by rw [Hhgl.out.1, Hhn1.out]) HhT.out.st HhT.out.re (by have := HhT.out.rl; omega) Hhwd.out.1 (by omega) Hhl.out HhGR.out Hhcut1.out Hhcut2.out Hhcut3.out HSp2.out).mono ?_
      rintro e w8 ⟨rfl, vr', m', hS9⟩
      rw [← Hhres.out] at hS9
      have hS10 := HS8.out.unpack (A := [Ent.box (w.heap.size + 1 + 1 + 1) #[vn, ve, vs', vr] 138, Ent.row 9 1 vs' n' (wdCells (staW d j)), Ent.row 9 1 vr m (wdCells (resW d j))]) (A' := [Ent.box (w.heap.size + 1 + 1 + 1) #[vn, ve, vs', vr'] 138, Ent.row 9 1 vs' n' (wdCells (staW d j)), Ent.row 9 1 vr' m' (wdCells (resW d (j + 1)))]) (R := [Ent.row 26 2 (.slice (some ⟨g6, 0, none⟩) (j + 1) c6) (j + 1) (vals.flatMap valCells ++ [.slice a1 n' c1, .slice a2 n' c2]), Ent.box w.heap.size #[vn, ve] 26, Ent.box w2.heap.size #[.slice a1 n' c1, .slice a2 n' c2] 26, X, Ent.rows 29 3 (.slice a1 n' c1) us (G.next.map intCells), Ent.row 4 1 (.slice a2 n' c2) n' (boolCells G.ends)]) hS9
      have hS11 : St w w8 [Ent.box (w.heap.size + 1 + 1 + 1) #[vn, ve, vs', vr'] 138, Ent.row 9 1 vs' n' (wdCells (staW d j)), Ent.row 9 1 vr' m' (wdCells (resW d (j + 1))),
          Ent.row 26 2 (.slice (some ⟨g6, 0, none⟩) (j + 1) c6) (j + 1) (vals.flatMap valCells ++ [.slice a1 n' c1, .slice a2 n' c2]), Ent.box w.heap.size #[vn, ve] 26, X, Ent.rows 29 3 (.slice a1 n' c1) us (G.next.map intCells), Ent.row 4 1 (.slice a2 n' c2) n' (boolCells G.ends)] := hS10.pick [0, 1, 2, 3, 4, 6, 7, 8] (by decide)
      have hS12 := hS11.pack (A := [Ent.box (w.heap.size + 1 + 1 + 1) #[vn, ve, vs', vr'] 138, Ent.row 9 1 vs' n' (wdCells (staW d j)), Ent.row 9 1 vr' m' (wdCells (resW d (j + 1))),
          Ent.row 26 2 (.slice (some ⟨g6, 0, none⟩) (j + 1) c6) (j + 1) (vals.flatMap valCells ++ [.slice a1 n' c1, .slice a2 n' c2]), Ent.box w.heap.size #[vn, ve] 26]) (R := [X, Ent.rows 29 3 (.slice a1 n' c1) us (G.next.map intCells), Ent.row 4 1 (.slice a2 n' c2) n' (boolCells G.ends)])
      have HS12 := Lib.hid hS12
      clear hS9 hS10 hS11 hS12 y0 y1
      go_wp2
      go_roundg (J + 1 - (j + 1))
      case measure => omega
      case rel =>
        have hgm := HhG.out.snoc (g := G) (a1 := a1) (a2 := a2) (c1 := c1) (c2 := c2) (vs := us)
        rw [Hhgl.out.1] at hgm
        refine ⟨j + 1, n', m', vs', vr', some ⟨g6, 0, none⟩, c6, vals ++ [(.slice a1 n' c1, .slice a2 n' c2)], _, rfl, rfl, hjJ, by rw [Hhrng.out]; exact hgm, ?_⟩
        rw [List.flatMap_append]
        exact HS12.out.pick [0, 1, 2, 3, 5, 4] (by decide)
def lastG (d : DfaD) (J : Nat) : Prop := dfaOk d.next d.ends = true → (hitD d (gueW d J)).isSome = false ∧ ∀ i, i < J → (hitD d (gueW d i)).isSome = true
theorem lastG_ex (d : DfaD) : ∃ J, lastG d J := by
  by_cases h : dfaOk d.next d.ends = true
  · obtain ⟨J, h1, h2⟩ := learn_stops h (hitD_ok d)
    exact ⟨J, fun _ => ⟨h1, h2⟩⟩
  · exact ⟨0, fun h2 => absurd h2 h⟩
theorem GMem.own {w0 w : World} {L : List Ent} (h : St w0 w L) (i : Nat) {X : Ent} (hx : L[i]? = some X) {vals : List (Value × Value)} {gs : List DfaD} (hG : GMem X vals gs) {k : Nat} (hk : k < gs.length) :
    ∃ a1 c1 a2 c2, vals.getD k (undef, undef) = (.slice a1 (gs.getD k ⟨[], []⟩).next.length c1, .slice a2 (gs.getD k ⟨[], []⟩).next.length c2) ∧ (gs.getD k ⟨[], []⟩).ends.length = (gs.getD k ⟨[], []⟩).next.length ∧
      DfaO 29 3 4 w0.heap.size w.heap.size w (.agg #[.slice a1 (gs.getD k ⟨[], []⟩).next.length c1, .slice a2 (gs.getD k ⟨[], []⟩).next.length c2]) (gs.getD k ⟨[], []⟩) := by
  obtain ⟨a1, c1, a2, c2, vs, e, s1, s2⟩ := hG.2 k hk
  have hil : i < L.length := (List.getElem?_eq_some_iff.1 hx).1
  have h1 := h.same i hx _ (s1.1 w) s1.2
  have h2 := h.same i hx _ (s2.1 w) s2.2
  have g1 := h1.intSS i (by rw [List.getElem?_set, if_pos rfl, if_pos hil])
  have g2 := h2.row i (by rw [List.getElem?_set, if_pos rfl, if_pos hil])
  have hl : (gs.getD k ⟨[], []⟩).ends.length = (gs.getD k ⟨[], []⟩).next.length := by have := g2.1; simp at this; simpa using this
  refine ⟨a1, c1, a2, c2, e, hl, _, _, rfl, g1, ?_⟩
  unfold OBools
  rw [hl]
  exact own_of_row g2
end Go.Proofs.Ythhbjkgchabfmaa
