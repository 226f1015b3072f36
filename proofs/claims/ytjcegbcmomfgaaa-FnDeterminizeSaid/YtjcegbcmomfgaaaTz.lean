/-
  The states after a word, as lists: impl.NfaRun, spec.NfaRun.
  Condition: the automaton is readable, the word is a text of bytes.
  Texts of bytes cut in two, plain and as the program cuts them; what the law over NfaRun says, plain.
  Conditions: none beyond the bounds.
-/
import Derived.Test.YtjcegbcmomfgaaaNr
import Derived.Laws.Strings
namespace Go.Proofs.Ytjcegbcmomfgaaa
open Go.RowKit

/-- The states after a word, as a list. -/
def runL (n : NfaD) (l : List Nat) : List Int := if nfaOk n = true ∧ wdOk l = true then members 40 (runS n (lets l)) else []
theorem runL_bad {n : NfaD} {l : List Nat} (h : nfaOk n = false ∨ wdOk l = false) : runL n l = [] := by
  unfold runL
  rw [if_neg]
  rintro ⟨h1, h2⟩
  rcases h with h | h
  · rw [h] at h1; cases h1
  · rw [h] at h2; cases h2
theorem runL_ok {n : NfaD} {l : List Nat} (h1 : nfaOk n = true) (h2 : wdOk l = true) : runL n l = members 40 (runS n (lets l)) := if_pos ⟨h1, h2⟩

set_option maxRecDepth 100000 in
set_option maxHeartbeats 4000000 in
theorem specRun_any (n : NfaD) (l : List Nat) (v : Value) (w : World) (h : NfaR 0 w v n) (ht : isT l) (hll : l.length ≤ 1000) (F : List Int) (hF : runL n l = F) :
    Calls Try.prog 28 #[v, .string (txB l)] w fun e w' => RL F w e w' := by
  have H := Lib.hid h
  obtain ⟨v1, v2, v3, rfl, g1, g2, g3, -, -⟩ := h
  have G1 := Lib.hid g1
  have G2 := Lib.hid g2
  have hS0 := (St.start w).alloc _ rfl #[.int .i64 n.states, v1, v2, v3] 26
  have Hht := Lib.hid ht; clear ht
  have HhS0 := Lib.hid hS0; clear hS0
  clear g1 g2 g3
  cases hok : nfaOk n
  · rw [runL_bad (.inl hok)] at hF
    subst hF
    have Hhok := Lib.hid hok; clear hok
    go_enter Try.func28, Try.ntmps28
    go_wp2_with fail
    refine (specNfaValid_any n _ _ (H.out.below HhS0.out.bel) _ Hhok.out).mono ?_
    rintro e w1 ⟨rfl, hb1⟩
    have HS1 := Lib.hid (HhS0.out.call hb1)
    clear hb1
    go_wp2
    go_ret
    exact RL_new HS1.out
  · cases hwd : wdOk l
    · rw [runL_bad (.inr hwd)] at hF
      subst hF
      have Hhok := Lib.hid hok; clear hok
      have Hhwd := Lib.hid hwd; clear hwd
      go_enter Try.func28, Try.ntmps28
      go_wp2_with fail
      refine (specNfaValid_any n _ _ (H.out.below HhS0.out.bel) _ Hhok.out).mono ?_
      rintro e w1 ⟨rfl, hb1⟩
      have HS1 := Lib.hid (HhS0.out.call hb1)
      clear hb1
      go_wp2_with (go_at_call 10; refine (specWordValid_any l _ Hht.out (by omega) _ Hhwd.out).mono ?_; rintro e w' ⟨rfl, rfl⟩)
      go_ret
      exact RL_new HS1.out
    · rw [runL_ok hok hwd] at hF
      obtain ⟨m, hm, hm40, hmv, hml, hfi, hfl, -⟩ := nfaOk_facts hok
      obtain ⟨hlo, hl8⟩ := wdOk_parts hwd
      have hcl : ∀ cs, runS n cs < 2 ^ m := fun cs => foldl_inv _ (fun v => v < 2 ^ m) (fun _ _ _ _ => stV_lt2 hmv _ _) (clIt_lt hmv (setV_lt hfi) 40)
      rw [members_more (hcl _) hm40] at hF
      have hrun0 : runS n (lets (l.take 0)) = clV 40 n.moves (setV n.firsts) := rfl
      obtain ⟨st, ms, fs, es⟩ := n
      simp only at hm hml hfi hfl hmv
      subst hm
      have hml2 : ms.length ≤ 1000000 := by omega
      have hfl2 : fs.length ≤ 1000000 := by omega
      have hsz := txB_size l
      have Hhok := Lib.hid hok; clear hok
      have Hhwd := Lib.hid hwd; clear hwd
      have HhF := Lib.hid hF; clear hF
      have Hhlo := Lib.hid hlo; clear hlo
      have Hhcl := Lib.hid hcl; clear hcl
      have Hhmv := Lib.hid hmv; clear hmv
      have Hhfi := Lib.hid hfi; clear hfi
      have Hhrun0 := Lib.hid hrun0; clear hrun0
      have G1' : Hid (Moves 0 w v1 ms) := Lib.hid G1.out
      have G2' : Hid (Ints 0 w v2 fs) := Lib.hid G2.out
      have hS0' : St w (w.alloc (.cells #[.int .i64 (m : Int), v1, v2, v3] 26)) [Ent.box w.heap.size #[.int .i64 (m : Int), v1, v2, v3] 26] := HhS0.out
      have HhS0' := Lib.hid hS0'; clear hS0'
      clear HhS0 G1 G2
      go_enter Try.func28, Try.ntmps28
      go_wp2_with fail
      refine (specNfaValid_any ⟨(m : Int), ms, fs, es⟩ _ _ (H.out.below HhS0'.out.bel) _ Hhok.out).mono ?_
      rintro e w1 ⟨rfl, hb1⟩
      have HS1 := Lib.hid (HhS0'.out.call hb1)
      clear hb1
      have e0 := HS1.out.cell (v := .int .i64 (m : Int)) 0 0 rfl rfl
      have e1 := HS1.out.cell (v := v1) 0 1 rfl rfl
      have e2 := HS1.out.cell (v := v2) 0 2 rfl rfl
      have e3 := HS1.out.cell (v := v3) 0 3 rfl rfl
      have HL1 := Lib.hid (G2'.out.below HS1.out.bel)
      have HM1 := Lib.hid (G1'.out.below HS1.out.bel)
      have Hk : Hid (∀ w' : World, Below w1.drew.heap.size w1.drew w' → w'.cell? ⟨w.heap.size, 0, none⟩ = some (.int .i64 (m : Int)) ∧ w'.cell? ⟨w.heap.size, 1, none⟩ = some v1 ∧ w'.cell? ⟨w.heap.size, 2, none⟩ = some v2 ∧ w'.cell? ⟨w.heap.size, 3, none⟩ = some v3) := Lib.hid fun w' hb => ⟨(HS1.out.drew.call hb).cell 0 0 rfl rfl, (HS1.out.drew.call hb).cell 0 1 rfl rfl, (HS1.out.drew.call hb).cell 0 2 rfl rfl, (HS1.out.drew.call hb).cell 0 3 rfl rfl⟩
      go_wp2_with (go_at_call 10; refine (specWordValid_any l _ Hht.out (by omega) _ Hhwd.out).mono ?_; rintro e w' ⟨rfl, rfl⟩)
      go_region_held3 (fun w' => w'.cell? ⟨w.heap.size, 0, none⟩ = some (.int .i64 (m : Int)) ∧ w'.cell? ⟨w.heap.size, 1, none⟩ = some v1 ∧ w'.cell? ⟨w.heap.size, 2, none⟩ = some v2 ∧ w'.cell? ⟨w.heap.size, 3, none⟩ = some v3)
        (first | go_keep | exact Hk.out _ hq0 | exact Hk.out _ hq1)
        (first
          | (go_at_call 56; (with_reducible refine (l8Flags_any fs m _ _ hm40 Hhfi.out hfl2 (HL1.out.below (Below.refl _ _).drew)).mono ?_); rintro e u0 ⟨⟨g0, d0, rfl, hr0⟩, hq0⟩)
          | (go_at_call 55; (with_reducible refine (l8Close_any ⟨(m : Int), ms, fs, es⟩ m (setV fs) v1 v2 v3 _ _ hm40 Hhmv.out hml2 (setV_lt Hhfi.out) ((HM1.out.below (Below.refl _ _).drew).below hq0) (FlagsAt.of hr0)).mono ?_); rintro e u1 ⟨⟨g1, d1, rfl, hr1⟩, hb1⟩; have hq1 := hq0.trans (hb1.mono hq0.size)))
      have HS2 := Lib.hid ((HS1.out.drew.call hq0).made hb1 hr1)
      clear hq0 hq1 hb1 hr0 hr1 e0 e1 e2 e3
      go_wp2
      go_loopw [5, 6] (fun at_ i wr => ∃ (k g d : Nat), at_ = .slice (some ⟨g, 0, none⟩) m d ∧ i = .int .i64 k ∧ k ≤ l.length ∧ St w wr [Ent.box w.heap.size #[.int .i64 (m : Int), v1, v2, v3] 26, Ent.row 4 1 (.slice (some ⟨g, 0, none⟩) m d) m (boolCells (flags m (runS ⟨(m : Int), ms, fs, es⟩ (lets (l.take k)))))])
        (fun _ i _ => l.length - (intOf i).toNat)
      case atStart => exact ⟨0, g1, d1, rfl, rfl, Nat.zero_le _, by rw [Hhrun0.out]; exact HS2.out⟩
      case round =>
        obtain ⟨k, g, d, rfl, rfl, hk, hS⟩ := hrel
        obtain ⟨C, hC⟩ : ∃ C, C = runS ⟨(m : Int), ms, fs, es⟩ (lets (l.take k)) := ⟨_, rfl⟩
        rw [← hC] at hS
        by_cases hlt : k < l.length
        · have hkI : (k : Int) < l.length := by omega
          have hb2 := okT_at Hhlo.out hlt
          have hsc := runS_take (n := ⟨(m : Int), ms, fs, es⟩) hlt
          rw [← hC] at hsc
          have hrun := fun w => txB_index hlt Hht.out w
          obtain ⟨c, hc⟩ : ∃ c, c = l.getD k 0 - 97 := ⟨_, rfl⟩
          have hc2 : ((l.getD k 0 : Nat) : Int) = 97 + (c : Int) := by omega
          rw [hc2] at hrun
          rw [← hc] at hsc
          have hw8 : IntKind.u8.wrap (97 + (c : Int) - 97) = (c : Int) := by
            have : 97 + (c : Int) - 97 = (c : Int) := by omega
            rw [this]
            exact IntWalk.u8_in _ (by omega)
          have hw9 : IntKind.i64.wrap (c : Int) = (c : Int) := IntWalk.i64_in _ (by omega)
          have e0 := hS.cell (v := .int .i64 (m : Int)) 0 0 rfl rfl
          have e1 := hS.cell (v := v1) 0 1 rfl rfl
          have e2 := hS.cell (v := v2) 0 2 rfl rfl
          have e3 := hS.cell (v := v3) 0 3 rfl rfl
          have Hk : Hid (∀ w' : World, Below wr.drew.heap.size wr.drew w' → w'.cell? ⟨w.heap.size, 0, none⟩ = some (.int .i64 (m : Int)) ∧ w'.cell? ⟨w.heap.size, 1, none⟩ = some v1 ∧ w'.cell? ⟨w.heap.size, 2, none⟩ = some v2 ∧ w'.cell? ⟨w.heap.size, 3, none⟩ = some v3) := Lib.hid fun w' hb => ⟨(hS.drew.call hb).cell 0 0 rfl rfl, (hS.drew.call hb).cell 0 1 rfl rfl, (hS.drew.call hb).cell 0 2 rfl rfl, (hS.drew.call hb).cell 0 3 rfl rfl⟩
          have HB := Lib.hid (bools_of_row (hS.drew.row 1 rfl))
          have HM := Lib.hid (G1'.out.below hS.drew.bel)
          have hS' := hS.drew
          have HhC := Lib.hid hC; clear hC
          have Hhc := Lib.hid hc; clear hc
          have Hhsc := Lib.hid hsc; clear hsc
          have HhS' := Lib.hid hS'; clear hS'
          clear hS hb2 hc2
          go_wp2_with fail
          go_region_held3 (fun w' => w'.cell? ⟨w.heap.size, 0, none⟩ = some (.int .i64 (m : Int)) ∧ w'.cell? ⟨w.heap.size, 1, none⟩ = some v1 ∧ w'.cell? ⟨w.heap.size, 2, none⟩ = some v2 ∧ w'.cell? ⟨w.heap.size, 3, none⟩ = some v3)
            (first | go_keep | exact Hk.out _ hq1)
            ((go_at_call 57; (with_reducible refine (l8Step_any ⟨(m : Int), ms, fs, es⟩ m C (c : Int) v1 v2 v3 _ _ rfl hm40 Hhmv.out hml2 HM.out HB.out).mono ?_); rintro e u1 ⟨⟨g1, d1, rfl, hr1⟩, hq1⟩))
          have HS3 := Lib.hid ((HhS'.out.made hq1 hr1).pick [0, 2] (by decide))
          clear hq1 hr1
          go_wp2
          go_roundw
          case rel =>
            refine ⟨k + 1, g1, d1, rfl, by go_num, by omega, ?_⟩
            rw [Hhsc.out]
            exact HS3.out
          case measure => simp [intOf]; omega
        · obtain rfl : k = l.length := by omega
          rw [List.take_length] at hC
          have HB := Lib.hid (bools_of_row (hS.row 1 rfl))
          have HhC := Lib.hid hC; clear hC
          have HhS := Lib.hid hS; clear hS
          go_wp2_with fail
          refine (l8Members_any m C _ _ hm40 HB.out).mono ?_
          rintro e u2 ⟨a9, c9, rfl, hr2⟩
          have HSf := Lib.hid ((HhS.out.cat hr2).pick [2] (by decide))
          clear hr2
          go_wp2
          go_ret
          rw [← HhF.out, ← HhC.out]
          exact ⟨a9, c9, rfl, HSf.out⟩
end Go.Proofs.Ytjcegbcmomfgaaa
namespace Go.Proofs.Ytjcegbcmomfgaaa
open Go.RowKit

theorem txB_take (l : List Nat) (k : Nat) : (txB l).extract 0 k = txB (l.take k) := by
  apply ByteArray.ext
  simp [txB, ByteArray.data_extract, List.map_take]
theorem txB_drop (l : List Nat) (k : Nat) : (txB l).extract k (txB l).size = txB (l.drop k) := by
  apply ByteArray.ext
  rw [txB_size]
  simp only [txB, ByteArray.data_extract, List.map_drop, List.extract_toArray, List.extract_eq_take_drop]
  rw [List.take_of_length_le (by simp)]
theorem cut_to (s : List Nat) (k : Nat) (j : Int) (hj : j = (k : Int)) (hk : k ≤ s.length) : ∀ w' : World, (Instr.slice 9 (.string (txB s)) none (some (.int .i64 j)) none).run Try.prog w' = .ok (.string (txB (s.take k))) w' := fun w' => by
  subst hj
  rw [run_slice_string_h w' 9 (txB s) Try.underlying9 .i64 k (by omega) (by rw [txB_size]; omega), Int.toNat_natCast, txB_take]
theorem cut_from (s : List Nat) (k : Nat) (j : Int) (hj : j = (k : Int)) (hk : k ≤ s.length) : ∀ w' : World, (Instr.slice 9 (.string (txB s)) (some (.int .i64 j)) none none).run Try.prog w' = .ok (.string (txB (s.drop k))) w' := fun w' => by
  subst hj
  rw [run_slice_string_l w' 9 (txB s) Try.underlying9 .i64 k (by omega) (by rw [txB_size]; omega), Int.toNat_natCast, txB_drop]
theorem isT_take {l : List Nat} (h : isT l) (k : Nat) : isT (l.take k) := fun b hb => h b (List.mem_of_mem_take hb)
theorem isT_drop {l : List Nat} (h : isT l) (k : Nat) : isT (l.drop k) := fun b hb => h b (List.mem_of_mem_drop hb)
theorem wdOk_iff {l : List Nat} : wdOk l = true ↔ (∀ b ∈ l, 97 ≤ b ∧ b ≤ 99) ∧ l.length ≤ 8 := by
  constructor
  · intro h
    obtain ⟨h1, h2⟩ := wdOk_parts h
    refine ⟨fun b hb => ?_, h2⟩
    obtain ⟨k, hk, e⟩ := List.getElem_of_mem hb
    have := okT_at h1 hk
    rw [getD_at hk, e] at this
    exact this
  · rintro ⟨h1, h2⟩
    unfold wdOk okT
    rw [Bool.and_eq_true, List.all_eq_true, decide_eq_true_eq]
    refine ⟨fun k hk => ?_, h2⟩
    have hk := List.mem_range.1 hk
    have := h1 _ (getD_memT hk)
    simp only [inB, Bool.and_eq_true, decide_eq_true_eq]
    omega
theorem wdOk_take {l : List Nat} (h : wdOk l = true) (k : Nat) : wdOk (l.take k) = true := by
  rw [wdOk_iff] at *
  exact ⟨fun b hb => h.1 b (List.mem_of_mem_take hb), by rw [List.length_take]; omega⟩
theorem wdOk_drop {l : List Nat} (h : wdOk l = true) (k : Nat) : wdOk (l.drop k) = true := by
  rw [wdOk_iff] at *
  exact ⟨fun b hb => h.1 b (List.mem_of_mem_drop hb), by rw [List.length_drop]; omega⟩

theorem txB_empty (l : List Nat) : (txB l).toList.isEmpty = l.isEmpty := by
  rw [ByteArray.toList_eq]
  cases l <;> rfl
theorem nfaOk_firsts {n : NfaD} (h : nfaOk n = true) : stOk n.firsts n.states = true := by
  unfold nfaOk at h
  simp only [Bool.and_eq_true] at h
  exact h.1.1.2
theorem runL_nil {n : NfaD} (h : nfaOk n = true) : closeL n n.firsts = runL n [] := by
  rw [closeL_ok h (nfaOk_firsts h), runL_ok h rfl]
  rfl
theorem runL_step {n : NfaD} {l : List Nat} {k : Nat} (hn : nfaOk n = true) (hw : wdOk l = true) (hk : l.length = k + 1) : stepL n (runL n (l.take k)) ((l.getD k 0 - 97 : Nat) : Int) = runL n l := by
  obtain ⟨m, hm, hm40, hmv, -, hf, -⟩ := nfaOk_facts hn
  have hb := (wdOk_iff.1 hw).1 _ (getD_memT (show k < l.length by omega))
  have hlt : runS n (lets (l.take k)) < 2 ^ m := foldl_inv _ (fun v => v < 2 ^ m) (fun _ _ _ _ => stV_lt2 hmv _ _) (clIt_lt hmv (setV_lt hf) 40)
  have hlt4 : runS n (lets (l.take k)) < 2 ^ 40 := runS_lt hn _
  rw [runL_ok hn hw, runL_ok hn (wdOk_take hw k), stepL_ok hn (by rw [hm]; exact stOk_members hlt hm40) (by simp only [inB, Bool.and_eq_true, decide_eq_true_eq]; omega), setV_members hlt4, ← runS_take (show k < l.length by omega), ← hk, List.take_length]
end Go.Proofs.Ytjcegbcmomfgaaa
