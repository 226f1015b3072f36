/-
  Texts of bytes cut in two, plain and as the program cuts them; what the law over NfaRun says, plain.
  Conditions: none beyond the bounds.
-/
import Derived.Test.YthigcohfjoodlaaNw
import Derived.Laws.Strings
namespace Go.Proofs.Ythigcohfjoodlaa
open Go.RowKit

theorem txB_take (l : List Nat) (k : Nat) : (txB l).extract 0 k = txB (l.take k) := by
  apply ByteArray.ext
  simp [txB, ByteArray.data_extract, List.map_take]
theorem txB_drop (l : List Nat) (k : Nat) : (txB l).extract k (txB l).size = txB (l.drop k) := by
  apply ByteArray.ext
  rw [txB_size]
  simp only [txB, ByteArray.data_extract, List.map_drop, List.extract_toArray, List.extract_eq_take_drop]
  rw [List.take_of_length_le (by simp)]
theorem cut_to (s : List Nat) (k : Nat) (j : Int) (hj : j = (k : Int)) (hk : k ≤ s.length) : ∀ w' : World, (Instr.slice 9 (.string (txB s)) none (some (.int .i64 j)) none).run Try.prog w' = .ok (.string (txB (s.take k))) w' := fun w' => by
  subst hj
  rw [run_slice_string_h w' 9 (txB s) Try.underlying9 .i64 k (by omega) (by rw [txB_size]; omega), Int.toNat_natCast, txB_take]
theorem cut_from (s : List Nat) (k : Nat) (j : Int) (hj : j = (k : Int)) (hk : k ≤ s.length) : ∀ w' : World, (Instr.slice 9 (.string (txB s)) (some (.int .i64 j)) none none).run Try.prog w' = .ok (.string (txB (s.drop k))) w' := fun w' => by
  subst hj
  rw [run_slice_string_l w' 9 (txB s) Try.underlying9 .i64 k (by omega) (by rw [txB_size]; omega), Int.toNat_natCast, txB_drop]
theorem isT_take {l : List Nat} (h : isT l) (k : Nat) : isT (l.take k) := fun b hb => h b (List.mem_of_mem_take hb)
theorem isT_drop {l : List Nat} (h : isT l) (k : Nat) : isT (l.drop k) := fun b hb => h b (List.mem_of_mem_drop hb)
theorem wdOk_iff {l : List Nat} : wdOk l = true ↔ (∀ b ∈ l, 97 ≤ b ∧ b ≤ 99) ∧ l.length ≤ 8 := by
  constructor
  · intro h
    obtain ⟨h1, h2⟩ := wdOk_parts h
    refine ⟨fun b hb => ?_, h2⟩
    obtain ⟨k, hk, e⟩ := List.getElem_of_mem hb
    have := okT_at h1 hk
    rw [getD_at hk, e] at this
    exact this
  · rintro ⟨h1, h2⟩
    unfold wdOk okT
    rw [Bool.and_eq_true, List.all_eq_true, decide_eq_true_eq]
    refine ⟨fun k hk => ?_, h2⟩
    have hk := List.mem_range.1 hk
    have := h1 _ (getD_memT hk)
    simp only [inB, Bool.and_eq_true, decide_eq_true_eq]
    omega
theorem wdOk_take {l : List Nat} (h : wdOk l = true) (k : Nat) : wdOk (l.take k) = true := by
  rw [wdOk_iff] at *
  exact ⟨fun b hb => h.1 b (List.mem_of_mem_take hb), by rw [List.length_take]; omega⟩
theorem wdOk_drop {l : List Nat} (h : wdOk l = true) (k : Nat) : wdOk (l.drop k) = true := by
  rw [wdOk_iff] at *
  exact ⟨fun b hb => h.1 b (List.mem_of_mem_drop hb), by rw [List.length_drop]; omega⟩

theorem txB_empty (l : List Nat) : (txB l).toList.isEmpty = l.isEmpty := by
  rw [ByteArray.toList_eq]
  cases l <;> rfl
theorem nfaOk_firsts {n : NfaD} (h : nfaOk n = true) : stOk n.firsts n.states = true := by
  unfold nfaOk at h
  simp only [Bool.and_eq_true] at h
  exact h.1.1.2
theorem runL_nil {n : NfaD} (h : nfaOk n = true) : closeL n n.firsts = runL n [] := by
  rw [closeL_ok h (nfaOk_firsts h), runL_ok h rfl]
  rfl
theorem runL_step {n : NfaD} {l : List Nat} {k : Nat} (hn : nfaOk n = true) (hw : wdOk l = true) (hk : l.length = k + 1) : stepL n (runL n (l.take k)) ((l.getD k 0 - 97 : Nat) : Int) = runL n l := by
  obtain ⟨m, hm, hm40, hmv, -, hf, -⟩ := nfaOk_facts hn
  have hb := (wdOk_iff.1 hw).1 _ (getD_memT (show k < l.length by omega))
  have hlt : runS n (lets (l.take k)) < 2 ^ m := foldl_inv _ (fun v => v < 2 ^ m) (fun _ _ _ _ => stV_lt2 hmv _ _) (clIt_lt hmv (setV_lt hf) 40)
  have hlt4 : runS n (lets (l.take k)) < 2 ^ 40 := runS_lt hn _
  rw [runL_ok hn hw, runL_ok hn (wdOk_take hw k), stepL_ok hn (by rw [hm]; exact stOk_members hlt hm40) (by simp only [inB, Bool.and_eq_true, decide_eq_true_eq]; omega), setV_members hlt4, ← runS_take (show k < l.length by omega), ← hk, List.take_length]
end Go.Proofs.Ythigcohfjoodlaa
