/-
  The walk over the law FnNfaAccepts.
  Condition: the argument reads as bytes.
-/
import Derived.Test.YtjcegbcmomfgaaaLa
import Derived.Test.YtjcegbcmomfgaaaDz
import Derived.Test.YtjcegbcmomfgaaaSi
namespace Go.Proofs.Ytjcegbcmomfgaaa
open Go.RowKit

theorem det_some {n : NfaD} {D : DfaD} (hD : (det n).getD zeroD = D) (hf : (det n).isSome = true) : det n = some D := by
  obtain ⟨x, hx⟩ := Option.isSome_iff_exists.1 hf
  rw [hx] at hD ⊢
  exact congrArg some hD
theorem det_accT {n : NfaD} {D : DfaD} {l : List Nat} (h : det n = some D) (hw : wdOk l = true) : accD D (lets l) = accT n l := by
  unfold accT
  rw [det_accK h (lets_isW hw), (det_okK h).1, hw]
  simp
theorem okA_of_fine {d : DfaD} (h : fine d) (h40 : d.next.length ≤ 40) : dfaOk d.next d.ends = true := by
  obtain ⟨h1, -, h3, hr⟩ := h
  simp only [dfaOk, Bool.and_eq_true, List.all_eq_true, decide_eq_true_eq]
  refine ⟨⟨fun x hx => ?_, ?_⟩, h3⟩
  · obtain ⟨i, hi, e⟩ := List.getElem_of_mem hx
    obtain ⟨a, b⟩ := hr i hi
    rw [getD_at hi, e] at a b
    simp only [rowOk, Bool.and_eq_true, decide_eq_true_eq, List.all_eq_true]
    refine ⟨a, fun y hy => ?_⟩
    obtain ⟨c, hc, e2⟩ := List.getElem_of_mem hy
    have := b c (by omega)
    rw [getD_at hc, e2] at this
    unfold inB
    simp
    omega
  · unfold inB
    simp
    omega
theorem det_dfaOk {n : NfaD} {D : DfaD} (h : det n = some D) : dfaOk D.next D.ends = true := by
  obtain ⟨-, h2, rfl⟩ := det_okK h
  exact okA_of_fine (fine_num h2 (by decide)) (by rw [numDfa_len]; exact h2)
set_option maxRecDepth 100000 in
set_option maxHeartbeats 8000000 in
theorem drawAccepts_any (bs : List Nat) (v : Value) (w : World) (hb : Bytes 0 w v bs) (hlen : bs.length ≤ 100000000) :
    Calls Try.prog 6 #[v] w fun e w' => ∃ (n : NfaD) (l : List Nat) (a1 a2 a3 : Option Addr) (c1 c2 c3 : Nat), -1 ≤ n.states ∧ n.states ≤ 41 ∧ n.moves.length ≤ 401 ∧ n.firsts.length ≤ 41 ∧ n.ends.length ≤ 41 ∧ isT l ∧ l.length ≤ 10 ∧
      e = .returned (.tuple #[.agg #[.int .i64 n.states, .slice a1 n.moves.length c1, .slice a2 n.firsts.length c2, .slice a3 n.ends.length c3], .string (txB l)]) ∧ St w w' [Ent.row 76 3 (.slice a1 n.moves.length c1) n.moves.length (n.moves.flatMap moveCells), Ent.row 3 1 (.slice a2 n.firsts.length c2) n.firsts.length (intCells n.firsts), Ent.row 3 1 (.slice a3 n.ends.length c3) n.ends.length (intCells n.ends)] := by
  have hS0 := (St.start w).alloc _ rfl #[.int .i64 0, .slice none 0 0, .slice none 0 0, .slice none 0 0] 26
  have Hb := Lib.hid hb
  have HhS0 := Lib.hid hS0; clear hS0
  clear hb
  go_enter Try.func6, Try.ntmps6
  go_wp2_with fail
  refine (drawRun_any bs v _ (Hb.out.below HhS0.out.bel) hlen).mono ?_
  rintro e w1 ⟨n, l, a1, a2, a3, c1, c2, c3, h0, h1, h2, h3, h4, ht, hl, rfl, hS'⟩
  have HS1 := Lib.hid (HhS0.out.cat hS')
  clear hS'
  have f0 := HS1.out.fr 0 0 rfl
  have k0 := HS1.out.cell (v := .int .i64 0) 0 0 rfl rfl
  have f1 := HS1.out.fr 0 1 rfl
  have k1 := HS1.out.cell (v := .slice none 0 0) 0 1 rfl rfl
  have f2 := HS1.out.fr 0 2 rfl
  have k2 := HS1.out.cell (v := .slice none 0 0) 0 2 rfl rfl
  have f3 := HS1.out.fr 0 3 rfl
  have k3 := HS1.out.cell (v := .slice none 0 0) 0 3 rfl rfl
  have HS2 := Lib.hid ((((HS1.out.set 0 rfl 0 (.int .i64 n.states)).set 0 rfl 1 (.slice a1 n.moves.length c1)).set 0 rfl 2 (.slice a2 n.firsts.length c2)).set 0 rfl 3 (.slice a3 n.ends.length c3))
  have q0 := HS2.out.cell (v := .int .i64 n.states) 0 0 rfl rfl
  have q1 := HS2.out.cell (v := .slice a1 n.moves.length c1) 0 1 rfl rfl
  have q2 := HS2.out.cell (v := .slice a2 n.firsts.length c2) 0 2 rfl rfl
  have q3 := HS2.out.cell (v := .slice a3 n.ends.length c3) 0 3 rfl rfl
  have Ht := Lib.hid ht
  clear ht
  go_wp2
  refine bodyPost_ret (v := .tuple #[.agg #[.int .i64 n.states, .slice a1 n.moves.length c1, .slice a2 n.firsts.length c2, .slice a3 n.ends.length c3], .string (txB l)]) (by simp [results, Try.results6, go_sem, q0, q1, q2, q3]) rfl ?_
  exact ⟨n, l, a1, a2, a3, c1, c2, c3, h0, h1, h2, h3, h4, Ht.out, hl, rfl, HS2.out.pick [1, 2, 3] (by decide)⟩
set_option maxRecDepth 100000 in
set_option maxHeartbeats 16000000 in
theorem nfaAccepts_walk (bs : List Nat) (v : Value) (w : World) (hb : Bytes 0 w v bs) :
    Calls Try.prog 3 #[v] w fun e w' => e = .returned (.bool true) ∧ Below w.heap.size w w' := by
  have HB := Lib.hid hb
  obtain ⟨av, cv, rfl, hcv1, hcv2, -⟩ := hb.form
  clear hb
  by_cases hlen : 1048576 < bs.length
  · have hl2 : (1048576 : Int) < bs.length := by omega
    go_enter Try.func3, Try.ntmps3
    go_wp2
    go_ret
    exact ⟨rfl, Below.refl _ _⟩
  have hl2 : ¬ (1048576 : Int) < bs.length := by omega
  go_enter Try.func3, Try.ntmps3
  go_wp2_with fail
  refine (drawAccepts_any bs _ _ HB.out (by omega)).mono ?_
  rintro e w1 ⟨n, l, a1, a2, a3, c1, c2, c3, hs0, hs1, hm, hf, he, ht, hl10, rfl, hS⟩
  have HS := Lib.hid (hS.alloc _ rfl #[.int .i64 n.states, .slice a1 n.moves.length c1, .slice a2 n.firsts.length c2, .slice a3 n.ends.length c3] 26)
  have e0 := HS.out.cell (v := .int .i64 n.states) 3 0 rfl rfl
  have e1 := HS.out.cell (v := .slice a1 n.moves.length c1) 3 1 rfl rfl
  have e2 := HS.out.cell (v := .slice a2 n.firsts.length c2) 3 2 rfl rfl
  have e3 := HS.out.cell (v := .slice a3 n.ends.length c3) 3 3 rfl rfl
  obtain ⟨q, hq⟩ : ∃ q, accT n l = q := ⟨_, rfl⟩
  have hqq : (q != q) = false := by cases q <;> rfl
  have hqq2 : (q == q) = true := beq_self_eq_true q
  have Hhq := Lib.hid hq; clear hq
  have Hht := Lib.hid ht; clear ht
  clear hS
  go_wp2_with fail
  refine (nfaAccepts_any n l _ _ Hht.out (by omega) (nfaR_rows HS.out 0 1 2 rfl rfl rfl (by omega) (by omega)) _ Hhq.out).mono ?_
  rintro e w2 ⟨rfl, hb2⟩
  have HS2 := Lib.hid (HS.out.call hb2)
  clear hb2 e0 e1 e2 e3
  have e0 := HS2.out.cell (v := .int .i64 n.states) 3 0 rfl rfl
  have e1 := HS2.out.cell (v := .slice a1 n.moves.length c1) 3 1 rfl rfl
  have e2 := HS2.out.cell (v := .slice a2 n.firsts.length c2) 3 2 rfl rfl
  have e3 := HS2.out.cell (v := .slice a3 n.ends.length c3) 3 3 rfl rfl
  go_wp2_with fail
  refine (specAccepts_any n l _ _ Hht.out (by omega) (by omega) (nfaR_rows HS2.out 0 1 2 rfl rfl rfl (by omega) (by omega)) _ Hhq.out).mono ?_
  rintro e w3 ⟨rfl, hb3⟩
  have HS3 := Lib.hid (HS2.out.call hb3)
  clear hb3 e0 e1 e2 e3
  have e0 := HS3.out.cell (v := .int .i64 n.states) 3 0 rfl rfl
  have e1 := HS3.out.cell (v := .slice a1 n.moves.length c1) 3 1 rfl rfl
  have e2 := HS3.out.cell (v := .slice a2 n.firsts.length c2) 3 2 rfl rfl
  have e3 := HS3.out.cell (v := .slice a3 n.ends.length c3) 3 3 rfl rfl
  obtain ⟨D, hD⟩ : ∃ D, (det n).getD zeroD = D := ⟨_, rfl⟩
  cases hfb : (det n).isSome
  · have HhD := Lib.hid hD; clear hD
    have Hhfb := Lib.hid hfb; clear hfb
    go_wp2_with fail
    refine (implDet_any n D _ HhD.out Hhfb.out _ _ (nfaR_rows HS3.out 0 1 2 rfl rfl rfl (by omega) (by omega))).mono ?_
    rintro e w4 ⟨⟨b1, d1, b2, d2, rfl, -⟩, hb4⟩
    have HS4 := Lib.hid (HS3.out.call hb4)
    have HS5 := Lib.hid (HS4.out.alloc _ rfl #[.slice b1 D.next.length d1, .slice b2 D.ends.length d2] 33)
    clear hb4 e0 e1 e2 e3
    go_wp2_with (go_at_call 12; refine (alive_any _).mono ?_; rintro e w' ⟨rfl, rfl⟩)
    go_ret
    exact ⟨rfl, HS5.out.bel⟩
  · have hdet := det_some hD hfb
    have hdok := det_dfaOk hdet
    cases hwd : wdOk l
    · have HhD := Lib.hid hD; clear hD
      have Hhfb := Lib.hid hfb; clear hfb
      have Hhdet := Lib.hid hdet; clear hdet
      have Hhdok := Lib.hid hdok; clear hdok
      have Hhwd := Lib.hid hwd; clear hwd
      go_wp2_with fail
      refine (implDet_any n D _ HhD.out Hhfb.out _ _ (nfaR_rows HS3.out 0 1 2 rfl rfl rfl (by omega) (by omega))).mono ?_
      rintro e w4 ⟨⟨b1, d1, b2, d2, rfl, -⟩, hb4⟩
      have HS4 := Lib.hid (HS3.out.call hb4)
      have HS5 := Lib.hid (HS4.out.alloc _ rfl #[.slice b1 D.next.length d1, .slice b2 D.ends.length d2] 33)
      clear hb4 e0 e1 e2 e3
      go_wp2_with (first | (go_at_call 10; refine (specWordValid_any l _ Hht.out (by omega) _ Hhwd.out).mono ?_; rintro e w' ⟨rfl, rfl⟩) | (go_at_call 12; refine (alive_any _).mono ?_; rintro e w' ⟨rfl, rfl⟩))
      go_ret
      exact ⟨rfl, HS5.out.bel⟩
    · have hacc : accD D (lets l) = q := by rw [det_accT hdet hwd]; exact Hhq.out
      have hda := fun (u : World) (x : Value) (hu : DfaR 0 u x D) => dfaAccepts_any D l x u Hht.out (by omega) hu hdok hwd
      rw [hacc] at hda
      have Hda := Lib.hid hda
      have HhD := Lib.hid hD; clear hD
      have Hhfb := Lib.hid hfb; clear hfb
      have Hhdet := Lib.hid hdet; clear hdet
      have Hhdok := Lib.hid hdok; clear hdok
      have Hhwd := Lib.hid hwd; clear hwd
      have Hhacc := Lib.hid hacc; clear hacc
      clear hda
      go_wp2_with fail
      refine (implDet_any n D _ HhD.out Hhfb.out _ _ (nfaR_rows HS3.out 0 1 2 rfl rfl rfl (by omega) (by omega))).mono ?_
      rintro e w4 ⟨⟨b1, d1, b2, d2, rfl, hdo⟩, hb4⟩
      have HS4 := Lib.hid (HS3.out.call hb4)
      have HDr := Lib.hid ((hdo.r).mono (Nat.zero_le _))
      have HS5 := Lib.hid (HS4.out.alloc _ rfl #[.slice b1 D.next.length d1, .slice b2 D.ends.length d2] 33)
      clear hb4 hdo e0 e1 e2 e3
      have g0 := HS5.out.cell (v := .slice b1 D.next.length d1) 4 0 rfl rfl
      have g1 := HS5.out.cell (v := .slice b2 D.ends.length d2) 4 1 rfl rfl
      go_wp2_with (go_at_call 10; refine (specWordValid_any l _ Hht.out (by omega) _ Hhwd.out).mono ?_; rintro e w' ⟨rfl, rfl⟩)
      refine (Hda.out _ _ (HDr.out.below ((Below.refl _ _).alloc (Nat.le_refl _) _))).mono ?_
      rintro e w6 ⟨rfl, hb6⟩
      have HS6 := Lib.hid (HS5.out.call hb6)
      clear hb6 g0 g1
      go_wp2_with (go_at_call 12; refine (alive_any _).mono ?_; rintro e w' ⟨rfl, rfl⟩)
      go_ret
      exact ⟨rfl, HS6.out.bel⟩
end Go.Proofs.Ytjcegbcmomfgaaa
