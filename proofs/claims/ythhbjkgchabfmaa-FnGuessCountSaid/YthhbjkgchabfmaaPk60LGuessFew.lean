/-
  The walks over the draws of one automaton.
  Condition: the argument reads as bytes.
-/
import Derived.Test.YthhbjkgchabfmaaPk19Jg
import Derived.Test.YthhbjkgchabfmaaPk31Ll
import Derived.Test.YthhbjkgchabfmaaPk33Jv
import Derived.Test.YthhbjkgchabfmaaPk39Pg
import Derived.Test.YthhbjkgchabfmaaPk45Li
import Derived.Test.YthhbjkgchabfmaaPk47Po
namespace Go.Proofs.Ythhbjkgchabfmaa
open Go.RowKit
set_option maxRecDepth 100000 in
set_option maxHeartbeats 4000000 in
theorem drawGuessCountD_any (bs : List Nat) (v : Value) (w : World) (hb : Bytes 0 w v bs) (hlen : bs.length ≤ 100000000) :
    Calls Try.prog 50 #[v] w fun e w' => RDraw w e w' := by
  have hS0 := (St.start w).alloc _ rfl #[.slice none 0 0, .slice none 0 0] 26
  have Hb := Lib.hid hb
  have HhS0 := Lib.hid hS0; clear hS0
  clear hb
  go_enter Try.func50, Try.ntmps50
  go_wp2_with fail
  refine (openJ_any bs v _ (Hb.out.below HhS0.out.bel) hlen).mono ?_
  rintro e w1 ⟨vb, bs', hl', hB, rfl, hS'⟩
  obtain ⟨b, hbb⟩ : ∃ b, b = (w.alloc (.cells #[.slice none 0 0, .slice none 0 0] 26)).heap.size := ⟨_, rfl⟩
  rw [← hbb] at hS'
  rw [← hbb]
  have hB1 := hB w Hb.out
  have HB := Lib.hid hB1
  have HS1 := Lib.hid ((HhS0.out.cat hS').pick [1, 0] (by decide))
  have Hhbb := Lib.hid hbb; clear hbb
  clear hS' hB hB1
  go_wp2_with fail
  refine (l20Dfa_any bs' vb b 0 12 w w1 _ HB.out hl' (by omega) (by omega) HS1.out).mono ?_
  rintro e w2 ⟨D, pn, a1, a2, c1, c2, vs, E, hpn, hsm, rfl, hh, hS2⟩
  have HS := Lib.hid hS2
  clear hS2
  have f0 := HS.out.fr 1 0 rfl
  have k0 := HS.out.cell (v := .slice none 0 0) 1 0 rfl rfl
  have f1 := HS.out.fr 1 1 rfl
  have k1 := HS.out.cell (v := .slice none 0 0) 1 1 rfl rfl
  have HS3 := Lib.hid ((HS.out.set 1 rfl 0 (.slice a1 D.next.length c1)).set 1 rfl 1 (.slice a2 D.ends.length c2))
  have q0 := HS3.out.cell (v := .slice a1 D.next.length c1) 1 0 rfl rfl
  have q1 := HS3.out.cell (v := .slice a2 D.ends.length c2) 1 1 rfl rfl
  go_wp2
  refine bodyPost_ret (v := .agg #[.slice a1 D.next.length c1, .slice a2 D.ends.length c2]) (by simp [results, Try.results50, go_sem, q0, q1]) rfl ?_
  exact ⟨D, a1, a2, c1, c2, hsm, rfl, hh.r HS3.out 2 rfl, HS3.out.bel⟩
set_option maxHeartbeats 1600000 in
theorem specGuessCount_any (d : DfaD) (J : Nat) (hJ : lastG d J) (r : Int) (hr : (if dfaOk d.next d.ends = true then (J : Int) + 1 else -1) = r) (v : Value) (w : World) (h : DfaR 0 w v d) :
    Calls Try.prog 52 #[v] w fun e w' => e = .returned (.int .i64 r) ∧ Below w.heap.size w w' := by
  have HD := Lib.hid h
  obtain ⟨v1, v2, rfl, -, -⟩ := h
  have hS := (St.start w).alloc _ rfl #[v1, v2] 26
  have HhS := Lib.hid hS; clear hS
  have HhJ := Lib.hid hJ; clear hJ
  cases hok : dfaOk d.next d.ends
  · rw [hok, if_neg (by simp)] at hr
    have Hhok := Lib.hid hok; clear hok
    have Hhr := Lib.hid hr; clear hr
    go_enter Try.func52, Try.ntmps52
    go_wp2_with fail
    refine (specDfaValidD_any d _ _ (HD.out.below HhS.out.bel) _ Hhok.out).mono ?_
    rintro e w1 ⟨rfl, hb⟩
    have hS1 := HhS.out.call hb
    have HhS1 := Lib.hid hS1; clear hS1
    clear hb
    go_wp2
    go_ret
    exact ⟨ret_int Hhr.out, HhS1.out.bel⟩
  · rw [hok, if_pos rfl] at hr
    obtain ⟨hj1, hj2⟩ := HhJ.out hok
    have Hhok := Lib.hid hok; clear hok
    have Hhr := Lib.hid hr; clear hr
    have Hhj1 := Lib.hid hj1; clear hj1
    have Hhj2 := Lib.hid hj2; clear hj2
    go_enter Try.func52, Try.ntmps52
    go_wp2_with fail
    refine (specDfaValidD_any d _ _ (HD.out.below HhS.out.bel) _ Hhok.out).mono ?_
    rintro e w1 ⟨rfl, hb⟩
    have hS1 := HhS.out.call hb
    have e0 := hS1.cell (v := v1) 0 0 rfl rfl
    have e1 := hS1.cell (v := v2) 0 1 rfl rfl
    have HhS1 := Lib.hid hS1; clear hS1
    clear hb
    go_wp2_with fail
    refine (l23Learn_any d J _ _ Hhok.out Hhj1.out Hhj2.out (HD.out.below HhS1.out.bel)).mono ?_
    rintro e w2 ⟨a, c, vals, X, rfl, hG, hS2⟩
    have hS3 := HhS1.out.call hS2.bel
    have HhS3 := Lib.hid hS3; clear hS3
    clear hS2 hG e0 e1
    go_wp2
    go_ret
    exact ⟨ret_int (by rw [← Hhr.out]), HhS3.out.bel⟩
theorem count_le {d : DfaD} (hd : dfaOk d.next d.ends = true) {J : Nat} (hJ : lastG d J) : J + 1 ≤ (minD d).next.length := by
  have h := (tab_inv hd (hitD_ok d) J (hJ hd).2).2
  have h2 := gueW_small hd (hJ hd).2
  rw [gueW_len] at h2
  exact Nat.le_trans h h2
section
variable {key key' : List Nat → List Bool} {f : List Bool → List Bool}
end
section
variable {b : Bool} {d M : DfaD}
end
theorem last_min {d : DfaD} (hd : dfaOk d.next d.ends = true) {J : Nat} (hJ : lastG d J) : lastG (minD d) J :=
  last_lang (b := false) hd (min_dfaOk hd) (fun w hw => by rw [min_acc (fine_of hd) hw]; cases accD d w <;> rfl) hJ
set_option maxRecDepth 100000 in
theorem run_fieldD (x y : Value) (w : World) : Sem.run Try.prog (Instr.field 26 (.agg #[x, y]) 0) w = Result.ok x w := by rfl
set_option maxRecDepth 100000 in
set_option maxHeartbeats 16000000 in
theorem guessFew_walk (bs : List Nat) (v : Value) (w : World) (hb : Bytes 0 w v bs) :
    Calls Try.prog 11 #[v] w fun e w' => e = .returned (.bool true) ∧ Below w.heap.size w w' := by
  have HB := Lib.hid hb
  obtain ⟨av, cv, rfl, hcv1, hcv2, -⟩ := hb.form
  clear hb
  by_cases hlen : 1048576 < bs.length
  · have hl2 : (1048576 : Int) < bs.length := by omega
    go_enter Try.func11, Try.ntmps11
    go_wp2
    go_ret
    exact ⟨rfl, Below.refl _ _⟩
  have hl2 : ¬ (1048576 : Int) < bs.length := by omega
  go_enter Try.func11, Try.ntmps11
  go_wp2_with fail
  refine (drawGuessCountD_any bs _ _ HB.out (by omega)).mono ?_
  rintro e w1 ⟨d, a1, a2, c1, c2, hsm, rfl, hd, hb1⟩
  have HS1 := Lib.hid (((St.start w).call hb1).alloc _ rfl #[.slice a1 d.next.length c1, .slice a2 d.ends.length c2] 26)
  have HR := Lib.hid (hd.below ((Below.refl w1.heap.size w1).alloc (Nat.le_refl _) (.cells #[.slice a1 d.next.length c1, .slice a2 d.ends.length c2] 26)))
  clear hb1 hd
  obtain ⟨J, hJ⟩ := lastG_ex d
  obtain ⟨r, hr⟩ : ∃ r : Int, (if dfaOk d.next d.ends = true then (J : Int) + 1 else -1) = r := ⟨_, rfl⟩
  cases hok : dfaOk d.next d.ends
  · obtain rfl : r = -1 := by rw [← hr, if_neg (by rw [hok]; simp)]
    have HhJ := Lib.hid hJ; clear hJ
    have Hhr := Lib.hid hr; clear hr
    have Hhok := Lib.hid hok; clear hok
    have e0 := HS1.out.cell (v := .slice a1 d.next.length c1) 0 0 rfl rfl
    have e1 := HS1.out.cell (v := .slice a2 d.ends.length c2) 0 1 rfl rfl
    go_wp2_with fail
    refine (implGuessCount_any d J HhJ.out _ Hhr.out _ _ HR.out).mono ?_
    rintro e w2 ⟨rfl, hb⟩
    have HS2 := Lib.hid (HS1.out.call hb)
    have HR2 := Lib.hid (HR.out.below hb)
    clear hb e0 e1
    have e0 := HS2.out.cell (v := .slice a1 d.next.length c1) 0 0 rfl rfl
    have e1 := HS2.out.cell (v := .slice a2 d.ends.length c2) 0 1 rfl rfl
    go_wp2_with fail
    refine (specGuessCount_any d J HhJ.out _ Hhr.out _ _ HR2.out).mono ?_
    rintro e w3 ⟨rfl, hb⟩
    have HS3 := Lib.hid (HS2.out.call hb)
    have HR3 := Lib.hid (HR2.out.below hb)
    clear hb e0 e1
    go_wp2_with (go_at_call 20; refine (alive_any _).mono ?_; rintro e w' ⟨rfl, rfl⟩)
    go_ret
    exact ⟨rfl, HS3.out.bel⟩
  · have hr1 : (J : Int) + 1 = r := by rw [← hr, if_pos hok]
    obtain ⟨M, hM⟩ : ∃ M, minQ d = M := ⟨_, rfl⟩
    have hM2 : minD d = M := by rw [← hM, minQ, if_pos hok]
    have hJM : lastG M J := by rw [← hM2]; exact last_min hok hJ
    have hrM : (if dfaOk M.next M.ends = true then (J : Int) + 1 else -1) = r := by rw [← hr1, if_pos (by rw [← hM2]; exact min_dfaOk hok)]
    have hle := count_le hok hJ
    rw [hM2] at hle
    have hneg : decide (r < 0) = false := decide_eq_false (by omega)
    have hg1 : decide (1 ≤ r) = true := decide_eq_true (by omega)
    have hl1 : decide (r ≤ (M.next.length : Int)) = true := decide_eq_true (by omega)
    have hrr : (r != r) = false := by simp
    have Hhr1 := Lib.hid hr1; clear hr1
    have HhM := Lib.hid hM; clear hM
    have HhM2 := Lib.hid hM2; clear hM2
    have HhJM := Lib.hid hJM; clear hJM
    have HhrM := Lib.hid hrM; clear hrM
    have HhJ := Lib.hid hJ; clear hJ
    have Hhr := Lib.hid hr; clear hr
    have Hhok := Lib.hid hok; clear hok
    clear hle
    have e0 := HS1.out.cell (v := .slice a1 d.next.length c1) 0 0 rfl rfl
    have e1 := HS1.out.cell (v := .slice a2 d.ends.length c2) 0 1 rfl rfl
    go_wp2_with fail
    refine (implGuessCount_any d J HhJ.out _ Hhr.out _ _ HR.out).mono ?_
    rintro e w2 ⟨rfl, hb⟩
    have HS2 := Lib.hid (HS1.out.call hb)
    have HR2 := Lib.hid (HR.out.below hb)
    clear hb e0 e1
    have e0 := HS2.out.cell (v := .slice a1 d.next.length c1) 0 0 rfl rfl
    have e1 := HS2.out.cell (v := .slice a2 d.ends.length c2) 0 1 rfl rfl
    go_wp2_with fail
    refine (specGuessCount_any d J HhJ.out _ Hhr.out _ _ HR2.out).mono ?_
    rintro e w3 ⟨rfl, hb⟩
    have HS3 := Lib.hid (HS2.out.call hb)
    have HR3 := Lib.hid (HR2.out.below hb)
    clear hb e0 e1
    have e0 := HS3.out.cell (v := .slice a1 d.next.length c1) 0 0 rfl rfl
    have e1 := HS3.out.cell (v := .slice a2 d.ends.length c2) 0 1 rfl rfl
    go_wp2_with fail
    refine (implMinimize_any d M HhM.out _ _ HR3.out).mono ?_
    rintro e w4 ⟨x1, y1, x2, y2, rfl, hx, hb⟩
    have HS4 := Lib.hid (HS3.out.call hb)
    have HR4 := Lib.hid (HR3.out.below hb)
    have hfd := run_fieldD (.slice x1 M.next.length y1) (.slice x2 M.ends.length y2) w4
    clear hb hx e0 e1
    have e0 := HS4.out.cell (v := .slice a1 d.next.length c1) 0 0 rfl rfl
    have e1 := HS4.out.cell (v := .slice a2 d.ends.length c2) 0 1 rfl rfl
    go_wp2_with fail
    refine (implMinimize_any d M HhM.out _ _ HR4.out).mono ?_
    rintro e w5 ⟨z1, u1, z2, u2, rfl, hx, hb⟩
    have HS5 := Lib.hid (HS4.out.call hb)
    have HX := Lib.hid (hx.mono (Nat.zero_le _))
    clear hb hx e0 e1 hfd
    go_wp2_with fail
    refine (implGuessCount_any M J HhJM.out r HhrM.out _ _ HX.out).mono ?_
    rintro e w6 ⟨rfl, hb⟩
    have HS6 := Lib.hid (HS5.out.call hb)
    clear hb
    go_wp2
    go_ret
    exact ⟨rfl, HS6.out.bel⟩
end Go.Proofs.Ythhbjkgchabfmaa
