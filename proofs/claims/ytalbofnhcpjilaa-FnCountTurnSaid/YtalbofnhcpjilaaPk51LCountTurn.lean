/-
  The walk over the law FnCountTurn.
  Condition: the argument reads as bytes.
-/
import Derived.Test.YtalbofnhcpjilaaPk50Dcw
namespace Go.Proofs.Ytalbofnhcpjilaa
open Go.RowKit
theorem detc_yesS {n : NfaD} {X : DfaD} (hX : (det n).getD zeroD = X) (hfb : (det n).isSome = true) : det n = some X := by
  cases h : det n with
  | none => rw [h] at hfb; cases hfb
  | some x => rw [h] at hX; exact congrArg some hX
theorem nfaQ_boundc (d : DfaD) : (-9223372036854775808 ≤ (nfaQ d).states ∧ (nfaQ d).states ≤ 9223372036854775807) := by
  unfold nfaQ
  split
  · rename_i h
    have hl := dfaOk_len h
    show -9223372036854775808 ≤ (d.next.length : Int) ∧ (d.next.length : Int) ≤ 9223372036854775807
    omega
  · decide
theorem turnL_boundc {n : NfaD} (h : -9223372036854775808 ≤ n.states ∧ n.states ≤ 9223372036854775807) : (-9223372036854775808 ≤ (turnL n).states ∧ (turnL n).states ≤ 9223372036854775807) := by
  unfold turnL
  split
  · exact h
  · decide
set_option maxRecDepth 100000 in
set_option maxHeartbeats 16000000 in
theorem countTurn_walk (bs : List Nat) (v : Value) (w : World) (hb : Bytes 0 w v bs) :
    Calls Try.prog 8 #[v] w fun e w' => e = .returned (.bool true) ∧ Below w.heap.size w w' := by
  have HB := Lib.hid hb
  obtain ⟨av, cv, rfl, hcv1, hcv2, -⟩ := hb.form
  clear hb
  by_cases hlen : 1048576 < bs.length
  · have hl2 : (1048576 : Int) < bs.length := by omega
    go_enter Try.func8, Try.ntmps8
    go_wp2
    go_ret
    exact ⟨rfl, Below.refl _ _⟩
  have hl2 : ¬ (1048576 : Int) < bs.length := by omega
  go_enter Try.func8, Try.ntmps8
  go_wp2_with fail
  refine (drawCountWords_any bs _ _ HB.out (by omega)).mono ?_
  rintro e w1 ⟨d, n, a1, a2, c1, c2, hsm, hn0, hn1, rfl, hd, hb1⟩
  have HS1 := Lib.hid (((St.start w).call hb1).alloc _ rfl #[.slice a1 d.next.length c1, .slice a2 d.ends.length c2] 27)
  have HR := Lib.hid (hd.below ((Below.refl w1.heap.size w1).alloc (Nat.le_refl _) (.cells #[.slice a1 d.next.length c1, .slice a2 d.ends.length c2] 27)))
  clear hb1 hd hsm
  obtain ⟨r, hr⟩ : ∃ r, cwA d n = r := ⟨_, rfl⟩
  obtain ⟨hr0, hr1⟩ := cwA_in d n
  rw [hr] at hr0 hr1
  obtain ⟨N, hN⟩ : ∃ N, nfaQ d = N := ⟨_, rfl⟩
  obtain ⟨U, hU⟩ : ∃ U, turnL N = U := ⟨_, rfl⟩
  obtain ⟨X, hX⟩ : ∃ X, (det U).getD zeroD = X := ⟨_, rfl⟩
  obtain ⟨gb, hgb⟩ : ∃ gb, (det U).isSome = gb := ⟨_, rfl⟩
  have hNs := nfaQ_boundc d
  rw [hN] at hNs
  have hUs := turnL_boundc hNs
  rw [hU] at hUs
  have Hhr := Lib.hid hr; clear hr
  have HhN := Lib.hid hN; clear hN
  have HhU := Lib.hid hU; clear hU
  have HhX := Lib.hid hX; clear hX
  have Hhgb := Lib.hid hgb; clear hgb
  have HhNs := Lib.hid hNs; clear hNs
  have HhUs := Lib.hid hUs; clear hUs
  have e0 := HS1.out.cell (v := .slice a1 d.next.length c1) 0 0 rfl rfl
  have e1 := HS1.out.cell (v := .slice a2 d.ends.length c2) 0 1 rfl rfl
  go_wp2_with fail
  refine (implCountWords_any d n _ _ HR.out _ Hhr.out).mono ?_
  rintro e w2 ⟨rfl, hb⟩
  have HS2 := Lib.hid (HS1.out.call hb)
  have HR2 := Lib.hid (HR.out.below hb)
  clear hb e0 e1
  have e0 := HS2.out.cell (v := .slice a1 d.next.length c1) 0 0 rfl rfl
  have e1 := HS2.out.cell (v := .slice a2 d.ends.length c2) 0 1 rfl rfl
  go_wp2_with fail
  refine (specCountWords_any d n _ _ HR2.out _ Hhr.out).mono ?_
  rintro e w3 ⟨rfl, hb⟩
  have HS3 := Lib.hid (HS2.out.call hb)
  have HR3 := Lib.hid (HR2.out.below hb)
  clear hb e0 e1
  have e0 := HS3.out.cell (v := .slice a1 d.next.length c1) 0 0 rfl rfl
  have e1 := HS3.out.cell (v := .slice a2 d.ends.length c2) 0 1 rfl rfl
  go_wp2_with fail
  refine (implNfaOfQ_any d N HhN.out _ _ HR3.out).mono ?_
  rintro e w4 ⟨n1, m1, n2, m2, n3, m3, rfl, hSx⟩
  have HS4 := Lib.hid (HS3.out.call hSx.bel)
  have HN := Lib.hid (nfaR_of (moves_of_row (hSx.row 0 rfl)) (ints_of_row' (hSx.row 1 rfl)) (ints_of_row' (hSx.row 2 rfl)) HhNs.out.1 HhNs.out.2)
  clear hSx e0 e1
  go_wp2_with fail
  refine (implTurnNfa_any N _ _ HN.out).mono ?_
  rintro e w5 hr6
  rw [HhU.out] at hr6
  obtain ⟨n1, m1, n2, m2, n3, m3, rfl, hSx⟩ := hr6
  have HS5 := Lib.hid (HS4.out.call hSx.bel)
  have HU := Lib.hid (nfaR_of (moves_of_row (hSx.row 0 rfl)) (ints_of_row' (hSx.row 1 rfl)) (ints_of_row' (hSx.row 2 rfl)) HhUs.out.1 HhUs.out.2)
  clear hSx HN
  go_wp2_with fail
  refine (implDet_any U X gb HhX.out Hhgb.out _ _ HU.out).mono ?_
  rintro e w6 ⟨⟨r1, s1, r2, s2, rfl, hx⟩, hb⟩
  have HS6 := Lib.hid ((HS5.out.call hb).alloc _ rfl #[.slice r1 X.next.length s1, .slice r2 X.ends.length s2] 27)
  have HX := Lib.hid (((hx.r).mono (Nat.zero_le _)).below ((Below.refl w6.heap.size w6).alloc (Nat.le_refl _) (.cells #[.slice r1 X.next.length s1, .slice r2 X.ends.length s2] 27)))
  clear hx hb HU HS1 HS2 HS3 HS4 HS5 HR HR2 HR3
  cases gb
  · obtain hf0 | ⟨rn, hf0⟩ : r = -1 ∨ ∃ rn : Nat, r = (rn : Int) := by
      by_cases h : r < 0
      · exact .inl (by omega)
      · exact .inr ⟨r.toNat, by omega⟩
    · subst hf0
      go_wp2_with (go_at_call 21; refine (alive_any _).mono ?_; rintro e w' ⟨rfl, rfl⟩)
      go_ret
      exact ⟨rfl, HS6.out.bel⟩
    · subst hf0
      go_wp2_with (go_at_call 21; refine (alive_any _).mono ?_; rintro e w' ⟨rfl, rfl⟩)
      go_ret
      exact ⟨rfl, HS6.out.bel⟩
  obtain hf0 | ⟨rn, hf0⟩ : r = -1 ∨ ∃ rn : Nat, r = (rn : Int) := by
    by_cases h : r < 0
    · exact .inl (by omega)
    · exact .inr ⟨r.toNat, by omega⟩
  · subst hf0
    go_wp2_with (go_at_call 21; refine (alive_any _).mono ?_; rintro e w' ⟨rfl, rfl⟩)
    go_ret
    exact ⟨rfl, HS6.out.bel⟩
  · subst hf0
    have hdt := detc_yesS HhX.out Hhgb.out
    rw [← HhU.out, ← HhN.out] at hdt
    have hq := cwA_turn Hhr.out (by omega) hdt
    have e0 := HS6.out.cell (v := .slice r1 X.next.length s1) 1 0 rfl rfl
    have e1 := HS6.out.cell (v := .slice r2 X.ends.length s2) 1 1 rfl rfl
    have Hhq := Lib.hid hq; clear hq
    clear hdt
    go_wp2_with fail
    refine (implCountWords_any X n _ _ HX.out _ Hhq.out).mono ?_
    rintro e w7 ⟨rfl, hb⟩
    have HS7 := Lib.hid (HS6.out.call hb)
    clear hb e0 e1
    go_wp2_with (go_at_call 21; refine (alive_any _).mono ?_; rintro e w' ⟨rfl, rfl⟩)
    go_ret
    exact ⟨rfl, HS7.out.bel⟩
end Go.Proofs.Ytalbofnhcpjilaa
