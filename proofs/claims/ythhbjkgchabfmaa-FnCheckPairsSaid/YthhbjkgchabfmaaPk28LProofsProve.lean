/-
  The walks over the draws of two automata and pairs.
  Condition: the argument reads as bytes.
-/
import Derived.Test.YthhbjkgchabfmaaPk24Three
import Derived.Test.YthhbjkgchabfmaaPk25Ry
namespace Go.Proofs.Ythhbjkgchabfmaa
open Go.RowKit
set_option maxRecDepth 100000 in
set_option maxHeartbeats 4000000 in
theorem drawCheckPairs3_any (bs : List Nat) (v : Value) (w : World) (hb : Bytes 0 w v bs) (hlen : bs.length ≤ 100000000) :
    Calls Try.prog 45 #[v] w fun e w' => RThree w e w' := by
  have hS0 := ((St.start w).alloc w.heap.size rfl #[.slice none 0 0, .slice none 0 0] 26).alloc (w.heap.size + 1) (by simp) #[.slice none 0 0, .slice none 0 0] 26
  have Hb := Lib.hid hb
  have HhS0 := Lib.hid hS0; clear hS0
  clear hb
  go_enter Try.func45, Try.ntmps45
  go_wp2_with fail
  refine (openJ_any bs v _ (Hb.out.below HhS0.out.bel) hlen).mono ?_
  rintro e w1 ⟨vb, bs', hl', hB, rfl, hS'⟩
  obtain ⟨b, hbb⟩ : ∃ b, b = ((w.alloc (.cells #[.slice none 0 0, .slice none 0 0] 26)).alloc (.cells #[.slice none 0 0, .slice none 0 0] 26)).heap.size := ⟨_, rfl⟩
  rw [← hbb] at hS'
  rw [← hbb]
  have hB1 := hB w Hb.out
  have HB := Lib.hid hB1
  have hS1 : St w w1 [RdE b vb 0, Ent.box (w.heap.size) #[.slice none 0 0, .slice none 0 0] 26, Ent.box (w.heap.size + 1) #[.slice none 0 0, .slice none 0 0] 26] := (HhS0.out.cat hS').pick [2, 0, 1] (by decide)
  have HS1 := Lib.hid hS1
  have Hhbb := Lib.hid hbb; clear hbb
  clear hS' hB hB1 hS1
  go_wp2_with fail
  refine (l20Proof_any bs' vb b 0 w w1 _ HB.out hl' (by omega) (St.pack (A := [RdE b vb 0]) (R := [Ent.box (w.heap.size) #[.slice none 0 0, .slice none 0 0] 26, Ent.box (w.heap.size + 1) #[.slice none 0 0, .slice none 0 0] 26]) HS1.out)).mono ?_
  rintro e w2 ⟨G, B, ps, a1, a2, b1, b2, c1, c2, d1, d2, al, cl, pn, E, E2, hsm1, hsm2, hps, rfl, hq1, hq2, hq3, hSp⟩
  have hS2 : St w w2 [RdE b vb pn, E, Ent.box (w.heap.size) #[.slice none 0 0, .slice none 0 0] 26, Ent.box (w.heap.size + 1) #[.slice none 0 0, .slice none 0 0] 26, E2] := (St.unpack (A := [RdE b vb 0]) (A' := [RdE b vb pn, E, E2]) (R := [Ent.box (w.heap.size) #[.slice none 0 0, .slice none 0 0] 26, Ent.box (w.heap.size + 1) #[.slice none 0 0, .slice none 0 0] 26]) HS1.out (hSp.pick [0, 2, 3, 1] (by decide))).pick [0, 1, 3, 4, 2] (by decide)
  have HS := Lib.hid hS2
  clear hS2 hSp
  have f0 := HS.out.fr 2 0 rfl
  have k0 := HS.out.cell (v := .slice none 0 0) 2 0 rfl rfl
  have f1 := HS.out.fr 2 1 rfl
  have k1 := HS.out.cell (v := .slice none 0 0) 2 1 rfl rfl
  have f2 := HS.out.fr 3 0 rfl
  have k2 := HS.out.cell (v := .slice none 0 0) 3 0 rfl rfl
  have f3 := HS.out.fr 3 1 rfl
  have k3 := HS.out.cell (v := .slice none 0 0) 3 1 rfl rfl
  have HS3 := Lib.hid ((((HS.out.set 2 rfl 0 (.slice a1 G.next.length c1)).set 2 rfl 1 (.slice a2 G.ends.length c2)).set 3 rfl 0 (.slice b1 B.next.length d1)).set 3 rfl 1 (.slice b2 B.ends.length d2))
  have q0 := HS3.out.cell (v := .slice a1 G.next.length c1) 2 0 rfl rfl
  have q1 := HS3.out.cell (v := .slice a2 G.ends.length c2) 2 1 rfl rfl
  have q2 := HS3.out.cell (v := .slice b1 B.next.length d1) 3 0 rfl rfl
  have q3 := HS3.out.cell (v := .slice b2 B.ends.length d2) 3 1 rfl rfl
  go_wp2
  refine bodyPost_ret (v := .tuple #[.agg #[.slice a1 G.next.length c1, .slice a2 G.ends.length c2], .agg #[.slice b1 B.next.length d1, .slice b2 B.ends.length d2], .slice al ps.length cl]) (by simp [results, Try.results45, go_sem, q0, q1, q2, q3]) rfl ?_
  exact ⟨G, B, ps, a1, a2, b1, b2, c1, c2, d1, d2, al, cl, hsm1, hsm2, hps, rfl, hq1.r HS3.out 1 rfl, hq2.r HS3.out 1 rfl, hq3.r HS3.out 4 rfl, HS3.out.bel⟩
set_option maxRecDepth 100000 in
set_option maxHeartbeats 16000000 in
theorem proofsProve_walk (bs : List Nat) (v : Value) (w : World) (hb : Bytes 0 w v bs) :
    Calls Try.prog 9 #[v] w fun e w' => e = .returned (.bool true) ∧ Below w.heap.size w w' := by
  have HB := Lib.hid hb
  obtain ⟨av, cv, rfl, hcv1, hcv2, -⟩ := hb.form
  clear hb
  by_cases hlen : 1048576 < bs.length
  · have hl2 : (1048576 : Int) < bs.length := by omega
    go_enter Try.func9, Try.ntmps9
    go_wp2
    go_ret
    exact ⟨rfl, Below.refl _ _⟩
  have hl2 : ¬ (1048576 : Int) < bs.length := by omega
  go_enter Try.func9, Try.ntmps9
  go_wp2_with fail
  refine (drawCheckPairs3_any bs _ _ HB.out (by omega)).mono ?_
  rintro e w1 ⟨G, B, ps, a1, a2, b1, b2, c1, c2, d1, d2, al, cl, hsm1, hsm2, hps, rfl, hg, hbb, hpp, hb1⟩
  have hS1 := (((St.start w).call hb1).alloc w1.heap.size rfl #[.slice a1 G.next.length c1, .slice a2 G.ends.length c2] 26).alloc (w1.heap.size + 1) (by simp) #[.slice b1 B.next.length d1, .slice b2 B.ends.length d2] 26
  have hbe : Below w1.heap.size w1 ((w1.alloc (.cells #[.slice a1 G.next.length c1, .slice a2 G.ends.length c2] 26)).alloc (.cells #[.slice b1 B.next.length d1, .slice b2 B.ends.length d2] 26)) := ((Below.refl w1.heap.size w1).alloc (Nat.le_refl _) _).alloc (by simp) _
  have HS1 := Lib.hid hS1
  have HG1 := Lib.hid (hg.below hbe)
  have HB1 := Lib.hid (hbb.below hbe)
  have HP1 := Lib.hid (hpp.below hbe)
  clear hb1 hg hbb hpp hS1 hbe HB
  cases hsame : sameB G B
  · have hmp : makeP G B = none := by unfold makeP; rw [if_neg (by rw [hsame]; simp)]
    have hr : checkB G B ps = false := by
      cases h : checkB G B ps with
      | false => rfl
      | true => have := check_same h; rw [hsame] at this; cases this
    have Hhmp := Lib.hid hmp; clear hmp
    have Hhr := Lib.hid hr; clear hr
    have Hhsame := Lib.hid hsame; clear hsame
    have e0 := HS1.out.cell (v := .slice a1 G.next.length c1) 0 0 rfl rfl
    have e1 := HS1.out.cell (v := .slice a2 G.ends.length c2) 0 1 rfl rfl
    have f0 := HS1.out.cell (v := .slice b1 B.next.length d1) 1 0 rfl rfl
    have f1 := HS1.out.cell (v := .slice b2 B.ends.length d2) 1 1 rfl rfl
    go_wp2_with fail
    refine (implCheckPairs_any G B ps _ _ _ _ HG1.out HB1.out HP1.out _ Hhr.out).mono ?_
    rintro e x2 ⟨rfl, hb⟩
    have HS2 := Lib.hid (HS1.out.call hb)
    have HG2 := Lib.hid (HG1.out.below hb)
    have HB2 := Lib.hid (HB1.out.below hb)
    have HP2 := Lib.hid (HP1.out.below hb)
    clear hb e0 e1 f0 f1
    have e0 := HS2.out.cell (v := .slice a1 G.next.length c1) 0 0 rfl rfl
    have e1 := HS2.out.cell (v := .slice a2 G.ends.length c2) 0 1 rfl rfl
    have f0 := HS2.out.cell (v := .slice b1 B.next.length d1) 1 0 rfl rfl
    have f1 := HS2.out.cell (v := .slice b2 B.ends.length d2) 1 1 rfl rfl
    go_wp2_with fail
    refine (specCheckPairs_any G B ps _ _ _ _ HG2.out HB2.out HP2.out _ Hhr.out).mono ?_
    rintro e x3 ⟨rfl, hb⟩
    have HS3 := Lib.hid (HS2.out.call hb)
    have HG3 := Lib.hid (HG2.out.below hb)
    have HB3 := Lib.hid (HB2.out.below hb)
    have HP3 := Lib.hid (HP2.out.below hb)
    clear hb e0 e1 f0 f1
    have e0 := HS3.out.cell (v := .slice a1 G.next.length c1) 0 0 rfl rfl
    have e1 := HS3.out.cell (v := .slice a2 G.ends.length c2) 0 1 rfl rfl
    have f0 := HS3.out.cell (v := .slice b1 B.next.length d1) 1 0 rfl rfl
    have f1 := HS3.out.cell (v := .slice b2 B.ends.length d2) 1 1 rfl rfl
    go_wp2_with fail
    refine (implMakePairs_any G B _ _ _ HG3.out HB3.out).mono ?_
    rintro e w4 ⟨hmp, hb⟩
    rw [Hhmp.out] at hmp
    obtain rfl : e = .returned (.tuple #[.slice none 0 0, .bool false]) := hmp
    have HS4 := Lib.hid (HS3.out.call hb)
    have HG4 := Lib.hid (HG3.out.below hb)
    have HB4 := Lib.hid (HB3.out.below hb)
    have HP4 := Lib.hid (HP3.out.below hb)
    clear hb e0 e1 f0 f1
    have e0 := HS4.out.cell (v := .slice a1 G.next.length c1) 0 0 rfl rfl
    have e1 := HS4.out.cell (v := .slice a2 G.ends.length c2) 0 1 rfl rfl
    have f0 := HS4.out.cell (v := .slice b1 B.next.length d1) 1 0 rfl rfl
    have f1 := HS4.out.cell (v := .slice b2 B.ends.length d2) 1 1 rfl rfl
    go_wp2_with fail
    refine (implSame_any G B _ _ _ HG4.out HB4.out _ Hhsame.out).mono ?_
    rintro e x5 ⟨rfl, hb⟩
    have HS5 := Lib.hid (HS4.out.call hb)
    have HG5 := Lib.hid (HG4.out.below hb)
    have HB5 := Lib.hid (HB4.out.below hb)
    have HP5 := Lib.hid (HP4.out.below hb)
    clear hb e0 e1 f0 f1
    go_wp2_with (go_at_call 20; refine (alive_any _).mono ?_; rintro e w' ⟨rfl, rfl⟩)
    go_ret
    exact ⟨rfl, HS5.out.bel⟩
  · obtain ⟨F, hF⟩ : ∃ F, metP G B mostP = F := ⟨_, rfl⟩
    have hmp : makeP G B = some F := by rw [← hF]; exact if_pos hsame
    have hchk : checkB G B F = true := by rw [← hF]; exact met_check mostP_ge hsame
    have HhF := Lib.hid hF; clear hF
    have Hhchk := Lib.hid hchk; clear hchk
    have Hhmp := Lib.hid hmp; clear hmp
    have Hhsame := Lib.hid hsame; clear hsame
    cases hr : checkB G B ps
    · have Hhr := Lib.hid hr; clear hr
      have e0 := HS1.out.cell (v := .slice a1 G.next.length c1) 0 0 rfl rfl
      have e1 := HS1.out.cell (v := .slice a2 G.ends.length c2) 0 1 rfl rfl
      have f0 := HS1.out.cell (v := .slice b1 B.next.length d1) 1 0 rfl rfl
      have f1 := HS1.out.cell (v := .slice b2 B.ends.length d2) 1 1 rfl rfl
      go_wp2_with fail
      refine (implCheckPairs_any G B ps _ _ _ _ HG1.out HB1.out HP1.out _ Hhr.out).mono ?_
      rintro e x2 ⟨rfl, hb⟩
      have HS2 := Lib.hid (HS1.out.call hb)
      have HG2 := Lib.hid (HG1.out.below hb)
      have HB2 := Lib.hid (HB1.out.below hb)
      have HP2 := Lib.hid (HP1.out.below hb)
      clear hb e0 e1 f0 f1
      have e0 := HS2.out.cell (v := .slice a1 G.next.length c1) 0 0 rfl rfl
      have e1 := HS2.out.cell (v := .slice a2 G.ends.length c2) 0 1 rfl rfl
      have f0 := HS2.out.cell (v := .slice b1 B.next.length d1) 1 0 rfl rfl
      have f1 := HS2.out.cell (v := .slice b2 B.ends.length d2) 1 1 rfl rfl
      go_wp2_with fail
      refine (specCheckPairs_any G B ps _ _ _ _ HG2.out HB2.out HP2.out _ Hhr.out).mono ?_
      rintro e x3 ⟨rfl, hb⟩
      have HS3 := Lib.hid (HS2.out.call hb)
      have HG3 := Lib.hid (HG2.out.below hb)
      have HB3 := Lib.hid (HB2.out.below hb)
      have HP3 := Lib.hid (HP2.out.below hb)
      clear hb e0 e1 f0 f1
      have e0 := HS3.out.cell (v := .slice a1 G.next.length c1) 0 0 rfl rfl
      have e1 := HS3.out.cell (v := .slice a2 G.ends.length c2) 0 1 rfl rfl
      have f0 := HS3.out.cell (v := .slice b1 B.next.length d1) 1 0 rfl rfl
      have f1 := HS3.out.cell (v := .slice b2 B.ends.length d2) 1 1 rfl rfl
      go_wp2_with fail
      refine (implMakePairs_any G B _ _ _ HG3.out HB3.out).mono ?_
      rintro e w4 ⟨hmp, hb⟩
      rw [Hhmp.out] at hmp
      obtain ⟨ai, ci, rfl, hpo⟩ := hmp
      have HM4 := Lib.hid (show Pairs 0 w4 (.slice ai F.length ci) F from (OPairs.pairs hpo).mono (Nat.zero_le _))
      clear hpo
      have HS4 := Lib.hid (HS3.out.call hb)
      have HG4 := Lib.hid (HG3.out.below hb)
      have HB4 := Lib.hid (HB3.out.below hb)
      have HP4 := Lib.hid (HP3.out.below hb)
      clear hb e0 e1 f0 f1
      have e0 := HS4.out.cell (v := .slice a1 G.next.length c1) 0 0 rfl rfl
      have e1 := HS4.out.cell (v := .slice a2 G.ends.length c2) 0 1 rfl rfl
      have f0 := HS4.out.cell (v := .slice b1 B.next.length d1) 1 0 rfl rfl
      have f1 := HS4.out.cell (v := .slice b2 B.ends.length d2) 1 1 rfl rfl
      go_wp2_with fail
      refine (implSame_any G B _ _ _ HG4.out HB4.out _ Hhsame.out).mono ?_
      rintro e x5 ⟨rfl, hb⟩
      have HS5 := Lib.hid (HS4.out.call hb)
      have HG5 := Lib.hid (HG4.out.below hb)
      have HB5 := Lib.hid (HB4.out.below hb)
      have HP5 := Lib.hid (HP4.out.below hb)
      have HM5 := Lib.hid (HM4.out.below hb)
      clear hb e0 e1 f0 f1
      have e0 := HS5.out.cell (v := .slice a1 G.next.length c1) 0 0 rfl rfl
      have e1 := HS5.out.cell (v := .slice a2 G.ends.length c2) 0 1 rfl rfl
      have f0 := HS5.out.cell (v := .slice b1 B.next.length d1) 1 0 rfl rfl
      have f1 := HS5.out.cell (v := .slice b2 B.ends.length d2) 1 1 rfl rfl
      go_wp2_with fail
      refine (implCheckPairs_any G B F _ _ _ _ HG5.out HB5.out HM5.out _ Hhchk.out).mono ?_
      rintro e x6 ⟨rfl, hb⟩
      have HS6 := Lib.hid (HS5.out.call hb)
      have HG6 := Lib.hid (HG5.out.below hb)
      have HB6 := Lib.hid (HB5.out.below hb)
      have HP6 := Lib.hid (HP5.out.below hb)
      have HM6 := Lib.hid (HM5.out.below hb)
      clear hb e0 e1 f0 f1
      go_wp2_with (go_at_call 20; refine (alive_any _).mono ?_; rintro e w' ⟨rfl, rfl⟩)
      go_ret
      exact ⟨rfl, HS6.out.bel⟩
    · have Hhr := Lib.hid hr; clear hr
      have e0 := HS1.out.cell (v := .slice a1 G.next.length c1) 0 0 rfl rfl
      have e1 := HS1.out.cell (v := .slice a2 G.ends.length c2) 0 1 rfl rfl
      have f0 := HS1.out.cell (v := .slice b1 B.next.length d1) 1 0 rfl rfl
      have f1 := HS1.out.cell (v := .slice b2 B.ends.length d2) 1 1 rfl rfl
      go_wp2_with fail
      refine (implCheckPairs_any G B ps _ _ _ _ HG1.out HB1.out HP1.out _ Hhr.out).mono ?_
      rintro e x2 ⟨rfl, hb⟩
      have HS2 := Lib.hid (HS1.out.call hb)
      have HG2 := Lib.hid (HG1.out.below hb)
      have HB2 := Lib.hid (HB1.out.below hb)
      have HP2 := Lib.hid (HP1.out.below hb)
      clear hb e0 e1 f0 f1
      have e0 := HS2.out.cell (v := .slice a1 G.next.length c1) 0 0 rfl rfl
      have e1 := HS2.out.cell (v := .slice a2 G.ends.length c2) 0 1 rfl rfl
      have f0 := HS2.out.cell (v := .slice b1 B.next.length d1) 1 0 rfl rfl
      have f1 := HS2.out.cell (v := .slice b2 B.ends.length d2) 1 1 rfl rfl
      go_wp2_with fail
      refine (specCheckPairs_any G B ps _ _ _ _ HG2.out HB2.out HP2.out _ Hhr.out).mono ?_
      rintro e x3 ⟨rfl, hb⟩
      have HS3 := Lib.hid (HS2.out.call hb)
      have HG3 := Lib.hid (HG2.out.below hb)
      have HB3 := Lib.hid (HB2.out.below hb)
      have HP3 := Lib.hid (HP2.out.below hb)
      clear hb e0 e1 f0 f1
      have e0 := HS3.out.cell (v := .slice a1 G.next.length c1) 0 0 rfl rfl
      have e1 := HS3.out.cell (v := .slice a2 G.ends.length c2) 0 1 rfl rfl
      have f0 := HS3.out.cell (v := .slice b1 B.next.length d1) 1 0 rfl rfl
      have f1 := HS3.out.cell (v := .slice b2 B.ends.length d2) 1 1 rfl rfl
      go_wp2_with fail
      refine (implMakePairs_any G B _ _ _ HG3.out HB3.out).mono ?_
      rintro e w4 ⟨hmp, hb⟩
      rw [Hhmp.out] at hmp
      obtain ⟨ai, ci, rfl, hpo⟩ := hmp
      have HM4 := Lib.hid (show Pairs 0 w4 (.slice ai F.length ci) F from (OPairs.pairs hpo).mono (Nat.zero_le _))
      clear hpo
      have HS4 := Lib.hid (HS3.out.call hb)
      have HG4 := Lib.hid (HG3.out.below hb)
      have HB4 := Lib.hid (HB3.out.below hb)
      have HP4 := Lib.hid (HP3.out.below hb)
      clear hb e0 e1 f0 f1
      have e0 := HS4.out.cell (v := .slice a1 G.next.length c1) 0 0 rfl rfl
      have e1 := HS4.out.cell (v := .slice a2 G.ends.length c2) 0 1 rfl rfl
      have f0 := HS4.out.cell (v := .slice b1 B.next.length d1) 1 0 rfl rfl
      have f1 := HS4.out.cell (v := .slice b2 B.ends.length d2) 1 1 rfl rfl
      go_wp2_with fail
      refine (implSame_any G B _ _ _ HG4.out HB4.out _ Hhsame.out).mono ?_
      rintro e x5 ⟨rfl, hb⟩
      have HS5 := Lib.hid (HS4.out.call hb)
      have HG5 := Lib.hid (HG4.out.below hb)
      have HB5 := Lib.hid (HB4.out.below hb)
      have HP5 := Lib.hid (HP4.out.below hb)
      have HM5 := Lib.hid (HM4.out.below hb)
      clear hb e0 e1 f0 f1
      have e0 := HS5.out.cell (v := .slice a1 G.next.length c1) 0 0 rfl rfl
      have e1 := HS5.out.cell (v := .slice a2 G.ends.length c2) 0 1 rfl rfl
      have f0 := HS5.out.cell (v := .slice b1 B.next.length d1) 1 0 rfl rfl
      have f1 := HS5.out.cell (v := .slice b2 B.ends.length d2) 1 1 rfl rfl
      go_wp2_with fail
      refine (implSame_any G B _ _ _ HG5.out HB5.out _ Hhsame.out).mono ?_
      rintro e x6 ⟨rfl, hb⟩
      have HS6 := Lib.hid (HS5.out.call hb)
      have HG6 := Lib.hid (HG5.out.below hb)
      have HB6 := Lib.hid (HB5.out.below hb)
      have HP6 := Lib.hid (HP5.out.below hb)
      have HM6 := Lib.hid (HM5.out.below hb)
      clear hb e0 e1 f0 f1
      have e0 := HS6.out.cell (v := .slice a1 G.next.length c1) 0 0 rfl rfl
      have e1 := HS6.out.cell (v := .slice a2 G.ends.length c2) 0 1 rfl rfl
      have f0 := HS6.out.cell (v := .slice b1 B.next.length d1) 1 0 rfl rfl
      have f1 := HS6.out.cell (v := .slice b2 B.ends.length d2) 1 1 rfl rfl
      go_wp2_with fail
      refine (implCheckPairs_any G B F _ _ _ _ HG6.out HB6.out HM6.out _ Hhchk.out).mono ?_
      rintro e x7 ⟨rfl, hb⟩
      have HS7 := Lib.hid (HS6.out.call hb)
      have HG7 := Lib.hid (HG6.out.below hb)
      have HB7 := Lib.hid (HB6.out.below hb)
      have HP7 := Lib.hid (HP6.out.below hb)
      have HM7 := Lib.hid (HM6.out.below hb)
      clear hb e0 e1 f0 f1
      go_wp2_with (go_at_call 20; refine (alive_any _).mono ?_; rintro e w' ⟨rfl, rfl⟩)
      go_ret
      exact ⟨rfl, HS7.out.bel⟩
end Go.Proofs.Ythhbjkgchabfmaa
