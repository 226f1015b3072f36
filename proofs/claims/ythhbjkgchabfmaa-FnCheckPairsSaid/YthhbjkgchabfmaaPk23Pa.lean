/-
  The walks over the reference's FirstDiffer, SameLanguage and MakePairs.
  Conditions: the automata read as such.
-/
import Derived.Test.YthhbjkgchabfmaaPk22L16
namespace Go.Proofs.Ythhbjkgchabfmaa
open Go.RowKit Go.Maps
theorem l16First_any (a b : DfaD) (v1 v2 : Value) (w : World) (hda : dfaOk a.next a.ends = true) (hdb : dfaOk b.next b.ends = true) (h1 : DfaR 0 w v1 a) (h2 : DfaR 0 w v2 b) :
    Calls Try.prog 141 #[v1, v2, .int .i64 3] w fun e w' => e = wordRes (hitP a b) ∧ Below w.heap.size w w' := l16FirstK_any mostP rfl a b v1 v2 w hda hdb h1 h2
def fdO (a b : DfaD) : Option (List Nat) := if (dfaOk a.next a.ends && dfaOk b.next b.ends) = true then hitP a b else none
set_option maxHeartbeats 1600000 in
theorem specFirstDiffer_any (a b : DfaD) (v1 v2 : Value) (w : World) (h1 : DfaR 0 w v1 a) (h2 : DfaR 0 w v2 b) (o : Option (List Nat)) (ho : fdO a b = o) :
    Calls Try.prog 133 #[v1, v2] w fun e w' => e = wordRes o ∧ Below w.heap.size w w' := by
  obtain ⟨u1, u2, rfl, g1, g2⟩ := h1
  obtain ⟨u3, u4, rfl, g3, g4⟩ := h2
  have hb2 : Below w.heap.size w ((w.alloc (.cells #[u1, u2] 26)).alloc (.cells #[u3, u4] 26)) := ((Below.refl _ _).alloc (Nat.le_refl _) _).alloc (by simp) _
  have H1 : Hid (DfaR 0 ((w.alloc (.cells #[u1, u2] 26)).alloc (.cells #[u3, u4] 26)) (.agg #[u1, u2]) a) := Lib.hid ⟨_, _, rfl, g1.below hb2, g2.below hb2⟩
  have H2 : Hid (DfaR 0 ((w.alloc (.cells #[u1, u2] 26)).alloc (.cells #[u3, u4] 26)) (.agg #[u3, u4]) b) := Lib.hid ⟨_, _, rfl, g3.below hb2, g4.below hb2⟩
  have x0 : Bx ((w.alloc (.cells #[u1, u2] 26)).alloc (.cells #[u3, u4] 26)) w.heap.size #[u1, u2] 26 := (Bx.new w _ _).alloc _
  have x1 : Bx ((w.alloc (.cells #[u1, u2] 26)).alloc (.cells #[u3, u4] 26)) (w.heap.size + 1) #[u3, u4] 26 := by simpa using Bx.new (w.alloc (.cells #[u1, u2] 26)) #[u3, u4] 26
  obtain ⟨s, hs⟩ := wordRes_cases (hitP a b)
  have Hhb2 := Lib.hid hb2; clear hb2
  have Hhs := Lib.hid hs; clear hs
  have Hho := Lib.hid ho; clear ho
  have Hx0 := Lib.hid x0; clear x0
  have Hx1 := Lib.hid x1; clear x1
  clear g1 g2 g3 g4
  cases hda : dfaOk a.next a.ends
  all_goals
    have Hhda := Lib.hid hda; clear hda
    go_enter Try.func133, Try.ntmps133
    go_wp2_with fail
    refine (specDfaValid_d a _ _ H1.out _ Hhda.out).mono ?_
    rintro e w1 ⟨rfl, hb1⟩
    have y0 := Hx0.out.below hb1 Hx0.out.lt
    have y1 := Hx1.out.below hb1 Hx1.out.lt
    have c0 := y1.cell 0
    have c1 := y1.cell 1
    simp only [List.getElem?_toArray, List.getElem?_cons_zero, List.getElem?_cons_succ] at c0 c1
    have hbw := Hhb2.out.trans (hb1.mono Hhb2.out.size)
    have R1 := Lib.hid (H1.out.below hb1)
    have R2 := Lib.hid (H2.out.below hb1)
    have Hhb1 := Lib.hid hb1; clear hb1
    have Hhbw := Lib.hid hbw; clear hbw
    have Hy0 := Lib.hid y0; clear y0
    have Hy1 := Lib.hid y1; clear y1
  · go_wp2
    go_ret2
    exact ⟨by rw [← Hho.out, fdO, Hhda.out]; rfl, Hhbw.out⟩
  · cases hdb : dfaOk b.next b.ends
    all_goals
      have Hhdb := Lib.hid hdb; clear hdb
      go_wp2_with fail
      refine (specDfaValid_d b _ _ R2.out _ Hhdb.out).mono ?_
      rintro e w2 ⟨rfl, hb2⟩
      have z0 := Hy0.out.below hb2 Hy0.out.lt
      have z1 := Hy1.out.below hb2 Hy1.out.lt
      have hbv := Hhbw.out.trans (hb2.mono Hhbw.out.size)
      have Q1 := Lib.hid (R1.out.below hb2)
      have Q2 := Lib.hid (R2.out.below hb2)
      have e0 := z0.cell 0
      have e1 := z0.cell 1
      have e2 := z1.cell 0
      have e3 := z1.cell 1
      simp only [List.getElem?_toArray, List.getElem?_cons_zero, List.getElem?_cons_succ] at e0 e1 e2 e3
      have Hhb2 := Lib.hid hb2; clear hb2
      have Hhbv := Lib.hid hbv; clear hbv
      have Hz0 := Lib.hid z0; clear z0
      have Hz1 := Lib.hid z1; clear z1
      clear c0 c1
    · go_wp2
      go_ret2
      exact ⟨by rw [← Hho.out, fdO, Hhda.out, Hhdb.out]; rfl, Hhbv.out⟩
    · go_wp2_with fail
      refine (l16First_any a b _ _ _ Hhda.out Hhdb.out Q1.out Q2.out).mono ?_
      rintro e w3 ⟨he, hb3⟩
      rw [Hhs.out] at he
      subst he
      have hbx := Hhbv.out.trans (hb3.mono Hhbv.out.size)
      have Hhbx := Lib.hid hbx; clear hbx
      clear hb3
      go_wp2
      go_ret2
      refine ⟨?_, Hhbx.out⟩
      rw [← Hho.out, fdO, Hhda.out, Hhdb.out, if_pos (by rfl), Hhs.out]
      rfl
set_option maxHeartbeats 1600000 in
theorem specSame_any (a b : DfaD) (v1 v2 : Value) (w : World) (h1 : DfaR 0 w v1 a) (h2 : DfaR 0 w v2 b) (r : Bool) (hr : sameB a b = r) :
    Calls Try.prog 92 #[v1, v2] w fun e w' => e = .returned (.bool r) ∧ Below w.heap.size w w' := by
  obtain ⟨u1, u2, rfl, g1, g2⟩ := h1
  obtain ⟨u3, u4, rfl, g3, g4⟩ := h2
  have hb2 : Below w.heap.size w ((w.alloc (.cells #[u1, u2] 26)).alloc (.cells #[u3, u4] 26)) := ((Below.refl _ _).alloc (Nat.le_refl _) _).alloc (by simp) _
  have H1 : Hid (DfaR 0 ((w.alloc (.cells #[u1, u2] 26)).alloc (.cells #[u3, u4] 26)) (.agg #[u1, u2]) a) := Lib.hid ⟨_, _, rfl, g1.below hb2, g2.below hb2⟩
  have H2 : Hid (DfaR 0 ((w.alloc (.cells #[u1, u2] 26)).alloc (.cells #[u3, u4] 26)) (.agg #[u3, u4]) b) := Lib.hid ⟨_, _, rfl, g3.below hb2, g4.below hb2⟩
  have x0 : Bx ((w.alloc (.cells #[u1, u2] 26)).alloc (.cells #[u3, u4] 26)) w.heap.size #[u1, u2] 26 := (Bx.new w _ _).alloc _
  have x1 : Bx ((w.alloc (.cells #[u1, u2] 26)).alloc (.cells #[u3, u4] 26)) (w.heap.size + 1) #[u3, u4] 26 := by simpa using Bx.new (w.alloc (.cells #[u1, u2] 26)) #[u3, u4] 26
  obtain ⟨o, ho⟩ : ∃ o, fdO a b = o := ⟨_, rfl⟩
  obtain ⟨s, hs⟩ := wordRes_cases o
  obtain ⟨fo, hfo⟩ : ∃ fo, fo = o.isSome := ⟨_, rfl⟩
  rw [← hfo] at hs
  have Hhb2 := Lib.hid hb2; clear hb2
  have Hhs := Lib.hid hs; clear hs
  have Hho := Lib.hid ho; clear ho
  have Hhr := Lib.hid hr; clear hr
  have Hx0 := Lib.hid x0; clear x0
  have Hx1 := Lib.hid x1; clear x1
  have Hhfo := Lib.hid hfo; clear hfo
  clear g1 g2 g3 g4
  go_enter Try.func92, Try.ntmps92
  go_wp2_with fail
  refine (specFirstDiffer_any a b _ _ _ H1.out H2.out _ Hho.out).mono ?_
  rintro e w1 ⟨he, hb1⟩
  rw [Hhs.out] at he
  subst he
  have y0 := Hx0.out.below hb1 Hx0.out.lt
  have y1 := Hx1.out.below hb1 Hx1.out.lt
  have c0 := y0.cell 0
  have c1 := y0.cell 1
  simp only [List.getElem?_toArray, List.getElem?_cons_zero, List.getElem?_cons_succ] at c0 c1
  have hbw := Hhb2.out.trans (hb1.mono Hhb2.out.size)
  have R1 := Lib.hid (H1.out.below hb1)
  have R2 := Lib.hid (H2.out.below hb1)
  have Hhb1 := Lib.hid hb1; clear hb1
  have Hhbw := Lib.hid hbw; clear hbw
  have Hy0 := Lib.hid y0; clear y0
  have Hy1 := Lib.hid y1; clear y1
  cases hda : dfaOk a.next a.ends
  all_goals
    have Hhda := Lib.hid hda; clear hda
    go_wp2_with fail
    refine (specDfaValid_d a _ _ R1.out _ Hhda.out).mono ?_
    rintro e w2 ⟨rfl, hb2⟩
    have z1 := Hy1.out.below hb2 Hy1.out.lt
    have e2 := z1.cell 0
    have e3 := z1.cell 1
    simp only [List.getElem?_toArray, List.getElem?_cons_zero, List.getElem?_cons_succ] at e2 e3
    have hbv := Hhbw.out.trans (hb2.mono Hhbw.out.size)
    have Q2 := Lib.hid (R2.out.below hb2)
    have Hhb2 := Lib.hid hb2; clear hb2
    have Hhbv := Lib.hid hbv; clear hbv
    have Hz1 := Lib.hid z1; clear z1
  · go_wp2
    go_ret
    exact ⟨by rw [← Hhr.out, sameB, Hhda.out]; rfl, Hhbv.out⟩
  · cases hdb : dfaOk b.next b.ends
    all_goals
      have Hhdb := Lib.hid hdb; clear hdb
      go_wp2_with fail
      refine (specDfaValid_d b _ _ Q2.out _ Hhdb.out).mono ?_
      rintro e w3 ⟨rfl, hb3⟩
      have hbx := Hhbv.out.trans (hb3.mono Hhbv.out.size)
      have Hhbx := Lib.hid hbx; clear hbx
      clear hb3
    · go_wp2
      go_ret
      exact ⟨by rw [← Hhr.out, sameB, Hhda.out, Hhdb.out]; rfl, Hhbx.out⟩
    · have hfin : (!fo) = r := by
        rw [Hhfo.out, ← Hho.out, ← Hhr.out, fdO, sameB, Hhda.out, Hhdb.out, if_pos (by rfl)]
        cases hitP a b <;> rfl
      have Hhfin := Lib.hid hfin; clear hfin
      cases fo
      all_goals
        go_wp2
        go_ret
        exact ⟨by rw [← Hhfin.out]; rfl, Hhbx.out⟩
def RMpSO (B : Nat) (o : Option (List (Int × Int))) (e : Ending) (w' : World) : Prop := ∃ a cap, e = .returned (.tuple #[.slice a (o.getD []).length cap, .bool o.isSome]) ∧ Pairs B w' (.slice a (o.getD []).length cap) (o.getD []) ∧
  (o.isSome = true → w'.ownsRow B 56 2 (.slice a (o.getD []).length cap) (o.getD []).length ((o.getD []).flatMap pairCells))
set_option maxRecDepth 100000 in
set_option maxHeartbeats 8000000 in
theorem specMakeKO_any (K : Nat) (hK : K = 1600) (a b : DfaD) (v1 v2 : Value) (w : World) (h1 : DfaR 0 w v1 a) (h2 : DfaR 0 w v2 b) (o : Option (List (Int × Int))) (ho : (if sameB a b = true then some (metP a b K) else none) = o) :
    Calls Try.prog 43 #[v1, v2] w fun e w' => RMpSO w.heap.size o e w' ∧ Below w.heap.size w w' := by
  obtain ⟨u1, u2, rfl, g1, g2⟩ := h1
  obtain ⟨u3, u4, rfl, g3, g4⟩ := h2
  have hb2 : Below w.heap.size w ((w.alloc (.cells #[u1, u2] 26)).alloc (.cells #[u3, u4] 26)) := ((Below.refl _ _).alloc (Nat.le_refl _) _).alloc (by simp) _
  have H1 : Hid (DfaR 0 ((w.alloc (.cells #[u1, u2] 26)).alloc (.cells #[u3, u4] 26)) (.agg #[u1, u2]) a) := Lib.hid ⟨_, _, rfl, g1.below hb2, g2.below hb2⟩
  have H2 : Hid (DfaR 0 ((w.alloc (.cells #[u1, u2] 26)).alloc (.cells #[u3, u4] 26)) (.agg #[u3, u4]) b) := Lib.hid ⟨_, _, rfl, g3.below hb2, g4.below hb2⟩
  have x0 : Bx ((w.alloc (.cells #[u1, u2] 26)).alloc (.cells #[u3, u4] 26)) w.heap.size #[u1, u2] 26 := (Bx.new w _ _).alloc _
  have x1 : Bx ((w.alloc (.cells #[u1, u2] 26)).alloc (.cells #[u3, u4] 26)) (w.heap.size + 1) #[u3, u4] 26 := by simpa using Bx.new (w.alloc (.cells #[u1, u2] 26)) #[u3, u4] 26
  obtain ⟨i0, hi, hz0, hz1, hz2⟩ := info_parts Try.infoPair
  have G1 := Lib.hid g1
  have G3 := Lib.hid g3
  have Hhb2 := Lib.hid hb2; clear hb2
  have Hx0 := Lib.hid x0; clear x0
  have Hx1 := Lib.hid x1; clear x1
  have HhK := Lib.hid hK; clear hK
  have Hho := Lib.hid ho; clear ho
  have Hhi := Lib.hid hi; clear hi
  have Hhz0 := Lib.hid hz0; clear hz0
  have Hhz1 := Lib.hid hz1; clear hz1
  have Hhz2 := Lib.hid hz2; clear hz2
  clear g1 g2 g3 g4
  cases hs : sameB a b
  all_goals
    have Hhs := Lib.hid hs; clear hs
    go_enter Try.func43, Try.ntmps43
    go_wp2_with fail
    refine (specSame_any a b _ _ _ H1.out H2.out _ Hhs.out).mono ?_
    rintro e w1 ⟨rfl, hb1⟩
    have y0 := Hx0.out.below hb1 Hx0.out.lt
    have y1 := Hx1.out.below hb1 Hx1.out.lt
    have hbw := Hhb2.out.trans (hb1.mono Hhb2.out.size)
    have hw1 : w.heap.size + 2 ≤ w1.heap.size := by have := hb1.size; simpa using this
    have Hhb1 := Lib.hid hb1; clear hb1
    have Hhbw := Lib.hid hbw; clear hbw
    have Hy0 := Lib.hid y0; clear y0
    have Hy1 := Lib.hid y1; clear y1
  · go_wp2
    go_ret2
    refine ⟨?_, Hhbw.out.alloc Hhbw.out.size _⟩
    rw [← Hho.out, Hhs.out]
    exact ⟨_, _, rfl, ⟨rfl, _, _, rfl, Nat.le_refl _, Nat.zero_le _, fun h => absurd h (by simp)⟩, fun h => by simp at h⟩
  · obtain ⟨hda, hdb⟩ := sameB_parts Hhs.out
    have Hrow1 := Lib.hid (fun i hi => dfaOk_row hda (i := i) hi)
    have Hrow2 := Lib.hid (fun i hi => dfaOk_row hdb (i := i) hi)
    have hla := dfaOk_len hda
    have hlb := dfaOk_len hdb
    have Hin := Lib.hid (fun k => bat_all (nx := stepP a b) (a := (0, 0)) (Q := fun x => inPair a b x = true) (inPair_zero hda hdb) (fun x c hc hx => inPair_step hda hdb hc hx) k)
    have Hlen := Lib.hid (fun k => metP_len hda hdb k)
    have Hhda := Lib.hid hda; clear hda
    have Hhdb := Lib.hid hdb; clear hdb
    have Hhla := Lib.hid hla; clear hla
    have Hhlb := Lib.hid hlb; clear hlb
    go_wp2
    go_loopw [6, 7] (fun vl i wr => ∃ k : Nat, i = .int .i64 k ∧ k ≤ (bat (stepP a b) (0, 0) k).met.length ∧ Below w.heap.size w wr ∧ Bx wr w.heap.size #[u1, u2] 26 ∧ Bx wr (w.heap.size + 1) #[u3, u4] 26 ∧
        wr.ownsRow w1.heap.size 56 2 vl (bat (stepP a b) (0, 0) k).met.length ((bat (stepP a b) (0, 0) k).met.flatMap pairCells))
      (fun _ i _ => 1601 - (intOf i).toNat)
    case atStart =>
      have hal := (Below.refl w1.heap.size w1).alloc (Nat.le_refl _) (.cells #[.int .i64 0, .int .i64 0] 56)
      refine ⟨0, rfl, by simp [bat], Hhbw.out.alloc Hhbw.out.size _, Hy0.out.below hal Hy0.out.lt, Hy1.out.below hal Hy1.out.lt, ?_⟩
      exact own_new (cs := [.int .i64 0, .int .i64 0]) (Bx.new w1 _ _) rfl (Nat.le_refl _) (by unfold maxLen; omega)
    case round =>
      obtain ⟨k, rfl, hk, hb, hx0, hx1, hl⟩ := hrel
      obtain ⟨S, hS⟩ : ∃ S, S = bat (stepP a b) (0, 0) k := ⟨_, rfl⟩
      have hR := Hin.out k
      have hML := Hlen.out k
      unfold metP at hML
      rw [← hS] at hk hl hR hML
      have hMp : 0 < S.met.length := by rw [hS]; exact bat_pos k
      obtain ⟨g, cap, rfl, -, hgl⟩ := hl.form hMp
      obtain ⟨wo, hwo⟩ : ∃ wo : World, wo = wr := ⟨_, rfl⟩
      subst hwo
      have Hhl := Lib.hid hl; clear hl
      have Hhb := Lib.hid hb; clear hb
      have HhS := Lib.hid hS; clear hS
      have HhR := Lib.hid hR; clear hR
      have Hhx0 := Lib.hid hx0; clear hx0
      have Hhx1 := Lib.hid hx1; clear hx1
      by_cases hlt : k < S.met.length
      · obtain ⟨i, j, hp, hi, hj⟩ := inPair_nat (HhR.out _ (memD (d := (0, 0)) hlt))
        have Hhp := Lib.hid hp; clear hp
        go_wp2
        go_loopw [6, 8] (fun vl i wi => ∃ n : Nat, i = .int .i64 n ∧ n ≤ 3 ∧ Below w.heap.size w wi ∧ Bx wi w.heap.size #[u1, u2] 26 ∧ Bx wi (w.heap.size + 1) #[u3, u4] 26 ∧
            wi.ownsRow w1.heap.size 56 2 vl (bpart (stepP a b) (0, 0) k n).met.length ((bpart (stepP a b) (0, 0) k n).met.flatMap pairCells))
          (fun _ i _ => 3 - (intOf i).toNat)
        case atStart => exact ⟨0, rfl, by omega, Hhb.out, Hhx0.out, Hhx1.out, by rw [bpart_zero, ← HhS.out]; exact Hhl.out⟩
        case round =>
          obtain ⟨n, rfl, hn, hbi, hy0, hy1, hli⟩ := hrel
          have hkS' : k < (bat (stepP a b) (0, 0) k).met.length := by rw [← HhS.out]; exact hlt
          have hpS : (bat (stepP a b) (0, 0) k).met.getD k (0, 0) = ((i : Int), (j : Int)) := by rw [← HhS.out]; exact Hhp.out
          obtain ⟨wp, hwp⟩ : ∃ wp : World, wp = wr := ⟨_, rfl⟩
          subst hwp
          by_cases hn3 : n < 3
          · have hTl : (bpart (stepP a b) (0, 0) k n).met.length ≤ 1600 := Nat.le_trans (bpart_le_bat hkS' hn (show k < k + 1 by omega)).1.length_le (Hlen.out (k + 1))
            have hle := bpart_le (nx := stepP a b) (a := (0, 0)) (k := k) (Nat.zero_le n)
            rw [bpart_zero, ← HhS.out] at hle
            have hold := bpart_old (nx := stepP a b) (a := (0, 0)) (k := k) (n := n)
            have hnew := bpart_new (nx := stepP a b) (a := (0, 0)) (k := k) (n := n)
            rw [hpS] at hold hnew
            obtain ⟨T, hT⟩ : ∃ T, T = bpart (stepP a b) (0, 0) k n := ⟨_, rfl⟩
            rw [← hT] at hli hold hnew hTl hle
            have hkT : k < T.met.length := Nat.lt_of_lt_of_le hlt hle.1.length_le
            have hpT : T.met.getD k (0, 0) = ((i : Int), (j : Int)) := (prefix_getD hle.1 hlt _).trans Hhp.out
            obtain ⟨g', cap', rfl, -, hgl'⟩ := hli.form (by omega)
            obtain ⟨hq1, hq2⟩ := pair_cells hli hkT
            rw [hpT] at hq1 hq2
            simp only at hq1 hq2
            have x2 := hy0.cell 0
            have x3 := hy1.cell 0
            simp only [List.getElem?_toArray, List.getElem?_cons_zero] at x2 x3
            obtain ⟨q1, o1, cp1, z1, t1, s1, hu1, hv1, hm1, k1, l1, m1, k2, d1, d2⟩ := dfa_cell (G1.out.below hbi) Hhda.out hi hn3
            obtain ⟨q3, o3, cp3, z3, t3, s3, hu3, hv3, hm3, k3, l3, m3, k4, d3, d4⟩ := dfa_cell (G3.out.below hbi) Hhdb.out hj hn3
            rw [hu1] at x2
            rw [hu3] at x3
            obtain ⟨ta, hta⟩ : ∃ ta, ta = (a.next.getD i []).getD n 0 := ⟨_, rfl⟩
            obtain ⟨tb, htb⟩ : ∃ tb, tb = (b.next.getD j []).getD n 0 := ⟨_, rfl⟩
            rw [← hta] at k2
            rw [← htb] at k4
            have hstep : stepP a b ((i : Int), (j : Int)) n = (ta, tb) := by
              simp only [stepP, Int.toNat_natCast, ← hta, ← htb]
            rw [hstep] at hold hnew
            have hiA : (i : Int) < a.next.length := by omega
            have hjB : (j : Int) < b.next.length := by omega
            have hn4 : (n : Int) < 3 := by omega
            have hkT2 : (k : Int) < T.met.length := by omega
            have hww := hbi.size
            have hy0l := hy0.lt
            have hy1l := hy1.lt
            obtain ⟨h40, h41, -⟩ := Hhla.out
            obtain ⟨h42, h43, -⟩ := Hhlb.out
            have HhT := Lib.hid hT; clear hT
            have Hhold := Lib.hid hold; clear hold
            have Hhnew := Lib.hid hnew; clear hnew
            have Hhle := Lib.hid hle; clear hle
            have HhpT := Lib.hid hpT; clear hpT
            have Hhli := Lib.hid hli; clear hli
            have Hhbi := Lib.hid hbi; clear hbi
            have Hhy0 := Lib.hid hy0; clear hy0
            have Hhy1 := Lib.hid hy1; clear hy1
            have Hhta := Lib.hid hta; clear hta
            have Hhtb := Lib.hid htb; clear htb
            have Hhstep := Lib.hid hstep; clear hstep
            have HhpS := Lib.hid hpS; clear hpS
            have Hhu1 := Lib.hid hu1; clear hu1
            have Hhu3 := Lib.hid hu3; clear hu3
            go_wp2
            go_region_held3 (fun w' => w'.cell? ⟨w.heap.size, 0, none⟩ = some (.slice (some ⟨q1, o1, none⟩) a.next.length cp1) ∧ w'.cell? ⟨w.heap.size + 1, 0, none⟩ = some (.slice (some ⟨q3, o3, none⟩) b.next.length cp3) ∧ w'.cell? ⟨q1, o1 + i, none⟩ = some (.slice (some ⟨z1, t1, none⟩) 3 s1) ∧ w'.cell? ⟨q3, o3 + j, none⟩ = some (.slice (some ⟨z3, t3, none⟩) 3 s3) ∧ w'.cell? ⟨z1, t1 + n, none⟩ = some (.int .i64 ta) ∧ w'.cell? ⟨z3, t3 + n, none⟩ = some (.int .i64 tb) ∧
                w'.cell? ⟨g', k * 2, none⟩ = some (.int .i64 i) ∧ w'.cell? ⟨g', k * 2 + 1, none⟩ = some (.int .i64 j))
              (first | go_keep) (fail)
            obtain ⟨w3, hw3⟩ : ∃ w3, w3 = (wp.alloc (.cells #[.int .i64 ta, .int .i64 tb] 56)).drew := ⟨_, rfl⟩
            have hb3 : Below wp.heap.size wp w3 := by rw [hw3]; exact ((Below.refl _ _).alloc (Nat.le_refl _) _).drew
            have x5 : Bx w3 wp.heap.size #[.int .i64 ta, .int .i64 tb] 56 := by rw [hw3]; exact (Bx.new wp _ _).drew
            have hB3 : Below w.heap.size w w3 := Hhbi.out.trans (hb3.mono Hhbi.out.size)
            have e0 := x5.cell 0
            have e1 := x5.cell 1
            simp only [List.getElem?_toArray, List.getElem?_cons_zero, List.getElem?_cons_succ] at e0 e1
            have hl3 := (Own.below (own_of_row Hhli.out) hb3).1
            have hP3 : Pairs 0 w3 (.slice (some ⟨g', 0, none⟩) T.met.length cap') T.met := Sl.mono ((own_of_row hl3).sl (by omega)) (Nat.zero_le _)
            have hy30 := Hhy0.out.below hb3 Hhy0.out.lt
            have hy31 := Hhy1.out.below hb3 Hhy1.out.lt
            rw [← hw3]
            have Hhw3 := Lib.hid hw3; clear hw3
            have Hhb3 := Lib.hid hb3; clear hb3
            have Hx5 := Lib.hid x5; clear x5
            have HhB3 := Lib.hid hB3; clear hB3
            have Hhl3 := Lib.hid hl3; clear hl3
            have HhP3 := Lib.hid hP3; clear hP3
            have Hhy30 := Lib.hid hy30; clear hy30
            have Hhy31 := Lib.hid hy31; clear hy31
            clear k1 k2 k3 k4 hq1 hq2 x2 x3
            cases hmem : decide ((ta, tb) ∈ T.met)
            all_goals
              have Hhmem := Lib.hid hmem; clear hmem
              go_wp2_with fail
              refine (l24Has_any T.met (ta, tb) _ _ HhP3.out _ Hhmem.out).mono ?_
              rintro e w4 ⟨rfl, hb4⟩
              have hB4 := HhB3.out.trans (hb4.mono HhB3.out.size)
              have x6 := Hx5.out.below hb4 Hx5.out.lt
              have f0 := x6.cell 0
              have f1 := x6.cell 1
              simp only [List.getElem?_toArray, List.getElem?_cons_zero, List.getElem?_cons_succ] at f0 f1
              have hl4 := (Own.below (own_of_row Hhl3.out) hb4).1
              have hy40 := Hhy30.out.below hb4 Hhy30.out.lt
              have hy41 := Hhy31.out.below hb4 Hhy31.out.lt
              have hsz4 : w1.heap.size ≤ w4.heap.size := by have := (hl4.lt g' rfl); omega
              have Hhb4 := Lib.hid hb4; clear hb4
              have HhB4 := Lib.hid hB4; clear hB4
              have Hx6 := Lib.hid x6; clear x6
              have Hhl4 := Lib.hid hl4; clear hl4
              have Hhy40 := Lib.hid hy40; clear hy40
              have Hhy41 := Lib.hid hy41; clear hy41
              clear e0 e1
            · have hal := (Below.refl w4.heap.size w4).alloc (Nat.le_refl _) (.cells #[.int .i64 ta, .int .i64 tb] 56)
              have hl5 := (Own.below (own_of_row Hhl4.out) hal).1
              have hbn := Hhnew.out (of_decide_eq_false Hhmem.out)
              have Hhal := Lib.hid hal; clear hal
              have Hhl5 := Lib.hid hl5; clear hl5
              have Hhbn := Lib.hid hbn; clear hbn
              go_wp2_with (at_builtin; refine wpList_append_lies _ rfl _ _ _ rfl w1.heap.size 56 i0 (.agg #[.int .i64 0, .int .i64 0]) 2 16 Try.underlying50 Hhi.out Hhz0.out Hhz1.out Hhz2.out rfl (by omega) _ T.met.length _ rfl Hhl5.out ⟨w4.heap.size, 0, none⟩ 1 1 [.int .i64 ta, .int .i64 tb] rfl rfl (World.news_of_block (heap_alloc_new w4 _)) (by intro u hu; simp at hu; rcases hu with rfl | rfl <;> rfl) (by omega) (by unfold maxLen; omega) (by omega) (by simp; omega) _ rfl ?_; intro g5 c5 w5 hown5 hgrow5 hat5 hlt5; have Hown5 := Lib.hid hown5; have Hgrow5 := Lib.hid (show (w4.alloc (.cells #[.int .i64 ta, .int .i64 tb] 56)).grownBy w5 _ from hgrow5); clear hown5 hgrow5 hat5)
              go_roundw
              case rel =>
                have ap5 : ∀ e, 56 ≠ e → Apart (w4.alloc (.cells #[.int .i64 ta, .int .i64 tb] 56)) _ e := fun e he => ownsRow_apart Hhl5.out he
                refine ⟨n + 1, by go_num, by omega, (HhB4.out.alloc HhB4.out.size _).grown Hgrow5.out (Nat.le_trans HhB4.out.size (by simp)) (fun j hj => Nat.le_trans Hhbw.out.size (World.ownsRow.lt Hhl5.out j hj).1), (Hhy40.out.below Hhal.out Hhy40.out.lt).grown Hgrow5.out (ap5 _ (by decide)), (Hhy41.out.below Hhal.out Hhy41.out.lt).grown Hgrow5.out (ap5 _ (by decide)), ?_⟩
                rw [Hhbn.out]
                have h := Hown5.out
                simp only [List.length_append, List.length_singleton, flat_snoc]
                exact h
              case measure => simp [intOf]; omega
            · have hbo := Hhold.out (of_decide_eq_true Hhmem.out)
              have Hhbo := Lib.hid hbo; clear hbo
              go_wp2
              go_roundw
              case rel => exact ⟨n + 1, by go_num, by omega, HhB4.out, Hhy40.out, Hhy41.out, by rw [Hhbo.out]; exact Hhl4.out⟩
              case measure => simp [intOf]; omega
          · obtain rfl : n = 3 := by omega
            have Hhbi := Lib.hid hbi; clear hbi
            have Hhy0 := Lib.hid hy0; clear hy0
            have Hhy1 := Lib.hid hy1; clear hy1
            have Hhli := Lib.hid hli; clear hli
            go_wp2
            go_roundw
            case rel =>
              have hbs := bat_succ hkS'
              have hle := bpart_le (nx := stepP a b) (a := (0, 0)) (k := k) (Nat.zero_le 3)
              rw [bpart_zero, ← HhS.out] at hle
              have hll := hle.1.length_le
              exact ⟨k + 1, by go_num, by rw [hbs]; omega, Hhbi.out, Hhy0.out, Hhy1.out, by rw [hbs]; exact Hhli.out⟩
            case measure => simp [intOf]; omega
      · have hkS : k = S.met.length := by omega
        have HhkS := Lib.hid hkS; clear hkS
        go_wp2
        go_ret2
        refine ⟨?_, Hhb.out⟩
        have hF : metP a b K = S.met := by
          unfold metP
          rw [bat_done (k := k) (by rw [← HhS.out]; omega) (by have := HhK.out; omega), ← HhS.out]
        rw [← Hho.out, Hhs.out, if_pos rfl, hF]
        exact ⟨_, _, rfl, (Own.sl (own_of_row Hhl.out) (by omega)).mono Hhbw.out.size, fun _ => by
          obtain ⟨p, q⟩ := Hhl.out
          exact ⟨p, q.imp id fun ⟨g, cp, cu, h1, h2, h3⟩ => ⟨g, cp, cu, h1, Nat.le_trans Hhbw.out.size h2, h3⟩⟩⟩
theorem specMakeOwn_any (a b : DfaD) (v1 v2 : Value) (w : World) (h1 : DfaR 0 w v1 a) (h2 : DfaR 0 w v2 b) :
    Calls Try.prog 43 #[v1, v2] w fun e w' => RMpSO w.heap.size (makeP a b) e w' ∧ Below w.heap.size w w' := specMakeKO_any mostP rfl a b v1 v2 w h1 h2 _ rfl
theorem zeroBool (w : World) : (zeroValue 4).run Try.prog w = .ok (.bool false) w := by kernel_rfl
def Among (w : World) (B : Nat) (K : List (Int × Int)) : Prop :=
  ∃ L, MapL Try.prog 56 pairEnc w B L ∧ (∀ p, p ∈ L.map (·.1) ↔ p ∈ K) ∧ ∀ p v, look p L = some v → v = .bool true
theorem Among.below {w w' : World} {B : Nat} {K : List (Int × Int)} (h : Among w B K) (hb : Below w.heap.size w w') : Among w' B K := by
  obtain ⟨L, h1, h2⟩ := h
  exact ⟨L, h1.below hb, h2⟩
theorem Among.look {w : World} {B : Nat} {K : List (Int × Int)} (h : Among w B K) (p : Int × Int) (h1 : fitI p.1) (h2 : fitI p.2) (r : Bool) (hr : decide (p ∈ K) = r) :
    (Instr.lookup 134 (.map (some B)) (.agg #[.int .i64 p.1, .int .i64 p.2]) false).run Try.prog w = .ok (.bool r) w := by
  obtain ⟨L, hL, hK, hv⟩ := h
  obtain ⟨l, hl⟩ := Try.keyOfPair p h1 h2
  have h := hL.lookup Try.lawPair pairEnc_inj Try.underlying134 (zeroBool w) hl
  have e : (Go.Proofs.Ythhbjkgchabfmaa.look p L).getD (.bool false) = .bool r := by
    subst hr
    by_cases hp : p ∈ K
    · have : (Go.Proofs.Ythhbjkgchabfmaa.look p L).isSome = true := look_isSome.2 ((hK p).2 hp)
      obtain ⟨v, hv'⟩ := Option.isSome_iff_exists.1 this
      rw [hv', hv p v hv', decide_eq_true hp]
      rfl
    · have : Go.Proofs.Ythhbjkgchabfmaa.look p L = none := by
        cases hc : Go.Proofs.Ythhbjkgchabfmaa.look p L with
        | none => rfl
        | some v =>
          have : (Go.Proofs.Ythhbjkgchabfmaa.look p L).isSome = true := by rw [hc]; rfl
          exact absurd ((hK p).1 (look_isSome.1 this)) hp
      rw [this, decide_eq_false hp]
      rfl
  rw [e] at h
  exact h
theorem Among.lt {w : World} {B : Nat} {K : List (Int × Int)} (h : Among w B K) : B < w.heap.size := by
  obtain ⟨L, h1, h2⟩ := h
  exact h1.lt
theorem among_upd {L : List ((Int × Int) × Value)} {K : List (Int × Int)} {p : Int × Int} (h1 : ∀ q, q ∈ L.map (·.1) ↔ q ∈ K) (h2 : ∀ q v, look q L = some v → v = .bool true) :
    (∀ q, q ∈ (upd p (.bool true) L).map (·.1) ↔ q ∈ K ++ [p]) ∧ ∀ q v, look q (upd p (.bool true) L) = some v → v = .bool true := by
  refine ⟨fun q => ?_, fun q v hq => ?_⟩
  · rw [keys_upd_mem, h1, List.mem_append, List.mem_singleton]
    exact Or.comm
  · rw [look_upd] at hq
    split at hq
    · simpa using hq.symm
    · exact h2 q v hq
theorem grown_map {B : Nat} {a w w' : World} {b : Nat} (h : Below B a w) (hg : w.grownBy w' (some b)) (hB : B ≤ b) (hs : B ≤ w.heap.size) : Below B a w' :=
  h.grown hg hs (fun k hk => by cases hk; exact hB)
set_option maxRecDepth 100000 in
set_option maxHeartbeats 8000000 in
theorem proves_any (a b : DfaD) (ps : List (Int × Int)) (v1 v2 v3 : Value) (w : World) (h1 : DfaR 0 w v1 a) (h2 : DfaR 0 w v2 b) (h3 : Pairs 0 w v3 ps) (hda : dfaOk a.next a.ends = true) (hdb : dfaOk b.next b.ends = true)
    (r : Bool) (hr : provesB a b ps = r) :
    Calls Try.prog 94 #[v1, v2, v3] w fun e w' => e = .returned (.bool r) ∧ Below w.heap.size w w' := by
  obtain ⟨u1, u2, rfl, g1, g2⟩ := h1
  obtain ⟨u3, u4, rfl, g3, g4⟩ := h2
  obtain ⟨a1, c1, rfl, hc1, hm1, hr1⟩ := g1.formI
  obtain ⟨a2, c2, rfl, hc2, hm2, hr2⟩ := g2.form
  obtain ⟨a3, c3, rfl, hc3, hm3, hr3⟩ := g3.formI
  obtain ⟨a4, c4, rfl, hc4, hm4, hr4⟩ := g4.form
  obtain ⟨a5, c5, rfl, hc5, hm5, hr5⟩ := h3.form
  have Hrow1 := Lib.hid (fun i hi => dfaOk_row hda (i := i) hi)
  have Hrow2 := Lib.hid (fun i hi => dfaOk_row hdb (i := i) hi)
  have hla := dfaOk_len hda
  have hlb := dfaOk_len hdb
  clear g1 g2 g3 g4 h3 hda hdb
  have Hhr := Lib.hid hr; clear hr
  have Hhr1 := Lib.hid hr1; clear hr1
  have Hhr2 := Lib.hid hr2; clear hr2
  have Hhr3 := Lib.hid hr3; clear hr3
  have Hhr4 := Lib.hid hr4; clear hr4
  have Hhr5 := Lib.hid hr5; clear hr5
  have Hhla := Lib.hid hla; clear hla
  have Hhlb := Lib.hid hlb; clear hlb
  by_cases hlen : ps.length ≤ 1600
  · have Hlen := Lib.hid hlen
    have hmm := @run_makeMap Try.prog
    go_enter Try.func94, Try.ntmps94
    go_wp2
    go_loopw [6, 19] (fun r i wr => ∃ k : Nat, k ≤ ps.length ∧ i = .int .i64 k ∧ (ps.take k).all (inPair a b) = true ∧ Among wr (w.heap.size + 1 + 1) (ps.take k) ∧
        Below (w.heap.size + 2) ((w.alloc (.cells #[.slice a1 a.next.length c1, .slice a2 a.ends.length c2] 26)).alloc (.cells #[.slice a3 b.next.length c3, .slice a4 b.ends.length c4] 26)) wr)
      (fun _ i _ => ps.length - (intOf i).toNat)
    case atStart =>
      refine ⟨0, Nat.zero_le _, rfl, rfl, ⟨[], ?_, by simp, by simp [look]⟩, (Below.refl _ _).alloc (by simp) _⟩
      have := MapL.made (P := Try.prog) (kt := 56) (enc := pairEnc) ((w.alloc (.cells #[.slice a1 a.next.length c1, .slice a2 a.ends.length c2] 26)).alloc (.cells #[.slice a3 b.next.length c3, .slice a4 b.ends.length c4] 26))
      simpa using this
    case round =>
      obtain ⟨k, hk, rfl, hall, ham, hb⟩ := hrel
      have hend := below_two hb (by omega)
      have hsz := hb.size
      simp only [World.size_alloc] at hsz
      have hml := ham.lt
      have x0 := ((Bx.new w _ _).alloc _).below hb (by omega)
      have x1 := (Bx.new (w.alloc _) _ _).below hb (by simp)
      have b0 := x0.cell 0
      have b1 := x0.cell 1
      have b2 := x1.cell 0
      have b3 := x1.cell 1
      simp only [List.getElem?_toArray, List.getElem?_cons_zero, List.getElem?_cons_succ, World.size_alloc] at b0 b1 b2 b3
      have hs0 : w.heap.size < wr.heap.size := by omega
      have hs1 : w.heap.size + 1 < wr.heap.size := by omega
      have hwa : IntKind.i64.wrap ((a.next.length : Int) - 1) = (a.next.length : Int) - 1 := IntWalk.i64_in _ (by have := Hhla.out; omega)
      have hwb : IntKind.i64.wrap ((b.next.length : Int) - 1) = (b.next.length : Int) - 1 := IntWalk.i64_in _ (by have := Hhlb.out; omega)
      have Hhall := Lib.hid hall; clear hall
      have Hhb := Lib.hid hb; clear hb
      have Hhend := Lib.hid hend; clear hend
      have Hham := Lib.hid ham; clear ham
      clear x0 x1
      by_cases hlt : k < ps.length
      · obtain ⟨q5, o5, rfl, hB5, hbl5, hcs5⟩ := Hhr5.out (by omega)
        have p1 := (bcell Hhend.out q5 (o5 + k * 2) hbl5).trans (hcs5 k hlt).1
        have p2 := (bcell Hhend.out q5 (o5 + k * 2 + 1) hbl5).trans (hcs5 k hlt).2
        obtain ⟨x, hxx⟩ : ∃ x, x = ps.getD k (0, 0) := ⟨_, rfl⟩
        rw [← hxx] at p1 p2
        obtain ⟨x1, x2⟩ := x
        have Hhxx := Lib.hid hxx; clear hxx
        simp only at p1 p2
        clear hcs5
        cases hin1 : inB x1 0 ((a.next.length : Int) - 1)
        · have Hhin1 := Lib.hid hin1; clear hin1
          go_wp2_with (go_at_call 68; (with_reducible refine (within_any _ _ _ _ _ Hhin1.out).mono ?_); rintro e w' ⟨rfl, rfl⟩)
          go_ret
          exact ⟨by rw [← Hhr.out, provesB_bad hlt (by rw [← Hhxx.out]; exact pairOk_in (by simp [inPair, Hhin1.out]))]; rfl, Hhend.out.alloc (by omega) _⟩
        · cases hin2 : inB x2 0 ((b.next.length : Int) - 1)
          · have Hhin1 := Lib.hid hin1; clear hin1
            have Hhin2 := Lib.hid hin2; clear hin2
            go_wp2_with (first | (go_at_call 68; (with_reducible refine (within_any _ _ _ _ _ Hhin1.out).mono ?_); rintro e w' ⟨rfl, rfl⟩) | (go_at_call 68; (with_reducible refine (within_any _ _ _ _ _ Hhin2.out).mono ?_); rintro e w' ⟨rfl, rfl⟩))
            go_ret
            exact ⟨by rw [← Hhr.out, provesB_bad hlt (by rw [← Hhxx.out]; exact pairOk_in (by simp [inPair, Hhin2.out]))]; rfl, Hhend.out.alloc (by omega) _⟩
          · have hinp : inPair a b (x1, x2) = true := by simp [inPair, hin1, hin2]
            have hf1 : fitI x1 := by have := inB_true hin1; have := Hhla.out; unfold fitI; omega
            have hf2 : fitI x2 := by have := inB_true hin2; have := Hhlb.out; unfold fitI; omega
            obtain ⟨L, hL, hLK, hLv⟩ := Hham.out
            obtain ⟨l, hl⟩ := Try.keyOfPair (x1, x2) hf1 hf2
            have HL := Lib.hid (hL.below ((Below.refl wr.heap.size wr).alloc (Nat.le_refl _) (.cells #[.int .i64 x1, .int .i64 x2] 56)))
            have Hhin1 := Lib.hid hin1; clear hin1
            have Hhin2 := Lib.hid hin2; clear hin2
            have Hhinp := Lib.hid hinp; clear hinp
            have Hhl := Lib.hid hl; clear hl
            have HhLK := Lib.hid hLK; clear hLK
            have HhLv := Lib.hid hLv; clear hLv
            clear hL hf1 hf2
            go_wp2_with (first
              | (go_at_call 68; (with_reducible refine (within_any _ _ _ _ _ Hhin1.out).mono ?_); rintro e w' ⟨rfl, rfl⟩)
              | (go_at_call 68; (with_reducible refine (within_any _ _ _ _ _ Hhin2.out).mono ?_); rintro e w' ⟨rfl, rfl⟩)
              | (at_mapUpdate; refine wpList_mapStore rfl _ _ _ 134 rfl HL.out Try.lawPair pairEnc_inj Try.underlying134 (x1, x2) l Hhl.out (.bool true) rfl rfl rfl ?_; intro w1 hm1 hg1))
            go_roundw
            case rel =>
              refine ⟨k + 1, by omega, by go_num, all_snoc (d := (0, 0)) hlt Hhall.out (by rw [← Hhxx.out]; exact Hhinp.out), ⟨_, hm1, ?_⟩, grown_map (Hhb.out.alloc (by omega) _) hg1 (by omega) (by simp; omega)⟩
              have hu := among_upd (p := (x1, x2)) HhLK.out HhLv.out
              rw [List.take_succ_eq_append_getElem hlt]
              have hxe : ps[k] = (x1, x2) := by have := Hhxx.out; simpa [hlt] using this.symm
              rw [hxe]
              exact hu
            case measure => simp [intOf]; omega
      · have hallps : ps.all (inPair a b) = true := by
          have h3 := Hhall.out
          rwa [List.take_of_length_le (by omega)] at h3
        have hamps : Among wr (w.heap.size + 1 + 1) ps := by
          have h3 := Hham.out
          rwa [List.take_of_length_le (by omega)] at h3
        have Hhallps := Lib.hid hallps; clear hallps
        have Hhamps := Lib.hid hamps; clear hamps
        obtain ⟨wl, hwl⟩ : ∃ wl : World, wl = wr := ⟨_, rfl⟩
        subst hwl
        go_wp2
        go_loopw [6, 46] (fun r i wr => ∃ k : Nat, k ≤ ps.length ∧ i = .int .i64 k ∧ (ps.take k).all (pairOk a b ps) = true ∧ Below wl.heap.size wl wr)
          (fun _ i _ => ps.length - (intOf i).toNat)
        case atStart => exact ⟨0, Nat.zero_le _, rfl, rfl, Below.refl _ _⟩
        case round =>
          obtain ⟨k, hk, rfl, hall2, hb2⟩ := hrel
          have hend2 : Below w.heap.size w wr := Hhend.out.trans (hb2.mono Hhend.out.size)
          have hsz2 := hb2.size
          have e0 := (bcell hb2 _ _ hs0).trans b0
          have e1 := (bcell hb2 _ _ hs0).trans b1
          have e2 := (bcell hb2 _ _ hs1).trans b2
          have e3 := (bcell hb2 _ _ hs1).trans b3
          have ham2 := Hhamps.out.below hb2
          have hz0 : w.heap.size < wr.heap.size := by omega
          have hz1 : w.heap.size + 1 < wr.heap.size := by omega
          have Hhall2 := Lib.hid hall2; clear hall2
          have Hhb2 := Lib.hid hb2; clear hb2
          have Hhend2 := Lib.hid hend2; clear hend2
          by_cases hlt : k < ps.length
          · obtain ⟨q5, o5, rfl, hB5, hbl5, hcs5⟩ := Hhr5.out (by omega)
            have p1 := (bcell Hhend2.out q5 (o5 + k * 2) hbl5).trans (hcs5 k hlt).1
            have p2 := (bcell Hhend2.out q5 (o5 + k * 2 + 1) hbl5).trans (hcs5 k hlt).2
            have hinp : inPair a b (ps.getD k (0, 0)) = true := List.all_eq_true.1 Hhallps.out _ (mem_getD hlt)
            obtain ⟨x, hxx⟩ : ∃ x, x = ps.getD k (0, 0) := ⟨_, rfl⟩
            rw [← hxx] at p1 p2 hinp
            obtain ⟨x1, x2⟩ := x
            have Hhxx := Lib.hid hxx; clear hxx
            simp only at p1 p2
            clear hcs5 b0 b1 b2 b3
            have hinp' := hinp
            unfold inPair at hinp'
            rw [Bool.and_eq_true] at hinp'
            obtain ⟨hi1, hi2⟩ := inB_true hinp'.1
            obtain ⟨hj1, hj2⟩ := inB_true hinp'.2
            simp only at hi1 hi2 hj1 hj2
            obtain ⟨i, rfl⟩ := Int.eq_ofNat_of_zero_le hi1
            obtain ⟨j, rfl⟩ := Int.eq_ofNat_of_zero_le hj1
            have hia : i < a.next.length := by omega
            have hjb : j < b.next.length := by omega
            have hie : (i : Int) < a.ends.length := by have := Hhla.out; omega
            have hje : (j : Int) < b.ends.length := by have := Hhlb.out; omega
            obtain ⟨q2, o2, rfl, hB2, hbl2, hcs2⟩ := Hhr2.out (by omega)
            obtain ⟨q4, o4, rfl, hB4, hbl4, hcs4⟩ := Hhr4.out (by omega)
            have ea0 := (bcell Hhend2.out q2 (o2 + i) hbl2).trans (hcs2 i (by omega))
            have eb0 := (bcell Hhend2.out q4 (o4 + j) hbl4).trans (hcs4 j (by omega))
            obtain ⟨ea, hea⟩ : ∃ ea, ea = a.ends.getD i false := ⟨_, rfl⟩
            obtain ⟨eb, heb⟩ : ∃ eb, eb = b.ends.getD j false := ⟨_, rfl⟩
            rw [← hea] at ea0
            rw [← heb] at eb0
            have hq2 : q2 < wr.heap.size := by omega
            have hq4 : q4 < wr.heap.size := by omega
            have Hhea := Lib.hid hea; clear hea
            have Hheb := Lib.hid heb; clear heb
            have Hhinp := Lib.hid hinp; clear hinp
            have Hham2 := Lib.hid ham2; clear ham2
            clear hi1 hi2 hj1 hj2 hcs2 hcs4 hinp'
            by_cases hee : ea = eb
            · have g1 : (ea != eb) = false := by simpa using hee
              have g2 : (!(ea == eb)) = false := by simpa using hee
              have Hhee := Lib.hid hee; clear hee
              go_wp2
              go_quiet (fail)
              go_wp2
              obtain ⟨wo, hwo⟩ : ∃ wo : World, wo = wr := ⟨_, rfl⟩
              subst hwo
              clear p1 p2 e1 e3 ea0 eb0
              go_loopw [6, 63] (fun r c wi => ∃ n : Nat, n ≤ 3 ∧ c = .int .i64 n ∧ ((List.range n).all fun c => decide (stepP a b ((i : Int), (j : Int)) c ∈ ps)) = true ∧ Below (wo.heap.size + 1) ((wo.alloc (.cells #[.int .i64 i, .int .i64 j] 56)).drewN nq) wi) (fun _ c _ => 3 - (intOf c).toNat)
              case atStart => exact ⟨0, by omega, rfl, rfl, Below.refl _ _⟩
              case round =>
                obtain ⟨n, hn, rfl, hall', hbi⟩ := hrel
                have hW : Below wo.heap.size wo wr := (below_drewN ((Below.refl _ _).alloc (Nat.le_refl _) _) _).trans (hbi.mono (by omega))
                have hsz3 := hbi.size
                have hsz4 : wo.heap.size + 1 ≤ wr.heap.size := by simpa using hsz3
                have y0 := (bcell hW _ _ hz0).trans e0
                have y1 := (bcell hW _ _ hz1).trans e2
                have y2 := (show Bx ((wo.alloc (.cells #[.int .i64 i, .int .i64 j] 56)).drewN nq) wo.heap.size _ _ from Bx.new wo _ _).below hbi (by omega)
                have y3 := y2.cell 0
                have y4 := y2.cell 1
                simp only [List.getElem?_toArray, List.getElem?_cons_zero, List.getElem?_cons_succ] at y3 y4
                have hendi : Below w.heap.size w wr := Hhend2.out.trans (hW.mono Hhend2.out.size)
                have hami := Hham2.out.below hW
                have Hhall' := Lib.hid hall'; clear hall'
                have Hhbi := Lib.hid hbi; clear hbi
                have HhW := Lib.hid hW; clear hW
                have Hhendi := Lib.hid hendi; clear hendi
                have Hhami := Lib.hid hami; clear hami
                clear y2 hsz3
                by_cases hn3 : n < 3
                · obtain ⟨q1, o1, rfl, hB1, hbl1, hcs1⟩ := Hhr1.out (by omega)
                  obtain ⟨q3, o3, rfl, hB3, hbl3, hcs3⟩ := Hhr3.out (by omega)
                  obtain ⟨r1, s1, hc1', hl1', hm1', hI1⟩ := hcs1 i hia
                  obtain ⟨r3, s3, hc3', hl3', hm3', hI3⟩ := hcs3 j hjb
                  obtain ⟨hL1, hT1⟩ := Hrow1.out i hia
                  obtain ⟨hL3, hT3⟩ := Hrow2.out j hjb
                  obtain ⟨ra, hra⟩ : ∃ ra, ra = a.next.getD i [] := ⟨_, rfl⟩
                  obtain ⟨rb, hrb⟩ : ∃ rb, rb = b.next.getD j [] := ⟨_, rfl⟩
                  rw [← hra] at hc1' hl1' hI1 hL1 hT1
                  rw [← hrb] at hc3' hl3' hI3 hL3 hT3
                  obtain ⟨_, _, he1, -, -, hf1⟩ := hI1.form
                  obtain ⟨_, _, he3, -, -, hf3⟩ := hI3.form
                  simp only [Value.slice.injEq, true_and] at he1 he3
                  obtain ⟨rfl, rfl⟩ := he1
                  obtain ⟨rfl, rfl⟩ := he3
                  obtain ⟨z1, t1, rfl, -, hz1', hg1⟩ := hf1 (by omega)
                  obtain ⟨z3, t3, rfl, -, hz3', hg3⟩ := hf3 (by omega)
                  have k1 := (bcell Hhendi.out q1 (o1 + i) hbl1).trans hc1'
                  have k3 := (bcell Hhendi.out q3 (o3 + j) hbl3).trans hc3'
                  have k2 := (bcell Hhendi.out z1 (t1 + n) hz1').trans (hg1 n (by omega))
                  have k4 := (bcell Hhendi.out z3 (t3 + n) hz3').trans (hg3 n (by omega))
                  have hTa := hT1 n hn3
                  have hTb := hT3 n hn3
                  obtain ⟨ta, hta⟩ : ∃ ta, ta = ra.getD n 0 := ⟨_, rfl⟩
                  obtain ⟨tb, htb⟩ : ∃ tb, tb = rb.getD n 0 := ⟨_, rfl⟩
                  rw [← hta] at k2 hTa
                  rw [← htb] at k4 hTb
                  have hiA : (i : Int) < a.next.length := by omega
                  have hjB : (j : Int) < b.next.length := by omega
                  have hnA : (n : Int) < ra.length := by omega
                  have hnB : (n : Int) < rb.length := by omega
                  have hf1 : fitI ta := by have := Hhla.out; unfold fitI; omega
                  have hf2 : fitI tb := by have := Hhlb.out; unfold fitI; omega
                  have hstep : stepP a b ((i : Int), (j : Int)) n = (ta, tb) := by
                    simp only [stepP, Int.toNat_natCast, ← hra, ← hrb, ← hta, ← htb]
                  have Hhra := Lib.hid hra; clear hra
                  have Hhrb := Lib.hid hrb; clear hrb
                  have Hhta := Lib.hid hta; clear hta
                  have Hhtb := Lib.hid htb; clear htb
                  have Hhstep := Lib.hid hstep; clear hstep
                  clear hcs1 hcs3 hg1 hg3 hc1' hc3' hI1 hI3 hL1 hL3 hT1 hT3 hTa hTb
                  cases hmem : decide ((ta, tb) ∈ ps)
                  all_goals
                    have hlk := fun m => (Hhami.out.below (below_drewN (Below.refl _ _) m)).look (ta, tb) hf1 hf2 _ hmem
                    simp only at hlk
                    have Hhmem := Lib.hid hmem; clear hmem
                    have Hhf1 := Lib.hid hf1; clear hf1
                    have Hhf2 := Lib.hid hf2; clear hf2
                    go_wp2
                    go_quiet (fail)
                    go_wp2
                  · go_ret
                    exact ⟨by rw [← Hhr.out, provesB_bad hlt (by rw [← Hhxx.out]; exact pairOk_next hn3 (by rw [Hhstep.out]; exact Hhmem.out))]; rfl, below_drewN Hhendi.out _⟩
                  · go_roundw
                    case rel => exact ⟨n + 1, by omega, by go_num, by rw [List.range_succ, List.all_append, Hhall'.out]; simp only [List.all_cons, List.all_nil, Bool.and_true, Bool.true_and]; rw [Hhstep.out]; exact Hhmem.out, below_drewN Hhbi.out _⟩
                    case measure => simp [intOf]; omega
                · obtain rfl : n = 3 := by omega
                  go_wp2
                  go_roundw
                  case rel =>
                    have hok : pairOk a b ps (ps.getD k (0, 0)) = true := by
                      rw [← Hhxx.out]
                      have hends : endsPair a b ((i : Int), (j : Int)) = true := by
                        simp [endsPair, -List.getD_eq_getElem?_getD, ← Hhea.out, ← Hheb.out, Hhee.out]
                      unfold pairOk nextPair
                      rw [Hhinp.out, hends, Hhall'.out]
                      rfl
                    exact ⟨k + 1, by omega, by go_num, all_snoc (d := (0, 0)) hlt Hhall2.out hok, Hhb2.out.trans (HhW.out.mono Hhb2.out.size)⟩
                  case measure => simp [intOf]; omega
            · have g1 : (ea != eb) = true := by simpa using hee
              have g2 : (!(ea == eb)) = true := by simpa using hee
              have Hhee := Lib.hid hee; clear hee
              go_wp2
              go_quiet (fail)
              go_wp2
              go_ret
              exact ⟨by rw [← Hhr.out, provesB_bad hlt (by rw [← Hhxx.out]; exact pairOk_ends (by simp [endsPair, -List.getD_eq_getElem?_getD, ← Hhea.out, ← Hheb.out, Hhee.out]))]; rfl, below_drewN (Hhend2.out.alloc (by omega) _) _⟩
          · have hfin : provesB a b ps = decide ((0, 0) ∈ ps) := by
              have h3 := Hhall2.out
              rw [List.take_of_length_le (by omega)] at h3
              simp [provesB, h3, Hlen.out]
            have Hhfin := Lib.hid hfin; clear hfin
            cases hz : decide ((0, 0) ∈ ps)
            all_goals
              have hlk := ham2.look (0, 0) (by unfold fitI; simp) (by unfold fitI; simp) _ hz
              simp only at hlk
              have Hhz := Lib.hid hz; clear hz
              go_wp2
              go_ret
              exact ⟨by rw [← Hhr.out, Hhfin.out, Hhz.out]; rfl, Hhend2.out⟩
  · go_enter Try.func94, Try.ntmps94
    go_wp2
    go_ret
    exact ⟨by rw [← Hhr.out, provesB, decide_eq_false hlen]; rfl, ((Below.refl _ _).alloc (Nat.le_refl _) _).alloc (by simp) _⟩
set_option maxRecDepth 100000 in
set_option maxHeartbeats 2000000 in
theorem implCheckPairs_any (a b : DfaD) (ps : List (Int × Int)) (v1 v2 v3 : Value) (w : World) (h1 : DfaR 0 w v1 a) (h2 : DfaR 0 w v2 b) (h3 : Pairs 0 w v3 ps) (r : Bool) (hr : checkB a b ps = r) :
    Calls Try.prog 44 #[v1, v2, v3] w fun e w' => e = .returned (.bool r) ∧ Below w.heap.size w w' := by
  have H1 := Lib.hid h1
  have H2 := Lib.hid h2
  have H3 := Lib.hid h3
  obtain ⟨u1, u2, rfl, g1, g2⟩ := h1
  obtain ⟨u3, u4, rfl, g3, g4⟩ := h2
  obtain ⟨a1, c1, rfl, -⟩ := g1.formI
  obtain ⟨a2, c2, rfl, -⟩ := g2.form
  obtain ⟨a3, c3, rfl, -⟩ := g3.formI
  obtain ⟨a4, c4, rfl, -⟩ := g4.form
  obtain ⟨a5, c5, rfl, -⟩ := h3.form
  clear g1 g2 g3 g4 h3
  have Hhr := Lib.hid hr; clear hr
  cases hda : dfaOk a.next a.ends
  · have Hhda := Lib.hid hda; clear hda
    go_enter Try.func44, Try.ntmps44
    go_wp2_with fail
    refine (implDfaValid_any a _ _ (H1.out.below (((Below.refl _ _).alloc (Nat.le_refl _) _).alloc (by simp) _)) _ Hhda.out).mono ?_
    rintro e w1 ⟨rfl, hb1⟩
    have Hhb1 := Lib.hid hb1; clear hb1
    go_wp2
    go_ret
    exact ⟨by rw [← Hhr.out, checkB, Hhda.out]; rfl, below_two Hhb1.out (by simp; omega)⟩
  · have Hhda := Lib.hid hda; clear hda
    go_enter Try.func44, Try.ntmps44
    go_wp2_with fail
    refine (implDfaValid_any a _ _ (H1.out.below (((Below.refl _ _).alloc (Nat.le_refl _) _).alloc (by simp) _)) _ Hhda.out).mono ?_
    rintro e w1 ⟨rfl, hb1⟩
    have x0 := ((Bx.new w _ _).alloc _).below hb1 (by simp; omega)
    have x1 := (Bx.new (w.alloc _) _ _).below hb1 (by simp)
    have e0 := x1.cell 0
    have e1 := x1.cell 1
    simp only [List.getElem?_toArray, List.getElem?_cons_zero, List.getElem?_cons_succ, World.size_alloc] at e0 e1
    have hbw := below_two hb1 (by simp; omega)
    have Hhb1 := Lib.hid hb1; clear hb1
    have Hhbw := Lib.hid hbw; clear hbw
    have Hx0 := Lib.hid x0; clear x0
    have Hx1 := Lib.hid x1; clear x1
    cases hdb : dfaOk b.next b.ends
    · have Hhdb := Lib.hid hdb; clear hdb
      go_wp2_with fail
      refine (implDfaValid_any b _ _ (H2.out.below Hhbw.out) _ Hhdb.out).mono ?_
      rintro e w2 ⟨rfl, hb2⟩
      have Hhb2 := Lib.hid hb2; clear hb2
      go_wp2
      go_ret
      exact ⟨by rw [← Hhr.out, checkB, Hhda.out, Hhdb.out]; rfl, Hhbw.out.trans (Hhb2.out.mono Hhbw.out.size)⟩
    · have hchk : checkB a b ps = provesB a b ps := by rw [checkB, Hhda.out, hdb]; rfl
      have Hhchk := Lib.hid hchk; clear hchk
      have Hhdb := Lib.hid hdb; clear hdb
      go_wp2_with fail
      refine (implDfaValid_any b _ _ (H2.out.below Hhbw.out) _ Hhdb.out).mono ?_
      rintro e w2 ⟨rfl, hb2⟩
      have hbb := Hhbw.out.trans (hb2.mono Hhbw.out.size)
      have y0 := Hx0.out.below hb2 (by have := Hx0.out.lt; exact this)
      have y1 := Hx1.out.below hb2 (by have := Hx1.out.lt; exact this)
      have f0 := y0.cell 0
      have f1 := y0.cell 1
      have f2 := y1.cell 0
      have f3 := y1.cell 1
      simp only [List.getElem?_toArray, List.getElem?_cons_zero, List.getElem?_cons_succ, World.size_alloc] at f0 f1 f2 f3
      have Hhb2 := Lib.hid hb2; clear hb2
      have Hhbb := Lib.hid hbb; clear hbb
      clear e0 e1 y0 y1
      go_wp2_with fail
      refine (proves_any a b ps _ _ _ _ (H1.out.below Hhbb.out) (H2.out.below Hhbb.out) (H3.out.below Hhbb.out) Hhda.out Hhdb.out r (by rw [← Hhr.out, Hhchk.out])).mono ?_
      rintro e w3 ⟨rfl, hb3⟩
      have Hhb3 := Lib.hid hb3; clear hb3
      go_wp2
      go_ret
      exact ⟨rfl, Hhbb.out.trans (Hhb3.out.mono Hhbb.out.size)⟩
end Go.Proofs.Ythhbjkgchabfmaa
namespace Go.Proofs.Ythhbjkgchabfmaa
open Go.RowKit
section
variable {α β : Type} [DecidableEq α] [DecidableEq β] {nx : α → Nat → α} {nx' : β → Nat → β} {a : α} {f : α → β}
theorem bat_words (k : Nat) : ∀ i, i < (bat nx a k).met.length → ((bat nx a k).words.getD i []).foldl nx a = (bat nx a k).met.getD i a ∧ isW ((bat nx a k).words.getD i []) := by
  have h := bat_ind (nx := nx) (a := a) (fun s => s.words.length = s.met.length ∧ ∀ i, i < s.met.length → (s.words.getD i []).foldl nx a = s.met.getD i a ∧ isW (s.words.getD i [])) ⟨rfl, fun i hi => by
    obtain rfl : i = 0 := by simpa using hi
    exact ⟨rfl, fun c hc => by simp at hc⟩⟩ (fun s k hk t c hc hs ht => by
      unfold bvisit
      split
      · exact ht
      · refine ⟨by simp [ht.1], fun i hi => ?_⟩
        simp only [List.length_append, List.length_singleton] at hi
        by_cases hit : i < t.met.length
        · have h1 := ht.2 i hit
          have e1 : (t.words ++ [s.words.getD k [] ++ [c]]).getD i [] = t.words.getD i [] := by
            simp only [List.getD_eq_getElem?_getD]; rw [List.getElem?_append_left (by rw [ht.1]; exact hit)]
          have e2 : (t.met ++ [nx (s.met.getD k a) c]).getD i a = t.met.getD i a := by
            simp only [List.getD_eq_getElem?_getD]; rw [List.getElem?_append_left hit]
          show ((t.words ++ [s.words.getD k [] ++ [c]]).getD i []).foldl nx a = (t.met ++ [nx (s.met.getD k a) c]).getD i a ∧ isW ((t.words ++ [s.words.getD k [] ++ [c]]).getD i [])
          rw [e1, e2]
          exact h1
        · obtain rfl : i = t.met.length := by omega
          have h2 := hs.2 k hk
          have e1 : (t.words ++ [s.words.getD k [] ++ [c]]).getD t.met.length [] = s.words.getD k [] ++ [c] := by simp [← ht.1]
          have e2 : (t.met ++ [nx (s.met.getD k a) c]).getD t.met.length a = nx (s.met.getD k a) c := by simp
          show ((t.words ++ [s.words.getD k [] ++ [c]]).getD t.met.length []).foldl nx a = (t.met ++ [nx (s.met.getD k a) c]).getD t.met.length a ∧ isW ((t.words ++ [s.words.getD k [] ++ [c]]).getD t.met.length [])
          rw [e1, e2, List.foldl_append, h2.1]
          exact ⟨rfl, isW_append h2.2 (isW_one hc)⟩) k
  exact h.2
end
theorem firstHit_some {α : Type} {en : α → Bool} {s : Bs α} {w : List Nat} {d : α} (hl : s.words.length = s.met.length) (h : firstHit en s = some w) : ∃ i, i < s.met.length ∧ s.words.getD i [] = w ∧ en (s.met.getD i d) = true := by
  unfold firstHit at h
  rw [Option.map_eq_some_iff] at h
  obtain ⟨p, hp, rfl⟩ := h
  obtain ⟨h1, i, hi, hpi, -⟩ := List.find?_eq_some_iff_getElem.1 hp
  rw [List.length_zip] at hi
  have him : i < s.met.length := by omega
  have hiw : i < s.words.length := by omega
  rw [List.getElem_zip] at hpi
  refine ⟨i, him, ?_, ?_⟩
  · rw [getD_at hiw, ← hpi]
  · rw [getD_at him]
    rw [← hpi] at h1
    exact h1
theorem stepP_fold (a b : DfaD) : ∀ (w : List Nat) (s t : Int), w.foldl (stepP a b) (s, t) = (runD a s w, runD b t w)
  | [], _, _ => rfl
  | c :: w, s, t => stepP_fold a b w (dnx a s c) (dnx b t c)
theorem hit_says {K : Nat} {a b : DfaD} {w : List Nat} (h : hitK K a b = some w) : isW w ∧ accD a w ≠ accD b w := by
  have hg := (bat_good (nx := stepP a b) (a := ((0, 0) : Int × Int)) K).2.1
  obtain ⟨i, hi, hw, he⟩ := firstHit_some (d := ((0, 0) : Int × Int)) hg h
  obtain ⟨h1, h2⟩ := bat_words (nx := stepP a b) (a := ((0, 0) : Int × Int)) K i hi
  rw [hw] at h1 h2
  rw [stepP_fold] at h1
  refine ⟨h2, fun e => ?_⟩
  unfold endsF at he
  rw [← h1] at he
  unfold accD den at e
  simp only at he
  rw [e] at he
  simp at he
theorem isW_cons {c : Nat} {w : List Nat} (h : isW (c :: w)) : c < 3 ∧ isW w := ⟨h c (by simp), fun b hb => h b (by simp [hb])⟩
theorem hitK_none {K : Nat} {a b : DfaD} (h : hitK K a b = none) : ∀ p ∈ metP a b K, den a p.1 = den b p.2 := fun p hp => by
  have hg := (bat_good (nx := stepP a b) (a := ((0, 0) : Int × Int)) K).2.1
  obtain ⟨j, hj, rfl⟩ := List.mem_iff_getElem.1 hp
  unfold hitK firstHit at h
  rw [Option.map_eq_none_iff, List.find?_eq_none] at h
  have hj' : j < (bat (stepP a b) (0, 0) K).met.length := hj
  have hz : j < ((bat (stepP a b) (0, 0) K).met.zip (bat (stepP a b) (0, 0) K).words).length := by
    rw [List.length_zip, hg]
    omega
  have h1 := h _ (List.getElem_mem hz)
  rw [List.getElem_zip] at h1
  have h2 : endsF (fun x y => x != y) a b (metP a b K)[j] = false := by simpa using h1
  unfold endsF at h2
  simpa [den] using h2
theorem metP_zero (a b : DfaD) (K : Nat) : ((0, 0) : Int × Int) ∈ metP a b K := bat_mem_first K
theorem met_run {a b : DfaD} {S : List (Int × Int)} (hc : ∀ p ∈ S, ∀ c, c < 3 → stepP a b p c ∈ S) : ∀ (w : List Nat), isW w → ∀ p ∈ S, (runD a p.1 w, runD b p.2 w) ∈ S
  | [], _, p, hp => hp
  | c :: w, hw, p, hp => by
    obtain ⟨h1, h2⟩ := isW_cons hw
    have := met_run hc w h2 (stepP a b p c) (hc p hp c h1)
    exact this
theorem same_of {a b : DfaD} {S : List (Int × Int)} (hc : ∀ p ∈ S, ∀ c, c < 3 → stepP a b p c ∈ S) (h0 : ((0, 0) : Int × Int) ∈ S) (he : ∀ p ∈ S, den a p.1 = den b p.2) {w : List Nat} (hw : isW w) : accD a w = accD b w :=
  he _ (met_run hc w hw (0, 0) h0)
theorem most_le {a b : DfaD} (ha : dfaOk a.next a.ends = true) (hb : dfaOk b.next b.ends = true) {K : Nat} (hK : 1600 ≤ K) : (metP a b K).length ≤ K := Nat.le_trans (metP_len ha hb K) hK
theorem metP_closed {a b : DfaD} (ha : dfaOk a.next a.ends = true) (hb : dfaOk b.next b.ends = true) {K : Nat} (hK : 1600 ≤ K) : ∀ p ∈ metP a b K, ∀ c, c < 3 → stepP a b p c ∈ metP a b K := fun _ hp _ hc => bat_closed (most_le ha hb hK) hp hc
theorem hitK_iff {a b : DfaD} (ha : dfaOk a.next a.ends = true) (hb : dfaOk b.next b.ends = true) {K : Nat} (hK : 1600 ≤ K) : hitK K a b = none ↔ ∀ w, isW w → accD a w = accD b w := by
  constructor
  · intro h w hw
    exact same_of (metP_closed ha hb hK) (metP_zero a b K) (hitK_none h) hw
  · intro h
    cases hh : hitK K a b with
    | none => rfl
    | some w =>
      obtain ⟨h1, h2⟩ := hit_says hh
      exact absurd (h w h1) h2
theorem mostP_ge : 1600 ≤ mostP := Nat.le_refl _
theorem sameB_iff {a b : DfaD} : sameB a b = true ↔ dfaOk a.next a.ends = true ∧ dfaOk b.next b.ends = true ∧ ∀ w, isW w → accD a w = accD b w := by
  unfold sameB
  rw [Bool.and_eq_true, Bool.and_eq_true, Option.isNone_iff_eq_none, and_assoc]
  constructor
  · rintro ⟨ha, hb, h⟩
    exact ⟨ha, hb, (hitK_iff ha hb mostP_ge).1 h⟩
  · rintro ⟨ha, hb, h⟩
    exact ⟨ha, hb, (hitK_iff ha hb mostP_ge).2 h⟩
theorem check_iff {a b : DfaD} {ps : List (Int × Int)} : checkB a b ps = true ↔ (dfaOk a.next a.ends = true ∧ dfaOk b.next b.ends = true) ∧ ps.length ≤ 1600 ∧ (∀ p ∈ ps, inPair a b p = true ∧ den a p.1 = den b p.2 ∧ ∀ c, c < 3 → stepP a b p c ∈ ps) ∧ (0, 0) ∈ ps := by
  unfold checkB provesB
  simp only [Bool.and_eq_true, decide_eq_true_eq, List.all_eq_true, pairOk, endsPair, nextPair, beq_iff_eq, List.mem_range]
  constructor
  · rintro ⟨h1, ⟨h2, h3⟩, h4⟩
    exact ⟨h1, h2, fun p hp => ⟨(h3 p hp).1.1, (h3 p hp).1.2, (h3 p hp).2⟩, h4⟩
  · rintro ⟨h1, h2, h3, h4⟩
    exact ⟨h1, ⟨h2, fun p hp => ⟨⟨(h3 p hp).1, (h3 p hp).2.1⟩, (h3 p hp).2.2⟩⟩, h4⟩
theorem check_same {a b : DfaD} {ps : List (Int × Int)} (h : checkB a b ps = true) : sameB a b = true := by
  obtain ⟨⟨ha, hb⟩, -, h2, h3⟩ := check_iff.1 h
  exact sameB_iff.2 ⟨ha, hb, fun w hw => same_of (fun p hp => (h2 p hp).2.2) h3 (fun p hp => (h2 p hp).2.1) hw⟩
theorem metP_in {a b : DfaD} (ha : dfaOk a.next a.ends = true) (hb : dfaOk b.next b.ends = true) (K : Nat) : ∀ p ∈ metP a b K, inPair a b p = true :=
  bat_all (nx := stepP a b) (a := ((0, 0) : Int × Int)) (Q := fun p => inPair a b p = true) (inPair_zero ha hb) (fun _ _ hc hx => inPair_step ha hb hc hx) K
theorem met_check {a b : DfaD} {K : Nat} (hK : 1600 ≤ K) (h : sameB a b = true) : checkB a b (metP a b K) = true := by
  obtain ⟨ha, hb, hs⟩ := sameB_iff.1 h
  refine check_iff.2 ⟨⟨ha, hb⟩, metP_len ha hb K, fun p hp => ⟨metP_in ha hb K p hp, hitK_none ((hitK_iff ha hb hK).2 hs) p hp, metP_closed ha hb hK p hp⟩, metP_zero a b K⟩
end Go.Proofs.Ythhbjkgchabfmaa
