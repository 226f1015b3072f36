/-
  The walk over the reference's MakePairs.
  Conditions: the automata read as such.
-/
import Derived.Test.YtclhcfmlkfiidaaSm
namespace Go.Proofs.Ytclhcfmlkfiidaa
open Go.RowKit Go.Maps

/-- What it hands back: a list that reads as the pairs, none without them. -/
def RMpS (B : Nat) (o : Option (List (Int × Int))) (e : Ending) (w' : World) : Prop := ∃ a cap, e = .returned (.tuple #[.slice a (o.getD []).length cap, .bool o.isSome]) ∧ Pairs B w' (.slice a (o.getD []).length cap) (o.getD [])

set_option maxRecDepth 100000 in
set_option maxHeartbeats 8000000 in
theorem specMakeK_any (K : Nat) (hK : K = 1600) (a b : DfaD) (v1 v2 : Value) (w : World) (h1 : DfaR 0 w v1 a) (h2 : DfaR 0 w v2 b) (o : Option (List (Int × Int))) (ho : (if sameB a b = true then some (metP a b K) else none) = o) :
    Calls Try.prog 37 #[v1, v2] w fun e w' => RMpS w.heap.size o e w' ∧ Below w.heap.size w w' := by
  obtain ⟨u1, u2, rfl, g1, g2⟩ := h1
  obtain ⟨u3, u4, rfl, g3, g4⟩ := h2
  have hb2 : Below w.heap.size w ((w.alloc (.cells #[u1, u2] 32)).alloc (.cells #[u3, u4] 32)) := ((Below.refl _ _).alloc (Nat.le_refl _) _).alloc (by simp) _
  have H1 : Hid (DfaR 0 ((w.alloc (.cells #[u1, u2] 32)).alloc (.cells #[u3, u4] 32)) (.agg #[u1, u2]) a) := Lib.hid ⟨_, _, rfl, g1.below hb2, g2.below hb2⟩
  have H2 : Hid (DfaR 0 ((w.alloc (.cells #[u1, u2] 32)).alloc (.cells #[u3, u4] 32)) (.agg #[u3, u4]) b) := Lib.hid ⟨_, _, rfl, g3.below hb2, g4.below hb2⟩
  have x0 : Bx ((w.alloc (.cells #[u1, u2] 32)).alloc (.cells #[u3, u4] 32)) w.heap.size #[u1, u2] 32 := (Bx.new w _ _).alloc _
  have x1 : Bx ((w.alloc (.cells #[u1, u2] 32)).alloc (.cells #[u3, u4] 32)) (w.heap.size + 1) #[u3, u4] 32 := by simpa using Bx.new (w.alloc (.cells #[u1, u2] 32)) #[u3, u4] 32
  obtain ⟨i0, hi, hz0, hz1, hz2⟩ := info_parts Try.infoPair
  have G1 := Lib.hid g1
  have G3 := Lib.hid g3
  have Hhb2 := Lib.hid hb2; clear hb2
  have Hx0 := Lib.hid x0; clear x0
  have Hx1 := Lib.hid x1; clear x1
  have HhK := Lib.hid hK; clear hK
  have Hho := Lib.hid ho; clear ho
  have Hhi := Lib.hid hi; clear hi
  have Hhz0 := Lib.hid hz0; clear hz0
  have Hhz1 := Lib.hid hz1; clear hz1
  have Hhz2 := Lib.hid hz2; clear hz2
  clear g1 g2 g3 g4
  cases hs : sameB a b
  all_goals
    have Hhs := Lib.hid hs; clear hs
    go_enter Try.func37, Try.ntmps37
    go_wp2_with fail
    refine (specSame_any a b _ _ _ H1.out H2.out _ Hhs.out).mono ?_
    rintro e w1 ⟨rfl, hb1⟩
    have y0 := Hx0.out.below hb1 Hx0.out.lt
    have y1 := Hx1.out.below hb1 Hx1.out.lt
    have hbw := Hhb2.out.trans (hb1.mono Hhb2.out.size)
    have hw1 : w.heap.size + 2 ≤ w1.heap.size := by have := hb1.size; simpa using this
    have Hhb1 := Lib.hid hb1; clear hb1
    have Hhbw := Lib.hid hbw; clear hbw
    have Hy0 := Lib.hid y0; clear y0
    have Hy1 := Lib.hid y1; clear y1
  · go_wp2
    go_ret2
    refine ⟨?_, Hhbw.out.alloc Hhbw.out.size _⟩
    rw [← Hho.out, Hhs.out]
    exact ⟨_, _, rfl, rfl, _, _, rfl, Nat.le_refl _, Nat.zero_le _, fun h => absurd h (by simp)⟩
  · obtain ⟨hda, hdb⟩ := sameB_parts Hhs.out
    have Hrow1 := Lib.hid (fun i hi => dfaOk_row hda (i := i) hi)
    have Hrow2 := Lib.hid (fun i hi => dfaOk_row hdb (i := i) hi)
    have hla := dfaOk_len hda
    have hlb := dfaOk_len hdb
    have Hin := Lib.hid (fun k => bat_all (nx := stepP a b) (a := (0, 0)) (Q := fun x => inPair a b x = true) (inPair_zero hda hdb) (fun x c hc hx => inPair_step hda hdb hc hx) k)
    have Hlen := Lib.hid (fun k => metP_len hda hdb k)
    have Hhda := Lib.hid hda; clear hda
    have Hhdb := Lib.hid hdb; clear hdb
    have Hhla := Lib.hid hla; clear hla
    have Hhlb := Lib.hid hlb; clear hlb
    go_wp2
    go_loopw [6, 7] (fun vl i wr => ∃ k : Nat, i = .int .i64 k ∧ k ≤ (bat (stepP a b) (0, 0) k).met.length ∧ Below w.heap.size w wr ∧ Bx wr w.heap.size #[u1, u2] 32 ∧ Bx wr (w.heap.size + 1) #[u3, u4] 32 ∧
        wr.ownsRow w1.heap.size 55 2 vl (bat (stepP a b) (0, 0) k).met.length ((bat (stepP a b) (0, 0) k).met.flatMap pairCells))
      (fun _ i _ => 1601 - (intOf i).toNat)
    case atStart =>
      have hal := (Below.refl w1.heap.size w1).alloc (Nat.le_refl _) (.cells #[.int .i64 0, .int .i64 0] 55)
      refine ⟨0, rfl, by simp [bat], Hhbw.out.alloc Hhbw.out.size _, Hy0.out.below hal Hy0.out.lt, Hy1.out.below hal Hy1.out.lt, ?_⟩
      exact own_new (cs := [.int .i64 0, .int .i64 0]) (Bx.new w1 _ _) rfl (Nat.le_refl _) (by unfold maxLen; omega)
    case round =>
      obtain ⟨k, rfl, hk, hb, hx0, hx1, hl⟩ := hrel
      obtain ⟨S, hS⟩ : ∃ S, S = bat (stepP a b) (0, 0) k := ⟨_, rfl⟩
      have hR := Hin.out k
      have hML := Hlen.out k
      unfold metP at hML
      rw [← hS] at hk hl hR hML
      have hMp : 0 < S.met.length := by rw [hS]; exact bat_pos k
      obtain ⟨g, cap, rfl, -, hgl⟩ := hl.form hMp
      obtain ⟨wo, hwo⟩ : ∃ wo : World, wo = wr := ⟨_, rfl⟩
      subst hwo
      have Hhl := Lib.hid hl; clear hl
      have Hhb := Lib.hid hb; clear hb
      have HhS := Lib.hid hS; clear hS
      have HhR := Lib.hid hR; clear hR
      have Hhx0 := Lib.hid hx0; clear hx0
      have Hhx1 := Lib.hid hx1; clear hx1
      by_cases hlt : k < S.met.length
      · obtain ⟨i, j, hp, hi, hj⟩ := inPair_nat (HhR.out _ (memD (d := (0, 0)) hlt))
        have Hhp := Lib.hid hp; clear hp
        go_wp2
        go_loopw [6, 8] (fun vl i wi => ∃ n : Nat, i = .int .i64 n ∧ n ≤ 3 ∧ Below w.heap.size w wi ∧ Bx wi w.heap.size #[u1, u2] 32 ∧ Bx wi (w.heap.size + 1) #[u3, u4] 32 ∧
            wi.ownsRow w1.heap.size 55 2 vl (bpart (stepP a b) (0, 0) k n).met.length ((bpart (stepP a b) (0, 0) k n).met.flatMap pairCells))
          (fun _ i _ => 3 - (intOf i).toNat)
        case atStart => exact ⟨0, rfl, by omega, Hhb.out, Hhx0.out, Hhx1.out, by rw [bpart_zero, ← HhS.out]; exact Hhl.out⟩
        case round =>
          obtain ⟨n, rfl, hn, hbi, hy0, hy1, hli⟩ := hrel
          have hkS' : k < (bat (stepP a b) (0, 0) k).met.length := by rw [← HhS.out]; exact hlt
          have hpS : (bat (stepP a b) (0, 0) k).met.getD k (0, 0) = ((i : Int), (j : Int)) := by rw [← HhS.out]; exact Hhp.out
          obtain ⟨wp, hwp⟩ : ∃ wp : World, wp = wr := ⟨_, rfl⟩
          subst hwp
          by_cases hn3 : n < 3
          · have hTl : (bpart (stepP a b) (0, 0) k n).met.length ≤ 1600 := Nat.le_trans (bpart_le_bat hkS' hn (show k < k + 1 by omega)).1.length_le (Hlen.out (k + 1))
            have hle := bpart_le (nx := stepP a b) (a := (0, 0)) (k := k) (Nat.zero_le n)
            rw [bpart_zero, ← HhS.out] at hle
            have hold := bpart_old (nx := stepP a b) (a := (0, 0)) (k := k) (n := n)
            have hnew := bpart_new (nx := stepP a b) (a := (0, 0)) (k := k) (n := n)
            rw [hpS] at hold hnew
            obtain ⟨T, hT⟩ : ∃ T, T = bpart (stepP a b) (0, 0) k n := ⟨_, rfl⟩
            rw [← hT] at hli hold hnew hTl hle
            have hkT : k < T.met.length := Nat.lt_of_lt_of_le hlt hle.1.length_le
            have hpT : T.met.getD k (0, 0) = ((i : Int), (j : Int)) := (prefix_getD hle.1 hlt _).trans Hhp.out
            obtain ⟨g', cap', rfl, -, hgl'⟩ := hli.form (by omega)
            obtain ⟨hq1, hq2⟩ := pair_cells hli hkT
            rw [hpT] at hq1 hq2
            simp only at hq1 hq2
            have x2 := hy0.cell 0
            have x3 := hy1.cell 0
            simp only [List.getElem?_toArray, List.getElem?_cons_zero] at x2 x3
            obtain ⟨q1, o1, cp1, z1, t1, s1, hu1, hv1, hm1, k1, l1, m1, k2, d1, d2⟩ := dfa_cell (G1.out.below hbi) Hhda.out hi hn3
            obtain ⟨q3, o3, cp3, z3, t3, s3, hu3, hv3, hm3, k3, l3, m3, k4, d3, d4⟩ := dfa_cell (G3.out.below hbi) Hhdb.out hj hn3
            rw [hu1] at x2
            rw [hu3] at x3
            obtain ⟨ta, hta⟩ : ∃ ta, ta = (a.next.getD i []).getD n 0 := ⟨_, rfl⟩
            obtain ⟨tb, htb⟩ : ∃ tb, tb = (b.next.getD j []).getD n 0 := ⟨_, rfl⟩
            rw [← hta] at k2
            rw [← htb] at k4
            have hstep : stepP a b ((i : Int), (j : Int)) n = (ta, tb) := by
              simp only [stepP, Int.toNat_natCast, ← hta, ← htb]
            rw [hstep] at hold hnew
            have hiA : (i : Int) < a.next.length := by omega
            have hjB : (j : Int) < b.next.length := by omega
            have hn4 : (n : Int) < 3 := by omega
            have hkT2 : (k : Int) < T.met.length := by omega
            have hww := hbi.size
            have hy0l := hy0.lt
            have hy1l := hy1.lt
            obtain ⟨h40, h41, -⟩ := Hhla.out
            obtain ⟨h42, h43, -⟩ := Hhlb.out
            have HhT := Lib.hid hT; clear hT
            have Hhold := Lib.hid hold; clear hold
            have Hhnew := Lib.hid hnew; clear hnew
            have Hhle := Lib.hid hle; clear hle
            have HhpT := Lib.hid hpT; clear hpT
            have Hhli := Lib.hid hli; clear hli
            have Hhbi := Lib.hid hbi; clear hbi
            have Hhy0 := Lib.hid hy0; clear hy0
            have Hhy1 := Lib.hid hy1; clear hy1
            have Hhta := Lib.hid hta; clear hta
            have Hhtb := Lib.hid htb; clear htb
            have Hhstep := Lib.hid hstep; clear hstep
            have HhpS := Lib.hid hpS; clear hpS
            have Hhu1 := Lib.hid hu1; clear hu1
            have Hhu3 := Lib.hid hu3; clear hu3
            go_wp2
            go_region_held3 (fun w' => w'.cell? ⟨w.heap.size, 0, none⟩ = some (.slice (some ⟨q1, o1, none⟩) a.next.length cp1) ∧ w'.cell? ⟨w.heap.size + 1, 0, none⟩ = some (.slice (some ⟨q3, o3, none⟩) b.next.length cp3) ∧ w'.cell? ⟨q1, o1 + i, none⟩ = some (.slice (some ⟨z1, t1, none⟩) 3 s1) ∧ w'.cell? ⟨q3, o3 + j, none⟩ = some (.slice (some ⟨z3, t3, none⟩) 3 s3) ∧ w'.cell? ⟨z1, t1 + n, none⟩ = some (.int .i64 ta) ∧ w'.cell? ⟨z3, t3 + n, none⟩ = some (.int .i64 tb) ∧
                w'.cell? ⟨g', k * 2, none⟩ = some (.int .i64 i) ∧ w'.cell? ⟨g', k * 2 + 1, none⟩ = some (.int .i64 j))
              (first | go_keep) (fail)
            obtain ⟨w3, hw3⟩ : ∃ w3, w3 = (wp.alloc (.cells #[.int .i64 ta, .int .i64 tb] 55)).drew := ⟨_, rfl⟩
            have hb3 : Below wp.heap.size wp w3 := by rw [hw3]; exact ((Below.refl _ _).alloc (Nat.le_refl _) _).drew
            have x5 : Bx w3 wp.heap.size #[.int .i64 ta, .int .i64 tb] 55 := by rw [hw3]; exact (Bx.new wp _ _).drew
            have hB3 : Below w.heap.size w w3 := Hhbi.out.trans (hb3.mono Hhbi.out.size)
            have e0 := x5.cell 0
            have e1 := x5.cell 1
            simp only [List.getElem?_toArray, List.getElem?_cons_zero, List.getElem?_cons_succ] at e0 e1
            have hl3 := (Own.below (own_of_row Hhli.out) hb3).1
            have hP3 : Pairs 0 w3 (.slice (some ⟨g', 0, none⟩) T.met.length cap') T.met := Sl.mono ((own_of_row hl3).sl (by omega)) (Nat.zero_le _)
            have hy30 := Hhy0.out.below hb3 Hhy0.out.lt
            have hy31 := Hhy1.out.below hb3 Hhy1.out.lt
            rw [← hw3]
            have Hhw3 := Lib.hid hw3; clear hw3
            have Hhb3 := Lib.hid hb3; clear hb3
            have Hx5 := Lib.hid x5; clear x5
            have HhB3 := Lib.hid hB3; clear hB3
            have Hhl3 := Lib.hid hl3; clear hl3
            have HhP3 := Lib.hid hP3; clear hP3
            have Hhy30 := Lib.hid hy30; clear hy30
            have Hhy31 := Lib.hid hy31; clear hy31
            clear k1 k2 k3 k4 hq1 hq2 x2 x3
            cases hmem : decide ((ta, tb) ∈ T.met)
            all_goals
              have Hhmem := Lib.hid hmem; clear hmem
              go_wp2_with fail
              refine (l24Has_any T.met (ta, tb) _ _ HhP3.out _ Hhmem.out).mono ?_
              rintro e w4 ⟨rfl, hb4⟩
              have hB4 := HhB3.out.trans (hb4.mono HhB3.out.size)
              have x6 := Hx5.out.below hb4 Hx5.out.lt
              have f0 := x6.cell 0
              have f1 := x6.cell 1
              simp only [List.getElem?_toArray, List.getElem?_cons_zero, List.getElem?_cons_succ] at f0 f1
              have hl4 := (Own.below (own_of_row Hhl3.out) hb4).1
              have hy40 := Hhy30.out.below hb4 Hhy30.out.lt
              have hy41 := Hhy31.out.below hb4 Hhy31.out.lt
              have hsz4 : w1.heap.size ≤ w4.heap.size := by have := (hl4.lt g' rfl); omega
              have Hhb4 := Lib.hid hb4; clear hb4
              have HhB4 := Lib.hid hB4; clear hB4
              have Hx6 := Lib.hid x6; clear x6
              have Hhl4 := Lib.hid hl4; clear hl4
              have Hhy40 := Lib.hid hy40; clear hy40
              have Hhy41 := Lib.hid hy41; clear hy41
              clear e0 e1
            · have hal := (Below.refl w4.heap.size w4).alloc (Nat.le_refl _) (.cells #[.int .i64 ta, .int .i64 tb] 55)
              have hl5 := (Own.below (own_of_row Hhl4.out) hal).1
              have hbn := Hhnew.out (of_decide_eq_false Hhmem.out)
              have Hhal := Lib.hid hal; clear hal
              have Hhl5 := Lib.hid hl5; clear hl5
              have Hhbn := Lib.hid hbn; clear hbn
              go_wp2_with (at_builtin; refine wpList_append_lies _ rfl _ _ _ rfl w1.heap.size 55 i0 (.agg #[.int .i64 0, .int .i64 0]) 2 16 Try.underlying29 Hhi.out Hhz0.out Hhz1.out Hhz2.out rfl (by omega) _ T.met.length _ rfl Hhl5.out ⟨w4.heap.size, 0, none⟩ 1 1 [.int .i64 ta, .int .i64 tb] rfl rfl (World.news_of_block (heap_alloc_new w4 _)) (by intro u hu; simp at hu; rcases hu with rfl | rfl <;> rfl) (by omega) (by unfold maxLen; omega) (by omega) (by simp; omega) _ rfl ?_; intro g5 c5 w5 hown5 hgrow5 hat5 hlt5; have Hown5 := Lib.hid hown5; have Hgrow5 := Lib.hid (show (w4.alloc (.cells #[.int .i64 ta, .int .i64 tb] 55)).grownBy w5 _ from hgrow5); clear hown5 hgrow5 hat5)
              go_roundw
              case rel =>
                have ap5 : ∀ e, 55 ≠ e → Apart (w4.alloc (.cells #[.int .i64 ta, .int .i64 tb] 55)) _ e := fun e he => ownsRow_apart Hhl5.out he
                refine ⟨n + 1, by go_num, by omega, (HhB4.out.alloc HhB4.out.size _).grown Hgrow5.out (Nat.le_trans HhB4.out.size (by simp)) (fun j hj => Nat.le_trans Hhbw.out.size (World.ownsRow.lt Hhl5.out j hj).1), (Hhy40.out.below Hhal.out Hhy40.out.lt).grown Hgrow5.out (ap5 _ (by decide)), (Hhy41.out.below Hhal.out Hhy41.out.lt).grown Hgrow5.out (ap5 _ (by decide)), ?_⟩
                rw [Hhbn.out]
                have h := Hown5.out
                simp only [List.length_append, List.length_singleton, flat_snoc]
                exact h
              case measure => simp [intOf]; omega
            · have hbo := Hhold.out (of_decide_eq_true Hhmem.out)
              have Hhbo := Lib.hid hbo; clear hbo
              go_wp2
              go_roundw
              case rel => exact ⟨n + 1, by go_num, by omega, HhB4.out, Hhy40.out, Hhy41.out, by rw [Hhbo.out]; exact Hhl4.out⟩
              case measure => simp [intOf]; omega
          · obtain rfl : n = 3 := by omega
            have Hhbi := Lib.hid hbi; clear hbi
            have Hhy0 := Lib.hid hy0; clear hy0
            have Hhy1 := Lib.hid hy1; clear hy1
            have Hhli := Lib.hid hli; clear hli
            go_wp2
            go_roundw
            case rel =>
              have hbs := bat_succ hkS'
              have hle := bpart_le (nx := stepP a b) (a := (0, 0)) (k := k) (Nat.zero_le 3)
              rw [bpart_zero, ← HhS.out] at hle
              have hll := hle.1.length_le
              exact ⟨k + 1, by go_num, by rw [hbs]; omega, Hhbi.out, Hhy0.out, Hhy1.out, by rw [hbs]; exact Hhli.out⟩
            case measure => simp [intOf]; omega
      · have hkS : k = S.met.length := by omega
        have HhkS := Lib.hid hkS; clear hkS
        go_wp2
        go_ret2
        refine ⟨?_, Hhb.out⟩
        have hF : metP a b K = S.met := by
          unfold metP
          rw [bat_done (k := k) (by rw [← HhS.out]; omega) (by have := HhK.out; omega), ← HhS.out]
        rw [← Hho.out, Hhs.out, if_pos rfl, hF]
        exact ⟨_, _, rfl, (Own.sl (own_of_row Hhl.out) (by omega)).mono Hhbw.out.size⟩
theorem specMakePairs_any (a b : DfaD) (v1 v2 : Value) (w : World) (h1 : DfaR 0 w v1 a) (h2 : DfaR 0 w v2 b) :
    Calls Try.prog 37 #[v1, v2] w fun e w' => RMpS w.heap.size (makeP a b) e w' ∧ Below w.heap.size w w' := specMakeK_any mostP rfl a b v1 v2 w h1 h2 _ rfl
end Go.Proofs.Ytclhcfmlkfiidaa
