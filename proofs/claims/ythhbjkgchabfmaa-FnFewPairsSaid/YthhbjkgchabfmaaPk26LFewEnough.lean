/-
  The walk over the reference's MakePairs.
  Conditions: the automata read as such.
-/
import Derived.Test.YthhbjkgchabfmaaPk24Three
import Derived.Test.YthhbjkgchabfmaaPk25Ry
namespace Go.Proofs.Ythhbjkgchabfmaa
open Go.RowKit Go.Maps
def RMpS (B : Nat) (o : Option (List (Int × Int))) (e : Ending) (w' : World) : Prop := ∃ a cap, e = .returned (.tuple #[.slice a (o.getD []).length cap, .bool o.isSome]) ∧ Pairs B w' (.slice a (o.getD []).length cap) (o.getD [])
theorem specMakeK_any (K : Nat) (hK : K = 1600) (a b : DfaD) (v1 v2 : Value) (w : World) (h1 : DfaR 0 w v1 a) (h2 : DfaR 0 w v2 b) (o : Option (List (Int × Int))) (ho : (if sameB a b = true then some (metP a b K) else none) = o) :
    Calls Try.prog 43 #[v1, v2] w fun e w' => RMpS w.heap.size o e w' ∧ Below w.heap.size w w' := by
  refine (specMakeKO_any K hK a b v1 v2 w h1 h2 o ho).mono ?_
  rintro e w' ⟨⟨x, y, h3, h4, -⟩, hb⟩
  exact ⟨⟨x, y, h3, h4⟩, hb⟩
theorem specMakePairs_any (a b : DfaD) (v1 v2 : Value) (w : World) (h1 : DfaR 0 w v1 a) (h2 : DfaR 0 w v2 b) :
    Calls Try.prog 43 #[v1, v2] w fun e w' => RMpS w.heap.size (makeP a b) e w' ∧ Below w.heap.size w w' := specMakeK_any mostP rfl a b v1 v2 w h1 h2 _ rfl
theorem specMkB_any (a b : DfaD) (F : List (Int × Int)) (fb : Bool) (hF : (makeP a b).getD [] = F) (hfb : (makeP a b).isSome = fb) (v1 v2 : Value) (w : World) (h1 : DfaR 0 w v1 a) (h2 : DfaR 0 w v2 b) :
    Calls Try.prog 43 #[v1, v2] w fun e w' => (∃ aw cw, e = .returned (.tuple #[.slice aw F.length cw, .bool fb]) ∧ Pairs w.heap.size w' (.slice aw F.length cw) F) ∧ Below w.heap.size w w' := by
  subst hF hfb
  exact specMakePairs_any a b v1 v2 w h1 h2
theorem Sl.kept {B B' : Nat} {w w' : World} {v : Value} {n size : Nat} {cs : List Value} (h : Sl B w v n size cs) (hB : B' ≤ B) (hs : w.heap.size ≤ w'.heap.size) (hk : ∀ k, B ≤ k → k < w.heap.size → w'.heap[k]? = w.heap[k]?) : Sl B' w' v n size cs := by
  obtain ⟨hl, a, cap, hv, h1, h2, h3⟩ := h
  refine ⟨hl, a, cap, hv, h1, h2, fun hn => ?_⟩
  obtain ⟨b, off, ha, hb, hlt, hc⟩ := h3 hn
  refine ⟨b, off, ha, by omega, by omega, fun j hj => ?_⟩
  rw [← hc j hj]
  exact World.cell?_of_block (hk b hb hlt)
theorem implMk_any (a b : DfaD) (F : List (Int × Int)) (fb : Bool) (hF : (makeP a b).getD [] = F) (hfb : (makeP a b).isSome = fb) (v1 v2 : Value) (w : World) (h1 : DfaR 0 w v1 a) (h2 : DfaR 0 w v2 b) :
    Calls Try.prog 41 #[v1, v2] w fun e w' => (∃ aw cw, e = .returned (.tuple #[.slice aw F.length cw, .bool fb]) ∧ OPairs 56 w.heap.size w'.heap.size w' (.slice aw F.length cw) F) ∧ Below w.heap.size w w' := by
  subst hF hfb
  refine (implMakePairs_any a b v1 v2 w h1 h2).mono fun e w' h => ⟨?_, h.2⟩
  have h' := h.1
  unfold RMp at h'
  split at h'
  · rename_i ho
    rw [ho]
    exact ⟨none, 0, h', ⟨⟨rfl, .inl ⟨rfl, rfl⟩⟩, fun k hk => by cases hk⟩⟩
  · rename_i F ho
    rw [ho]
    exact h'
def fewAt (F ps : List (Int × Int)) : Nat → List (Int × Int)
  | 0 => []
  | k + 1 => if (decide (ps.getD k (0, 0) ∈ F) && !decide (ps.getD k (0, 0) ∈ fewAt F ps k)) = true then fewAt F ps k ++ [ps.getD k (0, 0)] else fewAt F ps k
theorem fewAt_len (F ps : List (Int × Int)) : ∀ k, (fewAt F ps k).length ≤ k
  | 0 => Nat.le_refl _
  | k + 1 => by
    have := fewAt_len F ps k
    unfold fewAt
    split
    · simp; omega
    · omega
def fewF (a b : DfaD) (ps : List (Int × Int)) : List (Int × Int) := if checkB a b ps = true then fewAt ((makeP a b).getD []) ps ps.length else []
theorem fewF_len (a b : DfaD) (ps : List (Int × Int)) : (fewF a b ps).length ≤ ps.length := by
  unfold fewF
  split
  · exact fewAt_len _ _ _
  · simp
def RIdx (b : Bool) (e : Ending) : Prop := ∃ r : Int, e = .returned (.int .i64 r) ∧ decide (0 ≤ r) = b
set_option maxHeartbeats 1600000 in
theorem indexPair_any (xs : List (Int × Int)) (y : Int × Int) (v : Value) (w : World) (h1 : Pairs 0 w v xs) (r : Bool) (hr : decide (y ∈ xs) = r) :
    Calls Try.prog 134 #[v, .agg #[.int .i64 y.1, .int .i64 y.2]] w fun e w' => RIdx r e ∧ Below w.heap.size w w' := by
  obtain ⟨a1, c1, rfl, hc1, hm1, hr1⟩ := h1.form
  obtain ⟨y1, y2⟩ := y
  clear h1
  have Hhr := Lib.hid hr; clear hr
  go_enter Try.func134, Try.ntmps134
  go_wp2
  go_loopw [4, 5, 8] (fun r j i wr => ∃ k : Nat, k ≤ xs.length ∧ i = .int .i64 k ∧ (¬ (y1, y2) ∈ xs.take k) ∧ Below (w.heap.size + 1) (w.alloc (.cells #[.int .i64 y1, .int .i64 y2] 56)) wr) (fun _ _ i _ => xs.length - (intOf i).toNat)
  case atStart => exact ⟨0, Nat.zero_le _, rfl, by simp, Below.refl _ _⟩
  case round =>
    obtain ⟨k, hk, rfl, htk, hb⟩ := hrel
    have hend : Below w.heap.size w wr := ((Below.refl _ _).alloc (Nat.le_refl _) _).trans (hb.mono (by omega))
    have hx0 := box_cell hb 0
    have hx1 := box_cell hb 1
    simp only [List.getElem?_toArray, List.getElem?_cons_zero, List.getElem?_cons_succ] at hx0 hx1
    have Htk := Lib.hid htk
    have Hend := Lib.hid hend
    have Hhb := Lib.hid hb; clear hb
    clear htk hend
    by_cases hlt : k < xs.length
    · obtain ⟨b1, o1, rfl, hB1, hbl1, hcs1⟩ := hr1 (by omega)
      have hx2 := (bcell Hend.out b1 (o1 + k * 2) hbl1).trans (hcs1 k hlt).1
      have hx3 := (bcell Hend.out b1 (o1 + k * 2 + 1) hbl1).trans (hcs1 k hlt).2
      obtain ⟨x, hxx⟩ : ∃ x, x = xs.getD k (0, 0) := ⟨_, rfl⟩
      rw [← hxx] at hx2 hx3
      obtain ⟨x1, x2⟩ := x
      have Hhxx := Lib.hid hxx; clear hxx
      simp only at hx2 hx3
      clear hcs1 hr1
      by_cases he : y1 = x1 ∧ y2 = x2
      · have hb1 : (y1 == x1 && y2 == x2) = true := by simpa using he
        have Hhe := Lib.hid he; clear he
        go_wp2
        go_quiet (fail)
        go_wp2
        go_ret
        refine ⟨⟨k, rfl, ?_⟩, below_drewN Hend.out _⟩
        rw [← Hhr.out, decide_eq_true (by omega), decide_eq_true]
        obtain ⟨e1, e2⟩ := Hhe.out
        rw [e1, e2, Hhxx.out]
        exact mem_getD hlt
      · have hb1 : (y1 == x1 && y2 == x2) = false := by
          rw [Bool.eq_false_iff]
          intro h
          exact he (by simpa using h)
        have Hhe := Lib.hid he; clear he
        go_wp2
        go_quiet (fail)
        go_wp2
        go_roundw
        case rel => exact ⟨k + 1, by omega, by go_num, mem_take_snoc (d := (0, 0)) hlt Htk.out (by rw [← Hhxx.out]; exact fun e => Hhe.out ⟨(congrArg Prod.fst e).symm, (congrArg Prod.snd e).symm⟩), below_drewN Hhb.out _⟩
        case measure => simp [intOf]; omega
    · clear hr1
      go_wp2
      go_ret
      refine ⟨⟨-1, rfl, ?_⟩, Hend.out⟩
      rw [← Hhr.out, decide_eq_false (by omega), decide_eq_false]
      have h := Htk.out
      rwa [List.take_of_length_le (by omega)] at h
set_option maxHeartbeats 800000 in
theorem containsPair_any (xs : List (Int × Int)) (y : Int × Int) (v : Value) (w : World) (h1 : Pairs 0 w v xs) (r : Bool) (hr : decide (y ∈ xs) = r) :
    Calls Try.prog 96 #[v, .agg #[.int .i64 y.1, .int .i64 y.2]] w fun e w' => e = .returned (.bool r) ∧ Below w.heap.size w w' := by
  have H1 := Lib.hid (h1.below ((Below.refl _ _).alloc (Nat.le_refl _) (.cells #[.int .i64 y.1, .int .i64 y.2] 56)))
  clear h1
  have Hhr := Lib.hid hr; clear hr
  go_enter Try.func96, Try.ntmps96
  go_wp2_with fail
  refine (indexPair_any xs y _ _ H1.out _ Hhr.out).mono ?_
  rintro e w1 ⟨⟨i, rfl, hi⟩, hb1⟩
  have hbe := ((Below.refl w.heap.size w).alloc (Nat.le_refl _) (.cells #[.int .i64 y.1, .int .i64 y.2] 56)).trans (hb1.mono (by simp))
  have Hhbe := Lib.hid hbe; clear hbe
  clear hb1
  cases r
  all_goals
    go_wp2
    go_ret
    exact ⟨rfl, Hhbe.out⟩
set_option maxRecDepth 100000 in
set_option maxHeartbeats 4000000 in
theorem implFew_any (a b : DfaD) (ps F : List (Int × Int)) (fb : Bool) (hF : fewF a b ps = F) (hfb : checkB a b ps = fb) (v1 v2 v3 : Value) (w : World) (hps : ps.length ≤ 1048576) (h1 : DfaR 0 w v1 a) (h2 : DfaR 0 w v2 b) (h3 : Pairs 0 w v3 ps) :
    Calls Try.prog 48 #[v1, v2, v3] w fun e w' => (∃ aw cw, e = .returned (.tuple #[.slice aw F.length cw, .bool fb]) ∧ OPairs 56 w.heap.size w'.heap.size w' (.slice aw F.length cw) F) ∧ Below w.heap.size w w' := by
  obtain ⟨u1, u2, rfl, g1, g2⟩ := h1
  obtain ⟨u3, u4, rfl, g3, g4⟩ := h2
  obtain ⟨a5, c5, rfl, hc5, hm5, hr5⟩ := h3.form
  have hb2 : Below w.heap.size w ((w.alloc (.cells #[u1, u2] 26)).alloc (.cells #[u3, u4] 26)) := ((Below.refl _ _).alloc (Nat.le_refl _) _).alloc (by simp) _
  have H1 : Hid (DfaR 0 ((w.alloc (.cells #[u1, u2] 26)).alloc (.cells #[u3, u4] 26)) (.agg #[u1, u2]) a) := Lib.hid ⟨_, _, rfl, g1.below hb2, g2.below hb2⟩
  have H2 : Hid (DfaR 0 ((w.alloc (.cells #[u1, u2] 26)).alloc (.cells #[u3, u4] 26)) (.agg #[u3, u4]) b) := Lib.hid ⟨_, _, rfl, g3.below hb2, g4.below hb2⟩
  have H3 := Lib.hid (h3.below hb2)
  have x0 : Bx ((w.alloc (.cells #[u1, u2] 26)).alloc (.cells #[u3, u4] 26)) w.heap.size #[u1, u2] 26 := (Bx.new w _ _).alloc _
  have x1 : Bx ((w.alloc (.cells #[u1, u2] 26)).alloc (.cells #[u3, u4] 26)) (w.heap.size + 1) #[u3, u4] 26 := by simpa using Bx.new (w.alloc (.cells #[u1, u2] 26)) #[u3, u4] 26
  obtain ⟨i0, hi, hz0, hz1, hz2⟩ := info_parts Try.infoPair
  have Hhb2 := Lib.hid hb2; clear hb2
  have Hx0 := Lib.hid x0; clear x0
  have Hx1 := Lib.hid x1; clear x1
  have HhF := Lib.hid hF; clear hF
  have Hhi := Lib.hid hi; clear hi
  have Hhz0 := Lib.hid hz0; clear hz0
  have Hhz1 := Lib.hid hz1; clear hz1
  have Hhz2 := Lib.hid hz2; clear hz2
  have Hhr5 := Lib.hid hr5; clear hr5
  clear g1 g2 g3 g4 h3
  cases fb
  all_goals
    have Hhfb := Lib.hid hfb; clear hfb
    go_enter Try.func48, Try.ntmps48
    go_wp2_with fail
    refine (implCheckPairs_any a b ps _ _ _ _ H1.out H2.out H3.out _ Hhfb.out).mono ?_
    rintro e w1 ⟨rfl, hb1⟩
    have y0 := Hx0.out.below hb1 Hx0.out.lt
    have y1 := Hx1.out.below hb1 Hx1.out.lt
    have c0 := y0.cell 0
    have c1 := y0.cell 1
    have c2 := y1.cell 0
    have c3 := y1.cell 1
    simp only [List.getElem?_toArray, List.getElem?_cons_zero, List.getElem?_cons_succ] at c0 c1 c2 c3
    have hbw := Hhb2.out.trans (hb1.mono Hhb2.out.size)
    have R1 := Lib.hid (H1.out.below hb1)
    have R2 := Lib.hid (H2.out.below hb1)
    have Hhb1 := Lib.hid hb1; clear hb1
    have Hhbw := Lib.hid hbw; clear hbw
    clear y0 y1
  · have hF0 : F = [] := by
      rw [← HhF.out]
      unfold fewF
      rw [Hhfb.out]
      rfl
    subst hF0
    go_wp2
    go_ret2
    exact ⟨⟨none, 0, rfl, ⟨rfl, .inl ⟨rfl, rfl⟩⟩, fun k hk => by cases hk⟩, Hhbw.out⟩
  · obtain ⟨G, hG⟩ : ∃ G, (makeP a b).getD [] = G := ⟨_, rfl⟩
    obtain ⟨gb, hgb⟩ : ∃ gb, (makeP a b).isSome = gb := ⟨_, rfl⟩
    have hF1 : fewAt G ps ps.length = F := by
      rw [← HhF.out, ← hG]
      unfold fewF
      rw [if_pos Hhfb.out]
    have HhF1 := Lib.hid hF1; clear hF1
    have HhG := Lib.hid hG; clear hG
    have Hhgb := Lib.hid hgb; clear hgb
    go_wp2_with fail
    refine (implMk_any a b G gb HhG.out Hhgb.out _ _ _ R1.out R2.out).mono ?_
    rintro e w2 ⟨⟨am, cm, rfl, hp⟩, hb2⟩
    have hP2 : Pairs 0 w2 (.slice am G.length cm) G := (OPairs.pairs hp).mono (Nat.zero_le _)
    have hbv := Hhbw.out.trans (hb2.mono Hhbw.out.size)
    have HhP2 := Lib.hid hP2; clear hP2
    have Hhbv := Lib.hid hbv; clear hbv
    clear hp hb2 c0 c1 c2 c3
    go_wp2
    go_loopw [10, 26] (fun v i wr => ∃ k : Nat, k ≤ ps.length ∧ i = .int .i64 k ∧ Below w2.heap.size w2 wr ∧ wr.ownsRow w2.heap.size 56 2 v (fewAt G ps k).length ((fewAt G ps k).flatMap pairCells)) (fun _ i _ => ps.length - (intOf i).toNat)
    case atStart => exact ⟨0, Nat.zero_le _, rfl, Below.refl _ _, rfl, .inl ⟨rfl, rfl⟩⟩
    case round =>
      obtain ⟨k, hk, rfl, hb, hown⟩ := hrel
      have hsz := hb.size
      have hsw := Hhbv.out.size
      by_cases hlt : k < ps.length
      · obtain ⟨b1, o1, rfl, -, hbl, hcs⟩ := Hhr5.out (by omega)
        obtain ⟨p1, p2⟩ := hcs k hlt
        have hbwr := Hhbv.out.trans (hb.mono Hhbv.out.size)
        replace p1 := (bcell hbwr b1 _ hbl).trans p1
        replace p2 := (bcell hbwr b1 _ hbl).trans p2
        obtain ⟨x, hxx⟩ : ∃ x, x = ps.getD k (0, 0) := ⟨_, rfl⟩
        rw [← hxx] at p1 p2
        obtain ⟨x1, x2⟩ := x
        simp only at p1 p2
        have hlen := fewAt_len G ps k
        obtain ⟨T, hT⟩ : ∃ T, T = fewAt G ps k := ⟨_, rfl⟩
        rw [← hT] at hown hlen
        have hsucc : fewAt G ps (k + 1) = if (decide ((x1, x2) ∈ G) && !decide ((x1, x2) ∈ T)) = true then T ++ [(x1, x2)] else T := by
          rw [hxx, hT]
          rfl
        obtain ⟨av, cv, hv, -⟩ := ((own_of_row hown).sl (by omega)).form
        subst hv
        have hal := (Below.refl wr.heap.size wr).alloc (Nat.le_refl _) (.cells #[.int .i64 x1, .int .i64 x2] 56)
        have hPG := (HhP2.out.below hb).below hal
        have x5 := Bx.new wr #[.int .i64 x1, .int .i64 x2] 56
        have hown1 := (Own.below (own_of_row hown) hal).1
        have hb1 := hb.trans (hal.mono hb.size)
        have hkF : (k : Int) < ps.length := by omega
        have Hhxx := Lib.hid hxx; clear hxx
        have HhT := Lib.hid hT; clear hT
        have Hhsucc := Lib.hid hsucc; clear hsucc
        have Hhb := Lib.hid hb; clear hb
        have Hhown := Lib.hid hown; clear hown
        have Hhal := Lib.hid hal; clear hal
        have HhPG := Lib.hid hPG; clear hPG
        have Hx5 := Lib.hid x5; clear x5
        have Hhown1 := Lib.hid hown1; clear hown1
        have Hhb1 := Lib.hid hb1; clear hb1
        have Hhbwr := Lib.hid hbwr; clear hbwr
        clear hcs
        cases hg : decide ((x1, x2) ∈ G)
        all_goals
          have Hhg := Lib.hid hg; clear hg
          go_wp2_with fail
          refine (containsPair_any G (x1, x2) _ _ HhPG.out _ Hhg.out).mono ?_
          rintro e w3 ⟨rfl, hb3⟩
          have x6 := Hx5.out.below hb3 Hx5.out.lt
          have f0 := x6.cell 0
          have f1 := x6.cell 1
          simp only [List.getElem?_toArray, List.getElem?_cons_zero, List.getElem?_cons_succ] at f0 f1
          have hB3 := Hhb1.out.trans (hb3.mono Hhb1.out.size)
          have hown3 := (Own.below (own_of_row Hhown1.out) hb3).1
          have Hx6 := Lib.hid x6; clear x6
          have Hhb3 := Lib.hid hb3; clear hb3
          have HhB3 := Lib.hid hB3; clear hB3
          have Hhown3 := Lib.hid hown3; clear hown3
        · go_wp2
          go_roundw
          case rel =>
            have hn : fewAt G ps (k + 1) = T := by rw [Hhsucc.out, Hhg.out]; rfl
            exact ⟨k + 1, by omega, by go_num, HhB3.out, by rw [hn]; exact Hhown3.out⟩
          case measure => simp [intOf]; omega
        · have hPT : Pairs 0 w3 (.slice av T.length cv) T := Sl.mono ((own_of_row Hhown3.out).sl (by omega)) (Nat.zero_le _)
          have HhPT := Lib.hid hPT; clear hPT
          cases ht : decide ((x1, x2) ∈ T)
          all_goals
            have Hht := Lib.hid ht; clear ht
            go_wp2_with fail
            refine (containsPair_any T (x1, x2) _ _ HhPT.out _ Hht.out).mono ?_
            rintro e w4 ⟨rfl, hb4⟩
            have x7 := Hx6.out.below hb4 Hx6.out.lt
            have f2 := x7.cell 0
            have f3 := x7.cell 1
            simp only [List.getElem?_toArray, List.getElem?_cons_zero, List.getElem?_cons_succ] at f2 f3
            have hB4 := HhB3.out.trans (hb4.mono HhB3.out.size)
            have hown4 := (Own.below (own_of_row Hhown3.out) hb4).1
            have hz4 := hB4.size
            have Hx7 := Lib.hid x7; clear x7
            have Hhb4 := Lib.hid hb4; clear hb4
            have HhB4 := Lib.hid hB4; clear hB4
            have Hhown4 := Lib.hid hown4; clear hown4
            clear f0 f1
          · have hal4 := (Below.refl w4.heap.size w4).alloc (Nat.le_refl _) (.cells #[.int .i64 x1, .int .i64 x2] 56)
            have hown5 := (Own.below (own_of_row Hhown4.out) hal4).1
            have Hhal4 := Lib.hid hal4; clear hal4
            have Hhown5 := Lib.hid hown5; clear hown5
            go_wp2_with (at_builtin; refine wpList_append_lies _ rfl _ _ _ rfl w2.heap.size 56 i0 (.agg #[.int .i64 0, .int .i64 0]) 2 16 Try.underlying50 Hhi.out Hhz0.out Hhz1.out Hhz2.out rfl (by omega) _ T.length _ rfl Hhown5.out ⟨w4.heap.size, 0, none⟩ 1 1 [.int .i64 x1, .int .i64 x2] rfl rfl (World.news_of_block (heap_alloc_new w4 _)) (by intro u hu; simp at hu; rcases hu with rfl | rfl <;> rfl) (by omega) (by unfold maxLen; omega) (by omega) (by simp; omega) _ rfl ?_; intro g6 c6 w6 hown6 hgrow6 hat6 hlt6; have Hown6 := Lib.hid hown6; have Hgrow6 := Lib.hid (show (w4.alloc (.cells #[.int .i64 x1, .int .i64 x2] 56)).grownBy w6 _ from hgrow6); clear hown6 hgrow6 hat6)
            go_roundw
            case rel =>
              have hn : fewAt G ps (k + 1) = T ++ [(x1, x2)] := by rw [Hhsucc.out, Hhg.out, Hht.out]; rfl
              refine ⟨k + 1, by omega, by go_num, (HhB4.out.alloc HhB4.out.size _).grown Hgrow6.out (Nat.le_trans HhB4.out.size (by simp)) (fun j hj => (World.ownsRow.lt Hhown5.out j hj).1), ?_⟩
              rw [hn]
              simp only [List.length_append, List.length_singleton, flat_snoc]
              exact Hown6.out
            case measure => simp [intOf]; omega
          · go_wp2
            go_roundw
            case rel =>
              have hn : fewAt G ps (k + 1) = T := by rw [Hhsucc.out, Hhg.out, Hht.out]; rfl
              exact ⟨k + 1, by omega, by go_num, HhB4.out, by rw [hn]; exact Hhown4.out⟩
            case measure => simp [intOf]; omega
      · obtain rfl : k = ps.length := by omega
        have hF2 := HhF1.out
        rw [hF2] at hown
        obtain ⟨av, cv, hv, -⟩ := ((own_of_row hown).sl (by omega)).form
        subst hv
        have Hhown := Lib.hid hown; clear hown
        have Hhb := Lib.hid hb; clear hb
        have HhF2 := Lib.hid hF2; clear hF2
        go_wp2
        go_ret2
        exact ⟨⟨_, _, rfl, (own_of_row Hhown.out).mono Hhbv.out.size (Nat.le_refl _)⟩, Hhbv.out.trans (Hhb.out.mono Hhbv.out.size)⟩
set_option maxRecDepth 100000 in
set_option maxHeartbeats 4000000 in
theorem specFew_any (a b : DfaD) (ps F : List (Int × Int)) (fb : Bool) (hF : fewF a b ps = F) (hfb : checkB a b ps = fb) (v1 v2 v3 : Value) (w : World) (hps : ps.length ≤ 1048576) (h1 : DfaR 0 w v1 a) (h2 : DfaR 0 w v2 b) (h3 : Pairs 0 w v3 ps) :
    Calls Try.prog 49 #[v1, v2, v3] w fun e w' => (∃ aw cw, e = .returned (.tuple #[.slice aw F.length cw, .bool fb]) ∧ Pairs 0 w' (.slice aw F.length cw) F) ∧ Below w.heap.size w w' := by
  obtain ⟨u1, u2, rfl, g1, g2⟩ := h1
  obtain ⟨u3, u4, rfl, g3, g4⟩ := h2
  obtain ⟨a5, c5, rfl, hc5, hm5, hr5⟩ := h3.form
  have hb2 : Below w.heap.size w ((w.alloc (.cells #[u1, u2] 26)).alloc (.cells #[u3, u4] 26)) := ((Below.refl _ _).alloc (Nat.le_refl _) _).alloc (by simp) _
  have H1 : Hid (DfaR 0 ((w.alloc (.cells #[u1, u2] 26)).alloc (.cells #[u3, u4] 26)) (.agg #[u1, u2]) a) := Lib.hid ⟨_, _, rfl, g1.below hb2, g2.below hb2⟩
  have H2 : Hid (DfaR 0 ((w.alloc (.cells #[u1, u2] 26)).alloc (.cells #[u3, u4] 26)) (.agg #[u3, u4]) b) := Lib.hid ⟨_, _, rfl, g3.below hb2, g4.below hb2⟩
  have H3' := Lib.hid (h3.below hb2)
  have x0 : Bx ((w.alloc (.cells #[u1, u2] 26)).alloc (.cells #[u3, u4] 26)) w.heap.size #[u1, u2] 26 := (Bx.new w _ _).alloc _
  have x1 : Bx ((w.alloc (.cells #[u1, u2] 26)).alloc (.cells #[u3, u4] 26)) (w.heap.size + 1) #[u3, u4] 26 := by simpa using Bx.new (w.alloc (.cells #[u1, u2] 26)) #[u3, u4] 26
  obtain ⟨i0, hi, hz0, hz1, hz2⟩ := info_parts Try.infoPair
  obtain ⟨W, hW⟩ : ∃ W, W = (((w.alloc (.cells #[u1, u2] 26)).alloc (.cells #[u3, u4] 26)).alloc (.cells #[] 56)) := ⟨_, rfl⟩
  have hbW : Below w.heap.size w W := by rw [hW]; exact hb2.alloc hb2.size _
  have hal0 := (Below.refl ((w.alloc (.cells #[u1, u2] 26)).alloc (.cells #[u3, u4] 26)).heap.size ((w.alloc (.cells #[u1, u2] 26)).alloc (.cells #[u3, u4] 26))).alloc (Nat.le_refl _) (.cells #[] 56)
  rw [← hW] at hal0
  have xE : W.ownsRow (w.heap.size + 2) 56 2 (.slice (some ⟨w.heap.size + 2, 0, none⟩) 0 0) 0 [] := by
    rw [hW]
    exact own_new (cs := []) (by have := Bx.new ((w.alloc (.cells #[u1, u2] 26)).alloc (.cells #[u3, u4] 26)) #[] 56; simpa [Bx] using this) rfl (Nat.le_refl _) (Nat.zero_le _)
  replace H1 := Lib.hid (H1.out.below hal0)
  replace H2 := Lib.hid (H2.out.below hal0)
  have H3 := Lib.hid (H3'.out.below hal0)
  replace x0 := x0.below hal0 x0.lt
  replace x1 := x1.below hal0 x1.lt
  have hWs : W.heap.size = w.heap.size + 3 := by rw [hW]; simp
  clear H3' hal0 hb2
  have hb2 := hbW
  have Hhb2 := Lib.hid hb2; clear hb2
  have HhbW := Lib.hid hbW; clear hbW
  have HxE := Lib.hid xE; clear xE
  have HhWs := Lib.hid hWs; clear hWs
  have Hx0 := Lib.hid x0; clear x0
  have Hx1 := Lib.hid x1; clear x1
  have HhF := Lib.hid hF; clear hF
  have Hhi := Lib.hid hi; clear hi
  have Hhz0 := Lib.hid hz0; clear hz0
  have Hhz1 := Lib.hid hz1; clear hz1
  have Hhz2 := Lib.hid hz2; clear hz2
  have Hhr5 := Lib.hid hr5; clear hr5
  clear g1 g2 g3 g4 h3
  cases fb
  all_goals
    have Hhfb := Lib.hid hfb; clear hfb
    go_enter Try.func49, Try.ntmps49
    go_wp2_with fail
    rw [← hW]
    have HhW := Lib.hid hW; clear hW
    refine (specCheckPairs_any a b ps _ _ _ _ H1.out H2.out H3.out _ Hhfb.out).mono ?_
    rintro e w1 ⟨rfl, hb1⟩
    have y0 := Hx0.out.below hb1 Hx0.out.lt
    have y1 := Hx1.out.below hb1 Hx1.out.lt
    have c0 := y0.cell 0
    have c1 := y0.cell 1
    have c2 := y1.cell 0
    have c3 := y1.cell 1
    simp only [List.getElem?_toArray, List.getElem?_cons_zero, List.getElem?_cons_succ] at c0 c1 c2 c3
    have hbw := Hhb2.out.trans (hb1.mono Hhb2.out.size)
    have R1 := Lib.hid (H1.out.below hb1)
    have R2 := Lib.hid (H2.out.below hb1)
    have xE1 := (Own.below (own_of_row HxE.out) hb1).1
    have hW1 : w.heap.size + 3 ≤ w1.heap.size := by have := hb1.size; have := HhWs.out; omega
    have HxE1 := Lib.hid xE1; clear xE1
    have Hhb1 := Lib.hid hb1; clear hb1
    have Hhbw := Lib.hid hbw; clear hbw
    clear y0 y1
  · have hF0 : F = [] := by
      rw [← HhF.out]
      unfold fewF
      rw [Hhfb.out]
      rfl
    subst hF0
    go_wp2
    go_ret2
    exact ⟨⟨_, _, rfl, rfl, _, _, rfl, Nat.le_refl _, Nat.zero_le _, fun h => absurd h (by simp)⟩, Hhbw.out⟩
  · obtain ⟨G, hG⟩ : ∃ G, (makeP a b).getD [] = G := ⟨_, rfl⟩
    obtain ⟨gb, hgb⟩ : ∃ gb, (makeP a b).isSome = gb := ⟨_, rfl⟩
    have hF1 : fewAt G ps ps.length = F := by
      rw [← HhF.out, ← hG]
      unfold fewF
      rw [if_pos Hhfb.out]
    have HhF1 := Lib.hid hF1; clear hF1
    have HhG := Lib.hid hG; clear hG
    have Hhgb := Lib.hid hgb; clear hgb
    go_wp2_with fail
    refine (specMkB_any a b G gb HhG.out Hhgb.out _ _ _ R1.out R2.out).mono ?_
    rintro e w2 ⟨⟨am, cm, rfl, hp⟩, hb2⟩
    have hP2 : Pairs (w.heap.size + 3) w2 (.slice am G.length cm) G := hp.mono hW1
    have hbv := Hhbw.out.trans (hb2.mono Hhbw.out.size)
    have xE2 := (Own.below (own_of_row HxE1.out) hb2).1
    have hW2 : w.heap.size + 3 ≤ w2.heap.size := by have := hb2.size; omega
    have HhP2 := Lib.hid hP2; clear hP2
    have Hhbv := Lib.hid hbv; clear hbv
    have HxE2 := Lib.hid xE2; clear xE2
    clear hp hb2 c0 c1 c2 c3
    go_wp2
    go_loopw [8, 11] (fun v i wr => ∃ k : Nat, k ≤ ps.length ∧ i = .int .i64 k ∧ Below (w.heap.size + 2) w2 wr ∧ (∀ k, k < w2.heap.size → k ≠ w.heap.size + 2 → wr.heap[k]? = w2.heap[k]?) ∧ (∀ k, v.ownBlock = some k → k = w.heap.size + 2 ∨ w2.heap.size ≤ k) ∧
        wr.ownsRow (w.heap.size + 2) 56 2 v (fewAt G ps k).length ((fewAt G ps k).flatMap pairCells)) (fun _ i _ => ps.length - (intOf i).toNat)
    case atStart => exact ⟨0, Nat.zero_le _, rfl, Below.refl _ _, fun _ _ _ => rfl, fun k hk => by cases hk; exact Or.inl rfl, HxE2.out⟩
    case round =>
      obtain ⟨k, hk, rfl, hb, hkept, hvb, hown⟩ := hrel
      have hsz := hb.size
      have hbwr := Hhbv.out.trans (hb.mono (show w.heap.size ≤ w.heap.size + 2 by omega))
      have hbwr2 : Below w.heap.size w wr := Hhbv.out.trans (hb.mono (show w.heap.size ≤ w.heap.size + 2 by omega))
      by_cases hlt : k < ps.length
      · obtain ⟨b1, o1, rfl, -, hbl, hcs⟩ := Hhr5.out (by omega)
        obtain ⟨p1, p2⟩ := hcs k hlt
        obtain ⟨x, hxx⟩ : ∃ x, x = ps.getD k (0, 0) := ⟨_, rfl⟩
        rw [← hxx] at p1 p2
        obtain ⟨x1, x2⟩ := x
        simp only at p1 p2
        have P1 := Lib.hid p1
        have P2 := Lib.hid p2
        replace p1 := (bcell hbwr b1 _ hbl).trans p1
        replace p2 := (bcell hbwr b1 _ hbl).trans p2
        have hlen := fewAt_len G ps k
        obtain ⟨T, hT⟩ : ∃ T, T = fewAt G ps k := ⟨_, rfl⟩
        rw [← hT] at hown hlen
        have hsucc : fewAt G ps (k + 1) = if (decide ((x1, x2) ∈ G) && !decide ((x1, x2) ∈ T)) = true then T ++ [(x1, x2)] else T := by
          rw [hxx, hT]
          rfl
        obtain ⟨av, cv, hv, -⟩ := ((own_of_row hown).sl (by omega)).form
        subst hv
        have hPG : Pairs 0 wr (.slice am G.length cm) G := Sl.kept HhP2.out (Nat.zero_le _) hb.size fun j h1 h2 => hkept j h2 (by omega)
        have hkF : (k : Int) < ps.length := by omega
        have Hhxx := Lib.hid hxx; clear hxx
        have HhT := Lib.hid hT; clear hT
        have Hhsucc := Lib.hid hsucc; clear hsucc
        have Hhb := Lib.hid hb; clear hb
        have Hhown := Lib.hid hown; clear hown
        have HhPG := Lib.hid hPG; clear hPG
        have Hhbwr := Lib.hid hbwr; clear hbwr
        have Hhbwr2 := Lib.hid hbwr2; clear hbwr2
        have Hhkept := Lib.hid hkept; clear hkept
        have Hhvb := Lib.hid hvb; clear hvb
        clear hcs
        cases hg : decide ((x1, x2) ∈ G)
        all_goals
          have Hhg := Lib.hid hg; clear hg
          go_wp2_with fail
          refine (l24Has_any G (x1, x2) _ _ HhPG.out _ Hhg.out).mono ?_
          rintro e w3 ⟨rfl, hb3⟩
          have hB3 := Hhb.out.trans (hb3.mono (Nat.le_trans (show w.heap.size + 2 ≤ w2.heap.size by omega) Hhb.out.size))
          have hbw3 := Hhbwr2.out.trans (hb3.mono Hhbwr2.out.size)
          have hown3 := (Own.below (own_of_row Hhown.out) hb3).1
          have hkept3 : ∀ k, k < w2.heap.size → k ≠ w.heap.size + 2 → w3.heap[k]? = w2.heap[k]? := fun k h1 h2 => (hb3.block k (Nat.lt_of_lt_of_le h1 Hhb.out.size)).trans (Hhkept.out k h1 h2)
          have q1 := (bcell hbw3 b1 _ hbl).trans P1.out
          have q2 := (bcell hbw3 b1 _ hbl).trans P2.out
          have Hhb3 := Lib.hid hb3; clear hb3
          have HhB3 := Lib.hid hB3; clear hB3
          have Hhbw3 := Lib.hid hbw3; clear hbw3
          have Hhown3 := Lib.hid hown3; clear hown3
          have Hhkept3 := Lib.hid hkept3; clear hkept3
          clear p1 p2
        · go_wp2
          go_roundw
          case rel =>
            have hn : fewAt G ps (k + 1) = T := by rw [Hhsucc.out, Hhg.out]; rfl
            exact ⟨k + 1, by omega, by go_num, HhB3.out, Hhkept3.out, Hhvb.out, by rw [hn]; exact Hhown3.out⟩
          case measure => simp [intOf]; omega
        · have hPT : Pairs 0 w3 (.slice av T.length cv) T := Sl.mono ((own_of_row Hhown3.out).sl (by omega)) (Nat.zero_le _)
          have HhPT := Lib.hid hPT; clear hPT
          cases ht : decide ((x1, x2) ∈ T)
          all_goals
            have Hht := Lib.hid ht; clear ht
            go_wp2_with fail
            refine (l24Has_any T (x1, x2) _ _ HhPT.out _ Hht.out).mono ?_
            rintro e w4 ⟨rfl, hb4⟩
            have hB4 := HhB3.out.trans (hb4.mono (Nat.le_trans (show w.heap.size + 2 ≤ w2.heap.size by omega) HhB3.out.size))
            have hbw4 := Hhbw3.out.trans (hb4.mono Hhbw3.out.size)
            have hown4 := (Own.below (own_of_row Hhown3.out) hb4).1
            have hkept4 : ∀ k, k < w2.heap.size → k ≠ w.heap.size + 2 → w4.heap[k]? = w2.heap[k]? := fun k h1 h2 => (hb4.block k (Nat.lt_of_lt_of_le h1 HhB3.out.size)).trans (Hhkept3.out k h1 h2)
            have p1 := (bcell hbw4 b1 _ hbl).trans P1.out
            have p2 := (bcell hbw4 b1 _ hbl).trans P2.out
            have hz4 : w2.heap.size ≤ w4.heap.size := hB4.size
            have Hhb4 := Lib.hid hb4; clear hb4
            have HhB4 := Lib.hid hB4; clear hB4
            have Hhbw4 := Lib.hid hbw4; clear hbw4
            have Hhown4 := Lib.hid hown4; clear hown4
            have Hhkept4 := Lib.hid hkept4; clear hkept4
            clear q1 q2
          · have hal4 := (Below.refl w4.heap.size w4).alloc (Nat.le_refl _) (.cells #[.int .i64 x1, .int .i64 x2] 56)
            have hown5 := (Own.below (own_of_row Hhown4.out) hal4).1
            have Hhal4 := Lib.hid hal4; clear hal4
            have Hhown5 := Lib.hid hown5; clear hown5
            go_wp2_with (at_builtin; refine wpList_append_lies _ rfl _ _ _ rfl (w.heap.size + 2) 56 i0 (.agg #[.int .i64 0, .int .i64 0]) 2 16 Try.underlying50 Hhi.out Hhz0.out Hhz1.out Hhz2.out rfl (by omega) _ T.length _ rfl Hhown5.out ⟨w4.heap.size, 0, none⟩ 1 1 [.int .i64 x1, .int .i64 x2] rfl rfl (World.news_of_block (heap_alloc_new w4 _)) (by intro u hu; simp at hu; rcases hu with rfl | rfl <;> rfl) (by omega) (by unfold maxLen; omega) (by omega) (by simp; omega) _ rfl ?_; intro g6 c6 w6 hown6 hgrow6 hat6 hlt6; have Hown6 := Lib.hid hown6; have Hat6 := Lib.hid (show (Value.slice av T.length cv).ownBlock = some g6 ∨ g6 = (w4.alloc (.cells #[.int .i64 x1, .int .i64 x2] 56)).heap.size from hat6); have Hgrow6 := Lib.hid (show (w4.alloc (.cells #[.int .i64 x1, .int .i64 x2] 56)).grownBy w6 (Value.slice av T.length cv).ownBlock from hgrow6); clear hown6 hgrow6 hat6)
            go_roundw
            case rel =>
              have hn : fewAt G ps (k + 1) = T ++ [(x1, x2)] := by rw [Hhsucc.out, Hhg.out, Hht.out]; rfl
              refine ⟨k + 1, by omega, by go_num, (HhB4.out.alloc (by omega) _).grown Hgrow6.out (by simp; omega) (fun j hj => (World.ownsRow.lt Hhown5.out j hj).1), fun j h1 h2 => ?_, fun j hj => ?_, ?_⟩
              · refine (Hgrow6.out.block j (by simp; omega) fun hr => ?_).trans ((Hhal4.out.block j (by omega)).trans (Hhkept4.out j h1 h2))
                rcases Hhvb.out j hr.symm with h | h <;> omega
              · have : g6 = j := by simpa [Value.ownBlock] using hj
                subst this
                rcases Hat6.out with h | h
                · exact Hhvb.out _ h
                · right
                  rw [h]
                  simp
                  omega
              · rw [hn]
                simp only [List.length_append, List.length_singleton, flat_snoc]
                exact Hown6.out
            case measure => simp [intOf]; omega
          · go_wp2
            go_roundw
            case rel =>
              have hn : fewAt G ps (k + 1) = T := by rw [Hhsucc.out, Hhg.out, Hht.out]; rfl
              exact ⟨k + 1, by omega, by go_num, HhB4.out, Hhkept4.out, Hhvb.out, by rw [hn]; exact Hhown4.out⟩
            case measure => simp [intOf]; omega
      · obtain rfl : k = ps.length := by omega
        have hF2 := HhF1.out
        rw [hF2] at hown
        obtain ⟨av, cv, hv, -⟩ := ((own_of_row hown).sl (by omega)).form
        subst hv
        have Hhown := Lib.hid hown; clear hown
        have Hhb := Lib.hid hb; clear hb
        have HhF2 := Lib.hid hF2; clear hF2
        have Hhbwr := Lib.hid hbwr; clear hbwr
        have Hhbwr2 := Lib.hid hbwr2; clear hbwr2
        have Hhkept := Lib.hid hkept; clear hkept
        have Hhvb := Lib.hid hvb; clear hvb
        go_wp2
        go_ret2
        exact ⟨⟨_, _, rfl, Sl.mono ((own_of_row Hhown.out).sl (by omega)) (Nat.zero_le _)⟩, Hhbwr.out⟩
end Go.Proofs.Ythhbjkgchabfmaa
namespace Go.Proofs.Ythhbjkgchabfmaa
open Go.RowKit
theorem closed_all {a b : DfaD} {S : List (Int × Int)} (hc : ∀ p ∈ S, ∀ c, c < 3 → stepP a b p c ∈ S) (h0 : ((0, 0) : Int × Int) ∈ S) (K : Nat) : ∀ p ∈ metP a b K, p ∈ S :=
  bat_all (nx := stepP a b) (a := ((0, 0) : Int × Int)) (Q := fun p => p ∈ S) h0 (fun p c hc' hp => hc p hp c hc') K
theorem few_mem {F ps : List (Int × Int)} : ∀ {k : Nat}, k ≤ ps.length → ∀ {p : Int × Int}, p ∈ fewAt F ps k ↔ p ∈ ps.take k ∧ p ∈ F
  | 0, _, p => by simp [fewAt]
  | k + 1, hk, p => by
    have ih := few_mem (F := F) (ps := ps) (k := k) (by omega) (p := p)
    have ht : ps.take (k + 1) = ps.take k ++ [ps.getD k (0, 0)] := by
      rw [List.take_succ_eq_append_getElem (by omega), getD_at (by omega)]
    rw [ht, List.mem_append, List.mem_singleton]
    unfold fewAt
    by_cases h : (decide (ps.getD k (0, 0) ∈ F) && !decide (ps.getD k (0, 0) ∈ fewAt F ps k)) = true
    · rw [if_pos h, List.mem_append, List.mem_singleton, ih]
      simp only [Bool.and_eq_true, decide_eq_true_eq] at h
      constructor
      · rintro (h1 | rfl)
        · exact ⟨.inl h1.1, h1.2⟩
        · exact ⟨.inr rfl, h.1⟩
      · rintro ⟨h1 | h1, h2⟩
        · exact .inl ⟨h1, h2⟩
        · exact .inr h1
    · rw [if_neg h, ih]
      constructor
      · rintro ⟨h1, h2⟩
        exact ⟨.inl h1, h2⟩
      · rintro ⟨h1 | rfl, h2⟩
        · exact ⟨h1, h2⟩
        · have h3 : ps.getD k (0, 0) ∈ fewAt F ps k := by
            rw [Bool.and_eq_true, not_and, decide_eq_true_eq] at h
            simpa using h h2
          exact ((few_mem (F := F) (ps := ps) (k := k) (by omega)).1 h3)
theorem few_nodup {F ps : List (Int × Int)} : ∀ k : Nat, (fewAt F ps k).Nodup
  | 0 => List.nodup_nil
  | k + 1 => by
    have ih := few_nodup (F := F) (ps := ps) k
    unfold fewAt
    by_cases h : (decide (ps.getD k (0, 0) ∈ F) && !decide (ps.getD k (0, 0) ∈ fewAt F ps k)) = true
    · rw [if_pos h, List.nodup_append]
      simp only [Bool.and_eq_true, decide_eq_true_eq, Bool.not_eq_true', decide_eq_false_iff_not] at h
      refine ⟨ih, (by simp), fun x hx y hy e => ?_⟩
      rw [List.mem_singleton] at hy
      subst hy
      subst e
      exact h.2 hx
    · rw [if_neg h]
      exact ih
theorem few_check {a b : DfaD} {ps : List (Int × Int)} (h : checkB a b ps = true) {K : Nat} (hK : 1600 ≤ K) : checkB a b (fewAt (metP a b K) ps ps.length) = true ∧ (fewAt (metP a b K) ps ps.length).length = (metP a b K).length := by
  have hs := check_same h
  obtain ⟨-, -, h2, h3⟩ := check_iff.1 h
  have hall := closed_all (fun p hp => (h2 p hp).2.2) h3 K
  have hmem : ∀ p, p ∈ fewAt (metP a b K) ps ps.length ↔ p ∈ metP a b K := fun p => by
    rw [few_mem (Nat.le_refl _), List.take_length]
    exact ⟨fun h => h.2, fun h => ⟨hall p h, h⟩⟩
  have hl : (fewAt (metP a b K) ps ps.length).length = (metP a b K).length :=
    Nat.le_antisymm (nodup_le (few_nodup _) fun x hx => (hmem x).1 hx) (nodup_le (bat_good K).1 fun x hx => (hmem x).2 hx)
  obtain ⟨g1, g2, g3, g4⟩ := check_iff.1 (met_check hK hs)
  refine ⟨check_iff.2 ⟨g1, by rw [hl]; exact g2, fun p hp => ?_, (hmem _).2 g4⟩, hl⟩
  obtain ⟨k1, k2, k3⟩ := g3 p ((hmem p).1 hp)
  exact ⟨k1, k2, fun c hc => (hmem _).2 (k3 c hc)⟩
set_option maxRecDepth 100000 in
set_option maxHeartbeats 4000000 in
theorem drawFewPairs3_any (bs : List Nat) (v : Value) (w : World) (hb : Bytes 0 w v bs) (hlen : bs.length ≤ 100000000) :
    Calls Try.prog 47 #[v] w fun e w' => RThree w e w' := by
  have hS0 := ((St.start w).alloc w.heap.size rfl #[.slice none 0 0, .slice none 0 0] 26).alloc (w.heap.size + 1) (by simp) #[.slice none 0 0, .slice none 0 0] 26
  have Hb := Lib.hid hb
  have HhS0 := Lib.hid hS0; clear hS0
  clear hb
  go_enter Try.func47, Try.ntmps47
  go_wp2_with fail
  refine (openJ_any bs v _ (Hb.out.below HhS0.out.bel) hlen).mono ?_
  rintro e w1 ⟨vb, bs', hl', hB, rfl, hS'⟩
  obtain ⟨b, hbb⟩ : ∃ b, b = ((w.alloc (.cells #[.slice none 0 0, .slice none 0 0] 26)).alloc (.cells #[.slice none 0 0, .slice none 0 0] 26)).heap.size := ⟨_, rfl⟩
  rw [← hbb] at hS'
  rw [← hbb]
  have hB1 := hB w Hb.out
  have HB := Lib.hid hB1
  have hS1 : St w w1 [RdE b vb 0, Ent.box (w.heap.size) #[.slice none 0 0, .slice none 0 0] 26, Ent.box (w.heap.size + 1) #[.slice none 0 0, .slice none 0 0] 26] := (HhS0.out.cat hS').pick [2, 0, 1] (by decide)
  have HS1 := Lib.hid hS1
  have Hhbb := Lib.hid hbb; clear hbb
  clear hS' hB hB1 hS1
  go_wp2_with fail
  refine (l20Proof_any bs' vb b 0 w w1 _ HB.out hl' (by omega) (St.pack (A := [RdE b vb 0]) (R := [Ent.box (w.heap.size) #[.slice none 0 0, .slice none 0 0] 26, Ent.box (w.heap.size + 1) #[.slice none 0 0, .slice none 0 0] 26]) HS1.out)).mono ?_
  rintro e w2 ⟨G, B, ps, a1, a2, b1, b2, c1, c2, d1, d2, al, cl, pn, E, E2, hsm1, hsm2, hps, rfl, hq1, hq2, hq3, hSp⟩
  have hS2 : St w w2 [RdE b vb pn, E, Ent.box (w.heap.size) #[.slice none 0 0, .slice none 0 0] 26, Ent.box (w.heap.size + 1) #[.slice none 0 0, .slice none 0 0] 26, E2] := (St.unpack (A := [RdE b vb 0]) (A' := [RdE b vb pn, E, E2]) (R := [Ent.box (w.heap.size) #[.slice none 0 0, .slice none 0 0] 26, Ent.box (w.heap.size + 1) #[.slice none 0 0, .slice none 0 0] 26]) HS1.out (hSp.pick [0, 2, 3, 1] (by decide))).pick [0, 1, 3, 4, 2] (by decide)
  have HS := Lib.hid hS2
  clear hS2 hSp
  have f0 := HS.out.fr 2 0 rfl
  have k0 := HS.out.cell (v := .slice none 0 0) 2 0 rfl rfl
  have f1 := HS.out.fr 2 1 rfl
  have k1 := HS.out.cell (v := .slice none 0 0) 2 1 rfl rfl
  have f2 := HS.out.fr 3 0 rfl
  have k2 := HS.out.cell (v := .slice none 0 0) 3 0 rfl rfl
  have f3 := HS.out.fr 3 1 rfl
  have k3 := HS.out.cell (v := .slice none 0 0) 3 1 rfl rfl
  have HS3 := Lib.hid ((((HS.out.set 2 rfl 0 (.slice a1 G.next.length c1)).set 2 rfl 1 (.slice a2 G.ends.length c2)).set 3 rfl 0 (.slice b1 B.next.length d1)).set 3 rfl 1 (.slice b2 B.ends.length d2))
  have q0 := HS3.out.cell (v := .slice a1 G.next.length c1) 2 0 rfl rfl
  have q1 := HS3.out.cell (v := .slice a2 G.ends.length c2) 2 1 rfl rfl
  have q2 := HS3.out.cell (v := .slice b1 B.next.length d1) 3 0 rfl rfl
  have q3 := HS3.out.cell (v := .slice b2 B.ends.length d2) 3 1 rfl rfl
  go_wp2
  refine bodyPost_ret (v := .tuple #[.agg #[.slice a1 G.next.length c1, .slice a2 G.ends.length c2], .agg #[.slice b1 B.next.length d1, .slice b2 B.ends.length d2], .slice al ps.length cl]) (by simp [results, Try.results47, go_sem, q0, q1, q2, q3]) rfl ?_
  exact ⟨G, B, ps, a1, a2, b1, b2, c1, c2, d1, d2, al, cl, hsm1, hsm2, hps, rfl, hq1.r HS3.out 1 rfl, hq2.r HS3.out 1 rfl, hq3.r HS3.out 4 rfl, HS3.out.bel⟩
@[go_sem high] theorem Try.neqPair3 (x1 x2 : Int) (w : World) : (binOp .neq 56 (.agg #[.int .i64 x1, .int .i64 x2]) (.agg #[.int .i64 x1, .int .i64 x2])).run Try.prog w = .ok (.bool false) w := by
  rw [run_neq_struct, show (10000 : Nat) = 9998 + 1 + 1 from rfl, run_equalIn_struct w _ _ _ _ Try.plainPair Try.heldPair, eqFields2 (ti := 3) _ _ _ _ _ _ Try.underlying3 Try.pairFields]
  simp
@[go_sem high] theorem Try.neqPairGuard3 (x y : Operand) (xs ys : Array Value) (w : World) : (eqGuard .neq 56 x y (.agg xs) (.agg ys)).run Try.prog w = .ok () w := run_eqGuard_agg _ _ _ _ _ _ _ Try.guardPair
set_option maxRecDepth 100000 in
set_option maxHeartbeats 16000000 in
theorem fewEnough_walk (bs : List Nat) (v : Value) (w : World) (hb : Bytes 0 w v bs) :
    Calls Try.prog 10 #[v] w fun e w' => e = .returned (.bool true) ∧ Below w.heap.size w w' := by
  have HB := Lib.hid hb
  obtain ⟨av, cv, rfl, hcv1, hcv2, -⟩ := hb.form
  clear hb
  by_cases hlen : 1048576 < bs.length
  · have hl2 : (1048576 : Int) < bs.length := by omega
    go_enter Try.func10, Try.ntmps10
    go_wp2
    go_ret
    exact ⟨rfl, Below.refl _ _⟩
  have hl2 : ¬ (1048576 : Int) < bs.length := by omega
  go_enter Try.func10, Try.ntmps10
  go_wp2_with fail
  refine (drawFewPairs3_any bs _ _ HB.out (by omega)).mono ?_
  rintro e w1 ⟨G, B, ps, a1, a2, b1, b2, c1, c2, d1, d2, al, cl, hsm1, hsm2, hps, rfl, hg, hbb, hpp, hb1⟩
  have hS1 := (((St.start w).call hb1).alloc w1.heap.size rfl #[.slice a1 G.next.length c1, .slice a2 G.ends.length c2] 26).alloc (w1.heap.size + 1) (by simp) #[.slice b1 B.next.length d1, .slice b2 B.ends.length d2] 26
  have hbe : Below w1.heap.size w1 ((w1.alloc (.cells #[.slice a1 G.next.length c1, .slice a2 G.ends.length c2] 26)).alloc (.cells #[.slice b1 B.next.length d1, .slice b2 B.ends.length d2] 26)) := ((Below.refl w1.heap.size w1).alloc (Nat.le_refl _) _).alloc (by simp) _
  have HS1 := Lib.hid hS1
  have HG1 := Lib.hid (hg.below hbe)
  have HB1 := Lib.hid (hbb.below hbe)
  have HP1 := Lib.hid (hpp.below hbe)
  clear hb1 hg hbb hpp hS1 hbe HB
  obtain ⟨F, hF⟩ : ∃ F, fewF G B ps = F := ⟨_, rfl⟩
  have hFl : F.length ≤ ps.length := by rw [← hF]; exact fewF_len G B ps
  cases hfb : checkB G B ps
  · have hF0 : F.length = 0 := by rw [← hF, fewF, if_neg (by rw [hfb]; simp)]; rfl
    have hF0b : ((F.length : Int) == 0) = true := by rw [hF0]; rfl
    have HhF0 := Lib.hid hF0; clear hF0
    have HhF := Lib.hid hF; clear hF
    have Hhfb := Lib.hid hfb; clear hfb
    have e0 := HS1.out.cell (v := .slice a1 G.next.length c1) 0 0 rfl rfl
    have e1 := HS1.out.cell (v := .slice a2 G.ends.length c2) 0 1 rfl rfl
    have f0 := HS1.out.cell (v := .slice b1 B.next.length d1) 1 0 rfl rfl
    have f1 := HS1.out.cell (v := .slice b2 B.ends.length d2) 1 1 rfl rfl
    go_wp2_with fail
    refine (implFew_any G B ps F false HhF.out Hhfb.out _ _ _ _ (by omega) HG1.out HB1.out HP1.out).mono ?_
    rintro e w2 ⟨⟨ax, cx, rfl, hpo⟩, hb⟩
    have HX2 := Lib.hid (show Pairs 0 w2 (.slice ax F.length cx) F from (OPairs.pairs hpo).mono (Nat.zero_le _))
    clear hpo
    have HS2 := Lib.hid (HS1.out.call hb)
    have HG2 := Lib.hid (HG1.out.below hb)
    have HB2 := Lib.hid (HB1.out.below hb)
    have HP2 := Lib.hid (HP1.out.below hb)
    clear hb e0 e1 f0 f1
    have e0 := HS2.out.cell (v := .slice a1 G.next.length c1) 0 0 rfl rfl
    have e1 := HS2.out.cell (v := .slice a2 G.ends.length c2) 0 1 rfl rfl
    have f0 := HS2.out.cell (v := .slice b1 B.next.length d1) 1 0 rfl rfl
    have f1 := HS2.out.cell (v := .slice b2 B.ends.length d2) 1 1 rfl rfl
    go_wp2_with fail
    refine (specFew_any G B ps F false HhF.out Hhfb.out _ _ _ _ (by omega) HG2.out HB2.out HP2.out).mono ?_
    rintro e w3 ⟨⟨ay, cy, rfl, hpy⟩, hb⟩
    have HY3 := Lib.hid hpy
    clear hpy
    have HS3 := Lib.hid (HS2.out.call hb)
    have HG3 := Lib.hid (HG2.out.below hb)
    have HB3 := Lib.hid (HB2.out.below hb)
    have HP3 := Lib.hid (HP2.out.below hb)
    have HX3 := Lib.hid (HX2.out.below hb)
    clear hb e0 e1 f0 f1
    obtain ⟨_, _, hv1, hq1, hq2, hr1⟩ := HX3.out.form
    obtain ⟨_, _, hv2, -, -, hr2⟩ := HY3.out.form
    injection hv1 with p1 p2 p3
    subst p1
    subst p3
    injection hv2 with p1' p2' p3'
    subst p1'
    subst p3'
    have Hr1 := Lib.hid hr1
    have Hr2 := Lib.hid hr2
    clear hr1 hr2 p2 p2'
    go_wp2
    go_loopw [2, 10] (fun r vi wr => ∃ k : Nat, r = .bool false ∧ vi = .int .i64 (k : Int) ∧ k ≤ F.length ∧ St w3 wr []) (fun _ vi _ => F.length - (intOf vi).toNat)
    case atStart => exact ⟨0, rfl, rfl, Nat.zero_le _, St.start w3⟩
    case round =>
      obtain ⟨k, rfl, rfl, hk, hS⟩ := hrel
      by_cases hlt : k < F.length
      · obtain ⟨bi, oi, rfl, -, hbl1, hcs1⟩ := Hr1.out (by omega)
        obtain ⟨bs2, os2, rfl, -, hbl2, hcs2⟩ := Hr2.out (by omega)
        have x1 := (bcell hS.bel bi (oi + k * 2) hbl1).trans (hcs1 k hlt).1
        have x2 := (bcell hS.bel bi (oi + k * 2 + 1) hbl1).trans (hcs1 k hlt).2
        have y1 := (bcell hS.bel bs2 (os2 + k * 2) hbl2).trans (hcs2 k hlt).1
        have y2 := (bcell hS.bel bs2 (os2 + k * 2 + 1) hbl2).trans (hcs2 k hlt).2
        obtain ⟨p, hp⟩ : ∃ p, p = (F.getD k (0, 0)).1 := ⟨_, rfl⟩
        obtain ⟨q, hq⟩ : ∃ q, q = (F.getD k (0, 0)).2 := ⟨_, rfl⟩
        rw [← hp] at x1 y1
        rw [← hq] at x2 y2
        have hltI : (k : Int) < F.length := by omega
        have Hhp := Lib.hid hp; clear hp
        have Hhq := Lib.hid hq; clear hq
        have HhS := Lib.hid hS; clear hS
        clear hcs1 hcs2
        go_wp2
        go_quiet (fail)
        go_wp2
        go_roundw
        case rel => exact ⟨k + 1, rfl, by go_num, by omega, HhS.out.drewN _⟩
        case measure => simp [intOf]; omega
      · obtain rfl : k = F.length := by omega
        have HS4 := Lib.hid (HS3.out.call hS.bel)
        have HG4 := Lib.hid (HG3.out.below hS.bel)
        have HB4 := Lib.hid (HB3.out.below hS.bel)
        have HP4 := Lib.hid (HP3.out.below hS.bel)
        have HX4 := Lib.hid (HX3.out.below hS.bel)
        clear hS hlt
        have e0 := HS4.out.cell (v := .slice a1 G.next.length c1) 0 0 rfl rfl
        have e1 := HS4.out.cell (v := .slice a2 G.ends.length c2) 0 1 rfl rfl
        have f0 := HS4.out.cell (v := .slice b1 B.next.length d1) 1 0 rfl rfl
        have f1 := HS4.out.cell (v := .slice b2 B.ends.length d2) 1 1 rfl rfl
        go_wp2_with fail
        refine (implCheckPairs_any G B ps _ _ _ _ HG4.out HB4.out HP4.out _ Hhfb.out).mono ?_
        rintro e x5 ⟨rfl, hb⟩
        have HS5 := Lib.hid (HS4.out.call hb)
        have HG5 := Lib.hid (HG4.out.below hb)
        have HB5 := Lib.hid (HB4.out.below hb)
        have HP5 := Lib.hid (HP4.out.below hb)
        clear hb e0 e1 f0 f1
        go_wp2_with (go_at_call 20; refine (alive_any _).mono ?_; rintro e w' ⟨rfl, rfl⟩)
        go_ret
        exact ⟨rfl, HS5.out.bel⟩
  · have hsame := check_same hfb
    have hmp : makeP G B = some (metP G B mostP) := if_pos hsame
    obtain ⟨h1, h2⟩ := few_check hfb mostP_ge
    have hFe : fewAt (metP G B mostP) ps ps.length = F := by rw [← hF, fewF, if_pos hfb, hmp]; rfl
    rw [hFe] at h1 h2
    obtain ⟨M, hM⟩ : ∃ M, metP G B mostP = M := ⟨_, rfl⟩
    rw [hM] at hmp h2
    have hchk := h1
    have hml : ((F.length : Int) == (M.length : Int)) = true := by rw [h2]; simp
    have hle1 : decide ((F.length : Int) ≤ (ps.length : Int)) = true := decide_eq_true (by omega)
    have hle2 : decide (F.length ≤ ps.length) = true := decide_eq_true hFl
    have Hhchk := Lib.hid hchk; clear hchk
    have Hhmp := Lib.hid hmp; clear hmp
    have HhM := Lib.hid hM; clear hM
    have HhFe := Lib.hid hFe; clear hFe
    have HhF := Lib.hid hF; clear hF
    have Hhfb := Lib.hid hfb; clear hfb
    clear h1 h2 hsame
    have e0 := HS1.out.cell (v := .slice a1 G.next.length c1) 0 0 rfl rfl
    have e1 := HS1.out.cell (v := .slice a2 G.ends.length c2) 0 1 rfl rfl
    have f0 := HS1.out.cell (v := .slice b1 B.next.length d1) 1 0 rfl rfl
    have f1 := HS1.out.cell (v := .slice b2 B.ends.length d2) 1 1 rfl rfl
    go_wp2_with fail
    refine (implFew_any G B ps F true HhF.out Hhfb.out _ _ _ _ (by omega) HG1.out HB1.out HP1.out).mono ?_
    rintro e w2 ⟨⟨ax, cx, rfl, hpo⟩, hb⟩
    have HX2 := Lib.hid (show Pairs 0 w2 (.slice ax F.length cx) F from (OPairs.pairs hpo).mono (Nat.zero_le _))
    clear hpo
    have HS2 := Lib.hid (HS1.out.call hb)
    have HG2 := Lib.hid (HG1.out.below hb)
    have HB2 := Lib.hid (HB1.out.below hb)
    have HP2 := Lib.hid (HP1.out.below hb)
    clear hb e0 e1 f0 f1
    have e0 := HS2.out.cell (v := .slice a1 G.next.length c1) 0 0 rfl rfl
    have e1 := HS2.out.cell (v := .slice a2 G.ends.length c2) 0 1 rfl rfl
    have f0 := HS2.out.cell (v := .slice b1 B.next.length d1) 1 0 rfl rfl
    have f1 := HS2.out.cell (v := .slice b2 B.ends.length d2) 1 1 rfl rfl
    go_wp2_with fail
    refine (specFew_any G B ps F true HhF.out Hhfb.out _ _ _ _ (by omega) HG2.out HB2.out HP2.out).mono ?_
    rintro e w3 ⟨⟨ay, cy, rfl, hpy⟩, hb⟩
    have HY3 := Lib.hid hpy
    clear hpy
    have HS3 := Lib.hid (HS2.out.call hb)
    have HG3 := Lib.hid (HG2.out.below hb)
    have HB3 := Lib.hid (HB2.out.below hb)
    have HP3 := Lib.hid (HP2.out.below hb)
    have HX3 := Lib.hid (HX2.out.below hb)
    clear hb e0 e1 f0 f1
    obtain ⟨_, _, hv1, hq1, hq2, hr1⟩ := HX3.out.form
    obtain ⟨_, _, hv2, -, -, hr2⟩ := HY3.out.form
    injection hv1 with p1 p2 p3
    subst p1
    subst p3
    injection hv2 with p1' p2' p3'
    subst p1'
    subst p3'
    have Hr1 := Lib.hid hr1
    have Hr2 := Lib.hid hr2
    clear hr1 hr2 p2 p2'
    go_wp2
    go_loopw [2, 10] (fun r vi wr => ∃ k : Nat, r = .bool false ∧ vi = .int .i64 (k : Int) ∧ k ≤ F.length ∧ St w3 wr []) (fun _ vi _ => F.length - (intOf vi).toNat)
    case atStart => exact ⟨0, rfl, rfl, Nat.zero_le _, St.start w3⟩
    case round =>
      obtain ⟨k, rfl, rfl, hk, hS⟩ := hrel
      by_cases hlt : k < F.length
      · obtain ⟨bi, oi, rfl, -, hbl1, hcs1⟩ := Hr1.out (by omega)
        obtain ⟨bs2, os2, rfl, -, hbl2, hcs2⟩ := Hr2.out (by omega)
        have x1 := (bcell hS.bel bi (oi + k * 2) hbl1).trans (hcs1 k hlt).1
        have x2 := (bcell hS.bel bi (oi + k * 2 + 1) hbl1).trans (hcs1 k hlt).2
        have y1 := (bcell hS.bel bs2 (os2 + k * 2) hbl2).trans (hcs2 k hlt).1
        have y2 := (bcell hS.bel bs2 (os2 + k * 2 + 1) hbl2).trans (hcs2 k hlt).2
        obtain ⟨p, hp⟩ : ∃ p, p = (F.getD k (0, 0)).1 := ⟨_, rfl⟩
        obtain ⟨q, hq⟩ : ∃ q, q = (F.getD k (0, 0)).2 := ⟨_, rfl⟩
        rw [← hp] at x1 y1
        rw [← hq] at x2 y2
        have hltI : (k : Int) < F.length := by omega
        have Hhp := Lib.hid hp; clear hp
        have Hhq := Lib.hid hq; clear hq
        have HhS := Lib.hid hS; clear hS
        clear hcs1 hcs2
        go_wp2
        go_quiet (fail)
        go_wp2
        go_roundw
        case rel => exact ⟨k + 1, rfl, by go_num, by omega, HhS.out.drewN _⟩
        case measure => simp [intOf]; omega
      · obtain rfl : k = F.length := by omega
        have HS4 := Lib.hid (HS3.out.call hS.bel)
        have HG4 := Lib.hid (HG3.out.below hS.bel)
        have HB4 := Lib.hid (HB3.out.below hS.bel)
        have HP4 := Lib.hid (HP3.out.below hS.bel)
        have HX4 := Lib.hid (HX3.out.below hS.bel)
        clear hS hlt
        have e0 := HS4.out.cell (v := .slice a1 G.next.length c1) 0 0 rfl rfl
        have e1 := HS4.out.cell (v := .slice a2 G.ends.length c2) 0 1 rfl rfl
        have f0 := HS4.out.cell (v := .slice b1 B.next.length d1) 1 0 rfl rfl
        have f1 := HS4.out.cell (v := .slice b2 B.ends.length d2) 1 1 rfl rfl
        go_wp2_with fail
        refine (implMakePairs_any G B _ _ _ HG4.out HB4.out).mono ?_
        rintro e w5 ⟨hmp, hb⟩
        rw [Hhmp.out] at hmp
        obtain ⟨ai, ci, rfl, -⟩ := hmp
        have HS5 := Lib.hid (HS4.out.call hb)
        have HG5 := Lib.hid (HG4.out.below hb)
        have HB5 := Lib.hid (HB4.out.below hb)
        have HP5 := Lib.hid (HP4.out.below hb)
        have HX5 := Lib.hid (HX4.out.below hb)
        clear hb e0 e1 f0 f1
        have e0 := HS5.out.cell (v := .slice a1 G.next.length c1) 0 0 rfl rfl
        have e1 := HS5.out.cell (v := .slice a2 G.ends.length c2) 0 1 rfl rfl
        have f0 := HS5.out.cell (v := .slice b1 B.next.length d1) 1 0 rfl rfl
        have f1 := HS5.out.cell (v := .slice b2 B.ends.length d2) 1 1 rfl rfl
        go_wp2_with fail
        refine (implCheckPairs_any G B F _ _ _ _ HG5.out HB5.out HX5.out _ Hhchk.out).mono ?_
        rintro e x6 ⟨rfl, hb⟩
        have HS6 := Lib.hid (HS5.out.call hb)
        have HG6 := Lib.hid (HG5.out.below hb)
        have HB6 := Lib.hid (HB5.out.below hb)
        have HP6 := Lib.hid (HP5.out.below hb)
        have HX6 := Lib.hid (HX5.out.below hb)
        clear hb e0 e1 f0 f1
        go_wp2
        go_ret
        exact ⟨rfl, HS6.out.bel⟩
end Go.Proofs.Ythhbjkgchabfmaa
