/-
  The walk over the law FnMakePairs.
  Condition: the argument reads as bytes.
-/
import Derived.Test.YthhbjkgchabfmaaPk22Pa
import Derived.Test.YthhbjkgchabfmaaPk23Tb
namespace Go.Proofs.Ythhbjkgchabfmaa
open Go.RowKit
theorem on_prsM {l : List (Int × Int)} : ∀ u ∈ l.flatMap pairCells, u.oneCell' = true := fun u hu => by
  obtain ⟨x, -, hx⟩ := List.mem_flatMap.1 hu
  simp only [pairCells, List.mem_cons, List.not_mem_nil, or_false] at hx
  rcases hx with rfl | rfl <;> rfl
theorem sl_nil2 (w : World) (a : Option Addr) : Sl 0 w (.slice a 0 0) 0 2 [] := ⟨rfl, a, 0, rfl, Nat.le_refl _, Nat.zero_le _, fun h => absurd h (by simp)⟩
theorem drop_sl {w : World} {b off len cap : Nat} {xs : List (Int × Int)} (h : Pairs 0 w (.slice (some ⟨b, off, none⟩) len cap) xs) {n : Nat} (hn : n ≤ xs.length) :
    Sl 0 w (.slice (some ⟨b, off + n * 2, none⟩) (xs.length - n) (cap - n)) (xs.length - n) 2 ((xs.drop n).flatMap pairCells) := by
  by_cases hlt : n < xs.length
  · have h2 := h.drop hlt
    unfold Pairs at h2
    rw [List.length_drop] at h2
    exact h2
  · obtain ⟨-, a', cap', hv, h1, h2, -⟩ := h
    simp only [Value.slice.injEq] at hv
    obtain ⟨-, -, rfl⟩ := hv
    have e : xs.drop n = [] := List.drop_eq_nil_of_le (by omega)
    have e2 : xs.length - n = 0 := by omega
    rw [e, e2]
    exact ⟨rfl, _, _, rfl, by omega, by omega, fun h => absurd h (by simp)⟩
@[go_sem high] theorem Try.neqPair (x1 x2 : Int) (w : World) : (binOp .neq 56 (.agg #[.int .i64 x1, .int .i64 x2]) (.agg #[.int .i64 x1, .int .i64 x2])).run Try.prog w = .ok (.bool false) w := by
  rw [run_neq_struct, show (10000 : Nat) = 9998 + 1 + 1 from rfl, run_equalIn_struct w _ _ _ _ Try.plainPair Try.heldPair, eqFields2 (ti := 3) _ _ _ _ _ _ Try.underlying3 Try.pairFields]
  simp
@[go_sem high] theorem Try.neqPairGuard (x y : Operand) (xs ys : Array Value) (w : World) : (eqGuard .neq 56 x y (.agg xs) (.agg ys)).run Try.prog w = .ok () w := run_eqGuard_agg _ _ _ _ _ _ _ Try.guardPair
set_option maxRecDepth 100000 in
set_option maxHeartbeats 16000000 in
theorem pairsMade_walk (bs : List Nat) (v : Value) (w : World) (hb : Bytes 0 w v bs) :
    Calls Try.prog 8 #[v] w fun e w' => e = .returned (.bool true) ∧ Below w.heap.size w w' := by
  have HB := Lib.hid hb
  obtain ⟨av, cv, rfl, hcv1, hcv2, -⟩ := hb.form
  clear hb
  by_cases hlen : 1048576 < bs.length
  · have hl2 : (1048576 : Int) < bs.length := by omega
    go_enter Try.func8, Try.ntmps8
    go_wp2
    go_ret
    exact ⟨rfl, Below.refl _ _⟩
  have hl2 : ¬ (1048576 : Int) < bs.length := by omega
  go_enter Try.func8, Try.ntmps8
  go_wp2_with fail
  refine (drawMakePairs2_any bs _ _ HB.out (by omega)).mono ?_
  rintro e w1 ⟨G, B, a1, a2, b1, b2, c1, c2, d1, d2, hsm1, hsm2, rfl, hg, hbb, hb1⟩
  have hS1 := (((St.start w).call hb1).alloc w1.heap.size rfl #[.slice a1 G.next.length c1, .slice a2 G.ends.length c2] 26).alloc (w1.heap.size + 1) (by simp) #[.slice b1 B.next.length d1, .slice b2 B.ends.length d2] 26
  have hbe : Below w1.heap.size w1 ((w1.alloc (.cells #[.slice a1 G.next.length c1, .slice a2 G.ends.length c2] 26)).alloc (.cells #[.slice b1 B.next.length d1, .slice b2 B.ends.length d2] 26)) := ((Below.refl w1.heap.size w1).alloc (Nat.le_refl _) _).alloc (by simp) _
  have HS1 := Lib.hid hS1
  have HG1 := Lib.hid (hg.below hbe)
  have HB1 := Lib.hid (hbb.below hbe)
  obtain ⟨i0, hi, hz0, hz1, hz2⟩ := info_parts Try.infoPair
  have Hhi := Lib.hid hi; clear hi
  have Hhz0 := Lib.hid hz0; clear hz0
  have Hhz1 := Lib.hid hz1; clear hz1
  have Hhz2 := Lib.hid hz2; clear hz2
  clear hb1 hg hbb hS1 hbe
  cases hsame : sameB G B
  · have hmp : makeP G B = none := by unfold makeP; rw [if_neg (by rw [hsame]; simp)]
    have Hhmp := Lib.hid hmp; clear hmp
    have Hhsame := Lib.hid hsame; clear hsame
    have e0 := HS1.out.cell (v := .slice a1 G.next.length c1) 0 0 rfl rfl
    have e1 := HS1.out.cell (v := .slice a2 G.ends.length c2) 0 1 rfl rfl
    have f0 := HS1.out.cell (v := .slice b1 B.next.length d1) 1 0 rfl rfl
    have f1 := HS1.out.cell (v := .slice b2 B.ends.length d2) 1 1 rfl rfl
    go_wp2_with fail
    refine (implMakePairs_any G B _ _ _ HG1.out HB1.out).mono ?_
    rintro e w2 ⟨hmp, hb⟩
    rw [Hhmp.out] at hmp
    obtain rfl : e = .returned (.tuple #[.slice none 0 0, .bool false]) := hmp
    have HS2 := Lib.hid (HS1.out.call hb)
    have HG2 := Lib.hid (HG1.out.below hb)
    have HB2 := Lib.hid (HB1.out.below hb)
    clear hb e0 e1 f0 f1
    have e0 := HS2.out.cell (v := .slice a1 G.next.length c1) 0 0 rfl rfl
    have e1 := HS2.out.cell (v := .slice a2 G.ends.length c2) 0 1 rfl rfl
    have f0 := HS2.out.cell (v := .slice b1 B.next.length d1) 1 0 rfl rfl
    have f1 := HS2.out.cell (v := .slice b2 B.ends.length d2) 1 1 rfl rfl
    go_wp2_with fail
    refine (specMakePairs_any G B _ _ _ HG2.out HB2.out).mono ?_
    rintro e w3 ⟨hmp, hb⟩
    rw [Hhmp.out] at hmp
    obtain ⟨az, cs, he, -⟩ := hmp
    obtain rfl : e = .returned (.tuple #[.slice az 0 cs, .bool false]) := he
    have HS3 := Lib.hid (HS2.out.call hb)
    have HG3 := Lib.hid (HG2.out.below hb)
    have HB3 := Lib.hid (HB2.out.below hb)
    clear hb e0 e1 f0 f1
    go_wp2
    go_loopw [2, 9, 10] (fun r vi lv wr => r = .bool false ∧ vi = .int .i64 0 ∧ St w3 wr []) (fun _ _ _ _ => 0)
    case atStart => exact ⟨rfl, rfl, St.start w3⟩
    case round =>
      obtain ⟨rfl, rfl, hS⟩ := hrel
      have HS4 := Lib.hid (HS3.out.call hS.bel)
      have HG4 := Lib.hid (HG3.out.below hS.bel)
      have HB4 := Lib.hid (HB3.out.below hS.bel)
      clear hS
      have e0 := HS4.out.cell (v := .slice a1 G.next.length c1) 0 0 rfl rfl
      have e1 := HS4.out.cell (v := .slice a2 G.ends.length c2) 0 1 rfl rfl
      have f0 := HS4.out.cell (v := .slice b1 B.next.length d1) 1 0 rfl rfl
      have f1 := HS4.out.cell (v := .slice b2 B.ends.length d2) 1 1 rfl rfl
      go_wp2_with fail
      refine (implSame_any G B _ _ _ HG4.out HB4.out _ Hhsame.out).mono ?_
      rintro e w5 ⟨rfl, hb⟩
      have HS5 := Lib.hid (HS4.out.call hb)
      clear hb e0 e1 f0 f1
      go_wp2_with (go_at_call 20; refine (alive_any _).mono ?_; rintro e w' ⟨rfl, rfl⟩)
      go_ret
      exact ⟨rfl, HS5.out.bel⟩
  · obtain ⟨F, hF⟩ : ∃ F, metP G B mostP = F := ⟨_, rfl⟩
    have hmp : makeP G B = some F := by rw [← hF]; exact if_pos hsame
    have hF0 : 0 < F.length := by rw [← hF]; exact List.length_pos_of_mem (metP_zero G B mostP)
    have hF1600 : F.length ≤ 1600 := by
      rw [← hF]
      exact most_le (sameB_parts hsame).1 (sameB_parts hsame).2 mostP_ge
    have hless : ∀ k, k < F.length → checkB G B (F.take k ++ F.drop (k + 1)) = false := fun k hk => by
      rw [← hF] at hk ⊢
      exact less_check hk
    have hchk : checkB G B F = true := by rw [← hF]; exact met_check mostP_ge hsame
    have HhF := Lib.hid hF; clear hF
    have Hhless := Lib.hid hless; clear hless
    have Hhchk := Lib.hid hchk; clear hchk
    have Hhmp := Lib.hid hmp; clear hmp
    have Hhsame := Lib.hid hsame; clear hsame
    have e0 := HS1.out.cell (v := .slice a1 G.next.length c1) 0 0 rfl rfl
    have e1 := HS1.out.cell (v := .slice a2 G.ends.length c2) 0 1 rfl rfl
    have f0 := HS1.out.cell (v := .slice b1 B.next.length d1) 1 0 rfl rfl
    have f1 := HS1.out.cell (v := .slice b2 B.ends.length d2) 1 1 rfl rfl
    go_wp2_with fail
    refine (implMakePairs_any G B _ _ _ HG1.out HB1.out).mono ?_
    rintro e w2 ⟨hmp, hb⟩
    rw [Hhmp.out] at hmp
    obtain ⟨ai, ci, rfl, hpo⟩ := hmp
    have hpi : Pairs 0 w2 (.slice ai F.length ci) F := (OPairs.pairs hpo).mono (Nat.zero_le _)
    have HPi := Lib.hid hpi
    have HS2 := Lib.hid (HS1.out.call hb)
    have HG2 := Lib.hid (HG1.out.below hb)
    have HB2 := Lib.hid (HB1.out.below hb)
    clear hpo hpi hb e0 e1 f0 f1
    have e0 := HS2.out.cell (v := .slice a1 G.next.length c1) 0 0 rfl rfl
    have e1 := HS2.out.cell (v := .slice a2 G.ends.length c2) 0 1 rfl rfl
    have f0 := HS2.out.cell (v := .slice b1 B.next.length d1) 1 0 rfl rfl
    have f1 := HS2.out.cell (v := .slice b2 B.ends.length d2) 1 1 rfl rfl
    go_wp2_with fail
    refine (specMakePairs_any G B _ _ _ HG2.out HB2.out).mono ?_
    rintro e w3 ⟨hmp, hb⟩
    rw [Hhmp.out] at hmp
    obtain ⟨az, cs, he, hps⟩ := hmp
    obtain rfl : e = .returned (.tuple #[.slice az F.length cs, .bool true]) := he
    have hps : Pairs 0 w3 (.slice az F.length cs) F := hps.mono (Nat.zero_le _)
    have hpi := HPi.out.below hb
    have HS3 := Lib.hid (HS2.out.call hb)
    have HG3 := Lib.hid (HG2.out.below hb)
    have HB3 := Lib.hid (HB2.out.below hb)
    obtain ⟨ai', ci', hv1, hq1, hq2, hr1⟩ := hpi.form
    obtain ⟨bi, oi, hab, -, hbl1, hcs1⟩ := hr1 hF0
    obtain ⟨az', cs', hv2, -, -, hr2⟩ := hps.form
    obtain ⟨bs2, os2, hab2, -, hbl2, hcs2⟩ := hr2 hF0
    injection hv1 with p1 p2 p3
    subst p1
    subst p3
    subst hab
    injection hv2 with p1' p2' p3'
    subst p1'
    subst p3'
    subst hab2
    have HP3 := Lib.hid hpi
    have Hcs1 := Lib.hid (fun (u : World) (hb : Below w3.heap.size w3 u) (j : Nat) (hj : j < F.length) => And.intro ((bcell hb bi (oi + j * 2) hbl1).trans (hcs1 j hj).1) ((bcell hb bi (oi + j * 2 + 1) hbl1).trans (hcs1 j hj).2))
    have Hcs2 := Lib.hid (fun (u : World) (hb : Below w3.heap.size w3 u) (j : Nat) (hj : j < F.length) => And.intro ((bcell hb bs2 (os2 + j * 2) hbl2).trans (hcs2 j hj).1) ((bcell hb bs2 (os2 + j * 2 + 1) hbl2).trans (hcs2 j hj).2))
    clear hb e0 e1 f0 f1 hcs1 hcs2 hr1 hr2 hps hpi p2 p2'
    go_wp2
    go_loopw [2, 9, 10] (fun r vi lv wr => ∃ k : Nat, r = .bool false ∧ vi = .int .i64 (k : Int) ∧ k ≤ F.length ∧ St w3 wr []) (fun _ vi _ _ => F.length - (intOf vi).toNat)
    case atStart => exact ⟨0, rfl, rfl, Nat.zero_le _, St.start w3⟩
    case round =>
      obtain ⟨k, rfl, rfl, hk, hS⟩ := hrel
      have HSr := Lib.hid (HS3.out.call hS.bel)
      have HGr := Lib.hid (HG3.out.below hS.bel)
      have HBr := Lib.hid (HB3.out.below hS.bel)
      by_cases hlt : k < F.length
      · obtain ⟨x1, x2⟩ := Hcs1.out _ hS.bel k hlt
        obtain ⟨y1, y2⟩ := Hcs2.out _ hS.bel k hlt
        obtain ⟨p, hp⟩ : ∃ p, p = (F.getD k (0, 0)).1 := ⟨_, rfl⟩
        obtain ⟨q, hq⟩ : ∃ q, q = (F.getD k (0, 0)).2 := ⟨_, rfl⟩
        rw [← hp] at x1 y1
        rw [← hq] at x2 y2
        have hltI : (k : Int) < F.length := by omega
        obtain ⟨Fd, hFd⟩ : ∃ n, n = F.length - (k + 1) := ⟨_, rfl⟩
        obtain ⟨F1, hF1⟩ : ∃ n, n = k + Fd := ⟨_, rfl⟩
        have hlF1 : (F.take k ++ F.drop (k + 1)).length = F1 := by rw [List.length_append, List.length_take, List.length_drop]; omega
        have hFd40 : Fd ≤ 1600 := by omega
        have HF1 := Lib.hid hF1.symm
        have hci1 : (k : Int) ≤ ci := by omega
        have hci2 : (k : Int) + 1 ≤ ci := by omega
        have hci3 : (k : Int) + 1 ≤ F.length := by omega
        have HP4 := Lib.hid (HP3.out.below hS.bel)
        have HtkS := Lib.hid (fun (u : World) (hb : Below wr.heap.size wr u) => show Sl 0 u (.slice (some ⟨bi, oi, none⟩) k ci) k 2 ((F.take k).flatMap pairCells) from by
          have h := (Pairs.take HP4.out (n := k) (by omega)).below hb
          unfold Pairs at h
          rw [List.length_take, Nat.min_eq_left (by omega)] at h
          exact h)
        have Hhp := Lib.hid hp; clear hp
        have Hhq := Lib.hid hq; clear hq
        have HhlF1 := Lib.hid hlF1; clear hlF1
        have HhFd := Lib.hid hFd; clear hFd
        have HhF1 := Lib.hid hF1; clear hF1
        have HhS := Lib.hid hS; clear hS
        go_wp2
        go_quiet (fail)
        go_wp2
        by_cases hcap : ci = k + 1
        · subst hcap
          obtain rfl : Fd = 0 := by rw [HhFd.out]; omega
          have HdrS := Lib.hid (fun (u : World) (hb : Below wr.heap.size wr u) => show Sl 0 u (.slice (some ⟨bi, oi, none⟩) 0 0) 0 2 ((F.drop (k + 1)).flatMap pairCells) from by
            have e2 : F.drop (k + 1) = [] := List.drop_eq_nil_of_le (by omega)
            rw [e2]
            exact sl_nil2 _ _)
          refine wp_region_any (by kernel_rfl) ?_
          refine wpAny_invA (fun A listed a w' => ∃ (l0 l1 l2 l3 l4 l5 l6 l7 l8 l9 l10 : Bool) (b5 : Nat) (ag : Option Addr) (cg : Nat) (ah : Option Addr) (ch : Nat), listed = #[l0, l1, l2, l3, l4, l5, l6, l7, l8, l9, l10] ∧ (l4 = true → l0 = true) ∧ (l9 = true → l0 = true ∧ l4 = true) ∧ (l10 = true → l9 = true) ∧
              a = ⟨(((((((((((A.tmps.setIfInBounds 56 (if l0 = true then .slice (some ⟨b5, 0, none⟩) 0 0 else A.tmps.getD 56 undef)).setIfInBounds 57 (if l1 = true then .slice (some ⟨bi, oi, none⟩) F.length (k + 1) else A.tmps.getD 57 undef)).setIfInBounds 58 (if l2 = true then .int .i64 (k : Int) else A.tmps.getD 58 undef)).setIfInBounds 59 (if l3 = true then .slice (some ⟨bi, oi, none⟩) k (k + 1) else A.tmps.getD 59 undef)).setIfInBounds 60 (if l4 = true then .slice ag k cg else A.tmps.getD 60 undef)).setIfInBounds 61 (if l5 = true then .slice (some ⟨bi, oi, none⟩) F.length (k + 1) else A.tmps.getD 61 undef)).setIfInBounds 62 (if l6 = true then .int .i64 (k : Int) else A.tmps.getD 62 undef)).setIfInBounds 63 (if l7 = true then .int .i64 ((k : Int) + 1) else A.tmps.getD 63 undef)).setIfInBounds 64 (if l8 = true then .slice (some ⟨bi, oi, none⟩) 0 0 else A.tmps.getD 64 undef)).setIfInBounds 65 (if l9 = true then .slice ah F1 ch else A.tmps.getD 65 undef)).setIfInBounds 10 (if l10 = true then .slice ah F1 ch else A.tmps.getD 10 undef)), A.defers⟩ ∧
              St wr w' [(if l0 = true then (if l4 = true then (if l9 = true then Ent.row 56 2 (.slice ah F1 ch) F1 ((F.take k ++ F.drop (k + 1)).flatMap pairCells) else Ent.row 56 2 (.slice ag k cg) k ((F.take k).flatMap pairCells)) else Ent.row 56 2 (.slice (some ⟨b5, 0, none⟩) 0 0) 0 []) else Ent.nil)]) ?_ ?_ ?_
          · rintro listed a w' ⟨l0, l1, l2, l3, l4, l5, l6, l7, l8, l9, l10, b5, ag, cg, ah, ch, rfl, hd4, hd9, hd10, rfl, hS⟩ i hi
            obtain ⟨hun, o, ho, hall⟩ := mem_ready.1 hi
            have hlt := (Array.getElem?_eq_some_iff.1 ho).1
            refine wpOp_step ho (fun K hK => ?_)
            clear hi
            have HS := Lib.hid hS
            clear hS
            simp only [List.setIfInBounds_toArray, List.set_cons_zero, List.set_cons_succ, Array.getD_eq_getD_getElem?, List.getElem?_toArray, List.getElem?_cons_zero, List.getElem?_cons_succ, Option.getD_some]
            obtain h | h | h | h | h | h | h | h | h | h | h : i = 0 ∨ i = 1 ∨ i = 2 ∨ i = 3 ∨ i = 4 ∨ i = 5 ∨ i = 6 ∨ i = 7 ∨ i = 8 ∨ i = 9 ∨ i = 10 := by simp at hlt; omega
            all_goals subst h
            all_goals simp only [List.getElem?_toArray, List.getElem?_cons_zero, List.getElem?_cons_succ, Option.some.injEq] at ho
            all_goals subst ho
            all_goals simp [Region.binds] at hun hall
            · subst hun
              obtain rfl : l4 = false := by cases l4 with | false => rfl | true => simpa using hd4 rfl
              obtain rfl : l9 = false := offL hd9 rfl
              obtain rfl : l10 = false := by cases l10 with | false => rfl | true => simpa using hd10 rfl
              have hS2 := (((HS.out.alloc _ rfl #[] 56).boxrow 1 0 2 [] rfl rfl (Nat.zero_le _)).pick [1] (by decide))
              have HhS2 := Lib.hid hS2; clear hS2
              go_simp
              exact hK _ _ ⟨true, l1, l2, l3, false, l5, l6, l7, l8, false, false, _, ag, cg, ah, ch, rfl, by simp, by simp, by simp, (by simp), HhS2.out⟩
            · subst hun
              go_simp
              exact hK _ _ ⟨l0, true, l2, l3, l4, l5, l6, l7, l8, l9, l10, b5, ag, cg, ah, ch, rfl, hd4, hd9, hd10, (by simp), HS.out⟩
            · subst hun
              go_simp
              exact hK _ _ ⟨l0, l1, true, l3, l4, l5, l6, l7, l8, l9, l10, b5, ag, cg, ah, ch, rfl, hd4, hd9, hd10, (by simp), HS.out⟩
            · obtain ⟨rfl, rfl⟩ := hall
              subst hun
              go_simp
              rw [if_pos (show (k : Int) ≤ (k : Int) + 1 by omega)]
              exact hK _ _ ⟨l0, true, true, true, l4, l5, l6, l7, l8, l9, l10, b5, ag, cg, ah, ch, rfl, hd4, hd9, hd10, (by simp; try rfl), HS.out⟩
            · obtain ⟨rfl, rfl⟩ := hall
              subst hun
              obtain rfl : l9 = false := offR hd9 rfl
              obtain rfl : l10 = false := by cases l10 with | false => rfl | true => simpa using hd10 rfl
              refine step_append_sl (a := ⟨_, _⟩) _ (by rfl) _ _ _ (by rfl) wr.heap.size 56 i0 (.agg #[.int .i64 0, .int .i64 0]) 2 16 Try.underlying50 Hhi.out Hhz0.out Hhz1.out Hhz2.out (by rfl) (by omega) _ 0 [] (by rfl) (HS.out.row 0 rfl) _ k ((F.take k).flatMap pairCells) (by rfl) (HtkS.out _ HS.out.bel) on_prsM (by unfold maxLen; omega) (by omega) HS.out.size ?_
              intro a7 c7 w6 hown6 hgrow6 hat6
              have hS6 := HS.out.appS 0 rfl hown6 hgrow6 hat6
              rw [Nat.zero_add] at hS6
              rw [Nat.zero_add]
              have HS6 := Lib.hid hS6
              clear hown6 hgrow6 hat6 hS6
              go_simp
              exact hK _ _ ⟨true, l1, l2, true, true, l5, l6, l7, l8, false, false, b5, a7, c7, ah, ch, rfl, by simp, by simp, by simp, (by simp), HS6.out⟩
            · subst hun
              go_simp
              exact hK _ _ ⟨l0, l1, l2, l3, l4, true, l6, l7, l8, l9, l10, b5, ag, cg, ah, ch, rfl, hd4, hd9, hd10, (by simp), HS.out⟩
            · subst hun
              go_simp
              exact hK _ _ ⟨l0, l1, l2, l3, l4, l5, true, l7, l8, l9, l10, b5, ag, cg, ah, ch, rfl, hd4, hd9, hd10, (by simp), HS.out⟩
            · obtain rfl := hall
              subst hun
              have hwk : IntKind.i64.wrap ((k : Int) + 1) = (k : Int) + 1 := IntWalk.i64_in _ (by omega)
              go_simp
              exact hK _ _ ⟨l0, l1, l2, l3, l4, l5, true, true, l8, l9, l10, b5, ag, cg, ah, ch, rfl, hd4, hd9, hd10, (by simp), HS.out⟩
            · obtain ⟨rfl, rfl⟩ := hall
              subst hun
              go_simp
              rw [if_pos (show (0 : Int) ≤ (k : Int) + 1 by omega)]
              exact hK _ _ ⟨l0, l1, l2, l3, l4, true, l6, true, true, l9, l10, b5, ag, cg, ah, ch, rfl, hd4, hd9, hd10, (by simp; try rfl), HS.out⟩
            · obtain ⟨rfl, rfl, -⟩ := hall
              subst hun
              obtain rfl := hd4 rfl
              obtain rfl : l10 = false := by cases l10 with | false => rfl | true => simpa using hd10 rfl
              refine step_append_sl (a := ⟨_, _⟩) _ (by rfl) _ _ _ (by rfl) wr.heap.size 56 i0 (.agg #[.int .i64 0, .int .i64 0]) 2 16 Try.underlying50 Hhi.out Hhz0.out Hhz1.out Hhz2.out (by rfl) (by omega) _ k ((F.take k).flatMap pairCells) (by rfl) (HS.out.row 0 rfl) _ 0 ((F.drop (k + 1)).flatMap pairCells) (by rfl) (HdrS.out _ HS.out.bel) on_prsM (by unfold maxLen; omega) (by omega) HS.out.size ?_
              intro a7 c7 w6 hown6 hgrow6 hat6
              have hS6 := HS.out.appS 0 rfl hown6 hgrow6 hat6
              rw [HF1.out, ← List.flatMap_append] at hS6
              rw [HF1.out]
              have HS6 := Lib.hid hS6
              clear hown6 hgrow6 hat6 hS6
              go_simp
              exact hK _ _ ⟨true, l1, l2, l3, true, l5, l6, l7, true, true, false, b5, ag, cg, a7, c7, rfl, by simp, by simp, by simp, (by simp), HS6.out⟩
            · obtain ⟨rfl, rfl, rfl, rfl, rfl, rfl, rfl, rfl, rfl, rfl, -⟩ := hall
              subst hun
              go_simp
              exact hK _ _ ⟨true, true, true, true, true, true, true, true, true, true, true, b5, ag, cg, ah, ch, rfl, by simp, by simp, by simp, (by simp), HS.out⟩
          · rintro listed a w' ⟨l0, l1, l2, l3, l4, l5, l6, l7, l8, l9, l10, b5, ag, cg, ah, ch, rfl, hd4, hd9, hd10, rfl, hS⟩ hr
            have hall := ready_nilM (by kernel_rfl) rfl hr
            obtain rfl : l0 = true := by simpa using hall 0 (by simp)
            obtain rfl : l1 = true := by simpa using hall 1 (by simp)
            obtain rfl : l2 = true := by simpa using hall 2 (by simp)
            obtain rfl : l3 = true := by simpa using hall 3 (by simp)
            obtain rfl : l4 = true := by simpa using hall 4 (by simp)
            obtain rfl : l5 = true := by simpa using hall 5 (by simp)
            obtain rfl : l6 = true := by simpa using hall 6 (by simp)
            obtain rfl : l7 = true := by simpa using hall 7 (by simp)
            obtain rfl : l8 = true := by simpa using hall 8 (by simp)
            obtain rfl : l9 = true := by simpa using hall 9 (by simp)
            obtain rfl : l10 = true := by simpa using hall 10 (by simp)
            clear hall hr hd4 hd9 hd10
            simp only [↓reduceIte] at hS ⊢
            simp only [List.setIfInBounds_toArray, List.set_cons_zero, List.set_cons_succ]
            have HSl := Lib.hid hS
            have HSx := Lib.hid (HSr.out.call hS.bel)
            have HGx := Lib.hid (HGr.out.below hS.bel)
            have HBx := Lib.hid (HBr.out.below hS.bel)
            have hbx := hS.bel
            clear hS
            obtain ⟨wx, hwx⟩ : ∃ u : World, u = w' := ⟨_, rfl⟩
            subst hwx
            have e0 := HSx.out.cell (v := .slice a1 G.next.length c1) 0 0 rfl rfl
            have e1 := HSx.out.cell (v := .slice a2 G.ends.length c2) 0 1 rfl rfl
            have f0 := HSx.out.cell (v := .slice b1 B.next.length d1) 1 0 rfl rfl
            have f1 := HSx.out.cell (v := .slice b2 B.ends.length d2) 1 1 rfl rfl
            have HPl := Lib.hid (show Pairs 0 wx (.slice ah F1 ch) (F.take k ++ F.drop (k + 1)) from by
              have := Sl.mono ((own_of_row (HSl.out.row 0 rfl)).sl (by omega)) (Nat.zero_le _)
              unfold Pairs
              rw [HhlF1.out]
              exact this)
            have Hhbx := Lib.hid hbx; clear hbx
            go_wp2_with fail
            refine (implCheckPairs_any G B (F.take k ++ F.drop (k + 1)) _ _ _ _ HGx.out HBx.out HPl.out false (Hhless.out k hlt)).mono ?_
            rintro e wy ⟨rfl, hb⟩
            have Hhb := Lib.hid hb; clear hb
            go_wp2
            go_roundw
            case rel => exact ⟨k + 1, rfl, by go_num, by omega, HhS.out.call (Hhbx.out.trans (Hhb.out.mono Hhbx.out.size))⟩
            case measure => simp [intOf]; omega
          · refine ⟨false, false, false, false, false, false, false, false, false, false, false, 0, none, 0, none, 0, rfl, by simp, by simp, by simp, (by simp), ?_⟩
            exact ((St.start wr).drewN _).drew.pick [0] (by decide)
        · have HdrS := Lib.hid (fun (u : World) (hb : Below wr.heap.size wr u) => show Sl 0 u (.slice (some ⟨bi, oi + (k + 1) * 2, none⟩) Fd (ci - (k + 1))) Fd 2 ((F.drop (k + 1)).flatMap pairCells) from by
            have h := drop_sl (HP4.out.below hb) (n := k + 1) (by omega)
            rw [← HhFd.out] at h
            exact h)
          have hcapF : (ci = k + 1) = False := by simp [hcap]
          refine wp_region_any (by kernel_rfl) ?_
          refine wpAny_invA (fun A listed a w' => ∃ (l0 l1 l2 l3 l4 l5 l6 l7 l8 l9 l10 : Bool) (b5 : Nat) (ag : Option Addr) (cg : Nat) (ah : Option Addr) (ch : Nat), listed = #[l0, l1, l2, l3, l4, l5, l6, l7, l8, l9, l10] ∧ (l4 = true → l0 = true) ∧ (l9 = true → l0 = true ∧ l4 = true) ∧ (l10 = true → l9 = true) ∧
              a = ⟨(((((((((((A.tmps.setIfInBounds 56 (if l0 = true then .slice (some ⟨b5, 0, none⟩) 0 0 else A.tmps.getD 56 undef)).setIfInBounds 57 (if l1 = true then .slice (some ⟨bi, oi, none⟩) F.length ci else A.tmps.getD 57 undef)).setIfInBounds 58 (if l2 = true then .int .i64 (k : Int) else A.tmps.getD 58 undef)).setIfInBounds 59 (if l3 = true then .slice (some ⟨bi, oi, none⟩) k ci else A.tmps.getD 59 undef)).setIfInBounds 60 (if l4 = true then .slice ag k cg else A.tmps.getD 60 undef)).setIfInBounds 61 (if l5 = true then .slice (some ⟨bi, oi, none⟩) F.length ci else A.tmps.getD 61 undef)).setIfInBounds 62 (if l6 = true then .int .i64 (k : Int) else A.tmps.getD 62 undef)).setIfInBounds 63 (if l7 = true then .int .i64 ((k : Int) + 1) else A.tmps.getD 63 undef)).setIfInBounds 64 (if l8 = true then .slice (some ⟨bi, oi + (k + 1) * 2, none⟩) Fd (ci - (k + 1)) else A.tmps.getD 64 undef)).setIfInBounds 65 (if l9 = true then .slice ah F1 ch else A.tmps.getD 65 undef)).setIfInBounds 10 (if l10 = true then .slice ah F1 ch else A.tmps.getD 10 undef)), A.defers⟩ ∧
              St wr w' [(if l0 = true then (if l4 = true then (if l9 = true then Ent.row 56 2 (.slice ah F1 ch) F1 ((F.take k ++ F.drop (k + 1)).flatMap pairCells) else Ent.row 56 2 (.slice ag k cg) k ((F.take k).flatMap pairCells)) else Ent.row 56 2 (.slice (some ⟨b5, 0, none⟩) 0 0) 0 []) else Ent.nil)]) ?_ ?_ ?_
          · rintro listed a w' ⟨l0, l1, l2, l3, l4, l5, l6, l7, l8, l9, l10, b5, ag, cg, ah, ch, rfl, hd4, hd9, hd10, rfl, hS⟩ i hi
            obtain ⟨hun, o, ho, hall⟩ := mem_ready.1 hi
            have hlt := (Array.getElem?_eq_some_iff.1 ho).1
            refine wpOp_step ho (fun K hK => ?_)
            clear hi
            have HS := Lib.hid hS
            clear hS
            simp only [List.setIfInBounds_toArray, List.set_cons_zero, List.set_cons_succ, Array.getD_eq_getD_getElem?, List.getElem?_toArray, List.getElem?_cons_zero, List.getElem?_cons_succ, Option.getD_some]
            obtain h | h | h | h | h | h | h | h | h | h | h : i = 0 ∨ i = 1 ∨ i = 2 ∨ i = 3 ∨ i = 4 ∨ i = 5 ∨ i = 6 ∨ i = 7 ∨ i = 8 ∨ i = 9 ∨ i = 10 := by simp at hlt; omega
            all_goals subst h
            all_goals simp only [List.getElem?_toArray, List.getElem?_cons_zero, List.getElem?_cons_succ, Option.some.injEq] at ho
            all_goals subst ho
            all_goals simp [Region.binds] at hun hall
            · subst hun
              obtain rfl : l4 = false := by cases l4 with | false => rfl | true => simpa using hd4 rfl
              obtain rfl : l9 = false := offL hd9 rfl
              obtain rfl : l10 = false := by cases l10 with | false => rfl | true => simpa using hd10 rfl
              have hS2 := (((HS.out.alloc _ rfl #[] 56).boxrow 1 0 2 [] rfl rfl (Nat.zero_le _)).pick [1] (by decide))
              have HhS2 := Lib.hid hS2; clear hS2
              go_simp
              exact hK _ _ ⟨true, l1, l2, l3, false, l5, l6, l7, l8, false, false, _, ag, cg, ah, ch, rfl, by simp, by simp, by simp, (by simp), HhS2.out⟩
            · subst hun
              go_simp
              exact hK _ _ ⟨l0, true, l2, l3, l4, l5, l6, l7, l8, l9, l10, b5, ag, cg, ah, ch, rfl, hd4, hd9, hd10, (by simp), HS.out⟩
            · subst hun
              go_simp
              exact hK _ _ ⟨l0, l1, true, l3, l4, l5, l6, l7, l8, l9, l10, b5, ag, cg, ah, ch, rfl, hd4, hd9, hd10, (by simp), HS.out⟩
            · obtain ⟨rfl, rfl⟩ := hall
              subst hun
              go_simp
              exact hK _ _ ⟨l0, true, true, true, l4, l5, l6, l7, l8, l9, l10, b5, ag, cg, ah, ch, rfl, hd4, hd9, hd10, (by simp; try rfl), HS.out⟩
            · obtain ⟨rfl, rfl⟩ := hall
              subst hun
              obtain rfl : l9 = false := offR hd9 rfl
              obtain rfl : l10 = false := by cases l10 with | false => rfl | true => simpa using hd10 rfl
              refine step_append_sl (a := ⟨_, _⟩) _ (by rfl) _ _ _ (by rfl) wr.heap.size 56 i0 (.agg #[.int .i64 0, .int .i64 0]) 2 16 Try.underlying50 Hhi.out Hhz0.out Hhz1.out Hhz2.out (by rfl) (by omega) _ 0 [] (by rfl) (HS.out.row 0 rfl) _ k ((F.take k).flatMap pairCells) (by rfl) (HtkS.out _ HS.out.bel) on_prsM (by unfold maxLen; omega) (by omega) HS.out.size ?_
              intro a7 c7 w6 hown6 hgrow6 hat6
              have hS6 := HS.out.appS 0 rfl hown6 hgrow6 hat6
              rw [Nat.zero_add] at hS6
              rw [Nat.zero_add]
              have HS6 := Lib.hid hS6
              clear hown6 hgrow6 hat6 hS6
              go_simp
              exact hK _ _ ⟨true, l1, l2, true, true, l5, l6, l7, l8, false, false, b5, a7, c7, ah, ch, rfl, by simp, by simp, by simp, (by simp), HS6.out⟩
            · subst hun
              go_simp
              exact hK _ _ ⟨l0, l1, l2, l3, l4, true, l6, l7, l8, l9, l10, b5, ag, cg, ah, ch, rfl, hd4, hd9, hd10, (by simp), HS.out⟩
            · subst hun
              go_simp
              exact hK _ _ ⟨l0, l1, l2, l3, l4, l5, true, l7, l8, l9, l10, b5, ag, cg, ah, ch, rfl, hd4, hd9, hd10, (by simp), HS.out⟩
            · obtain rfl := hall
              subst hun
              have hwk : IntKind.i64.wrap ((k : Int) + 1) = (k : Int) + 1 := IntWalk.i64_in _ (by omega)
              go_simp
              exact hK _ _ ⟨l0, l1, l2, l3, l4, l5, true, true, l8, l9, l10, b5, ag, cg, ah, ch, rfl, hd4, hd9, hd10, (by simp), HS.out⟩
            · obtain ⟨rfl, rfl⟩ := hall
              subst hun
              go_simp
              rw [← HhFd.out]
              exact hK _ _ ⟨l0, l1, l2, l3, l4, true, l6, true, true, l9, l10, b5, ag, cg, ah, ch, rfl, hd4, hd9, hd10, (by simp; try rfl), HS.out⟩
            · obtain ⟨rfl, rfl, -⟩ := hall
              subst hun
              obtain rfl := hd4 rfl
              obtain rfl : l10 = false := by cases l10 with | false => rfl | true => simpa using hd10 rfl
              refine step_append_sl (a := ⟨_, _⟩) _ (by rfl) _ _ _ (by rfl) wr.heap.size 56 i0 (.agg #[.int .i64 0, .int .i64 0]) 2 16 Try.underlying50 Hhi.out Hhz0.out Hhz1.out Hhz2.out (by rfl) (by omega) _ k ((F.take k).flatMap pairCells) (by rfl) (HS.out.row 0 rfl) _ Fd ((F.drop (k + 1)).flatMap pairCells) (by rfl) (HdrS.out _ HS.out.bel) on_prsM (by unfold maxLen; omega) (by omega) HS.out.size ?_
              intro a7 c7 w6 hown6 hgrow6 hat6
              have hS6 := HS.out.appS 0 rfl hown6 hgrow6 hat6
              rw [HF1.out, ← List.flatMap_append] at hS6
              rw [HF1.out]
              have HS6 := Lib.hid hS6
              clear hown6 hgrow6 hat6 hS6
              go_simp
              exact hK _ _ ⟨true, l1, l2, l3, true, l5, l6, l7, true, true, false, b5, ag, cg, a7, c7, rfl, by simp, by simp, by simp, (by simp), HS6.out⟩
            · obtain ⟨rfl, rfl, rfl, rfl, rfl, rfl, rfl, rfl, rfl, rfl, -⟩ := hall
              subst hun
              go_simp
              exact hK _ _ ⟨true, true, true, true, true, true, true, true, true, true, true, b5, ag, cg, ah, ch, rfl, by simp, by simp, by simp, (by simp), HS.out⟩
          · rintro listed a w' ⟨l0, l1, l2, l3, l4, l5, l6, l7, l8, l9, l10, b5, ag, cg, ah, ch, rfl, hd4, hd9, hd10, rfl, hS⟩ hr
            have hall := ready_nilM (by kernel_rfl) rfl hr
            obtain rfl : l0 = true := by simpa using hall 0 (by simp)
            obtain rfl : l1 = true := by simpa using hall 1 (by simp)
            obtain rfl : l2 = true := by simpa using hall 2 (by simp)
            obtain rfl : l3 = true := by simpa using hall 3 (by simp)
            obtain rfl : l4 = true := by simpa using hall 4 (by simp)
            obtain rfl : l5 = true := by simpa using hall 5 (by simp)
            obtain rfl : l6 = true := by simpa using hall 6 (by simp)
            obtain rfl : l7 = true := by simpa using hall 7 (by simp)
            obtain rfl : l8 = true := by simpa using hall 8 (by simp)
            obtain rfl : l9 = true := by simpa using hall 9 (by simp)
            obtain rfl : l10 = true := by simpa using hall 10 (by simp)
            clear hall hr hd4 hd9 hd10
            simp only [↓reduceIte] at hS ⊢
            simp only [List.setIfInBounds_toArray, List.set_cons_zero, List.set_cons_succ]
            have HSl := Lib.hid hS
            have HSx := Lib.hid (HSr.out.call hS.bel)
            have HGx := Lib.hid (HGr.out.below hS.bel)
            have HBx := Lib.hid (HBr.out.below hS.bel)
            have hbx := hS.bel
            clear hS
            obtain ⟨wx, hwx⟩ : ∃ u : World, u = w' := ⟨_, rfl⟩
            subst hwx
            have e0 := HSx.out.cell (v := .slice a1 G.next.length c1) 0 0 rfl rfl
            have e1 := HSx.out.cell (v := .slice a2 G.ends.length c2) 0 1 rfl rfl
            have f0 := HSx.out.cell (v := .slice b1 B.next.length d1) 1 0 rfl rfl
            have f1 := HSx.out.cell (v := .slice b2 B.ends.length d2) 1 1 rfl rfl
            have HPl := Lib.hid (show Pairs 0 wx (.slice ah F1 ch) (F.take k ++ F.drop (k + 1)) from by
              have := Sl.mono ((own_of_row (HSl.out.row 0 rfl)).sl (by omega)) (Nat.zero_le _)
              unfold Pairs
              rw [HhlF1.out]
              exact this)
            have Hhbx := Lib.hid hbx; clear hbx
            go_wp2_with fail
            refine (implCheckPairs_any G B (F.take k ++ F.drop (k + 1)) _ _ _ _ HGx.out HBx.out HPl.out false (Hhless.out k hlt)).mono ?_
            rintro e wy ⟨rfl, hb⟩
            have Hhb := Lib.hid hb; clear hb
            go_wp2
            go_roundw
            case rel => exact ⟨k + 1, rfl, by go_num, by omega, HhS.out.call (Hhbx.out.trans (Hhb.out.mono Hhbx.out.size))⟩
            case measure => simp [intOf]; omega
          · refine ⟨false, false, false, false, false, false, false, false, false, false, false, 0, none, 0, none, 0, rfl, by simp, by simp, by simp, (by simp), ?_⟩
            exact ((St.start wr).drewN _).drew.pick [0] (by decide)
      · obtain rfl : k = F.length := by omega
        have e0 := HSr.out.cell (v := .slice a1 G.next.length c1) 0 0 rfl rfl
        have e1 := HSr.out.cell (v := .slice a2 G.ends.length c2) 0 1 rfl rfl
        have f0 := HSr.out.cell (v := .slice b1 B.next.length d1) 1 0 rfl rfl
        have f1 := HSr.out.cell (v := .slice b2 B.ends.length d2) 1 1 rfl rfl
        have HP4 := Lib.hid (HP3.out.below hS.bel)
        clear hlt
        have HhS := Lib.hid hS; clear hS
        go_wp2_with fail
        refine (implSame_any G B _ _ _ HGr.out HBr.out _ Hhsame.out).mono ?_
        rintro e w5 ⟨rfl, hb⟩
        have HSs := Lib.hid (HSr.out.call hb)
        have HGs := Lib.hid (HGr.out.below hb)
        have HBs := Lib.hid (HBr.out.below hb)
        have HP5 := Lib.hid (HP4.out.below hb)
        clear hb e0 e1 f0 f1
        have e0 := HSs.out.cell (v := .slice a1 G.next.length c1) 0 0 rfl rfl
        have e1 := HSs.out.cell (v := .slice a2 G.ends.length c2) 0 1 rfl rfl
        have f0 := HSs.out.cell (v := .slice b1 B.next.length d1) 1 0 rfl rfl
        have f1 := HSs.out.cell (v := .slice b2 B.ends.length d2) 1 1 rfl rfl
        go_wp2_with fail
        refine (implCheckPairs_any G B F _ _ _ _ HGs.out HBs.out HP5.out true Hhchk.out).mono ?_
        rintro e w6 ⟨rfl, hb⟩
        have HSt := Lib.hid (HSs.out.call hb)
        clear hb e0 e1 f0 f1
        go_wp2_with (go_at_call 20; refine (alive_any _).mono ?_; rintro e w' ⟨rfl, rfl⟩)
        go_ret
        exact ⟨rfl, HSt.out.bel⟩
end Go.Proofs.Ythhbjkgchabfmaa
