/-
  The walk over the draw of an automaton and a word.
  Condition: the argument reads as bytes.
-/
import Derived.Test.YtalbofnhcpjilaaPk25Jg
import Derived.Test.YtalbofnhcpjilaaPk26Ry
import Derived.Test.YtalbofnhcpjilaaPk47Fq
namespace Go.Proofs.Ytalbofnhcpjilaa
open Go.RowKit
set_option maxRecDepth 100000 in
set_option maxHeartbeats 8000000 in
theorem drawDfaAcceptsD_any (bs : List Nat) (v : Value) (w : World) (hb : Bytes 0 w v bs) (hlen : bs.length ≤ 100000000) :
    Calls Try.prog 34 #[v] w fun e w' => ∃ (D : DfaD) (l : List Nat) (a1 a2 : Option Addr) (c1 c2 : Nat), SmallD D ∧ isT l ∧ l.length ≤ 10 ∧ e = .returned (.tuple #[.agg #[.slice a1 D.next.length c1, .slice a2 D.ends.length c2], .string (txB l)]) ∧ DfaR 0 w' (.agg #[.slice a1 D.next.length c1, .slice a2 D.ends.length c2]) D ∧ Below w.heap.size w w' := by
  have hS0 := (St.start w).alloc _ rfl #[.slice none 0 0, .slice none 0 0] 27
  have Hb := Lib.hid hb
  have HhS0 := Lib.hid hS0; clear hS0
  clear hb
  go_enter Try.func34, Try.ntmps34
  go_wp2_with fail
  refine (openJ_any bs v _ (Hb.out.below HhS0.out.bel) hlen).mono ?_
  rintro e w1 ⟨vb, bs', hl', hB, rfl, hS'⟩
  obtain ⟨b, hbb⟩ : ∃ b, b = (w.alloc (.cells #[.slice none 0 0, .slice none 0 0] 27)).heap.size := ⟨_, rfl⟩
  rw [← hbb] at hS'
  rw [← hbb]
  have hB1 := hB w Hb.out
  have HB := Lib.hid hB1
  have HS1 := Lib.hid ((HhS0.out.cat hS').pick [1, 0] (by decide))
  have Hhbb := Lib.hid hbb; clear hbb
  clear hS' hB hB1
  go_wp2_with fail
  refine (l20Dfa_any bs' vb b 0 14 w w1 _ HB.out hl' (by omega) (by omega) HS1.out).mono ?_
  rintro e w2 ⟨D, pn, a1, a2, c1, c2, vs, E, hpn, hsm, rfl, hh, hS2⟩
  have HS2 := Lib.hid (hS2.alloc _ rfl #[.slice a1 D.next.length c1, .slice a2 D.ends.length c2] 27)
  have Hsm := Lib.hid hsm
  have Hh := Lib.hid hh
  clear hS2 hsm hh
  go_wp2
  refine wp_region_any (by kernel_rfl) ?_
  refine wpAny_invA (fun A listed a w' => ∃ (l0 l1 l2 l3 l4 : Bool) (l : {l : List Nat // isT l ∧ l.length ≤ 10}) (pz : Nat), listed = #[l0, l1, l2, l3, l4] ∧ (l2 = true → l1 = true) ∧ (l3 = true → l2 = true ∧ l0 = true) ∧ (l4 = true → l2 = true ∧ l3 = true) ∧
      a = ⟨((((A.tmps.setIfInBounds 10 (if l0 = true then .agg #[.slice a1 D.next.length c1, .slice a2 D.ends.length c2] else A.tmps.getD 10 undef)).setIfInBounds 11 (if l1 = true then .pointer (some ⟨b, 0, none⟩) else A.tmps.getD 11 undef)).setIfInBounds 12 (if l2 = true then .string (txB l.1) else A.tmps.getD 12 undef)).setIfInBounds 3 (if l4 = true then .string (txB l.1) else A.tmps.getD 3 undef)), A.defers⟩ ∧
      St w w' [RdE b vb (if l2 = true then pz else pn), Ent.box w.heap.size #[(if l3 = true then .slice a1 D.next.length c1 else .slice none 0 0), (if l3 = true then .slice a2 D.ends.length c2 else .slice none 0 0)] 27, E, Ent.box w2.heap.size #[.slice a1 D.next.length c1, .slice a2 D.ends.length c2] 27]) ?_ ?_ ?_
  · rintro listed a w' ⟨l0, l1, l2, l3, l4, l, pz, rfl, hd2, hd3, hd4, rfl, hS⟩ i hi
    obtain ⟨hun, o, ho, hall⟩ := mem_ready.1 hi
    have hlt := (Array.getElem?_eq_some_iff.1 ho).1
    refine wpOp_step ho (fun K hK => ?_)
    clear hi
    have HS := Lib.hid hS
    clear hS
    simp only [List.setIfInBounds_toArray, List.set_cons_zero, List.set_cons_succ, Array.getD_eq_getD_getElem?, List.getElem?_toArray, List.getElem?_cons_zero, List.getElem?_cons_succ, Option.getD_some]
    obtain h | h | h | h | h : i = 0 ∨ i = 1 ∨ i = 2 ∨ i = 3 ∨ i = 4 := by simp at hlt; omega
    all_goals subst h
    all_goals simp only [List.getElem?_toArray, List.getElem?_cons_zero, List.getElem?_cons_succ, Option.some.injEq] at ho
    all_goals subst ho
    all_goals simp [Region.binds] at hun hall
    · subst hun
      obtain rfl : l3 = false := offR hd3 rfl
      obtain rfl : l4 = false := offR hd4 rfl
      have e0 := HS.out.cell (v := .slice a1 D.next.length c1) 3 0 rfl rfl
      have e1 := HS.out.cell (v := .slice a2 D.ends.length c2) 3 1 rfl rfl
      go_simp
      exact hK _ _ ⟨true, l1, l2, false, false, l, pz, rfl, hd2, by simp, by simp, (by simp), HS.out⟩
    · subst hun
      obtain rfl : l2 = false := by cases l2 with | false => rfl | true => simpa using hd2 rfl
      obtain rfl : l3 = false := offL hd3 rfl
      obtain rfl : l4 = false := offL hd4 rfl
      go_simp
      exact hK _ _ ⟨l0, true, false, false, false, l, pz, rfl, by simp, by simp, by simp, (by simp), HS.out⟩
    · obtain rfl := hall
      subst hun
      obtain rfl : l3 = false := offL hd3 rfl
      obtain rfl : l4 = false := offL hd4 rfl
      go_simp
      go_at_call 72
      refine (l20Word_any bs' vb b pn 14 w _ _ HB.out hl' (by omega) (by omega) (St.pack (A := [RdE b vb pn]) (R := [Ent.box w.heap.size #[.slice none 0 0, .slice none 0 0] 27, E, Ent.box w2.heap.size #[.slice a1 D.next.length c1, .slice a2 D.ends.length c2] 27]) (HS.out.pick [0, 1, 2, 3] (by decide)))).mono ?_
      rintro e u1 ⟨l9, p9, ht9, hl9, rfl, hSp⟩
      have hS2 := St.unpack (A := [RdE b vb pn]) (A' := [RdE b vb p9]) (R := [Ent.box w.heap.size #[.slice none 0 0, .slice none 0 0] 27, E, Ent.box w2.heap.size #[.slice a1 D.next.length c1, .slice a2 D.ends.length c2] 27]) (HS.out.pick [0, 1, 2, 3] (by decide)) hSp
      have HhS2 := Lib.hid hS2; clear hS2
      go_simp
      exact hK _ _ ⟨l0, true, true, false, false, ⟨l9, ht9, hl9⟩, p9, rfl, by simp, by simp, by simp, (by simp), HhS2.out⟩
    · obtain ⟨rfl, rfl, -⟩ := hall
      subst hun
      obtain ⟨rfl⟩ := hd2 rfl
      obtain rfl : l4 = false := offR hd4 rfl
      have f0 := HS.out.fr 1 0 rfl
      have k0 := HS.out.cell (v := .slice none 0 0) 1 0 rfl rfl
      have f1 := HS.out.fr 1 1 rfl
      have k1 := HS.out.cell (v := .slice none 0 0) 1 1 rfl rfl
      go_simp
      exact hK _ _ ⟨true, true, true, true, false, l, pz, rfl, by simp, by simp, by simp, (by simp), ((HS.out.set 1 rfl 0 (.slice a1 D.next.length c1)).set 1 rfl 1 (.slice a2 D.ends.length c2))⟩
    · obtain ⟨rfl, rfl, rfl, rfl, -⟩ := hall
      subst hun
      go_simp
      exact hK _ _ ⟨true, true, true, true, true, l, pz, rfl, by simp, by simp, by simp, (by simp only [↓reduceIte, List.setIfInBounds_toArray, List.set_cons_zero, List.set_cons_succ]), HS.out⟩
  · rintro listed a w' ⟨l0, l1, l2, l3, l4, l, pz, rfl, hd2, hd3, hd4, rfl, hS⟩ hr
    have hall := ready_nilM (by kernel_rfl) rfl hr
    obtain rfl : l0 = true := by simpa using hall 0 (by simp)
    obtain rfl : l1 = true := by simpa using hall 1 (by simp)
    obtain rfl : l2 = true := by simpa using hall 2 (by simp)
    obtain rfl : l3 = true := by simpa using hall 3 (by simp)
    obtain rfl : l4 = true := by simpa using hall 4 (by simp)
    clear hall hr hd2 hd3 hd4
    simp only [↓reduceIte] at hS ⊢
    simp only [List.setIfInBounds_toArray, List.set_cons_zero, List.set_cons_succ]
    have HSf := Lib.hid (hS.pick [0, 1, 2, 3] (by decide))
    clear hS
    have q0 := HSf.out.cell (v := .slice a1 D.next.length c1) 1 0 rfl rfl
    have q1 := HSf.out.cell (v := .slice a2 D.ends.length c2) 1 1 rfl rfl
    go_wp2
    refine bodyPost_ret (v := .tuple #[.agg #[.slice a1 D.next.length c1, .slice a2 D.ends.length c2], .string (txB l.1)]) (by simp [results, Try.results34, go_sem, q0, q1]) rfl ?_
    exact ⟨D, l.1, a1, a2, c1, c2, Hsm.out, l.2.1, l.2.2, rfl, Hh.out.r HSf.out 2 rfl, HSf.out.bel⟩
  · refine ⟨false, false, false, false, false, ⟨[], by simp [isT]⟩, 0, rfl, by simp, by simp, by simp, (by simp), ?_⟩
    exact HS2.out.drew.pick [0, 1, 2, 3] (by decide)
theorem fewQ_in (d : DfaD) (l : List Nat) : -1 ≤ fewQ d l ∧ fewQ d l ≤ 30 := by
  unfold fewQ
  split
  · rename_i h
    have h2 := (txM_iff.1 h.2).2
    have := bestF_in d (lets l) l.length l.length (Nat.le_refl _)
    omega
  · omega
theorem starQ_bound {d : DfaD} {N X : NfaD} {ok : Bool} (hN : nfaQ d = N) (hX : starL N = (X, ok)) : (-9223372036854775808 ≤ N.states ∧ N.states ≤ 9223372036854775807) ∧ -9223372036854775808 ≤ X.states ∧ X.states ≤ 9223372036854775807 := by
  have hb : -1000 ≤ N.states ∧ N.states ≤ 1000 := by
    rw [← hN]
    unfold nfaQ
    split
    · rename_i h
      have h1 := dfaOk_len h
      have h2 : (d.next.length : Int) ≤ 40 := by omega
      show -1000 ≤ (d.next.length : Int) ∧ (d.next.length : Int) ≤ 1000
      omega
    · decide
  exact ⟨by omega, limN_bound hX hb.1 hb.2⟩
set_option maxRecDepth 100000 in
set_option maxHeartbeats 16000000 in
theorem partsStar_walk (bs : List Nat) (v : Value) (w : World) (hb : Bytes 0 w v bs) :
    Calls Try.prog 7 #[v] w fun e w' => e = .returned (.bool true) ∧ Below w.heap.size w w' := by
  have HB := Lib.hid hb
  obtain ⟨av, cv, rfl, hcv1, hcv2, -⟩ := hb.form
  clear hb
  by_cases hlen : 1048576 < bs.length
  · have hl2 : (1048576 : Int) < bs.length := by omega
    go_enter Try.func7, Try.ntmps7
    go_wp2
    go_ret
    exact ⟨rfl, Below.refl _ _⟩
  have hl2 : ¬ (1048576 : Int) < bs.length := by omega
  go_enter Try.func7, Try.ntmps7
  go_wp2_with fail
  refine (drawDfaAcceptsD_any bs _ _ HB.out (by omega)).mono ?_
  rintro e w1 ⟨d, l, a1, a2, c1, c2, hsm, ht, hl10, rfl, hd, hb1⟩
  have HS1 := Lib.hid (((St.start w).call hb1).alloc _ rfl #[.slice a1 d.next.length c1, .slice a2 d.ends.length c2] 27)
  have HR := Lib.hid (hd.below ((Below.refl w1.heap.size w1).alloc (Nat.le_refl _) (.cells #[.slice a1 d.next.length c1, .slice a2 d.ends.length c2] 27)))
  clear hb1 hd hsm
  obtain ⟨r, hr⟩ : ∃ r, fewQ d l = r := ⟨_, rfl⟩
  obtain ⟨hr0, hr1⟩ := fewQ_in d l
  rw [hr] at hr0 hr1
  obtain ⟨N, hN⟩ : ∃ N, nfaQ d = N := ⟨_, rfl⟩
  obtain ⟨X, ok, hX⟩ : ∃ X ok, starL N = (X, ok) := ⟨_, _, rfl⟩
  obtain ⟨hns, hxs⟩ := starQ_bound hN hX
  have Hht := Lib.hid ht; clear ht
  have Hhr := Lib.hid hr; clear hr
  have HhN := Lib.hid hN; clear hN
  have HhX := Lib.hid hX; clear hX
  have Hhns := Lib.hid hns; clear hns
  have Hhxs := Lib.hid hxs; clear hxs
  have e0 := HS1.out.cell (v := .slice a1 d.next.length c1) 0 0 rfl rfl
  have e1 := HS1.out.cell (v := .slice a2 d.ends.length c2) 0 1 rfl rfl
  go_wp2_with fail
  refine (implFewest_any d l _ _ Hht.out (by omega) HR.out _ Hhr.out).mono ?_
  rintro e w2 ⟨rfl, hb⟩
  have HS2 := Lib.hid (HS1.out.call hb)
  have HR2 := Lib.hid (HR.out.below hb)
  clear hb e0 e1
  have e0 := HS2.out.cell (v := .slice a1 d.next.length c1) 0 0 rfl rfl
  have e1 := HS2.out.cell (v := .slice a2 d.ends.length c2) 0 1 rfl rfl
  go_wp2_with fail
  refine (specFewest_any d l _ _ Hht.out (by omega) HR2.out _ Hhr.out).mono ?_
  rintro e w3 ⟨rfl, hb⟩
  have HS3 := Lib.hid (HS2.out.call hb)
  have HR3 := Lib.hid (HR2.out.below hb)
  clear hb e0 e1
  have e0 := HS3.out.cell (v := .slice a1 d.next.length c1) 0 0 rfl rfl
  have e1 := HS3.out.cell (v := .slice a2 d.ends.length c2) 0 1 rfl rfl
  go_wp2_with fail
  refine (implNfaOfQ_any d N HhN.out _ _ HR3.out).mono ?_
  rintro e w4 ⟨n1, m1, n2, m2, n3, m3, rfl, hSx⟩
  have HS4 := Lib.hid (HS3.out.call hSx.bel)
  have HR4 := Lib.hid (HR3.out.below hSx.bel)
  have HN := Lib.hid (nfaR_of (moves_of_row (hSx.row 0 rfl)) (ints_of_row' (hSx.row 1 rfl)) (ints_of_row' (hSx.row 2 rfl)) Hhns.out.1 Hhns.out.2)
  clear hSx e0 e1
  go_wp2_with fail
  refine (implStarR_any N X _ _ _ HhX.out HN.out).mono ?_
  rintro e w5 ⟨x1, y1, x2, y2, x3, y3, rfl, hS'⟩
  have HS5 := Lib.hid ((HS4.out.cat hS').alloc _ rfl #[.int .i64 X.states, .slice x1 X.moves.length y1, .slice x2 X.firsts.length y2, .slice x3 X.ends.length y3] 50)
  have HR5 := Lib.hid ((HR4.out.below hS'.bel).below ((Below.refl w5.heap.size w5).alloc (Nat.le_refl _) (.cells #[.int .i64 X.states, .slice x1 X.moves.length y1, .slice x2 X.firsts.length y2, .slice x3 X.ends.length y3] 50)))
  clear hS' HN HS1 HS2 HS3 HS4 HR HR2 HR3 HR4
  have e0 := HS5.out.cell (v := .slice a1 d.next.length c1) 0 0 rfl rfl
  have e1 := HS5.out.cell (v := .slice a2 d.ends.length c2) 0 1 rfl rfl
  cases ok
  · clear e0 e1
    go_wp2_with (go_at_call 21; refine (alive_any _).mono ?_; rintro e w' ⟨rfl, rfl⟩)
    go_ret
    exact ⟨rfl, HS5.out.bel⟩
  cases hd : dfaOk d.next d.ends
  · have Hhd := Lib.hid hd; clear hd
    go_wp2_with fail
    refine (specDfaValid_d d _ _ HR5.out _ Hhd.out).mono ?_
    rintro e w6 ⟨rfl, hb⟩
    have HS6 := Lib.hid (HS5.out.call hb)
    clear hb e0 e1
    go_wp2_with (go_at_call 21; refine (alive_any _).mono ?_; rintro e w' ⟨rfl, rfl⟩)
    go_ret
    exact ⟨rfl, HS6.out.bel⟩
  cases hwd : wdOk l
  · have Hhd := Lib.hid hd; clear hd
    have Hhwd := Lib.hid hwd; clear hwd
    go_wp2_with fail
    refine (specDfaValid_d d _ _ HR5.out _ Hhd.out).mono ?_
    rintro e w6 ⟨rfl, hb⟩
    have HS6 := Lib.hid (HS5.out.call hb)
    clear hb e0 e1
    go_wp2_with (first | (go_at_call 30; refine (specWordValid_any l _ Hht.out (by omega) _ Hhwd.out).mono ?_; rintro e w' ⟨rfl, rfl⟩) | (go_at_call 21; refine (alive_any _).mono ?_; rintro e w' ⟨rfl, rfl⟩))
    go_ret
    exact ⟨rfl, HS6.out.bel⟩
  have hXd : starL (nfaOf d) = (X, true) := by
    have h1 := HhX.out
    have e1 : nfaQ d = nfaOf d := if_pos hd
    rwa [← HhN.out, e1] at h1
  have hqe := fewQ_star hd hwd hXd
  rw [Hhr.out] at hqe
  have Hhd := Lib.hid hd; clear hd
  have Hhwd := Lib.hid hwd; clear hwd
  have HhXd := Lib.hid hXd; clear hXd
  obtain hf0 | ⟨rn, hf0⟩ : r = -1 ∨ ∃ rn : Nat, r = (rn : Int) := by
    by_cases h : r < 0
    · exact .inl (by omega)
    · exact .inr ⟨r.toNat, by omega⟩
  · subst hf0
    have hq : accT X l = false := hqe.symm.trans (by decide)
    have Hhq := Lib.hid hq; clear hq
    clear hqe
    go_wp2_with fail
    refine (specDfaValid_d d _ _ HR5.out _ Hhd.out).mono ?_
    rintro e w6 ⟨rfl, hb⟩
    have HS6 := Lib.hid (HS5.out.call hb)
    clear hb e0 e1
    have g0 := HS6.out.cell (v := .int .i64 X.states) 4 0 rfl rfl
    have g1 := HS6.out.cell (v := .slice x1 X.moves.length y1) 4 1 rfl rfl
    have g2 := HS6.out.cell (v := .slice x2 X.firsts.length y2) 4 2 rfl rfl
    have g3 := HS6.out.cell (v := .slice x3 X.ends.length y3) 4 3 rfl rfl
    go_wp2_with (go_at_call 30; refine (specWordValid_any l _ Hht.out (by omega) _ Hhwd.out).mono ?_; rintro e w' ⟨rfl, rfl⟩)
    refine (nfaAccepts_any X l _ _ Hht.out (by omega) (nfaR_rows HS6.out 1 2 3 rfl rfl rfl Hhxs.out.1 Hhxs.out.2) _ Hhq.out).mono ?_
    rintro e w7 ⟨rfl, hb⟩
    have HS7 := Lib.hid (HS6.out.call hb)
    clear hb g0 g1 g2 g3
    go_wp2_with (go_at_call 21; refine (alive_any _).mono ?_; rintro e w' ⟨rfl, rfl⟩)
    go_ret
    exact ⟨rfl, HS7.out.bel⟩
  · subst hf0
    have hq : accT X l = true := hqe.symm.trans (decide_eq_true (by omega))
    have Hhq := Lib.hid hq; clear hq
    clear hqe
    go_wp2_with fail
    refine (specDfaValid_d d _ _ HR5.out _ Hhd.out).mono ?_
    rintro e w6 ⟨rfl, hb⟩
    have HS6 := Lib.hid (HS5.out.call hb)
    clear hb e0 e1
    have g0 := HS6.out.cell (v := .int .i64 X.states) 4 0 rfl rfl
    have g1 := HS6.out.cell (v := .slice x1 X.moves.length y1) 4 1 rfl rfl
    have g2 := HS6.out.cell (v := .slice x2 X.firsts.length y2) 4 2 rfl rfl
    have g3 := HS6.out.cell (v := .slice x3 X.ends.length y3) 4 3 rfl rfl
    go_wp2_with (go_at_call 30; refine (specWordValid_any l _ Hht.out (by omega) _ Hhwd.out).mono ?_; rintro e w' ⟨rfl, rfl⟩)
    refine (nfaAccepts_any X l _ _ Hht.out (by omega) (nfaR_rows HS6.out 1 2 3 rfl rfl rfl Hhxs.out.1 Hhxs.out.2) _ Hhq.out).mono ?_
    rintro e w7 ⟨rfl, hb⟩
    have HS7 := Lib.hid (HS6.out.call hb)
    clear hb g0 g1 g2 g3
    go_wp2_with (go_at_call 21; refine (alive_any _).mono ?_; rintro e w' ⟨rfl, rfl⟩)
    go_ret
    exact ⟨rfl, HS7.out.bel⟩
end Go.Proofs.Ytalbofnhcpjilaa
