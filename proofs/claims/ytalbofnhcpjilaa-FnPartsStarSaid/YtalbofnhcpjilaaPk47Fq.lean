/-
  The walk over the reference's FewestParts.
  Conditions: as in Fp.
-/
import Derived.Test.YtalbofnhcpjilaaPk33Dvi
import Derived.Test.YtalbofnhcpjilaaPk46Fp
namespace Go.Proofs.Ytalbofnhcpjilaa
open Go.RowKit
set_option maxRecDepth 100000 in
set_option maxHeartbeats 8000000 in
theorem specFewest_any (d : DfaD) (l : List Nat) (v : Value) (w : World) (ht : isT l) (hll : l.length ≤ 1000) (h : DfaR 0 w v d) (r : Int) (hr : fewQ d l = r) :
    Calls Try.prog 36 #[v, .string (txB l)] w fun e w' => e = .returned (.int .i64 r) ∧ Below w.heap.size w w' := by
  have H := Lib.hid h
  obtain ⟨v1, v2, rfl, g1, g2⟩ := h
  obtain ⟨i0, hi, hz0, hz1, hz2⟩ := info_parts Try.infoInt
  have HS0 := Lib.hid ((St.start w).alloc _ rfl #[v1, v2] 27)
  have e0 := HS0.out.cell (v := v1) 0 0 rfl rfl
  have e1 := HS0.out.cell (v := v2) 0 1 rfl rfl
  have Hht := Lib.hid ht; clear ht
  have Hhr := Lib.hid hr; clear hr
  have Hhi := Lib.hid hi; clear hi
  have Hhz0 := Lib.hid hz0; clear hz0
  have Hhz1 := Lib.hid hz1; clear hz1
  have Hhz2 := Lib.hid hz2; clear hz2
  cases hd : dfaOk d.next d.ends
  · have hr2 : r = -1 := by
      rw [← Hhr.out]
      unfold fewQ
      rw [hd, if_neg (fun h => by simp at h)]
    subst hr2
    have Hhd := Lib.hid hd; clear hd
    clear g1 g2
    go_enter Try.func36, Try.ntmps36
    go_wp2_with fail
    refine (specDfaValid_d d _ _ (H.out.below HS0.out.bel) _ Hhd.out).mono ?_
    rintro e w1 ⟨rfl, hb1⟩
    have HS1 := Lib.hid (HS0.out.call hb1)
    clear hb1 e0 e1
    go_wp2
    go_ret
    exact ⟨rfl, HS1.out.bel⟩
  cases htx : txM 30 l
  · have hr2 : r = -1 := by
      rw [← Hhr.out]
      unfold fewQ
      rw [htx, if_neg (fun h => by simp at h)]
    subst hr2
    have Hhd := Lib.hid hd; clear hd
    have Hhtx := Lib.hid htx; clear htx
    clear g1 g2
    go_enter Try.func36, Try.ntmps36
    go_wp2_with fail
    refine (specDfaValid_d d _ _ (H.out.below HS0.out.bel) _ Hhd.out).mono ?_
    rintro e w1 ⟨rfl, hb1⟩
    have HS1 := Lib.hid (HS0.out.call hb1)
    clear hb1 e0 e1
    go_wp2_with (go_at_call 79; refine (specTextValid_any l _ Hht.out (by omega) _ Hhtx.out).mono ?_; rintro e w' ⟨rfl, rfl⟩)
    go_ret
    exact ⟨rfl, HS1.out.bel⟩
  have hW := letsM_isW htx
  have hlen : (lets l).length = l.length := lets_len l
  have hl30 := (txM_iff.1 htx).2
  have hr2 : (bestF d (lets l) l.length).getD l.length 0 = r := by
    rw [← Hhr.out]
    unfold fewQ
    rw [if_pos ⟨hd, htx⟩]
  have HTV := Lib.hid (fun u => specTextValid_any l u Hht.out (by omega) _ htx)
  rw [txB_letsM htx] at HTV ⊢
  obtain ⟨L, hL⟩ : ∃ L, L = lets l := ⟨_, rfl⟩
  obtain ⟨n, hn⟩ : ∃ n, n = l.length := ⟨_, rfl⟩
  rw [← hL, ← hn] at hlen hr2
  rw [← hL] at hW HTV ⊢
  rw [← hn] at hl30
  have hs : (wdB L).size = n := (wdB_size L).trans hlen
  obtain ⟨h1, h2, h3⟩ := dfaOk_len hd
  obtain ⟨b2, o2, cap2, rfl, hc1, hc2, -, hb2⟩ := bool_cell g2 (i := 0) (by omega)
  obtain ⟨_, _, hv2, -, -, hcs2⟩ := g2.form
  simp only [Value.slice.injEq, true_and] at hv2
  obtain ⟨rfl, rfl⟩ := hv2
  obtain ⟨_, _, hb2e, -, hb2l, hcs2⟩ := hcs2 (by omega)
  simp only [Option.some.injEq, Addr.mk.injEq, and_true] at hb2e
  obtain ⟨rfl, rfl⟩ := hb2e
  have Hcs2 := Lib.hid hcs2
  have Hlen := Lib.hid h3
  have Hrun := Lib.hid (fun (i j : Nat) (u : World) (hu : Below w.heap.size w u) => l7Run_any d 0 (pcE L i j) (.agg #[v1, .slice (some ⟨b2, o2, none⟩) d.ends.length cap2]) u hd (by omega) (pcE_isW hW i j) (by have := pcE_len L i j; omega) (H.out.below hu))
  clear hcs2 h3 h2
  have HhW := Lib.hid hW; clear hW
  have Hhd := Lib.hid hd; clear hd
  have Hhtx := Lib.hid htx; clear htx
  have HhL := Lib.hid hL; clear hL
  have Hhn := Lib.hid hn; clear hn
  have Hhlen := Lib.hid hlen; clear hlen
  have Hhr2 := Lib.hid hr2; clear hr2
  clear g1 g2 hll
  go_enter Try.func36, Try.ntmps36
  go_wp2_with fail
  refine (specDfaValid_d d _ _ (H.out.below HS0.out.bel) _ Hhd.out).mono ?_
  rintro e w1 ⟨rfl, hb1⟩
  have HS1 := Lib.hid (HS0.out.call hb1)
  clear hb1 e0 e1
  have HS2 := Lib.hid (HS1.out.alloc w1.heap.size rfl #[.int .i64 0] 3)
  have HS3 := Lib.hid (HS2.out.boxrow 1 1 1 [.int .i64 0] rfl rfl (by unfold maxLen; omega))
  go_wp2_with (go_at_call 79; refine (HTV.out _).mono ?_; rintro e w' ⟨rfl, rfl⟩)
  go_loopw [5, 6] (fun b i wr => ∃ k g c : Nat, b = .slice (some ⟨g, 0, none⟩) (k + 1) c ∧ i = .int .i64 ((k : Int) + 1) ∧ k ≤ n ∧ St w wr [Ent.box w.heap.size #[v1, .slice (some ⟨b2, o2, none⟩) d.ends.length cap2] 27, Ent.row 3 1 (.slice (some ⟨g, 0, none⟩) (k + 1) c) (k + 1) (intCells (bestF d L k))]) (fun _ i _ => n + 1 - (intOf i).toNat)
  case atStart => exact ⟨0, w1.heap.size, 1, rfl, rfl, Nat.zero_le _, HS3.out⟩
  case round =>
    obtain ⟨k, g, c, rfl, rfl, hk, hS⟩ := hrel
    by_cases hlt : k < n
    · have hlt2 : (k : Int) + 1 ≤ n := by omega
      have HS3 := Lib.hid hS
      clear hS
      obtain ⟨wo, hwo⟩ : ∃ wo : World, wo = wr := ⟨_, rfl⟩
      subst hwo
      go_wp2
      go_loopw [7, 8] (fun mv i wr => ∃ (i' : Nat) (m : Int), mv = .int .i64 m ∧ i = .int .i64 (i' : Int) ∧ i' ≤ k + 1 ∧ rndB d L (bestF d L k) (k + 1) i' = m ∧ St w wr [Ent.box w.heap.size #[v1, .slice (some ⟨b2, o2, none⟩) d.ends.length cap2] 27, Ent.row 3 1 (.slice (some ⟨g, 0, none⟩) (k + 1) c) (k + 1) (intCells (bestF d L k))]) (fun _ i _ => k + 1 - (intOf i).toNat)
      case atStart => exact ⟨0, -1, rfl, rfl, Nat.zero_le _, rfl, HS3.out⟩
      case round =>
        obtain ⟨i, m, rfl, rfl, hik, hm, hS⟩ := hrel
        by_cases hlti : i < k + 1
        · have hi2 : (i : Int) < (k : Int) + 1 := by omega
          have hi3 : (i : Int) < (n : Int) + 1 := by omega
          have hk3 : (k : Int) < (n : Int) := by omega
          have hcut := cut_mid L i (k + 1) (by omega) (by rw [Hhlen.out]; omega)
          rw [show (((k + 1 : Nat) : Int)) = (k : Int) + 1 by omega] at hcut
          obtain ⟨q0, q1⟩ := bestF_in d L k i (by omega)
          obtain ⟨q2, q3⟩ := rndB_in d L (bestF d L k) (k + 1) i (fun j hj => (bestF_in d L k j (by omega)).2)
          rw [hm] at q2 q3
          have hsn : rndB d L (bestF d L k) (k + 1) (i + 1) = cnd d L (bestF d L k) (k + 1) i m := by rw [← hm]; rfl
          have hat := intC_getD (F := bestF d L k) (i := i) (by rw [bestF_len]; omega)
          obtain ⟨f, hf⟩ : ∃ f, (bestF d L k).getD i 0 = f := ⟨_, rfl⟩
          rw [hf] at q0 q1 hat
          obtain ⟨hq0, hq1⟩ := runD_in Hhd.out (pcE_isW HhW.out i (k + 1)) (s := 0) (by omega) (by omega)
          obtain ⟨q, hq⟩ := Int.eq_ofNat_of_zero_le hq0
          have hqn : q < d.ends.length := by rw [Hlen.out]; omega
          have hqi : (q : Int) < d.ends.length := by omega
          have hacc : accD d (pcE L i (k + 1)) = d.ends.getD q false := by
            unfold accD den
            rw [hq, Int.toNat_natCast]
          have k3 := (bcell hS.bel b2 (o2 + q) hb2l).trans (Hcs2.out q hqn)
          obtain ⟨x, hx⟩ : ∃ x, accD d (pcE L i (k + 1)) = x := ⟨_, rfl⟩
          rw [← hacc, hx] at k3
          have hEn := Lib.hid k3
          have hl2 := Lib.hid (Nat.lt_of_lt_of_le hb2l hS.size)
          have HA := Lib.hid (fun u hu => Hrun.out i (k + 1) u hu)
          rw [show ((0 : Nat) : Int) = 0 from rfl, hq] at HA
          obtain ⟨s, hs⟩ : ∃ s, pcE L i (k + 1) = s := ⟨_, rfl⟩
          rw [hs] at hcut HA
          have Hhsn := Lib.hid hsn; clear hsn
          have Hhm := Lib.hid hm; clear hm
          have Hhf := Lib.hid hf; clear hf
          have Hhx := Lib.hid hx; clear hx
          have Hhs := Lib.hid hs; clear hs
          have Hhq := Lib.hid hq; clear hq
          clear hq0 hq1 k3 hacc
          obtain hf0 | ⟨fn, hf0⟩ : f = -1 ∨ ∃ fn : Nat, f = (fn : Int) := by
            by_cases h : f < 0
            · exact .inl (by omega)
            · exact .inr ⟨f.toNat, by omega⟩
          · have hc := Hhsn.out.trans (cnd_no1 Hhf.out (by omega))
            have HC := Lib.hid hc
            subst hf0
            clear hc
            have hR0 := Lib.hid (hS.rcell (v := .int .i64 (-1)) 1 i rfl (by omega) hat)
            have hE0 := Lib.hid (hS.cell (v := v1) 0 0 rfl rfl)
            have hE1 := Lib.hid (hS.cell (v := .slice (some ⟨b2, o2, none⟩) d.ends.length cap2) 0 1 rfl rfl)
            have hl0 := Lib.hid (hS.boxlt 0 rfl).2
            have hl1 := Lib.hid (hS.rowlt 1 rfl).2
            have HS0 := Lib.hid hS
            clear hS hat
            go_wp2
            refine wp_region_any (by kernel_rfl) ?_
            refine wpAny_invA (fun A listed a w' => ∃ (l : Bs40) , listed = #[l.b0, l.b1, l.b2, l.b3, l.b4, l.b5, l.b6, l.b7, l.b8, l.b9, l.b10, l.b11, l.b12, l.b13, l.b14, l.b15, l.b16, l.b17, l.b18, l.b19, l.b20, l.b21, l.b22, l.b23, l.b24, l.b25, l.b26, l.b27, l.b28, l.b29] ∧
                a = ⟨#[A.tmps.getD 0 undef, A.tmps.getD 1 undef, A.tmps.getD 2 undef, A.tmps.getD 3 undef, A.tmps.getD 4 undef, A.tmps.getD 5 undef, A.tmps.getD 6 undef, A.tmps.getD 7 undef, A.tmps.getD 8 undef, A.tmps.getD 9 undef, A.tmps.getD 10 undef, A.tmps.getD 11 undef, A.tmps.getD 12 undef, A.tmps.getD 13 undef, A.tmps.getD 14 undef, A.tmps.getD 15 undef, A.tmps.getD 16 undef, A.tmps.getD 17 undef, A.tmps.getD 18 undef, A.tmps.getD 19 undef, A.tmps.getD 20 undef, A.tmps.getD 21 undef, A.tmps.getD 22 undef, A.tmps.getD 23 undef, A.tmps.getD 24 undef, A.tmps.getD 25 undef, A.tmps.getD 26 undef, A.tmps.getD 27 undef, A.tmps.getD 28 undef, (if l.b0 = true then .slice (some ⟨g, 0, none⟩) (k + 1) c else A.tmps.getD 29 undef), (if l.b1 = true then .int .i64 (i : Int) else A.tmps.getD 30 undef), (if l.b2 = true then .pointer (some ⟨g, i, none⟩) else A.tmps.getD 31 undef), (if l.b3 = true then .int .i64 (-1) else A.tmps.getD 32 undef), (if l.b4 = true then .bool false else A.tmps.getD 33 undef), (if l.b5 = true then .bool false else A.tmps.getD 34 undef), (if l.b6 = true then undef else A.tmps.getD 35 undef), (if l.b7 = true then undef else A.tmps.getD 36 undef), (if l.b8 = true then undef else A.tmps.getD 37 undef), (if l.b9 = true then undef else A.tmps.getD 38 undef), (if l.b10 = true then undef else A.tmps.getD 39 undef), (if l.b11 = true then undef else A.tmps.getD 40 undef), (if l.b12 = true then undef else A.tmps.getD 41 undef), (if l.b13 = true then undef else A.tmps.getD 42 undef), (if l.b14 = true then undef else A.tmps.getD 43 undef), (if l.b15 = true then undef else A.tmps.getD 44 undef), (if l.b16 = true then .bool false else A.tmps.getD 45 undef), (if l.b17 = true then .bool false else A.tmps.getD 46 undef), (if l.b18 = true then undef else A.tmps.getD 47 undef), (if l.b19 = true then undef else A.tmps.getD 48 undef), (if l.b20 = true then undef else A.tmps.getD 49 undef), (if l.b21 = true then undef else A.tmps.getD 50 undef), (if l.b22 = true then undef else A.tmps.getD 51 undef), (if l.b23 = true then undef else A.tmps.getD 52 undef), (if l.b24 = true then undef else A.tmps.getD 53 undef), (if l.b25 = true then undef else A.tmps.getD 54 undef), (if l.b26 = true then undef else A.tmps.getD 55 undef), (if l.b27 = true then undef else A.tmps.getD 56 undef), (if l.b28 = true then undef else A.tmps.getD 57 undef), (if l.b29 = true then .bool false else A.tmps.getD 58 undef), A.tmps.getD 59 undef, A.tmps.getD 60 undef, A.tmps.getD 61 undef, A.tmps.getD 62 undef, A.tmps.getD 63 undef, A.tmps.getD 64 undef, A.tmps.getD 65 undef, A.tmps.getD 66 undef, A.tmps.getD 67 undef, A.tmps.getD 68 undef, A.tmps.getD 69 undef, A.tmps.getD 70 undef, A.tmps.getD 71 undef, A.tmps.getD 72 undef], A.defers⟩ ∧
                St wr w' []) ?_ ?_ ?_
            · rintro listed a w' ⟨⟨l0, l1, l2, l3, l4, l5, l6, l7, l8, l9, l10, l11, l12, l13, l14, l15, l16, l17, l18, l19, l20, l21, l22, l23, l24, l25, l26, l27, l28, l29, _, _, _, _, _, _, _, _, _, _⟩, rfl, rfl, hS⟩ i hi
              obtain ⟨hun, o, ho, hall⟩ := mem_ready.1 hi
              have hlt := (Array.getElem?_eq_some_iff.1 ho).1
              refine wpOp_step ho (fun K hK => ?_)
              clear hi
              have HS := Lib.hid hS
              clear hS
              simp only [List.setIfInBounds_toArray, Array.getD_eq_getD_getElem?, List.getElem?_toArray, List.getElem?_cons_zero, List.getElem?_cons_succ, Option.getD_some] at hK ⊢
              obtain h | h | h | h | h | h | h | h | h | h | h | h | h | h | h | h | h | h | h | h | h | h | h | h | h | h | h | h | h | h : i = 0 ∨ i = 1 ∨ i = 2 ∨ i = 3 ∨ i = 4 ∨ i = 5 ∨ i = 6 ∨ i = 7 ∨ i = 8 ∨ i = 9 ∨ i = 10 ∨ i = 11 ∨ i = 12 ∨ i = 13 ∨ i = 14 ∨ i = 15 ∨ i = 16 ∨ i = 17 ∨ i = 18 ∨ i = 19 ∨ i = 20 ∨ i = 21 ∨ i = 22 ∨ i = 23 ∨ i = 24 ∨ i = 25 ∨ i = 26 ∨ i = 27 ∨ i = 28 ∨ i = 29 := by simp at hlt; omega
              all_goals subst h
              all_goals simp only [List.getElem?_toArray, List.getElem?_cons_zero, List.getElem?_cons_succ, Option.some.injEq] at ho
              all_goals subst ho
              all_goals simp [Region.binds] at hun hall
              · subst hun
                go_simp
                exact hK _ _ ⟨⟨true, l1, l2, l3, l4, l5, l6, l7, l8, l9, l10, l11, l12, l13, l14, l15, l16, l17, l18, l19, l20, l21, l22, l23, l24, l25, l26, l27, l28, l29, false, false, false, false, false, false, false, false, false, false⟩, rfl, rfl, HS.out⟩
              · subst hun
                go_simp
                exact hK _ _ ⟨⟨l0, true, l2, l3, l4, l5, l6, l7, l8, l9, l10, l11, l12, l13, l14, l15, l16, l17, l18, l19, l20, l21, l22, l23, l24, l25, l26, l27, l28, l29, false, false, false, false, false, false, false, false, false, false⟩, rfl, rfl, HS.out⟩
              · obtain ⟨rfl, rfl⟩ := hall
                subst hun
                go_simp
                exact hK _ _ ⟨⟨true, true, true, l3, l4, l5, l6, l7, l8, l9, l10, l11, l12, l13, l14, l15, l16, l17, l18, l19, l20, l21, l22, l23, l24, l25, l26, l27, l28, l29, false, false, false, false, false, false, false, false, false, false⟩, rfl, rfl, HS.out⟩
              · obtain rfl := hall
                subst hun
                have e0 := (bcell HS.out.bel (g) (i) hl1.out).trans hR0.out
                go_simp
                exact hK _ _ ⟨⟨l0, l1, true, true, l4, l5, l6, l7, l8, l9, l10, l11, l12, l13, l14, l15, l16, l17, l18, l19, l20, l21, l22, l23, l24, l25, l26, l27, l28, l29, false, false, false, false, false, false, false, false, false, false⟩, rfl, rfl, HS.out⟩
              · obtain rfl := hall
                subst hun
                go_simp
                exact hK _ _ ⟨⟨l0, l1, l2, true, true, l5, l6, l7, l8, l9, l10, l11, l12, l13, l14, l15, l16, l17, l18, l19, l20, l21, l22, l23, l24, l25, l26, l27, l28, l29, false, false, false, false, false, false, false, false, false, false⟩, rfl, rfl, HS.out⟩
              · obtain rfl := hall
                subst hun
                go_simp
                exact hK _ _ ⟨⟨l0, l1, l2, l3, true, true, l6, l7, l8, l9, l10, l11, l12, l13, l14, l15, l16, l17, l18, l19, l20, l21, l22, l23, l24, l25, l26, l27, l28, l29, false, false, false, false, false, false, false, false, false, false⟩, rfl, rfl, HS.out⟩
              · obtain rfl := hall
                subst hun
                go_simp
                exact hK _ _ ⟨⟨l0, l1, l2, l3, l4, true, true, l7, l8, l9, l10, l11, l12, l13, l14, l15, l16, l17, l18, l19, l20, l21, l22, l23, l24, l25, l26, l27, l28, l29, false, false, false, false, false, false, false, false, false, false⟩, rfl, rfl, HS.out⟩
              · obtain ⟨rfl, rfl⟩ := hall
                subst hun
                go_simp
                exact hK _ _ ⟨⟨l0, l1, l2, l3, l4, true, true, true, l8, l9, l10, l11, l12, l13, l14, l15, l16, l17, l18, l19, l20, l21, l22, l23, l24, l25, l26, l27, l28, l29, false, false, false, false, false, false, false, false, false, false⟩, rfl, rfl, HS.out⟩
              · obtain rfl := hall
                subst hun
                go_simp
                exact hK _ _ ⟨⟨l0, l1, l2, l3, l4, true, l6, l7, true, l9, l10, l11, l12, l13, l14, l15, l16, l17, l18, l19, l20, l21, l22, l23, l24, l25, l26, l27, l28, l29, false, false, false, false, false, false, false, false, false, false⟩, rfl, rfl, HS.out⟩
              · obtain rfl := hall
                subst hun
                go_simp
                exact hK _ _ ⟨⟨l0, l1, l2, l3, l4, true, l6, l7, l8, true, l10, l11, l12, l13, l14, l15, l16, l17, l18, l19, l20, l21, l22, l23, l24, l25, l26, l27, l28, l29, false, false, false, false, false, false, false, false, false, false⟩, rfl, rfl, HS.out⟩
              · obtain rfl := hall
                subst hun
                go_simp
                exact hK _ _ ⟨⟨l0, l1, l2, l3, l4, true, l6, l7, l8, l9, true, l11, l12, l13, l14, l15, l16, l17, l18, l19, l20, l21, l22, l23, l24, l25, l26, l27, l28, l29, false, false, false, false, false, false, false, false, false, false⟩, rfl, rfl, HS.out⟩
              · obtain rfl := hall
                subst hun
                go_simp
                exact hK _ _ ⟨⟨l0, l1, l2, l3, l4, true, l6, l7, l8, l9, l10, true, l12, l13, l14, l15, l16, l17, l18, l19, l20, l21, l22, l23, l24, l25, l26, l27, l28, l29, false, false, false, false, false, false, false, false, false, false⟩, rfl, rfl, HS.out⟩
              · obtain ⟨rfl, rfl, rfl, rfl⟩ := hall
                subst hun
                go_simp
                exact hK _ _ ⟨⟨l0, l1, l2, l3, l4, true, l6, l7, l8, true, true, true, true, l13, l14, l15, l16, l17, l18, l19, l20, l21, l22, l23, l24, l25, l26, l27, l28, l29, false, false, false, false, false, false, false, false, false, false⟩, rfl, rfl, HS.out⟩
              · obtain ⟨rfl, rfl, rfl⟩ := hall
                subst hun
                go_simp
                exact hK _ _ ⟨⟨l0, l1, l2, l3, l4, true, l6, l7, true, l9, l10, l11, true, true, l14, l15, l16, l17, l18, l19, l20, l21, l22, l23, l24, l25, l26, l27, l28, l29, false, false, false, false, false, false, false, false, false, false⟩, rfl, rfl, HS.out⟩
              · obtain ⟨rfl, rfl, rfl⟩ := hall
                subst hun
                go_simp
                exact hK _ _ ⟨⟨l0, l1, l2, l3, l4, true, l6, true, l8, l9, l10, l11, l12, true, true, l15, l16, l17, l18, l19, l20, l21, l22, l23, l24, l25, l26, l27, l28, l29, false, false, false, false, false, false, false, false, false, false⟩, rfl, rfl, HS.out⟩
              · obtain ⟨rfl, rfl⟩ := hall
                subst hun
                go_simp
                exact hK _ _ ⟨⟨l0, l1, l2, l3, l4, true, l6, l7, l8, l9, l10, l11, l12, l13, true, true, l16, l17, l18, l19, l20, l21, l22, l23, l24, l25, l26, l27, l28, l29, false, false, false, false, false, false, false, false, false, false⟩, rfl, rfl, HS.out⟩
              · obtain ⟨rfl, rfl⟩ := hall
                subst hun
                go_simp
                exact hK _ _ ⟨⟨l0, l1, l2, l3, l4, true, l6, l7, l8, l9, l10, l11, l12, l13, l14, true, true, l17, l18, l19, l20, l21, l22, l23, l24, l25, l26, l27, l28, l29, false, false, false, false, false, false, false, false, false, false⟩, rfl, rfl, HS.out⟩
              · obtain ⟨rfl, rfl⟩ := hall
                subst hun
                go_simp
                exact hK _ _ ⟨⟨l0, l1, l2, l3, l4, l5, l6, l7, l8, l9, l10, l11, l12, true, l14, l15, true, true, l18, l19, l20, l21, l22, l23, l24, l25, l26, l27, l28, l29, false, false, false, false, false, false, false, false, false, false⟩, rfl, rfl, HS.out⟩
              · obtain rfl := hall
                subst hun
                go_simp
                exact hK _ _ ⟨⟨l0, l1, l2, l3, l4, l5, l6, l7, l8, l9, l10, l11, l12, l13, l14, l15, l16, true, true, l19, l20, l21, l22, l23, l24, l25, l26, l27, l28, l29, false, false, false, false, false, false, false, false, false, false⟩, rfl, rfl, HS.out⟩
              · obtain ⟨rfl, rfl⟩ := hall
                subst hun
                go_simp
                exact hK _ _ ⟨⟨l0, l1, l2, l3, l4, l5, l6, l7, l8, l9, l10, l11, l12, l13, l14, l15, l16, true, true, true, l20, l21, l22, l23, l24, l25, l26, l27, l28, l29, false, false, false, false, false, false, false, false, false, false⟩, rfl, rfl, HS.out⟩
              · obtain ⟨rfl, rfl⟩ := hall
                subst hun
                go_simp
                exact hK _ _ ⟨⟨l0, l1, l2, l3, l4, l5, l6, l7, l8, l9, l10, l11, l12, l13, l14, l15, l16, true, l18, true, true, l21, l22, l23, l24, l25, l26, l27, l28, l29, false, false, false, false, false, false, false, false, false, false⟩, rfl, rfl, HS.out⟩
              · obtain rfl := hall
                subst hun
                go_simp
                exact hK _ _ ⟨⟨l0, l1, l2, l3, l4, l5, l6, l7, l8, l9, l10, l11, l12, l13, l14, l15, l16, l17, l18, l19, true, true, l22, l23, l24, l25, l26, l27, l28, l29, false, false, false, false, false, false, false, false, false, false⟩, rfl, rfl, HS.out⟩
              · obtain rfl := hall
                subst hun
                go_simp
                exact hK _ _ ⟨⟨l0, l1, l2, l3, l4, l5, l6, l7, l8, l9, l10, l11, l12, l13, l14, l15, l16, l17, l18, l19, true, l21, true, l23, l24, l25, l26, l27, l28, l29, false, false, false, false, false, false, false, false, false, false⟩, rfl, rfl, HS.out⟩
              · obtain ⟨rfl, rfl, rfl⟩ := hall
                subst hun
                go_simp
                exact hK _ _ ⟨⟨l0, l1, l2, l3, l4, l5, l6, l7, l8, l9, l10, l11, l12, l13, l14, l15, l16, l17, l18, l19, true, true, true, true, l24, l25, l26, l27, l28, l29, false, false, false, false, false, false, false, false, false, false⟩, rfl, rfl, HS.out⟩
              · obtain ⟨rfl, rfl⟩ := hall
                subst hun
                go_simp
                exact hK _ _ ⟨⟨l0, l1, l2, l3, l4, l5, l6, l7, l8, l9, l10, l11, l12, l13, l14, l15, l16, l17, l18, l19, true, l21, l22, true, true, l25, l26, l27, l28, l29, false, false, false, false, false, false, false, false, false, false⟩, rfl, rfl, HS.out⟩
              · obtain ⟨rfl, rfl⟩ := hall
                subst hun
                go_simp
                exact hK _ _ ⟨⟨l0, l1, l2, l3, l4, l5, l6, l7, l8, l9, l10, l11, l12, l13, l14, l15, l16, l17, l18, l19, true, l21, l22, l23, true, true, l26, l27, l28, l29, false, false, false, false, false, false, false, false, false, false⟩, rfl, rfl, HS.out⟩
              · obtain rfl := hall
                subst hun
                go_simp
                exact hK _ _ ⟨⟨l0, l1, l2, l3, l4, l5, l6, l7, l8, l9, l10, l11, l12, l13, l14, l15, l16, l17, l18, l19, true, l21, l22, l23, l24, l25, true, l27, l28, l29, false, false, false, false, false, false, false, false, false, false⟩, rfl, rfl, HS.out⟩
              · obtain ⟨rfl, rfl, rfl⟩ := hall
                subst hun
                go_simp
                exact hK _ _ ⟨⟨l0, l1, l2, l3, l4, l5, l6, l7, l8, l9, l10, l11, l12, l13, l14, l15, l16, l17, l18, l19, true, l21, l22, l23, l24, true, true, true, l28, l29, false, false, false, false, false, false, false, false, false, false⟩, rfl, rfl, HS.out⟩
              · obtain ⟨rfl, rfl, rfl⟩ := hall
                subst hun
                go_simp
                exact hK _ _ ⟨⟨l0, l1, l2, l3, l4, l5, l6, l7, l8, l9, l10, l11, l12, l13, l14, l15, l16, true, l18, l19, true, l21, l22, l23, l24, l25, l26, true, true, l29, false, false, false, false, false, false, false, false, false, false⟩, rfl, rfl, HS.out⟩
              · obtain ⟨rfl, rfl⟩ := hall
                subst hun
                go_simp
                exact hK _ _ ⟨⟨l0, l1, l2, l3, l4, l5, l6, l7, l8, l9, l10, l11, l12, l13, l14, l15, l16, true, l18, l19, l20, l21, l22, l23, l24, l25, l26, l27, true, true, false, false, false, false, false, false, false, false, false, false⟩, rfl, rfl, HS.out⟩
            · rintro listed a w' ⟨⟨l0, l1, l2, l3, l4, l5, l6, l7, l8, l9, l10, l11, l12, l13, l14, l15, l16, l17, l18, l19, l20, l21, l22, l23, l24, l25, l26, l27, l28, l29, _, _, _, _, _, _, _, _, _, _⟩, rfl, rfl, hS⟩ hr
              have hall := ready_nilM (by kernel_rfl) rfl hr
              obtain rfl : l0 = true := by simpa using hall 0 (by simp)
              obtain rfl : l1 = true := by simpa using hall 1 (by simp)
              obtain rfl : l2 = true := by simpa using hall 2 (by simp)
              obtain rfl : l3 = true := by simpa using hall 3 (by simp)
              obtain rfl : l4 = true := by simpa using hall 4 (by simp)
              obtain rfl : l5 = true := by simpa using hall 5 (by simp)
              obtain rfl : l6 = true := by simpa using hall 6 (by simp)
              obtain rfl : l7 = true := by simpa using hall 7 (by simp)
              obtain rfl : l8 = true := by simpa using hall 8 (by simp)
              obtain rfl : l9 = true := by simpa using hall 9 (by simp)
              obtain rfl : l10 = true := by simpa using hall 10 (by simp)
              obtain rfl : l11 = true := by simpa using hall 11 (by simp)
              obtain rfl : l12 = true := by simpa using hall 12 (by simp)
              obtain rfl : l13 = true := by simpa using hall 13 (by simp)
              obtain rfl : l14 = true := by simpa using hall 14 (by simp)
              obtain rfl : l15 = true := by simpa using hall 15 (by simp)
              obtain rfl : l16 = true := by simpa using hall 16 (by simp)
              obtain rfl : l17 = true := by simpa using hall 17 (by simp)
              obtain rfl : l18 = true := by simpa using hall 18 (by simp)
              obtain rfl : l19 = true := by simpa using hall 19 (by simp)
              obtain rfl : l20 = true := by simpa using hall 20 (by simp)
              obtain rfl : l21 = true := by simpa using hall 21 (by simp)
              obtain rfl : l22 = true := by simpa using hall 22 (by simp)
              obtain rfl : l23 = true := by simpa using hall 23 (by simp)
              obtain rfl : l24 = true := by simpa using hall 24 (by simp)
              obtain rfl : l25 = true := by simpa using hall 25 (by simp)
              obtain rfl : l26 = true := by simpa using hall 26 (by simp)
              obtain rfl : l27 = true := by simpa using hall 27 (by simp)
              obtain rfl : l28 = true := by simpa using hall 28 (by simp)
              obtain rfl : l29 = true := by simpa using hall 29 (by simp)
              clear hall hr 
              simp only [↓reduceIte] at hS ⊢
              simp only [Array.getD_eq_getD_getElem?, List.getElem?_toArray, List.getElem?_cons_zero, List.getElem?_cons_succ, Option.getD_some]
              have HSa := Lib.hid (HS0.out.call hS.bel)
              clear hS
              go_wp2
              go_roundw
              case rel => exact ⟨i + 1, m, rfl, by go_num, by omega, HC.out, HSa.out⟩
              case measure => simp [intOf]; omega
            · refine ⟨⟨false, false, false, false, false, false, false, false, false, false, false, false, false, false, false, false, false, false, false, false, false, false, false, false, false, false, false, false, false, false, false, false, false, false, false, false, false, false, false, false⟩, rfl, (by simp), ?_⟩
              exact (St.start wr).drew
          cases x
          · have hc := Hhsn.out.trans (cnd_no2 Hhx.out)
            have HC := Lib.hid hc
            subst hf0
            clear hc
            have hR0 := Lib.hid (hS.rcell (v := .int .i64 (fn : Int)) 1 i rfl (by omega) hat)
            have hE0 := Lib.hid (hS.cell (v := v1) 0 0 rfl rfl)
            have hE1 := Lib.hid (hS.cell (v := .slice (some ⟨b2, o2, none⟩) d.ends.length cap2) 0 1 rfl rfl)
            have hl0 := Lib.hid (hS.boxlt 0 rfl).2
            have hl1 := Lib.hid (hS.rowlt 1 rfl).2
            have HS0 := Lib.hid hS
            clear hS hat
            go_wp2
            refine wp_region_any (by kernel_rfl) ?_
            refine wpAny_invA (fun A listed a w' => ∃ (l : Bs40) , listed = #[l.b0, l.b1, l.b2, l.b3, l.b4, l.b5, l.b6, l.b7, l.b8, l.b9, l.b10, l.b11, l.b12, l.b13, l.b14, l.b15, l.b16, l.b17, l.b18, l.b19, l.b20, l.b21, l.b22, l.b23, l.b24, l.b25, l.b26, l.b27, l.b28, l.b29] ∧
                a = ⟨#[A.tmps.getD 0 undef, A.tmps.getD 1 undef, A.tmps.getD 2 undef, A.tmps.getD 3 undef, A.tmps.getD 4 undef, A.tmps.getD 5 undef, A.tmps.getD 6 undef, A.tmps.getD 7 undef, A.tmps.getD 8 undef, A.tmps.getD 9 undef, A.tmps.getD 10 undef, A.tmps.getD 11 undef, A.tmps.getD 12 undef, A.tmps.getD 13 undef, A.tmps.getD 14 undef, A.tmps.getD 15 undef, A.tmps.getD 16 undef, A.tmps.getD 17 undef, A.tmps.getD 18 undef, A.tmps.getD 19 undef, A.tmps.getD 20 undef, A.tmps.getD 21 undef, A.tmps.getD 22 undef, A.tmps.getD 23 undef, A.tmps.getD 24 undef, A.tmps.getD 25 undef, A.tmps.getD 26 undef, A.tmps.getD 27 undef, A.tmps.getD 28 undef, (if l.b0 = true then .slice (some ⟨g, 0, none⟩) (k + 1) c else A.tmps.getD 29 undef), (if l.b1 = true then .int .i64 (i : Int) else A.tmps.getD 30 undef), (if l.b2 = true then .pointer (some ⟨g, i, none⟩) else A.tmps.getD 31 undef), (if l.b3 = true then .int .i64 (fn : Int) else A.tmps.getD 32 undef), (if l.b4 = true then .bool true else A.tmps.getD 33 undef), (if l.b5 = true then .bool true else A.tmps.getD 34 undef), (if l.b6 = true then .pointer (some ⟨w.heap.size, 1, none⟩) else A.tmps.getD 35 undef), (if l.b7 = true then .slice (some ⟨b2, o2, none⟩) d.ends.length cap2 else A.tmps.getD 36 undef), (if l.b8 = true then .agg #[v1, .slice (some ⟨b2, o2, none⟩) d.ends.length cap2] else A.tmps.getD 37 undef), (if l.b9 = true then .string (wdB L) else A.tmps.getD 38 undef), (if l.b10 = true then .int .i64 (i : Int) else A.tmps.getD 39 undef), (if l.b11 = true then .int .i64 ((k : Int) + 1) else A.tmps.getD 40 undef), (if l.b12 = true then .string (wdB s) else A.tmps.getD 41 undef), (if l.b13 = true then .int .i64 (q : Int) else A.tmps.getD 42 undef), (if l.b14 = true then .pointer (some ⟨b2, o2 + q, none⟩) else A.tmps.getD 43 undef), (if l.b15 = true then .bool false else A.tmps.getD 44 undef), (if l.b16 = true then .bool false else A.tmps.getD 45 undef), (if l.b17 = true then .bool false else A.tmps.getD 46 undef), (if l.b18 = true then undef else A.tmps.getD 47 undef), (if l.b19 = true then undef else A.tmps.getD 48 undef), (if l.b20 = true then undef else A.tmps.getD 49 undef), (if l.b21 = true then undef else A.tmps.getD 50 undef), (if l.b22 = true then undef else A.tmps.getD 51 undef), (if l.b23 = true then undef else A.tmps.getD 52 undef), (if l.b24 = true then undef else A.tmps.getD 53 undef), (if l.b25 = true then undef else A.tmps.getD 54 undef), (if l.b26 = true then undef else A.tmps.getD 55 undef), (if l.b27 = true then undef else A.tmps.getD 56 undef), (if l.b28 = true then undef else A.tmps.getD 57 undef), (if l.b29 = true then .bool false else A.tmps.getD 58 undef), A.tmps.getD 59 undef, A.tmps.getD 60 undef, A.tmps.getD 61 undef, A.tmps.getD 62 undef, A.tmps.getD 63 undef, A.tmps.getD 64 undef, A.tmps.getD 65 undef, A.tmps.getD 66 undef, A.tmps.getD 67 undef, A.tmps.getD 68 undef, A.tmps.getD 69 undef, A.tmps.getD 70 undef, A.tmps.getD 71 undef, A.tmps.getD 72 undef], A.defers⟩ ∧
                St wr w' []) ?_ ?_ ?_
            · rintro listed a w' ⟨⟨l0, l1, l2, l3, l4, l5, l6, l7, l8, l9, l10, l11, l12, l13, l14, l15, l16, l17, l18, l19, l20, l21, l22, l23, l24, l25, l26, l27, l28, l29, _, _, _, _, _, _, _, _, _, _⟩, rfl, rfl, hS⟩ i hi
              obtain ⟨hun, o, ho, hall⟩ := mem_ready.1 hi
              have hlt := (Array.getElem?_eq_some_iff.1 ho).1
              refine wpOp_step ho (fun K hK => ?_)
              clear hi
              have HS := Lib.hid hS
              clear hS
              simp only [List.setIfInBounds_toArray, Array.getD_eq_getD_getElem?, List.getElem?_toArray, List.getElem?_cons_zero, List.getElem?_cons_succ, Option.getD_some] at hK ⊢
              obtain h | h | h | h | h | h | h | h | h | h | h | h | h | h | h | h | h | h | h | h | h | h | h | h | h | h | h | h | h | h : i = 0 ∨ i = 1 ∨ i = 2 ∨ i = 3 ∨ i = 4 ∨ i = 5 ∨ i = 6 ∨ i = 7 ∨ i = 8 ∨ i = 9 ∨ i = 10 ∨ i = 11 ∨ i = 12 ∨ i = 13 ∨ i = 14 ∨ i = 15 ∨ i = 16 ∨ i = 17 ∨ i = 18 ∨ i = 19 ∨ i = 20 ∨ i = 21 ∨ i = 22 ∨ i = 23 ∨ i = 24 ∨ i = 25 ∨ i = 26 ∨ i = 27 ∨ i = 28 ∨ i = 29 := by simp at hlt; omega
              all_goals subst h
              all_goals simp only [List.getElem?_toArray, List.getElem?_cons_zero, List.getElem?_cons_succ, Option.some.injEq] at ho
              all_goals subst ho
              all_goals simp [Region.binds] at hun hall
              · subst hun
                go_simp
                exact hK _ _ ⟨⟨true, l1, l2, l3, l4, l5, l6, l7, l8, l9, l10, l11, l12, l13, l14, l15, l16, l17, l18, l19, l20, l21, l22, l23, l24, l25, l26, l27, l28, l29, false, false, false, false, false, false, false, false, false, false⟩, rfl, rfl, HS.out⟩
              · subst hun
                go_simp
                exact hK _ _ ⟨⟨l0, true, l2, l3, l4, l5, l6, l7, l8, l9, l10, l11, l12, l13, l14, l15, l16, l17, l18, l19, l20, l21, l22, l23, l24, l25, l26, l27, l28, l29, false, false, false, false, false, false, false, false, false, false⟩, rfl, rfl, HS.out⟩
              · obtain ⟨rfl, rfl⟩ := hall
                subst hun
                go_simp
                exact hK _ _ ⟨⟨true, true, true, l3, l4, l5, l6, l7, l8, l9, l10, l11, l12, l13, l14, l15, l16, l17, l18, l19, l20, l21, l22, l23, l24, l25, l26, l27, l28, l29, false, false, false, false, false, false, false, false, false, false⟩, rfl, rfl, HS.out⟩
              · obtain rfl := hall
                subst hun
                have e0 := (bcell HS.out.bel (g) (i) hl1.out).trans hR0.out
                go_simp
                exact hK _ _ ⟨⟨l0, l1, true, true, l4, l5, l6, l7, l8, l9, l10, l11, l12, l13, l14, l15, l16, l17, l18, l19, l20, l21, l22, l23, l24, l25, l26, l27, l28, l29, false, false, false, false, false, false, false, false, false, false⟩, rfl, rfl, HS.out⟩
              · obtain rfl := hall
                subst hun
                go_simp
                exact hK _ _ ⟨⟨l0, l1, l2, true, true, l5, l6, l7, l8, l9, l10, l11, l12, l13, l14, l15, l16, l17, l18, l19, l20, l21, l22, l23, l24, l25, l26, l27, l28, l29, false, false, false, false, false, false, false, false, false, false⟩, rfl, rfl, HS.out⟩
              · obtain rfl := hall
                subst hun
                go_simp
                exact hK _ _ ⟨⟨l0, l1, l2, l3, true, true, l6, l7, l8, l9, l10, l11, l12, l13, l14, l15, l16, l17, l18, l19, l20, l21, l22, l23, l24, l25, l26, l27, l28, l29, false, false, false, false, false, false, false, false, false, false⟩, rfl, rfl, HS.out⟩
              · obtain rfl := hall
                subst hun
                go_simp
                exact hK _ _ ⟨⟨l0, l1, l2, l3, l4, true, true, l7, l8, l9, l10, l11, l12, l13, l14, l15, l16, l17, l18, l19, l20, l21, l22, l23, l24, l25, l26, l27, l28, l29, false, false, false, false, false, false, false, false, false, false⟩, rfl, rfl, HS.out⟩
              · obtain ⟨rfl, rfl⟩ := hall
                subst hun
                have e0 := (bcell HS.out.bel (w.heap.size) (1) hl0.out).trans hE1.out
                go_simp
                exact hK _ _ ⟨⟨l0, l1, l2, l3, l4, true, true, true, l8, l9, l10, l11, l12, l13, l14, l15, l16, l17, l18, l19, l20, l21, l22, l23, l24, l25, l26, l27, l28, l29, false, false, false, false, false, false, false, false, false, false⟩, rfl, rfl, HS.out⟩
              · obtain rfl := hall
                subst hun
                have e0 := (bcell HS.out.bel (w.heap.size) (0) hl0.out).trans hE0.out
                have e1 := (bcell HS.out.bel (w.heap.size) (1) hl0.out).trans hE1.out
                go_simp
                exact hK _ _ ⟨⟨l0, l1, l2, l3, l4, true, l6, l7, true, l9, l10, l11, l12, l13, l14, l15, l16, l17, l18, l19, l20, l21, l22, l23, l24, l25, l26, l27, l28, l29, false, false, false, false, false, false, false, false, false, false⟩, rfl, rfl, HS.out⟩
              · obtain rfl := hall
                subst hun
                go_simp
                exact hK _ _ ⟨⟨l0, l1, l2, l3, l4, true, l6, l7, l8, true, l10, l11, l12, l13, l14, l15, l16, l17, l18, l19, l20, l21, l22, l23, l24, l25, l26, l27, l28, l29, false, false, false, false, false, false, false, false, false, false⟩, rfl, rfl, HS.out⟩
              · obtain rfl := hall
                subst hun
                go_simp
                exact hK _ _ ⟨⟨l0, l1, l2, l3, l4, true, l6, l7, l8, l9, true, l11, l12, l13, l14, l15, l16, l17, l18, l19, l20, l21, l22, l23, l24, l25, l26, l27, l28, l29, false, false, false, false, false, false, false, false, false, false⟩, rfl, rfl, HS.out⟩
              · obtain rfl := hall
                subst hun
                go_simp
                exact hK _ _ ⟨⟨l0, l1, l2, l3, l4, true, l6, l7, l8, l9, l10, true, l12, l13, l14, l15, l16, l17, l18, l19, l20, l21, l22, l23, l24, l25, l26, l27, l28, l29, false, false, false, false, false, false, false, false, false, false⟩, rfl, rfl, HS.out⟩
              · obtain ⟨rfl, rfl, rfl, rfl⟩ := hall
                subst hun
                go_simp
                exact hK _ _ ⟨⟨l0, l1, l2, l3, l4, true, l6, l7, l8, true, true, true, true, l13, l14, l15, l16, l17, l18, l19, l20, l21, l22, l23, l24, l25, l26, l27, l28, l29, false, false, false, false, false, false, false, false, false, false⟩, rfl, rfl, HS.out⟩
              · obtain ⟨rfl, rfl, rfl⟩ := hall
                subst hun
                go_simp
                go_at_call 80
                refine (HA.out _ (HS0.out.bel.trans (HS.out.bel.mono HS0.out.bel.size))).mono ?_
                rintro e u1 ⟨rfl, hb⟩
                have hS2 := HS.out.call hb
                have HhS2 := Lib.hid hS2; clear hS2
                go_simp
                exact hK _ _ ⟨⟨l0, l1, l2, l3, l4, true, l6, l7, true, l9, l10, l11, true, true, l14, l15, l16, l17, l18, l19, l20, l21, l22, l23, l24, l25, l26, l27, l28, l29, false, false, false, false, false, false, false, false, false, false⟩, rfl, rfl, HhS2.out⟩
              · obtain ⟨rfl, rfl, rfl⟩ := hall
                subst hun
                go_simp
                exact hK _ _ ⟨⟨l0, l1, l2, l3, l4, true, l6, true, l8, l9, l10, l11, l12, true, true, l15, l16, l17, l18, l19, l20, l21, l22, l23, l24, l25, l26, l27, l28, l29, false, false, false, false, false, false, false, false, false, false⟩, rfl, rfl, HS.out⟩
              · obtain ⟨rfl, rfl⟩ := hall
                subst hun
                have e0 := (bcell HS.out.bel (b2) (o2 + q) hl2.out).trans hEn.out
                go_simp
                exact hK _ _ ⟨⟨l0, l1, l2, l3, l4, true, l6, l7, l8, l9, l10, l11, l12, l13, true, true, l16, l17, l18, l19, l20, l21, l22, l23, l24, l25, l26, l27, l28, l29, false, false, false, false, false, false, false, false, false, false⟩, rfl, rfl, HS.out⟩
              · obtain ⟨rfl, rfl⟩ := hall
                subst hun
                go_simp
                exact hK _ _ ⟨⟨l0, l1, l2, l3, l4, true, l6, l7, l8, l9, l10, l11, l12, l13, l14, true, true, l17, l18, l19, l20, l21, l22, l23, l24, l25, l26, l27, l28, l29, false, false, false, false, false, false, false, false, false, false⟩, rfl, rfl, HS.out⟩
              · obtain ⟨rfl, rfl⟩ := hall
                subst hun
                go_simp
                exact hK _ _ ⟨⟨l0, l1, l2, l3, l4, l5, l6, l7, l8, l9, l10, l11, l12, true, l14, l15, true, true, l18, l19, l20, l21, l22, l23, l24, l25, l26, l27, l28, l29, false, false, false, false, false, false, false, false, false, false⟩, rfl, rfl, HS.out⟩
              · obtain rfl := hall
                subst hun
                go_simp
                exact hK _ _ ⟨⟨l0, l1, l2, l3, l4, l5, l6, l7, l8, l9, l10, l11, l12, l13, l14, l15, l16, true, true, l19, l20, l21, l22, l23, l24, l25, l26, l27, l28, l29, false, false, false, false, false, false, false, false, false, false⟩, rfl, rfl, HS.out⟩
              · obtain ⟨rfl, rfl⟩ := hall
                subst hun
                go_simp
                exact hK _ _ ⟨⟨l0, l1, l2, l3, l4, l5, l6, l7, l8, l9, l10, l11, l12, l13, l14, l15, l16, true, true, true, l20, l21, l22, l23, l24, l25, l26, l27, l28, l29, false, false, false, false, false, false, false, false, false, false⟩, rfl, rfl, HS.out⟩
              · obtain ⟨rfl, rfl⟩ := hall
                subst hun
                go_simp
                exact hK _ _ ⟨⟨l0, l1, l2, l3, l4, l5, l6, l7, l8, l9, l10, l11, l12, l13, l14, l15, l16, true, l18, true, true, l21, l22, l23, l24, l25, l26, l27, l28, l29, false, false, false, false, false, false, false, false, false, false⟩, rfl, rfl, HS.out⟩
              · obtain rfl := hall
                subst hun
                go_simp
                exact hK _ _ ⟨⟨l0, l1, l2, l3, l4, l5, l6, l7, l8, l9, l10, l11, l12, l13, l14, l15, l16, l17, l18, l19, true, true, l22, l23, l24, l25, l26, l27, l28, l29, false, false, false, false, false, false, false, false, false, false⟩, rfl, rfl, HS.out⟩
              · obtain rfl := hall
                subst hun
                go_simp
                exact hK _ _ ⟨⟨l0, l1, l2, l3, l4, l5, l6, l7, l8, l9, l10, l11, l12, l13, l14, l15, l16, l17, l18, l19, true, l21, true, l23, l24, l25, l26, l27, l28, l29, false, false, false, false, false, false, false, false, false, false⟩, rfl, rfl, HS.out⟩
              · obtain ⟨rfl, rfl, rfl⟩ := hall
                subst hun
                go_simp
                exact hK _ _ ⟨⟨l0, l1, l2, l3, l4, l5, l6, l7, l8, l9, l10, l11, l12, l13, l14, l15, l16, l17, l18, l19, true, true, true, true, l24, l25, l26, l27, l28, l29, false, false, false, false, false, false, false, false, false, false⟩, rfl, rfl, HS.out⟩
              · obtain ⟨rfl, rfl⟩ := hall
                subst hun
                go_simp
                exact hK _ _ ⟨⟨l0, l1, l2, l3, l4, l5, l6, l7, l8, l9, l10, l11, l12, l13, l14, l15, l16, l17, l18, l19, true, l21, l22, true, true, l25, l26, l27, l28, l29, false, false, false, false, false, false, false, false, false, false⟩, rfl, rfl, HS.out⟩
              · obtain ⟨rfl, rfl⟩ := hall
                subst hun
                go_simp
                exact hK _ _ ⟨⟨l0, l1, l2, l3, l4, l5, l6, l7, l8, l9, l10, l11, l12, l13, l14, l15, l16, l17, l18, l19, true, l21, l22, l23, true, true, l26, l27, l28, l29, false, false, false, false, false, false, false, false, false, false⟩, rfl, rfl, HS.out⟩
              · obtain rfl := hall
                subst hun
                go_simp
                exact hK _ _ ⟨⟨l0, l1, l2, l3, l4, l5, l6, l7, l8, l9, l10, l11, l12, l13, l14, l15, l16, l17, l18, l19, true, l21, l22, l23, l24, l25, true, l27, l28, l29, false, false, false, false, false, false, false, false, false, false⟩, rfl, rfl, HS.out⟩
              · obtain ⟨rfl, rfl, rfl⟩ := hall
                subst hun
                go_simp
                exact hK _ _ ⟨⟨l0, l1, l2, l3, l4, l5, l6, l7, l8, l9, l10, l11, l12, l13, l14, l15, l16, l17, l18, l19, true, l21, l22, l23, l24, true, true, true, l28, l29, false, false, false, false, false, false, false, false, false, false⟩, rfl, rfl, HS.out⟩
              · obtain ⟨rfl, rfl, rfl⟩ := hall
                subst hun
                go_simp
                exact hK _ _ ⟨⟨l0, l1, l2, l3, l4, l5, l6, l7, l8, l9, l10, l11, l12, l13, l14, l15, l16, true, l18, l19, true, l21, l22, l23, l24, l25, l26, true, true, l29, false, false, false, false, false, false, false, false, false, false⟩, rfl, rfl, HS.out⟩
              · obtain ⟨rfl, rfl⟩ := hall
                subst hun
                go_simp
                exact hK _ _ ⟨⟨l0, l1, l2, l3, l4, l5, l6, l7, l8, l9, l10, l11, l12, l13, l14, l15, l16, true, l18, l19, l20, l21, l22, l23, l24, l25, l26, l27, true, true, false, false, false, false, false, false, false, false, false, false⟩, rfl, rfl, HS.out⟩
            · rintro listed a w' ⟨⟨l0, l1, l2, l3, l4, l5, l6, l7, l8, l9, l10, l11, l12, l13, l14, l15, l16, l17, l18, l19, l20, l21, l22, l23, l24, l25, l26, l27, l28, l29, _, _, _, _, _, _, _, _, _, _⟩, rfl, rfl, hS⟩ hr
              have hall := ready_nilM (by kernel_rfl) rfl hr
              obtain rfl : l0 = true := by simpa using hall 0 (by simp)
              obtain rfl : l1 = true := by simpa using hall 1 (by simp)
              obtain rfl : l2 = true := by simpa using hall 2 (by simp)
              obtain rfl : l3 = true := by simpa using hall 3 (by simp)
              obtain rfl : l4 = true := by simpa using hall 4 (by simp)
              obtain rfl : l5 = true := by simpa using hall 5 (by simp)
              obtain rfl : l6 = true := by simpa using hall 6 (by simp)
              obtain rfl : l7 = true := by simpa using hall 7 (by simp)
              obtain rfl : l8 = true := by simpa using hall 8 (by simp)
              obtain rfl : l9 = true := by simpa using hall 9 (by simp)
              obtain rfl : l10 = true := by simpa using hall 10 (by simp)
              obtain rfl : l11 = true := by simpa using hall 11 (by simp)
              obtain rfl : l12 = true := by simpa using hall 12 (by simp)
              obtain rfl : l13 = true := by simpa using hall 13 (by simp)
              obtain rfl : l14 = true := by simpa using hall 14 (by simp)
              obtain rfl : l15 = true := by simpa using hall 15 (by simp)
              obtain rfl : l16 = true := by simpa using hall 16 (by simp)
              obtain rfl : l17 = true := by simpa using hall 17 (by simp)
              obtain rfl : l18 = true := by simpa using hall 18 (by simp)
              obtain rfl : l19 = true := by simpa using hall 19 (by simp)
              obtain rfl : l20 = true := by simpa using hall 20 (by simp)
              obtain rfl : l21 = true := by simpa using hall 21 (by simp)
              obtain rfl : l22 = true := by simpa using hall 22 (by simp)
              obtain rfl : l23 = true := by simpa using hall 23 (by simp)
              obtain rfl : l24 = true := by simpa using hall 24 (by simp)
              obtain rfl : l25 = true := by simpa using hall 25 (by simp)
              obtain rfl : l26 = true := by simpa using hall 26 (by simp)
              obtain rfl : l27 = true := by simpa using hall 27 (by simp)
              obtain rfl : l28 = true := by simpa using hall 28 (by simp)
              obtain rfl : l29 = true := by simpa using hall 29 (by simp)
              clear hall hr 
              simp only [↓reduceIte] at hS ⊢
              simp only [Array.getD_eq_getD_getElem?, List.getElem?_toArray, List.getElem?_cons_zero, List.getElem?_cons_succ, Option.getD_some]
              have HSa := Lib.hid (HS0.out.call hS.bel)
              clear hS
              go_wp2
              go_roundw
              case rel => exact ⟨i + 1, m, rfl, by go_num, by omega, HC.out, HSa.out⟩
              case measure => simp [intOf]; omega
            · refine ⟨⟨false, false, false, false, false, false, false, false, false, false, false, false, false, false, false, false, false, false, false, false, false, false, false, false, false, false, false, false, false, false, false, false, false, false, false, false, false, false, false, false⟩, rfl, (by simp), ?_⟩
              exact (St.start wr).drew
          obtain hm0 | ⟨mn, hm0⟩ : m = -1 ∨ ∃ mn : Nat, m = (mn : Int) := by
            by_cases h : m < 0
            · exact .inl (by omega)
            · exact .inr ⟨m.toNat, by omega⟩
          · have hc := Hhsn.out.trans (cnd_yes Hhf.out (by omega) Hhx.out (.inl (by omega)))
            have HC := Lib.hid hc
            subst hf0
            subst hm0
            clear hc
            have hw1 : IntKind.i64.wrap ((fn : Int) + 1) = (fn : Int) + 1 := IntWalk.i64_in _ (by omega)
            have hR0 := Lib.hid (hS.rcell (v := .int .i64 (fn : Int)) 1 i rfl (by omega) hat)
            have hE0 := Lib.hid (hS.cell (v := v1) 0 0 rfl rfl)
            have hE1 := Lib.hid (hS.cell (v := .slice (some ⟨b2, o2, none⟩) d.ends.length cap2) 0 1 rfl rfl)
            have hl0 := Lib.hid (hS.boxlt 0 rfl).2
            have hl1 := Lib.hid (hS.rowlt 1 rfl).2
            have HS0 := Lib.hid hS
            clear hS hat
            go_wp2
            refine wp_region_any (by kernel_rfl) ?_
            refine wpAny_invA (fun A listed a w' => ∃ (l : Bs40) , listed = #[l.b0, l.b1, l.b2, l.b3, l.b4, l.b5, l.b6, l.b7, l.b8, l.b9, l.b10, l.b11, l.b12, l.b13, l.b14, l.b15, l.b16, l.b17, l.b18, l.b19, l.b20, l.b21, l.b22, l.b23, l.b24, l.b25, l.b26, l.b27, l.b28, l.b29] ∧
                a = ⟨#[A.tmps.getD 0 undef, A.tmps.getD 1 undef, A.tmps.getD 2 undef, A.tmps.getD 3 undef, A.tmps.getD 4 undef, A.tmps.getD 5 undef, A.tmps.getD 6 undef, A.tmps.getD 7 undef, A.tmps.getD 8 undef, A.tmps.getD 9 undef, A.tmps.getD 10 undef, A.tmps.getD 11 undef, A.tmps.getD 12 undef, A.tmps.getD 13 undef, A.tmps.getD 14 undef, A.tmps.getD 15 undef, A.tmps.getD 16 undef, A.tmps.getD 17 undef, A.tmps.getD 18 undef, A.tmps.getD 19 undef, A.tmps.getD 20 undef, A.tmps.getD 21 undef, A.tmps.getD 22 undef, A.tmps.getD 23 undef, A.tmps.getD 24 undef, A.tmps.getD 25 undef, A.tmps.getD 26 undef, A.tmps.getD 27 undef, A.tmps.getD 28 undef, (if l.b0 = true then .slice (some ⟨g, 0, none⟩) (k + 1) c else A.tmps.getD 29 undef), (if l.b1 = true then .int .i64 (i : Int) else A.tmps.getD 30 undef), (if l.b2 = true then .pointer (some ⟨g, i, none⟩) else A.tmps.getD 31 undef), (if l.b3 = true then .int .i64 (fn : Int) else A.tmps.getD 32 undef), (if l.b4 = true then .bool true else A.tmps.getD 33 undef), (if l.b5 = true then .bool true else A.tmps.getD 34 undef), (if l.b6 = true then .pointer (some ⟨w.heap.size, 1, none⟩) else A.tmps.getD 35 undef), (if l.b7 = true then .slice (some ⟨b2, o2, none⟩) d.ends.length cap2 else A.tmps.getD 36 undef), (if l.b8 = true then .agg #[v1, .slice (some ⟨b2, o2, none⟩) d.ends.length cap2] else A.tmps.getD 37 undef), (if l.b9 = true then .string (wdB L) else A.tmps.getD 38 undef), (if l.b10 = true then .int .i64 (i : Int) else A.tmps.getD 39 undef), (if l.b11 = true then .int .i64 ((k : Int) + 1) else A.tmps.getD 40 undef), (if l.b12 = true then .string (wdB s) else A.tmps.getD 41 undef), (if l.b13 = true then .int .i64 (q : Int) else A.tmps.getD 42 undef), (if l.b14 = true then .pointer (some ⟨b2, o2 + q, none⟩) else A.tmps.getD 43 undef), (if l.b15 = true then .bool true else A.tmps.getD 44 undef), (if l.b16 = true then .bool true else A.tmps.getD 45 undef), (if l.b17 = true then .bool true else A.tmps.getD 46 undef), (if l.b18 = true then .int .i64 (-1) else A.tmps.getD 47 undef), (if l.b19 = true then .bool true else A.tmps.getD 48 undef), (if l.b20 = true then .bool true else A.tmps.getD 49 undef), (if l.b21 = true then undef else A.tmps.getD 50 undef), (if l.b22 = true then undef else A.tmps.getD 51 undef), (if l.b23 = true then undef else A.tmps.getD 52 undef), (if l.b24 = true then undef else A.tmps.getD 53 undef), (if l.b25 = true then undef else A.tmps.getD 54 undef), (if l.b26 = true then undef else A.tmps.getD 55 undef), (if l.b27 = true then undef else A.tmps.getD 56 undef), (if l.b28 = true then .bool true else A.tmps.getD 57 undef), (if l.b29 = true then .bool true else A.tmps.getD 58 undef), A.tmps.getD 59 undef, A.tmps.getD 60 undef, A.tmps.getD 61 undef, A.tmps.getD 62 undef, A.tmps.getD 63 undef, A.tmps.getD 64 undef, A.tmps.getD 65 undef, A.tmps.getD 66 undef, A.tmps.getD 67 undef, A.tmps.getD 68 undef, A.tmps.getD 69 undef, A.tmps.getD 70 undef, A.tmps.getD 71 undef, A.tmps.getD 72 undef], A.defers⟩ ∧
                St wr w' []) ?_ ?_ ?_
            · rintro listed a w' ⟨⟨l0, l1, l2, l3, l4, l5, l6, l7, l8, l9, l10, l11, l12, l13, l14, l15, l16, l17, l18, l19, l20, l21, l22, l23, l24, l25, l26, l27, l28, l29, _, _, _, _, _, _, _, _, _, _⟩, rfl, rfl, hS⟩ i hi
              obtain ⟨hun, o, ho, hall⟩ := mem_ready.1 hi
              have hlt := (Array.getElem?_eq_some_iff.1 ho).1
              refine wpOp_step ho (fun K hK => ?_)
              clear hi
              have HS := Lib.hid hS
              clear hS
              simp only [List.setIfInBounds_toArray, Array.getD_eq_getD_getElem?, List.getElem?_toArray, List.getElem?_cons_zero, List.getElem?_cons_succ, Option.getD_some] at hK ⊢
              obtain h | h | h | h | h | h | h | h | h | h | h | h | h | h | h | h | h | h | h | h | h | h | h | h | h | h | h | h | h | h : i = 0 ∨ i = 1 ∨ i = 2 ∨ i = 3 ∨ i = 4 ∨ i = 5 ∨ i = 6 ∨ i = 7 ∨ i = 8 ∨ i = 9 ∨ i = 10 ∨ i = 11 ∨ i = 12 ∨ i = 13 ∨ i = 14 ∨ i = 15 ∨ i = 16 ∨ i = 17 ∨ i = 18 ∨ i = 19 ∨ i = 20 ∨ i = 21 ∨ i = 22 ∨ i = 23 ∨ i = 24 ∨ i = 25 ∨ i = 26 ∨ i = 27 ∨ i = 28 ∨ i = 29 := by simp at hlt; omega
              all_goals subst h
              all_goals simp only [List.getElem?_toArray, List.getElem?_cons_zero, List.getElem?_cons_succ, Option.some.injEq] at ho
              all_goals subst ho
              all_goals simp [Region.binds] at hun hall
              · subst hun
                go_simp
                exact hK _ _ ⟨⟨true, l1, l2, l3, l4, l5, l6, l7, l8, l9, l10, l11, l12, l13, l14, l15, l16, l17, l18, l19, l20, l21, l22, l23, l24, l25, l26, l27, l28, l29, false, false, false, false, false, false, false, false, false, false⟩, rfl, rfl, HS.out⟩
              · subst hun
                go_simp
                exact hK _ _ ⟨⟨l0, true, l2, l3, l4, l5, l6, l7, l8, l9, l10, l11, l12, l13, l14, l15, l16, l17, l18, l19, l20, l21, l22, l23, l24, l25, l26, l27, l28, l29, false, false, false, false, false, false, false, false, false, false⟩, rfl, rfl, HS.out⟩
              · obtain ⟨rfl, rfl⟩ := hall
                subst hun
                go_simp
                exact hK _ _ ⟨⟨true, true, true, l3, l4, l5, l6, l7, l8, l9, l10, l11, l12, l13, l14, l15, l16, l17, l18, l19, l20, l21, l22, l23, l24, l25, l26, l27, l28, l29, false, false, false, false, false, false, false, false, false, false⟩, rfl, rfl, HS.out⟩
              · obtain rfl := hall
                subst hun
                have e0 := (bcell HS.out.bel (g) (i) hl1.out).trans hR0.out
                go_simp
                exact hK _ _ ⟨⟨l0, l1, true, true, l4, l5, l6, l7, l8, l9, l10, l11, l12, l13, l14, l15, l16, l17, l18, l19, l20, l21, l22, l23, l24, l25, l26, l27, l28, l29, false, false, false, false, false, false, false, false, false, false⟩, rfl, rfl, HS.out⟩
              · obtain rfl := hall
                subst hun
                go_simp
                exact hK _ _ ⟨⟨l0, l1, l2, true, true, l5, l6, l7, l8, l9, l10, l11, l12, l13, l14, l15, l16, l17, l18, l19, l20, l21, l22, l23, l24, l25, l26, l27, l28, l29, false, false, false, false, false, false, false, false, false, false⟩, rfl, rfl, HS.out⟩
              · obtain rfl := hall
                subst hun
                go_simp
                exact hK _ _ ⟨⟨l0, l1, l2, l3, true, true, l6, l7, l8, l9, l10, l11, l12, l13, l14, l15, l16, l17, l18, l19, l20, l21, l22, l23, l24, l25, l26, l27, l28, l29, false, false, false, false, false, false, false, false, false, false⟩, rfl, rfl, HS.out⟩
              · obtain rfl := hall
                subst hun
                go_simp
                exact hK _ _ ⟨⟨l0, l1, l2, l3, l4, true, true, l7, l8, l9, l10, l11, l12, l13, l14, l15, l16, l17, l18, l19, l20, l21, l22, l23, l24, l25, l26, l27, l28, l29, false, false, false, false, false, false, false, false, false, false⟩, rfl, rfl, HS.out⟩
              · obtain ⟨rfl, rfl⟩ := hall
                subst hun
                have e0 := (bcell HS.out.bel (w.heap.size) (1) hl0.out).trans hE1.out
                go_simp
                exact hK _ _ ⟨⟨l0, l1, l2, l3, l4, true, true, true, l8, l9, l10, l11, l12, l13, l14, l15, l16, l17, l18, l19, l20, l21, l22, l23, l24, l25, l26, l27, l28, l29, false, false, false, false, false, false, false, false, false, false⟩, rfl, rfl, HS.out⟩
              · obtain rfl := hall
                subst hun
                have e0 := (bcell HS.out.bel (w.heap.size) (0) hl0.out).trans hE0.out
                have e1 := (bcell HS.out.bel (w.heap.size) (1) hl0.out).trans hE1.out
                go_simp
                exact hK _ _ ⟨⟨l0, l1, l2, l3, l4, true, l6, l7, true, l9, l10, l11, l12, l13, l14, l15, l16, l17, l18, l19, l20, l21, l22, l23, l24, l25, l26, l27, l28, l29, false, false, false, false, false, false, false, false, false, false⟩, rfl, rfl, HS.out⟩
              · obtain rfl := hall
                subst hun
                go_simp
                exact hK _ _ ⟨⟨l0, l1, l2, l3, l4, true, l6, l7, l8, true, l10, l11, l12, l13, l14, l15, l16, l17, l18, l19, l20, l21, l22, l23, l24, l25, l26, l27, l28, l29, false, false, false, false, false, false, false, false, false, false⟩, rfl, rfl, HS.out⟩
              · obtain rfl := hall
                subst hun
                go_simp
                exact hK _ _ ⟨⟨l0, l1, l2, l3, l4, true, l6, l7, l8, l9, true, l11, l12, l13, l14, l15, l16, l17, l18, l19, l20, l21, l22, l23, l24, l25, l26, l27, l28, l29, false, false, false, false, false, false, false, false, false, false⟩, rfl, rfl, HS.out⟩
              · obtain rfl := hall
                subst hun
                go_simp
                exact hK _ _ ⟨⟨l0, l1, l2, l3, l4, true, l6, l7, l8, l9, l10, true, l12, l13, l14, l15, l16, l17, l18, l19, l20, l21, l22, l23, l24, l25, l26, l27, l28, l29, false, false, false, false, false, false, false, false, false, false⟩, rfl, rfl, HS.out⟩
              · obtain ⟨rfl, rfl, rfl, rfl⟩ := hall
                subst hun
                go_simp
                exact hK _ _ ⟨⟨l0, l1, l2, l3, l4, true, l6, l7, l8, true, true, true, true, l13, l14, l15, l16, l17, l18, l19, l20, l21, l22, l23, l24, l25, l26, l27, l28, l29, false, false, false, false, false, false, false, false, false, false⟩, rfl, rfl, HS.out⟩
              · obtain ⟨rfl, rfl, rfl⟩ := hall
                subst hun
                go_simp
                go_at_call 80
                refine (HA.out _ (HS0.out.bel.trans (HS.out.bel.mono HS0.out.bel.size))).mono ?_
                rintro e u1 ⟨rfl, hb⟩
                have hS2 := HS.out.call hb
                have HhS2 := Lib.hid hS2; clear hS2
                go_simp
                exact hK _ _ ⟨⟨l0, l1, l2, l3, l4, true, l6, l7, true, l9, l10, l11, true, true, l14, l15, l16, l17, l18, l19, l20, l21, l22, l23, l24, l25, l26, l27, l28, l29, false, false, false, false, false, false, false, false, false, false⟩, rfl, rfl, HhS2.out⟩
              · obtain ⟨rfl, rfl, rfl⟩ := hall
                subst hun
                go_simp
                exact hK _ _ ⟨⟨l0, l1, l2, l3, l4, true, l6, true, l8, l9, l10, l11, l12, true, true, l15, l16, l17, l18, l19, l20, l21, l22, l23, l24, l25, l26, l27, l28, l29, false, false, false, false, false, false, false, false, false, false⟩, rfl, rfl, HS.out⟩
              · obtain ⟨rfl, rfl⟩ := hall
                subst hun
                have e0 := (bcell HS.out.bel (b2) (o2 + q) hl2.out).trans hEn.out
                go_simp
                exact hK _ _ ⟨⟨l0, l1, l2, l3, l4, true, l6, l7, l8, l9, l10, l11, l12, l13, true, true, l16, l17, l18, l19, l20, l21, l22, l23, l24, l25, l26, l27, l28, l29, false, false, false, false, false, false, false, false, false, false⟩, rfl, rfl, HS.out⟩
              · obtain ⟨rfl, rfl⟩ := hall
                subst hun
                go_simp
                exact hK _ _ ⟨⟨l0, l1, l2, l3, l4, true, l6, l7, l8, l9, l10, l11, l12, l13, l14, true, true, l17, l18, l19, l20, l21, l22, l23, l24, l25, l26, l27, l28, l29, false, false, false, false, false, false, false, false, false, false⟩, rfl, rfl, HS.out⟩
              · obtain ⟨rfl, rfl⟩ := hall
                subst hun
                go_simp
                exact hK _ _ ⟨⟨l0, l1, l2, l3, l4, l5, l6, l7, l8, l9, l10, l11, l12, true, l14, l15, true, true, l18, l19, l20, l21, l22, l23, l24, l25, l26, l27, l28, l29, false, false, false, false, false, false, false, false, false, false⟩, rfl, rfl, HS.out⟩
              · obtain rfl := hall
                subst hun
                go_simp
                exact hK _ _ ⟨⟨l0, l1, l2, l3, l4, l5, l6, l7, l8, l9, l10, l11, l12, l13, l14, l15, l16, true, true, l19, l20, l21, l22, l23, l24, l25, l26, l27, l28, l29, false, false, false, false, false, false, false, false, false, false⟩, rfl, rfl, HS.out⟩
              · obtain ⟨rfl, rfl⟩ := hall
                subst hun
                go_simp
                exact hK _ _ ⟨⟨l0, l1, l2, l3, l4, l5, l6, l7, l8, l9, l10, l11, l12, l13, l14, l15, l16, true, true, true, l20, l21, l22, l23, l24, l25, l26, l27, l28, l29, false, false, false, false, false, false, false, false, false, false⟩, rfl, rfl, HS.out⟩
              · obtain ⟨rfl, rfl⟩ := hall
                subst hun
                go_simp
                exact hK _ _ ⟨⟨l0, l1, l2, l3, l4, l5, l6, l7, l8, l9, l10, l11, l12, l13, l14, l15, l16, true, l18, true, true, l21, l22, l23, l24, l25, l26, l27, l28, l29, false, false, false, false, false, false, false, false, false, false⟩, rfl, rfl, HS.out⟩
              · obtain rfl := hall
                subst hun
                go_simp
                exact hK _ _ ⟨⟨l0, l1, l2, l3, l4, l5, l6, l7, l8, l9, l10, l11, l12, l13, l14, l15, l16, l17, l18, l19, true, true, l22, l23, l24, l25, l26, l27, l28, l29, false, false, false, false, false, false, false, false, false, false⟩, rfl, rfl, HS.out⟩
              · obtain rfl := hall
                subst hun
                go_simp
                exact hK _ _ ⟨⟨l0, l1, l2, l3, l4, l5, l6, l7, l8, l9, l10, l11, l12, l13, l14, l15, l16, l17, l18, l19, true, l21, true, l23, l24, l25, l26, l27, l28, l29, false, false, false, false, false, false, false, false, false, false⟩, rfl, rfl, HS.out⟩
              · obtain ⟨rfl, rfl, rfl⟩ := hall
                subst hun
                go_simp
                exact hK _ _ ⟨⟨l0, l1, l2, l3, l4, l5, l6, l7, l8, l9, l10, l11, l12, l13, l14, l15, l16, l17, l18, l19, true, true, true, true, l24, l25, l26, l27, l28, l29, false, false, false, false, false, false, false, false, false, false⟩, rfl, rfl, HS.out⟩
              · obtain ⟨rfl, rfl⟩ := hall
                subst hun
                go_simp
                exact hK _ _ ⟨⟨l0, l1, l2, l3, l4, l5, l6, l7, l8, l9, l10, l11, l12, l13, l14, l15, l16, l17, l18, l19, true, l21, l22, true, true, l25, l26, l27, l28, l29, false, false, false, false, false, false, false, false, false, false⟩, rfl, rfl, HS.out⟩
              · obtain ⟨rfl, rfl⟩ := hall
                subst hun
                go_simp
                exact hK _ _ ⟨⟨l0, l1, l2, l3, l4, l5, l6, l7, l8, l9, l10, l11, l12, l13, l14, l15, l16, l17, l18, l19, true, l21, l22, l23, true, true, l26, l27, l28, l29, false, false, false, false, false, false, false, false, false, false⟩, rfl, rfl, HS.out⟩
              · obtain rfl := hall
                subst hun
                go_simp
                exact hK _ _ ⟨⟨l0, l1, l2, l3, l4, l5, l6, l7, l8, l9, l10, l11, l12, l13, l14, l15, l16, l17, l18, l19, true, l21, l22, l23, l24, l25, true, l27, l28, l29, false, false, false, false, false, false, false, false, false, false⟩, rfl, rfl, HS.out⟩
              · obtain ⟨rfl, rfl, rfl⟩ := hall
                subst hun
                go_simp
                exact hK _ _ ⟨⟨l0, l1, l2, l3, l4, l5, l6, l7, l8, l9, l10, l11, l12, l13, l14, l15, l16, l17, l18, l19, true, l21, l22, l23, l24, true, true, true, l28, l29, false, false, false, false, false, false, false, false, false, false⟩, rfl, rfl, HS.out⟩
              · obtain ⟨rfl, rfl, rfl⟩ := hall
                subst hun
                go_simp
                exact hK _ _ ⟨⟨l0, l1, l2, l3, l4, l5, l6, l7, l8, l9, l10, l11, l12, l13, l14, l15, l16, true, l18, l19, true, l21, l22, l23, l24, l25, l26, true, true, l29, false, false, false, false, false, false, false, false, false, false⟩, rfl, rfl, HS.out⟩
              · obtain ⟨rfl, rfl⟩ := hall
                subst hun
                go_simp
                exact hK _ _ ⟨⟨l0, l1, l2, l3, l4, l5, l6, l7, l8, l9, l10, l11, l12, l13, l14, l15, l16, true, l18, l19, l20, l21, l22, l23, l24, l25, l26, l27, true, true, false, false, false, false, false, false, false, false, false, false⟩, rfl, rfl, HS.out⟩
            · rintro listed a w' ⟨⟨l0, l1, l2, l3, l4, l5, l6, l7, l8, l9, l10, l11, l12, l13, l14, l15, l16, l17, l18, l19, l20, l21, l22, l23, l24, l25, l26, l27, l28, l29, _, _, _, _, _, _, _, _, _, _⟩, rfl, rfl, hS⟩ hr
              have hall := ready_nilM (by kernel_rfl) rfl hr
              obtain rfl : l0 = true := by simpa using hall 0 (by simp)
              obtain rfl : l1 = true := by simpa using hall 1 (by simp)
              obtain rfl : l2 = true := by simpa using hall 2 (by simp)
              obtain rfl : l3 = true := by simpa using hall 3 (by simp)
              obtain rfl : l4 = true := by simpa using hall 4 (by simp)
              obtain rfl : l5 = true := by simpa using hall 5 (by simp)
              obtain rfl : l6 = true := by simpa using hall 6 (by simp)
              obtain rfl : l7 = true := by simpa using hall 7 (by simp)
              obtain rfl : l8 = true := by simpa using hall 8 (by simp)
              obtain rfl : l9 = true := by simpa using hall 9 (by simp)
              obtain rfl : l10 = true := by simpa using hall 10 (by simp)
              obtain rfl : l11 = true := by simpa using hall 11 (by simp)
              obtain rfl : l12 = true := by simpa using hall 12 (by simp)
              obtain rfl : l13 = true := by simpa using hall 13 (by simp)
              obtain rfl : l14 = true := by simpa using hall 14 (by simp)
              obtain rfl : l15 = true := by simpa using hall 15 (by simp)
              obtain rfl : l16 = true := by simpa using hall 16 (by simp)
              obtain rfl : l17 = true := by simpa using hall 17 (by simp)
              obtain rfl : l18 = true := by simpa using hall 18 (by simp)
              obtain rfl : l19 = true := by simpa using hall 19 (by simp)
              obtain rfl : l20 = true := by simpa using hall 20 (by simp)
              obtain rfl : l21 = true := by simpa using hall 21 (by simp)
              obtain rfl : l22 = true := by simpa using hall 22 (by simp)
              obtain rfl : l23 = true := by simpa using hall 23 (by simp)
              obtain rfl : l24 = true := by simpa using hall 24 (by simp)
              obtain rfl : l25 = true := by simpa using hall 25 (by simp)
              obtain rfl : l26 = true := by simpa using hall 26 (by simp)
              obtain rfl : l27 = true := by simpa using hall 27 (by simp)
              obtain rfl : l28 = true := by simpa using hall 28 (by simp)
              obtain rfl : l29 = true := by simpa using hall 29 (by simp)
              clear hall hr 
              simp only [↓reduceIte] at hS ⊢
              simp only [Array.getD_eq_getD_getElem?, List.getElem?_toArray, List.getElem?_cons_zero, List.getElem?_cons_succ, Option.getD_some]
              have HSa := Lib.hid (HS0.out.call hS.bel)
              clear hS
              have q0 := HSa.out.rcell (v := .int .i64 (fn : Int)) 1 i rfl (by omega) (by rw [intC_getD (F := bestF d L k) (i := i) (by rw [bestF_len]; omega), Hhf.out])
              go_wp2
              go_roundw
              case rel => exact ⟨i + 1, (fn : Int) + 1, rfl, by go_num, by omega, HC.out, HSa.out⟩
              case measure => simp [intOf]; omega
            · refine ⟨⟨false, false, false, false, false, false, false, false, false, false, false, false, false, false, false, false, false, false, false, false, false, false, false, false, false, false, false, false, false, false, false, false, false, false, false, false, false, false, false, false⟩, rfl, (by simp), ?_⟩
              exact (St.start wr).drew
          by_cases hfm : (fn : Int) + 1 < (mn : Int)
          · have hc := Hhsn.out.trans (cnd_yes Hhf.out (by omega) Hhx.out (.inr (by omega)))
            have HC := Lib.hid hc
            subst hf0
            subst hm0
            clear hc
            have Hhfm := Lib.hid hfm; clear hfm
            have hw1 : IntKind.i64.wrap ((fn : Int) + 1) = (fn : Int) + 1 := IntWalk.i64_in _ (by omega)
            have hR0 := Lib.hid (hS.rcell (v := .int .i64 (fn : Int)) 1 i rfl (by omega) hat)
            have hE0 := Lib.hid (hS.cell (v := v1) 0 0 rfl rfl)
            have hE1 := Lib.hid (hS.cell (v := .slice (some ⟨b2, o2, none⟩) d.ends.length cap2) 0 1 rfl rfl)
            have hl0 := Lib.hid (hS.boxlt 0 rfl).2
            have hl1 := Lib.hid (hS.rowlt 1 rfl).2
            have HS0 := Lib.hid hS
            clear hS hat
            go_wp2
            refine wp_region_any (by kernel_rfl) ?_
            refine wpAny_invA (fun A listed a w' => ∃ (l : Bs40) , listed = #[l.b0, l.b1, l.b2, l.b3, l.b4, l.b5, l.b6, l.b7, l.b8, l.b9, l.b10, l.b11, l.b12, l.b13, l.b14, l.b15, l.b16, l.b17, l.b18, l.b19, l.b20, l.b21, l.b22, l.b23, l.b24, l.b25, l.b26, l.b27, l.b28, l.b29] ∧
                a = ⟨#[A.tmps.getD 0 undef, A.tmps.getD 1 undef, A.tmps.getD 2 undef, A.tmps.getD 3 undef, A.tmps.getD 4 undef, A.tmps.getD 5 undef, A.tmps.getD 6 undef, A.tmps.getD 7 undef, A.tmps.getD 8 undef, A.tmps.getD 9 undef, A.tmps.getD 10 undef, A.tmps.getD 11 undef, A.tmps.getD 12 undef, A.tmps.getD 13 undef, A.tmps.getD 14 undef, A.tmps.getD 15 undef, A.tmps.getD 16 undef, A.tmps.getD 17 undef, A.tmps.getD 18 undef, A.tmps.getD 19 undef, A.tmps.getD 20 undef, A.tmps.getD 21 undef, A.tmps.getD 22 undef, A.tmps.getD 23 undef, A.tmps.getD 24 undef, A.tmps.getD 25 undef, A.tmps.getD 26 undef, A.tmps.getD 27 undef, A.tmps.getD 28 undef, (if l.b0 = true then .slice (some ⟨g, 0, none⟩) (k + 1) c else A.tmps.getD 29 undef), (if l.b1 = true then .int .i64 (i : Int) else A.tmps.getD 30 undef), (if l.b2 = true then .pointer (some ⟨g, i, none⟩) else A.tmps.getD 31 undef), (if l.b3 = true then .int .i64 (fn : Int) else A.tmps.getD 32 undef), (if l.b4 = true then .bool true else A.tmps.getD 33 undef), (if l.b5 = true then .bool true else A.tmps.getD 34 undef), (if l.b6 = true then .pointer (some ⟨w.heap.size, 1, none⟩) else A.tmps.getD 35 undef), (if l.b7 = true then .slice (some ⟨b2, o2, none⟩) d.ends.length cap2 else A.tmps.getD 36 undef), (if l.b8 = true then .agg #[v1, .slice (some ⟨b2, o2, none⟩) d.ends.length cap2] else A.tmps.getD 37 undef), (if l.b9 = true then .string (wdB L) else A.tmps.getD 38 undef), (if l.b10 = true then .int .i64 (i : Int) else A.tmps.getD 39 undef), (if l.b11 = true then .int .i64 ((k : Int) + 1) else A.tmps.getD 40 undef), (if l.b12 = true then .string (wdB s) else A.tmps.getD 41 undef), (if l.b13 = true then .int .i64 (q : Int) else A.tmps.getD 42 undef), (if l.b14 = true then .pointer (some ⟨b2, o2 + q, none⟩) else A.tmps.getD 43 undef), (if l.b15 = true then .bool true else A.tmps.getD 44 undef), (if l.b16 = true then .bool true else A.tmps.getD 45 undef), (if l.b17 = true then .bool true else A.tmps.getD 46 undef), (if l.b18 = true then .int .i64 (mn : Int) else A.tmps.getD 47 undef), (if l.b19 = true then .bool false else A.tmps.getD 48 undef), (if l.b20 = true then .bool false else A.tmps.getD 49 undef), (if l.b21 = true then .slice (some ⟨g, 0, none⟩) (k + 1) c else A.tmps.getD 50 undef), (if l.b22 = true then .int .i64 (i : Int) else A.tmps.getD 51 undef), (if l.b23 = true then .pointer (some ⟨g, i, none⟩) else A.tmps.getD 52 undef), (if l.b24 = true then .int .i64 (fn : Int) else A.tmps.getD 53 undef), (if l.b25 = true then .int .i64 ((fn : Int) + 1) else A.tmps.getD 54 undef), (if l.b26 = true then .int .i64 (mn : Int) else A.tmps.getD 55 undef), (if l.b27 = true then .bool true else A.tmps.getD 56 undef), (if l.b28 = true then .bool true else A.tmps.getD 57 undef), (if l.b29 = true then .bool true else A.tmps.getD 58 undef), A.tmps.getD 59 undef, A.tmps.getD 60 undef, A.tmps.getD 61 undef, A.tmps.getD 62 undef, A.tmps.getD 63 undef, A.tmps.getD 64 undef, A.tmps.getD 65 undef, A.tmps.getD 66 undef, A.tmps.getD 67 undef, A.tmps.getD 68 undef, A.tmps.getD 69 undef, A.tmps.getD 70 undef, A.tmps.getD 71 undef, A.tmps.getD 72 undef], A.defers⟩ ∧
                St wr w' []) ?_ ?_ ?_
            · rintro listed a w' ⟨⟨l0, l1, l2, l3, l4, l5, l6, l7, l8, l9, l10, l11, l12, l13, l14, l15, l16, l17, l18, l19, l20, l21, l22, l23, l24, l25, l26, l27, l28, l29, _, _, _, _, _, _, _, _, _, _⟩, rfl, rfl, hS⟩ i hi
              obtain ⟨hun, o, ho, hall⟩ := mem_ready.1 hi
              have hlt := (Array.getElem?_eq_some_iff.1 ho).1
              refine wpOp_step ho (fun K hK => ?_)
              clear hi
              have HS := Lib.hid hS
              clear hS
              simp only [List.setIfInBounds_toArray, Array.getD_eq_getD_getElem?, List.getElem?_toArray, List.getElem?_cons_zero, List.getElem?_cons_succ, Option.getD_some] at hK ⊢
              obtain h | h | h | h | h | h | h | h | h | h | h | h | h | h | h | h | h | h | h | h | h | h | h | h | h | h | h | h | h | h : i = 0 ∨ i = 1 ∨ i = 2 ∨ i = 3 ∨ i = 4 ∨ i = 5 ∨ i = 6 ∨ i = 7 ∨ i = 8 ∨ i = 9 ∨ i = 10 ∨ i = 11 ∨ i = 12 ∨ i = 13 ∨ i = 14 ∨ i = 15 ∨ i = 16 ∨ i = 17 ∨ i = 18 ∨ i = 19 ∨ i = 20 ∨ i = 21 ∨ i = 22 ∨ i = 23 ∨ i = 24 ∨ i = 25 ∨ i = 26 ∨ i = 27 ∨ i = 28 ∨ i = 29 := by simp at hlt; omega
              all_goals subst h
              all_goals simp only [List.getElem?_toArray, List.getElem?_cons_zero, List.getElem?_cons_succ, Option.some.injEq] at ho
              all_goals subst ho
              all_goals simp [Region.binds] at hun hall
              · subst hun
                go_simp
                exact hK _ _ ⟨⟨true, l1, l2, l3, l4, l5, l6, l7, l8, l9, l10, l11, l12, l13, l14, l15, l16, l17, l18, l19, l20, l21, l22, l23, l24, l25, l26, l27, l28, l29, false, false, false, false, false, false, false, false, false, false⟩, rfl, rfl, HS.out⟩
              · subst hun
                go_simp
                exact hK _ _ ⟨⟨l0, true, l2, l3, l4, l5, l6, l7, l8, l9, l10, l11, l12, l13, l14, l15, l16, l17, l18, l19, l20, l21, l22, l23, l24, l25, l26, l27, l28, l29, false, false, false, false, false, false, false, false, false, false⟩, rfl, rfl, HS.out⟩
              · obtain ⟨rfl, rfl⟩ := hall
                subst hun
                go_simp
                exact hK _ _ ⟨⟨true, true, true, l3, l4, l5, l6, l7, l8, l9, l10, l11, l12, l13, l14, l15, l16, l17, l18, l19, l20, l21, l22, l23, l24, l25, l26, l27, l28, l29, false, false, false, false, false, false, false, false, false, false⟩, rfl, rfl, HS.out⟩
              · obtain rfl := hall
                subst hun
                have e0 := (bcell HS.out.bel (g) (i) hl1.out).trans hR0.out
                go_simp
                exact hK _ _ ⟨⟨l0, l1, true, true, l4, l5, l6, l7, l8, l9, l10, l11, l12, l13, l14, l15, l16, l17, l18, l19, l20, l21, l22, l23, l24, l25, l26, l27, l28, l29, false, false, false, false, false, false, false, false, false, false⟩, rfl, rfl, HS.out⟩
              · obtain rfl := hall
                subst hun
                go_simp
                exact hK _ _ ⟨⟨l0, l1, l2, true, true, l5, l6, l7, l8, l9, l10, l11, l12, l13, l14, l15, l16, l17, l18, l19, l20, l21, l22, l23, l24, l25, l26, l27, l28, l29, false, false, false, false, false, false, false, false, false, false⟩, rfl, rfl, HS.out⟩
              · obtain rfl := hall
                subst hun
                go_simp
                exact hK _ _ ⟨⟨l0, l1, l2, l3, true, true, l6, l7, l8, l9, l10, l11, l12, l13, l14, l15, l16, l17, l18, l19, l20, l21, l22, l23, l24, l25, l26, l27, l28, l29, false, false, false, false, false, false, false, false, false, false⟩, rfl, rfl, HS.out⟩
              · obtain rfl := hall
                subst hun
                go_simp
                exact hK _ _ ⟨⟨l0, l1, l2, l3, l4, true, true, l7, l8, l9, l10, l11, l12, l13, l14, l15, l16, l17, l18, l19, l20, l21, l22, l23, l24, l25, l26, l27, l28, l29, false, false, false, false, false, false, false, false, false, false⟩, rfl, rfl, HS.out⟩
              · obtain ⟨rfl, rfl⟩ := hall
                subst hun
                have e0 := (bcell HS.out.bel (w.heap.size) (1) hl0.out).trans hE1.out
                go_simp
                exact hK _ _ ⟨⟨l0, l1, l2, l3, l4, true, true, true, l8, l9, l10, l11, l12, l13, l14, l15, l16, l17, l18, l19, l20, l21, l22, l23, l24, l25, l26, l27, l28, l29, false, false, false, false, false, false, false, false, false, false⟩, rfl, rfl, HS.out⟩
              · obtain rfl := hall
                subst hun
                have e0 := (bcell HS.out.bel (w.heap.size) (0) hl0.out).trans hE0.out
                have e1 := (bcell HS.out.bel (w.heap.size) (1) hl0.out).trans hE1.out
                go_simp
                exact hK _ _ ⟨⟨l0, l1, l2, l3, l4, true, l6, l7, true, l9, l10, l11, l12, l13, l14, l15, l16, l17, l18, l19, l20, l21, l22, l23, l24, l25, l26, l27, l28, l29, false, false, false, false, false, false, false, false, false, false⟩, rfl, rfl, HS.out⟩
              · obtain rfl := hall
                subst hun
                go_simp
                exact hK _ _ ⟨⟨l0, l1, l2, l3, l4, true, l6, l7, l8, true, l10, l11, l12, l13, l14, l15, l16, l17, l18, l19, l20, l21, l22, l23, l24, l25, l26, l27, l28, l29, false, false, false, false, false, false, false, false, false, false⟩, rfl, rfl, HS.out⟩
              · obtain rfl := hall
                subst hun
                go_simp
                exact hK _ _ ⟨⟨l0, l1, l2, l3, l4, true, l6, l7, l8, l9, true, l11, l12, l13, l14, l15, l16, l17, l18, l19, l20, l21, l22, l23, l24, l25, l26, l27, l28, l29, false, false, false, false, false, false, false, false, false, false⟩, rfl, rfl, HS.out⟩
              · obtain rfl := hall
                subst hun
                go_simp
                exact hK _ _ ⟨⟨l0, l1, l2, l3, l4, true, l6, l7, l8, l9, l10, true, l12, l13, l14, l15, l16, l17, l18, l19, l20, l21, l22, l23, l24, l25, l26, l27, l28, l29, false, false, false, false, false, false, false, false, false, false⟩, rfl, rfl, HS.out⟩
              · obtain ⟨rfl, rfl, rfl, rfl⟩ := hall
                subst hun
                go_simp
                exact hK _ _ ⟨⟨l0, l1, l2, l3, l4, true, l6, l7, l8, true, true, true, true, l13, l14, l15, l16, l17, l18, l19, l20, l21, l22, l23, l24, l25, l26, l27, l28, l29, false, false, false, false, false, false, false, false, false, false⟩, rfl, rfl, HS.out⟩
              · obtain ⟨rfl, rfl, rfl⟩ := hall
                subst hun
                go_simp
                go_at_call 80
                refine (HA.out _ (HS0.out.bel.trans (HS.out.bel.mono HS0.out.bel.size))).mono ?_
                rintro e u1 ⟨rfl, hb⟩
                have hS2 := HS.out.call hb
                have HhS2 := Lib.hid hS2; clear hS2
                go_simp
                exact hK _ _ ⟨⟨l0, l1, l2, l3, l4, true, l6, l7, true, l9, l10, l11, true, true, l14, l15, l16, l17, l18, l19, l20, l21, l22, l23, l24, l25, l26, l27, l28, l29, false, false, false, false, false, false, false, false, false, false⟩, rfl, rfl, HhS2.out⟩
              · obtain ⟨rfl, rfl, rfl⟩ := hall
                subst hun
                go_simp
                exact hK _ _ ⟨⟨l0, l1, l2, l3, l4, true, l6, true, l8, l9, l10, l11, l12, true, true, l15, l16, l17, l18, l19, l20, l21, l22, l23, l24, l25, l26, l27, l28, l29, false, false, false, false, false, false, false, false, false, false⟩, rfl, rfl, HS.out⟩
              · obtain ⟨rfl, rfl⟩ := hall
                subst hun
                have e0 := (bcell HS.out.bel (b2) (o2 + q) hl2.out).trans hEn.out
                go_simp
                exact hK _ _ ⟨⟨l0, l1, l2, l3, l4, true, l6, l7, l8, l9, l10, l11, l12, l13, true, true, l16, l17, l18, l19, l20, l21, l22, l23, l24, l25, l26, l27, l28, l29, false, false, false, false, false, false, false, false, false, false⟩, rfl, rfl, HS.out⟩
              · obtain ⟨rfl, rfl⟩ := hall
                subst hun
                go_simp
                exact hK _ _ ⟨⟨l0, l1, l2, l3, l4, true, l6, l7, l8, l9, l10, l11, l12, l13, l14, true, true, l17, l18, l19, l20, l21, l22, l23, l24, l25, l26, l27, l28, l29, false, false, false, false, false, false, false, false, false, false⟩, rfl, rfl, HS.out⟩
              · obtain ⟨rfl, rfl⟩ := hall
                subst hun
                go_simp
                exact hK _ _ ⟨⟨l0, l1, l2, l3, l4, l5, l6, l7, l8, l9, l10, l11, l12, true, l14, l15, true, true, l18, l19, l20, l21, l22, l23, l24, l25, l26, l27, l28, l29, false, false, false, false, false, false, false, false, false, false⟩, rfl, rfl, HS.out⟩
              · obtain rfl := hall
                subst hun
                go_simp
                exact hK _ _ ⟨⟨l0, l1, l2, l3, l4, l5, l6, l7, l8, l9, l10, l11, l12, l13, l14, l15, l16, true, true, l19, l20, l21, l22, l23, l24, l25, l26, l27, l28, l29, false, false, false, false, false, false, false, false, false, false⟩, rfl, rfl, HS.out⟩
              · obtain ⟨rfl, rfl⟩ := hall
                subst hun
                go_simp
                exact hK _ _ ⟨⟨l0, l1, l2, l3, l4, l5, l6, l7, l8, l9, l10, l11, l12, l13, l14, l15, l16, true, true, true, l20, l21, l22, l23, l24, l25, l26, l27, l28, l29, false, false, false, false, false, false, false, false, false, false⟩, rfl, rfl, HS.out⟩
              · obtain ⟨rfl, rfl⟩ := hall
                subst hun
                go_simp
                exact hK _ _ ⟨⟨l0, l1, l2, l3, l4, l5, l6, l7, l8, l9, l10, l11, l12, l13, l14, l15, l16, true, l18, true, true, l21, l22, l23, l24, l25, l26, l27, l28, l29, false, false, false, false, false, false, false, false, false, false⟩, rfl, rfl, HS.out⟩
              · obtain rfl := hall
                subst hun
                go_simp
                exact hK _ _ ⟨⟨l0, l1, l2, l3, l4, l5, l6, l7, l8, l9, l10, l11, l12, l13, l14, l15, l16, l17, l18, l19, true, true, l22, l23, l24, l25, l26, l27, l28, l29, false, false, false, false, false, false, false, false, false, false⟩, rfl, rfl, HS.out⟩
              · obtain rfl := hall
                subst hun
                go_simp
                exact hK _ _ ⟨⟨l0, l1, l2, l3, l4, l5, l6, l7, l8, l9, l10, l11, l12, l13, l14, l15, l16, l17, l18, l19, true, l21, true, l23, l24, l25, l26, l27, l28, l29, false, false, false, false, false, false, false, false, false, false⟩, rfl, rfl, HS.out⟩
              · obtain ⟨rfl, rfl, rfl⟩ := hall
                subst hun
                go_simp
                exact hK _ _ ⟨⟨l0, l1, l2, l3, l4, l5, l6, l7, l8, l9, l10, l11, l12, l13, l14, l15, l16, l17, l18, l19, true, true, true, true, l24, l25, l26, l27, l28, l29, false, false, false, false, false, false, false, false, false, false⟩, rfl, rfl, HS.out⟩
              · obtain ⟨rfl, rfl⟩ := hall
                subst hun
                have e0 := (bcell HS.out.bel (g) (i) hl1.out).trans hR0.out
                go_simp
                exact hK _ _ ⟨⟨l0, l1, l2, l3, l4, l5, l6, l7, l8, l9, l10, l11, l12, l13, l14, l15, l16, l17, l18, l19, true, l21, l22, true, true, l25, l26, l27, l28, l29, false, false, false, false, false, false, false, false, false, false⟩, rfl, rfl, HS.out⟩
              · obtain ⟨rfl, rfl⟩ := hall
                subst hun
                go_simp
                exact hK _ _ ⟨⟨l0, l1, l2, l3, l4, l5, l6, l7, l8, l9, l10, l11, l12, l13, l14, l15, l16, l17, l18, l19, true, l21, l22, l23, true, true, l26, l27, l28, l29, false, false, false, false, false, false, false, false, false, false⟩, rfl, rfl, HS.out⟩
              · obtain rfl := hall
                subst hun
                go_simp
                exact hK _ _ ⟨⟨l0, l1, l2, l3, l4, l5, l6, l7, l8, l9, l10, l11, l12, l13, l14, l15, l16, l17, l18, l19, true, l21, l22, l23, l24, l25, true, l27, l28, l29, false, false, false, false, false, false, false, false, false, false⟩, rfl, rfl, HS.out⟩
              · obtain ⟨rfl, rfl, rfl⟩ := hall
                subst hun
                have hfm2 := Hhfm.out
                go_simp
                exact hK _ _ ⟨⟨l0, l1, l2, l3, l4, l5, l6, l7, l8, l9, l10, l11, l12, l13, l14, l15, l16, l17, l18, l19, true, l21, l22, l23, l24, true, true, true, l28, l29, false, false, false, false, false, false, false, false, false, false⟩, rfl, rfl, HS.out⟩
              · obtain ⟨rfl, rfl, rfl⟩ := hall
                subst hun
                go_simp
                exact hK _ _ ⟨⟨l0, l1, l2, l3, l4, l5, l6, l7, l8, l9, l10, l11, l12, l13, l14, l15, l16, true, l18, l19, true, l21, l22, l23, l24, l25, l26, true, true, l29, false, false, false, false, false, false, false, false, false, false⟩, rfl, rfl, HS.out⟩
              · obtain ⟨rfl, rfl⟩ := hall
                subst hun
                go_simp
                exact hK _ _ ⟨⟨l0, l1, l2, l3, l4, l5, l6, l7, l8, l9, l10, l11, l12, l13, l14, l15, l16, true, l18, l19, l20, l21, l22, l23, l24, l25, l26, l27, true, true, false, false, false, false, false, false, false, false, false, false⟩, rfl, rfl, HS.out⟩
            · rintro listed a w' ⟨⟨l0, l1, l2, l3, l4, l5, l6, l7, l8, l9, l10, l11, l12, l13, l14, l15, l16, l17, l18, l19, l20, l21, l22, l23, l24, l25, l26, l27, l28, l29, _, _, _, _, _, _, _, _, _, _⟩, rfl, rfl, hS⟩ hr
              have hall := ready_nilM (by kernel_rfl) rfl hr
              obtain rfl : l0 = true := by simpa using hall 0 (by simp)
              obtain rfl : l1 = true := by simpa using hall 1 (by simp)
              obtain rfl : l2 = true := by simpa using hall 2 (by simp)
              obtain rfl : l3 = true := by simpa using hall 3 (by simp)
              obtain rfl : l4 = true := by simpa using hall 4 (by simp)
              obtain rfl : l5 = true := by simpa using hall 5 (by simp)
              obtain rfl : l6 = true := by simpa using hall 6 (by simp)
              obtain rfl : l7 = true := by simpa using hall 7 (by simp)
              obtain rfl : l8 = true := by simpa using hall 8 (by simp)
              obtain rfl : l9 = true := by simpa using hall 9 (by simp)
              obtain rfl : l10 = true := by simpa using hall 10 (by simp)
              obtain rfl : l11 = true := by simpa using hall 11 (by simp)
              obtain rfl : l12 = true := by simpa using hall 12 (by simp)
              obtain rfl : l13 = true := by simpa using hall 13 (by simp)
              obtain rfl : l14 = true := by simpa using hall 14 (by simp)
              obtain rfl : l15 = true := by simpa using hall 15 (by simp)
              obtain rfl : l16 = true := by simpa using hall 16 (by simp)
              obtain rfl : l17 = true := by simpa using hall 17 (by simp)
              obtain rfl : l18 = true := by simpa using hall 18 (by simp)
              obtain rfl : l19 = true := by simpa using hall 19 (by simp)
              obtain rfl : l20 = true := by simpa using hall 20 (by simp)
              obtain rfl : l21 = true := by simpa using hall 21 (by simp)
              obtain rfl : l22 = true := by simpa using hall 22 (by simp)
              obtain rfl : l23 = true := by simpa using hall 23 (by simp)
              obtain rfl : l24 = true := by simpa using hall 24 (by simp)
              obtain rfl : l25 = true := by simpa using hall 25 (by simp)
              obtain rfl : l26 = true := by simpa using hall 26 (by simp)
              obtain rfl : l27 = true := by simpa using hall 27 (by simp)
              obtain rfl : l28 = true := by simpa using hall 28 (by simp)
              obtain rfl : l29 = true := by simpa using hall 29 (by simp)
              clear hall hr 
              simp only [↓reduceIte] at hS ⊢
              simp only [Array.getD_eq_getD_getElem?, List.getElem?_toArray, List.getElem?_cons_zero, List.getElem?_cons_succ, Option.getD_some]
              have HSa := Lib.hid (HS0.out.call hS.bel)
              clear hS
              have q0 := HSa.out.rcell (v := .int .i64 (fn : Int)) 1 i rfl (by omega) (by rw [intC_getD (F := bestF d L k) (i := i) (by rw [bestF_len]; omega), Hhf.out])
              go_wp2
              go_roundw
              case rel => exact ⟨i + 1, (fn : Int) + 1, rfl, by go_num, by omega, HC.out, HSa.out⟩
              case measure => simp [intOf]; omega
            · refine ⟨⟨false, false, false, false, false, false, false, false, false, false, false, false, false, false, false, false, false, false, false, false, false, false, false, false, false, false, false, false, false, false, false, false, false, false, false, false, false, false, false, false⟩, rfl, (by simp), ?_⟩
              exact (St.start wr).drew
          · have hc := Hhsn.out.trans (cnd_no3 Hhf.out (by omega) (by omega))
            have HC := Lib.hid hc
            subst hf0
            subst hm0
            clear hc
            have Hhfm := Lib.hid hfm; clear hfm
            have hw1 : IntKind.i64.wrap ((fn : Int) + 1) = (fn : Int) + 1 := IntWalk.i64_in _ (by omega)
            have hR0 := Lib.hid (hS.rcell (v := .int .i64 (fn : Int)) 1 i rfl (by omega) hat)
            have hE0 := Lib.hid (hS.cell (v := v1) 0 0 rfl rfl)
            have hE1 := Lib.hid (hS.cell (v := .slice (some ⟨b2, o2, none⟩) d.ends.length cap2) 0 1 rfl rfl)
            have hl0 := Lib.hid (hS.boxlt 0 rfl).2
            have hl1 := Lib.hid (hS.rowlt 1 rfl).2
            have HS0 := Lib.hid hS
            clear hS hat
            go_wp2
            refine wp_region_any (by kernel_rfl) ?_
            refine wpAny_invA (fun A listed a w' => ∃ (l : Bs40) , listed = #[l.b0, l.b1, l.b2, l.b3, l.b4, l.b5, l.b6, l.b7, l.b8, l.b9, l.b10, l.b11, l.b12, l.b13, l.b14, l.b15, l.b16, l.b17, l.b18, l.b19, l.b20, l.b21, l.b22, l.b23, l.b24, l.b25, l.b26, l.b27, l.b28, l.b29] ∧
                a = ⟨#[A.tmps.getD 0 undef, A.tmps.getD 1 undef, A.tmps.getD 2 undef, A.tmps.getD 3 undef, A.tmps.getD 4 undef, A.tmps.getD 5 undef, A.tmps.getD 6 undef, A.tmps.getD 7 undef, A.tmps.getD 8 undef, A.tmps.getD 9 undef, A.tmps.getD 10 undef, A.tmps.getD 11 undef, A.tmps.getD 12 undef, A.tmps.getD 13 undef, A.tmps.getD 14 undef, A.tmps.getD 15 undef, A.tmps.getD 16 undef, A.tmps.getD 17 undef, A.tmps.getD 18 undef, A.tmps.getD 19 undef, A.tmps.getD 20 undef, A.tmps.getD 21 undef, A.tmps.getD 22 undef, A.tmps.getD 23 undef, A.tmps.getD 24 undef, A.tmps.getD 25 undef, A.tmps.getD 26 undef, A.tmps.getD 27 undef, A.tmps.getD 28 undef, (if l.b0 = true then .slice (some ⟨g, 0, none⟩) (k + 1) c else A.tmps.getD 29 undef), (if l.b1 = true then .int .i64 (i : Int) else A.tmps.getD 30 undef), (if l.b2 = true then .pointer (some ⟨g, i, none⟩) else A.tmps.getD 31 undef), (if l.b3 = true then .int .i64 (fn : Int) else A.tmps.getD 32 undef), (if l.b4 = true then .bool true else A.tmps.getD 33 undef), (if l.b5 = true then .bool true else A.tmps.getD 34 undef), (if l.b6 = true then .pointer (some ⟨w.heap.size, 1, none⟩) else A.tmps.getD 35 undef), (if l.b7 = true then .slice (some ⟨b2, o2, none⟩) d.ends.length cap2 else A.tmps.getD 36 undef), (if l.b8 = true then .agg #[v1, .slice (some ⟨b2, o2, none⟩) d.ends.length cap2] else A.tmps.getD 37 undef), (if l.b9 = true then .string (wdB L) else A.tmps.getD 38 undef), (if l.b10 = true then .int .i64 (i : Int) else A.tmps.getD 39 undef), (if l.b11 = true then .int .i64 ((k : Int) + 1) else A.tmps.getD 40 undef), (if l.b12 = true then .string (wdB s) else A.tmps.getD 41 undef), (if l.b13 = true then .int .i64 (q : Int) else A.tmps.getD 42 undef), (if l.b14 = true then .pointer (some ⟨b2, o2 + q, none⟩) else A.tmps.getD 43 undef), (if l.b15 = true then .bool true else A.tmps.getD 44 undef), (if l.b16 = true then .bool true else A.tmps.getD 45 undef), (if l.b17 = true then .bool true else A.tmps.getD 46 undef), (if l.b18 = true then .int .i64 (mn : Int) else A.tmps.getD 47 undef), (if l.b19 = true then .bool false else A.tmps.getD 48 undef), (if l.b20 = true then .bool false else A.tmps.getD 49 undef), (if l.b21 = true then .slice (some ⟨g, 0, none⟩) (k + 1) c else A.tmps.getD 50 undef), (if l.b22 = true then .int .i64 (i : Int) else A.tmps.getD 51 undef), (if l.b23 = true then .pointer (some ⟨g, i, none⟩) else A.tmps.getD 52 undef), (if l.b24 = true then .int .i64 (fn : Int) else A.tmps.getD 53 undef), (if l.b25 = true then .int .i64 ((fn : Int) + 1) else A.tmps.getD 54 undef), (if l.b26 = true then .int .i64 (mn : Int) else A.tmps.getD 55 undef), (if l.b27 = true then .bool false else A.tmps.getD 56 undef), (if l.b28 = true then .bool false else A.tmps.getD 57 undef), (if l.b29 = true then .bool false else A.tmps.getD 58 undef), A.tmps.getD 59 undef, A.tmps.getD 60 undef, A.tmps.getD 61 undef, A.tmps.getD 62 undef, A.tmps.getD 63 undef, A.tmps.getD 64 undef, A.tmps.getD 65 undef, A.tmps.getD 66 undef, A.tmps.getD 67 undef, A.tmps.getD 68 undef, A.tmps.getD 69 undef, A.tmps.getD 70 undef, A.tmps.getD 71 undef, A.tmps.getD 72 undef], A.defers⟩ ∧
                St wr w' []) ?_ ?_ ?_
            · rintro listed a w' ⟨⟨l0, l1, l2, l3, l4, l5, l6, l7, l8, l9, l10, l11, l12, l13, l14, l15, l16, l17, l18, l19, l20, l21, l22, l23, l24, l25, l26, l27, l28, l29, _, _, _, _, _, _, _, _, _, _⟩, rfl, rfl, hS⟩ i hi
              obtain ⟨hun, o, ho, hall⟩ := mem_ready.1 hi
              have hlt := (Array.getElem?_eq_some_iff.1 ho).1
              refine wpOp_step ho (fun K hK => ?_)
              clear hi
              have HS := Lib.hid hS
              clear hS
              simp only [List.setIfInBounds_toArray, Array.getD_eq_getD_getElem?, List.getElem?_toArray, List.getElem?_cons_zero, List.getElem?_cons_succ, Option.getD_some] at hK ⊢
              obtain h | h | h | h | h | h | h | h | h | h | h | h | h | h | h | h | h | h | h | h | h | h | h | h | h | h | h | h | h | h : i = 0 ∨ i = 1 ∨ i = 2 ∨ i = 3 ∨ i = 4 ∨ i = 5 ∨ i = 6 ∨ i = 7 ∨ i = 8 ∨ i = 9 ∨ i = 10 ∨ i = 11 ∨ i = 12 ∨ i = 13 ∨ i = 14 ∨ i = 15 ∨ i = 16 ∨ i = 17 ∨ i = 18 ∨ i = 19 ∨ i = 20 ∨ i = 21 ∨ i = 22 ∨ i = 23 ∨ i = 24 ∨ i = 25 ∨ i = 26 ∨ i = 27 ∨ i = 28 ∨ i = 29 := by simp at hlt; omega
              all_goals subst h
              all_goals simp only [List.getElem?_toArray, List.getElem?_cons_zero, List.getElem?_cons_succ, Option.some.injEq] at ho
              all_goals subst ho
              all_goals simp [Region.binds] at hun hall
              · subst hun
                go_simp
                exact hK _ _ ⟨⟨true, l1, l2, l3, l4, l5, l6, l7, l8, l9, l10, l11, l12, l13, l14, l15, l16, l17, l18, l19, l20, l21, l22, l23, l24, l25, l26, l27, l28, l29, false, false, false, false, false, false, false, false, false, false⟩, rfl, rfl, HS.out⟩
              · subst hun
                go_simp
                exact hK _ _ ⟨⟨l0, true, l2, l3, l4, l5, l6, l7, l8, l9, l10, l11, l12, l13, l14, l15, l16, l17, l18, l19, l20, l21, l22, l23, l24, l25, l26, l27, l28, l29, false, false, false, false, false, false, false, false, false, false⟩, rfl, rfl, HS.out⟩
              · obtain ⟨rfl, rfl⟩ := hall
                subst hun
                go_simp
                exact hK _ _ ⟨⟨true, true, true, l3, l4, l5, l6, l7, l8, l9, l10, l11, l12, l13, l14, l15, l16, l17, l18, l19, l20, l21, l22, l23, l24, l25, l26, l27, l28, l29, false, false, false, false, false, false, false, false, false, false⟩, rfl, rfl, HS.out⟩
              · obtain rfl := hall
                subst hun
                have e0 := (bcell HS.out.bel (g) (i) hl1.out).trans hR0.out
                go_simp
                exact hK _ _ ⟨⟨l0, l1, true, true, l4, l5, l6, l7, l8, l9, l10, l11, l12, l13, l14, l15, l16, l17, l18, l19, l20, l21, l22, l23, l24, l25, l26, l27, l28, l29, false, false, false, false, false, false, false, false, false, false⟩, rfl, rfl, HS.out⟩
              · obtain rfl := hall
                subst hun
                go_simp
                exact hK _ _ ⟨⟨l0, l1, l2, true, true, l5, l6, l7, l8, l9, l10, l11, l12, l13, l14, l15, l16, l17, l18, l19, l20, l21, l22, l23, l24, l25, l26, l27, l28, l29, false, false, false, false, false, false, false, false, false, false⟩, rfl, rfl, HS.out⟩
              · obtain rfl := hall
                subst hun
                go_simp
                exact hK _ _ ⟨⟨l0, l1, l2, l3, true, true, l6, l7, l8, l9, l10, l11, l12, l13, l14, l15, l16, l17, l18, l19, l20, l21, l22, l23, l24, l25, l26, l27, l28, l29, false, false, false, false, false, false, false, false, false, false⟩, rfl, rfl, HS.out⟩
              · obtain rfl := hall
                subst hun
                go_simp
                exact hK _ _ ⟨⟨l0, l1, l2, l3, l4, true, true, l7, l8, l9, l10, l11, l12, l13, l14, l15, l16, l17, l18, l19, l20, l21, l22, l23, l24, l25, l26, l27, l28, l29, false, false, false, false, false, false, false, false, false, false⟩, rfl, rfl, HS.out⟩
              · obtain ⟨rfl, rfl⟩ := hall
                subst hun
                have e0 := (bcell HS.out.bel (w.heap.size) (1) hl0.out).trans hE1.out
                go_simp
                exact hK _ _ ⟨⟨l0, l1, l2, l3, l4, true, true, true, l8, l9, l10, l11, l12, l13, l14, l15, l16, l17, l18, l19, l20, l21, l22, l23, l24, l25, l26, l27, l28, l29, false, false, false, false, false, false, false, false, false, false⟩, rfl, rfl, HS.out⟩
              · obtain rfl := hall
                subst hun
                have e0 := (bcell HS.out.bel (w.heap.size) (0) hl0.out).trans hE0.out
                have e1 := (bcell HS.out.bel (w.heap.size) (1) hl0.out).trans hE1.out
                go_simp
                exact hK _ _ ⟨⟨l0, l1, l2, l3, l4, true, l6, l7, true, l9, l10, l11, l12, l13, l14, l15, l16, l17, l18, l19, l20, l21, l22, l23, l24, l25, l26, l27, l28, l29, false, false, false, false, false, false, false, false, false, false⟩, rfl, rfl, HS.out⟩
              · obtain rfl := hall
                subst hun
                go_simp
                exact hK _ _ ⟨⟨l0, l1, l2, l3, l4, true, l6, l7, l8, true, l10, l11, l12, l13, l14, l15, l16, l17, l18, l19, l20, l21, l22, l23, l24, l25, l26, l27, l28, l29, false, false, false, false, false, false, false, false, false, false⟩, rfl, rfl, HS.out⟩
              · obtain rfl := hall
                subst hun
                go_simp
                exact hK _ _ ⟨⟨l0, l1, l2, l3, l4, true, l6, l7, l8, l9, true, l11, l12, l13, l14, l15, l16, l17, l18, l19, l20, l21, l22, l23, l24, l25, l26, l27, l28, l29, false, false, false, false, false, false, false, false, false, false⟩, rfl, rfl, HS.out⟩
              · obtain rfl := hall
                subst hun
                go_simp
                exact hK _ _ ⟨⟨l0, l1, l2, l3, l4, true, l6, l7, l8, l9, l10, true, l12, l13, l14, l15, l16, l17, l18, l19, l20, l21, l22, l23, l24, l25, l26, l27, l28, l29, false, false, false, false, false, false, false, false, false, false⟩, rfl, rfl, HS.out⟩
              · obtain ⟨rfl, rfl, rfl, rfl⟩ := hall
                subst hun
                go_simp
                exact hK _ _ ⟨⟨l0, l1, l2, l3, l4, true, l6, l7, l8, true, true, true, true, l13, l14, l15, l16, l17, l18, l19, l20, l21, l22, l23, l24, l25, l26, l27, l28, l29, false, false, false, false, false, false, false, false, false, false⟩, rfl, rfl, HS.out⟩
              · obtain ⟨rfl, rfl, rfl⟩ := hall
                subst hun
                go_simp
                go_at_call 80
                refine (HA.out _ (HS0.out.bel.trans (HS.out.bel.mono HS0.out.bel.size))).mono ?_
                rintro e u1 ⟨rfl, hb⟩
                have hS2 := HS.out.call hb
                have HhS2 := Lib.hid hS2; clear hS2
                go_simp
                exact hK _ _ ⟨⟨l0, l1, l2, l3, l4, true, l6, l7, true, l9, l10, l11, true, true, l14, l15, l16, l17, l18, l19, l20, l21, l22, l23, l24, l25, l26, l27, l28, l29, false, false, false, false, false, false, false, false, false, false⟩, rfl, rfl, HhS2.out⟩
              · obtain ⟨rfl, rfl, rfl⟩ := hall
                subst hun
                go_simp
                exact hK _ _ ⟨⟨l0, l1, l2, l3, l4, true, l6, true, l8, l9, l10, l11, l12, true, true, l15, l16, l17, l18, l19, l20, l21, l22, l23, l24, l25, l26, l27, l28, l29, false, false, false, false, false, false, false, false, false, false⟩, rfl, rfl, HS.out⟩
              · obtain ⟨rfl, rfl⟩ := hall
                subst hun
                have e0 := (bcell HS.out.bel (b2) (o2 + q) hl2.out).trans hEn.out
                go_simp
                exact hK _ _ ⟨⟨l0, l1, l2, l3, l4, true, l6, l7, l8, l9, l10, l11, l12, l13, true, true, l16, l17, l18, l19, l20, l21, l22, l23, l24, l25, l26, l27, l28, l29, false, false, false, false, false, false, false, false, false, false⟩, rfl, rfl, HS.out⟩
              · obtain ⟨rfl, rfl⟩ := hall
                subst hun
                go_simp
                exact hK _ _ ⟨⟨l0, l1, l2, l3, l4, true, l6, l7, l8, l9, l10, l11, l12, l13, l14, true, true, l17, l18, l19, l20, l21, l22, l23, l24, l25, l26, l27, l28, l29, false, false, false, false, false, false, false, false, false, false⟩, rfl, rfl, HS.out⟩
              · obtain ⟨rfl, rfl⟩ := hall
                subst hun
                go_simp
                exact hK _ _ ⟨⟨l0, l1, l2, l3, l4, l5, l6, l7, l8, l9, l10, l11, l12, true, l14, l15, true, true, l18, l19, l20, l21, l22, l23, l24, l25, l26, l27, l28, l29, false, false, false, false, false, false, false, false, false, false⟩, rfl, rfl, HS.out⟩
              · obtain rfl := hall
                subst hun
                go_simp
                exact hK _ _ ⟨⟨l0, l1, l2, l3, l4, l5, l6, l7, l8, l9, l10, l11, l12, l13, l14, l15, l16, true, true, l19, l20, l21, l22, l23, l24, l25, l26, l27, l28, l29, false, false, false, false, false, false, false, false, false, false⟩, rfl, rfl, HS.out⟩
              · obtain ⟨rfl, rfl⟩ := hall
                subst hun
                go_simp
                exact hK _ _ ⟨⟨l0, l1, l2, l3, l4, l5, l6, l7, l8, l9, l10, l11, l12, l13, l14, l15, l16, true, true, true, l20, l21, l22, l23, l24, l25, l26, l27, l28, l29, false, false, false, false, false, false, false, false, false, false⟩, rfl, rfl, HS.out⟩
              · obtain ⟨rfl, rfl⟩ := hall
                subst hun
                go_simp
                exact hK _ _ ⟨⟨l0, l1, l2, l3, l4, l5, l6, l7, l8, l9, l10, l11, l12, l13, l14, l15, l16, true, l18, true, true, l21, l22, l23, l24, l25, l26, l27, l28, l29, false, false, false, false, false, false, false, false, false, false⟩, rfl, rfl, HS.out⟩
              · obtain rfl := hall
                subst hun
                go_simp
                exact hK _ _ ⟨⟨l0, l1, l2, l3, l4, l5, l6, l7, l8, l9, l10, l11, l12, l13, l14, l15, l16, l17, l18, l19, true, true, l22, l23, l24, l25, l26, l27, l28, l29, false, false, false, false, false, false, false, false, false, false⟩, rfl, rfl, HS.out⟩
              · obtain rfl := hall
                subst hun
                go_simp
                exact hK _ _ ⟨⟨l0, l1, l2, l3, l4, l5, l6, l7, l8, l9, l10, l11, l12, l13, l14, l15, l16, l17, l18, l19, true, l21, true, l23, l24, l25, l26, l27, l28, l29, false, false, false, false, false, false, false, false, false, false⟩, rfl, rfl, HS.out⟩
              · obtain ⟨rfl, rfl, rfl⟩ := hall
                subst hun
                go_simp
                exact hK _ _ ⟨⟨l0, l1, l2, l3, l4, l5, l6, l7, l8, l9, l10, l11, l12, l13, l14, l15, l16, l17, l18, l19, true, true, true, true, l24, l25, l26, l27, l28, l29, false, false, false, false, false, false, false, false, false, false⟩, rfl, rfl, HS.out⟩
              · obtain ⟨rfl, rfl⟩ := hall
                subst hun
                have e0 := (bcell HS.out.bel (g) (i) hl1.out).trans hR0.out
                go_simp
                exact hK _ _ ⟨⟨l0, l1, l2, l3, l4, l5, l6, l7, l8, l9, l10, l11, l12, l13, l14, l15, l16, l17, l18, l19, true, l21, l22, true, true, l25, l26, l27, l28, l29, false, false, false, false, false, false, false, false, false, false⟩, rfl, rfl, HS.out⟩
              · obtain ⟨rfl, rfl⟩ := hall
                subst hun
                go_simp
                exact hK _ _ ⟨⟨l0, l1, l2, l3, l4, l5, l6, l7, l8, l9, l10, l11, l12, l13, l14, l15, l16, l17, l18, l19, true, l21, l22, l23, true, true, l26, l27, l28, l29, false, false, false, false, false, false, false, false, false, false⟩, rfl, rfl, HS.out⟩
              · obtain rfl := hall
                subst hun
                go_simp
                exact hK _ _ ⟨⟨l0, l1, l2, l3, l4, l5, l6, l7, l8, l9, l10, l11, l12, l13, l14, l15, l16, l17, l18, l19, true, l21, l22, l23, l24, l25, true, l27, l28, l29, false, false, false, false, false, false, false, false, false, false⟩, rfl, rfl, HS.out⟩
              · obtain ⟨rfl, rfl, rfl⟩ := hall
                subst hun
                go_simp
                rw [decide_eq_false (show ¬ (fn : Int) + 1 < (mn : Int) by have := Hhfm.out; omega)]
                exact hK _ _ ⟨⟨l0, l1, l2, l3, l4, l5, l6, l7, l8, l9, l10, l11, l12, l13, l14, l15, l16, l17, l18, l19, true, l21, l22, l23, l24, true, true, true, l28, l29, false, false, false, false, false, false, false, false, false, false⟩, rfl, rfl, HS.out⟩
              · obtain ⟨rfl, rfl, rfl⟩ := hall
                subst hun
                go_simp
                exact hK _ _ ⟨⟨l0, l1, l2, l3, l4, l5, l6, l7, l8, l9, l10, l11, l12, l13, l14, l15, l16, true, l18, l19, true, l21, l22, l23, l24, l25, l26, true, true, l29, false, false, false, false, false, false, false, false, false, false⟩, rfl, rfl, HS.out⟩
              · obtain ⟨rfl, rfl⟩ := hall
                subst hun
                go_simp
                exact hK _ _ ⟨⟨l0, l1, l2, l3, l4, l5, l6, l7, l8, l9, l10, l11, l12, l13, l14, l15, l16, true, l18, l19, l20, l21, l22, l23, l24, l25, l26, l27, true, true, false, false, false, false, false, false, false, false, false, false⟩, rfl, rfl, HS.out⟩
            · rintro listed a w' ⟨⟨l0, l1, l2, l3, l4, l5, l6, l7, l8, l9, l10, l11, l12, l13, l14, l15, l16, l17, l18, l19, l20, l21, l22, l23, l24, l25, l26, l27, l28, l29, _, _, _, _, _, _, _, _, _, _⟩, rfl, rfl, hS⟩ hr
              have hall := ready_nilM (by kernel_rfl) rfl hr
              obtain rfl : l0 = true := by simpa using hall 0 (by simp)
              obtain rfl : l1 = true := by simpa using hall 1 (by simp)
              obtain rfl : l2 = true := by simpa using hall 2 (by simp)
              obtain rfl : l3 = true := by simpa using hall 3 (by simp)
              obtain rfl : l4 = true := by simpa using hall 4 (by simp)
              obtain rfl : l5 = true := by simpa using hall 5 (by simp)
              obtain rfl : l6 = true := by simpa using hall 6 (by simp)
              obtain rfl : l7 = true := by simpa using hall 7 (by simp)
              obtain rfl : l8 = true := by simpa using hall 8 (by simp)
              obtain rfl : l9 = true := by simpa using hall 9 (by simp)
              obtain rfl : l10 = true := by simpa using hall 10 (by simp)
              obtain rfl : l11 = true := by simpa using hall 11 (by simp)
              obtain rfl : l12 = true := by simpa using hall 12 (by simp)
              obtain rfl : l13 = true := by simpa using hall 13 (by simp)
              obtain rfl : l14 = true := by simpa using hall 14 (by simp)
              obtain rfl : l15 = true := by simpa using hall 15 (by simp)
              obtain rfl : l16 = true := by simpa using hall 16 (by simp)
              obtain rfl : l17 = true := by simpa using hall 17 (by simp)
              obtain rfl : l18 = true := by simpa using hall 18 (by simp)
              obtain rfl : l19 = true := by simpa using hall 19 (by simp)
              obtain rfl : l20 = true := by simpa using hall 20 (by simp)
              obtain rfl : l21 = true := by simpa using hall 21 (by simp)
              obtain rfl : l22 = true := by simpa using hall 22 (by simp)
              obtain rfl : l23 = true := by simpa using hall 23 (by simp)
              obtain rfl : l24 = true := by simpa using hall 24 (by simp)
              obtain rfl : l25 = true := by simpa using hall 25 (by simp)
              obtain rfl : l26 = true := by simpa using hall 26 (by simp)
              obtain rfl : l27 = true := by simpa using hall 27 (by simp)
              obtain rfl : l28 = true := by simpa using hall 28 (by simp)
              obtain rfl : l29 = true := by simpa using hall 29 (by simp)
              clear hall hr 
              simp only [↓reduceIte] at hS ⊢
              simp only [Array.getD_eq_getD_getElem?, List.getElem?_toArray, List.getElem?_cons_zero, List.getElem?_cons_succ, Option.getD_some]
              have HSa := Lib.hid (HS0.out.call hS.bel)
              clear hS
              go_wp2
              go_roundw
              case rel => exact ⟨i + 1, (mn : Int), rfl, by go_num, by omega, HC.out, HSa.out⟩
              case measure => simp [intOf]; omega
            · refine ⟨⟨false, false, false, false, false, false, false, false, false, false, false, false, false, false, false, false, false, false, false, false, false, false, false, false, false, false, false, false, false, false, false, false, false, false, false, false, false, false, false, false⟩, rfl, (by simp), ?_⟩
              exact (St.start wr).drew
        · obtain rfl : i = k + 1 := by omega
          have HS := Lib.hid hS
          have Hhm := Lib.hid hm; clear hm
          clear hS
          go_wp2_with (at_builtin; refine wpList_append_lies _ rfl _ _ _ rfl _ 3 i0 (.int .i64 0) 1 8 Try.underlying48 Hhi.out Hhz0.out Hhz1.out Hhz2.out rfl (by omega) _ (k + 1) _ rfl ((HS.out.alloc_ (.cells #[.int .i64 m] 3)).row 1 rfl) ⟨wr.heap.size, 0, none⟩ 1 1 [.int .i64 m] rfl rfl (World.news_of_block (heap_alloc_new wr _)) one_i (by omega) (by unfold maxLen; omega) (by omega) (HS.out.alloc_ (.cells #[.int .i64 m] 3)).size _ rfl ?_; intro g6 c6 w6 hown6 hgrow6 hat6 hlt6; have HS6 := Lib.hid ((HS.out.alloc_ (.cells #[.int .i64 m] 3)).app 1 rfl hown6 hgrow6 hat6); clear hown6 hgrow6 hat6 hlt6)
          have h6 := HS6.out
          rw [← intC_snoc, ← Hhm.out] at h6
          have HS7 := Lib.hid h6
          clear h6
          go_roundw
          case rel => exact ⟨k + 1, g6, c6, rfl, by go_num, by omega, HS7.out⟩
          case measure => simp [intOf]; omega
    · obtain rfl : k = n := by omega
      have r0 := hS.rcell (v := .int .i64 r) 1 k rfl (by omega) (by rw [intC_getD (F := bestF d L k) (i := k) (by rw [bestF_len]; omega), Hhr2.out])
      have HS := Lib.hid hS
      clear hS
      go_wp2
      go_ret
      exact ⟨rfl, HS.out.bel⟩
end Go.Proofs.Ytalbofnhcpjilaa
