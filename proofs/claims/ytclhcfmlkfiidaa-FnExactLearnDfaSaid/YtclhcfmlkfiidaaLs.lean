/-
  The walks over the reference's learner: l7Run, l23Row.
  Conditions: the language is a valid automaton and reads as such; the words have letters below three.
-/
import Derived.Test.YtclhcfmlkfiidaaLc
namespace Go.Proofs.Ytclhcfmlkfiidaa
open Go.RowKit

theorem index_word {l : List Nat} {k : Nat} (hk : k < l.length) (hw : isW l) : (∀ w' : World, (Instr.index 9 (.string (wdB l)) (.int .i64 (k : Int))).run Try.prog w' = .ok (.int .u8 (97 + (l.getD k 0 : Nat))) w') ∧ IntKind.u8.wrap (97 + ((l.getD k 0 : Nat) : Int) - 97) = (l.getD k 0 : Nat) ∧ IntKind.i64.wrap ((l.getD k 0 : Nat) : Int) = (l.getD k 0 : Nat) := by
  have hc : l.getD k 0 < 3 := hw _ (memD hk)
  have hs : (wdB l).size = l.length := wdB_size l
  refine ⟨fun w' => ?_, ?_, IntWalk.i64_in _ (by omega)⟩
  · rw [run_index_string w' 9 (wdB l) .i64 k Try.underlying9, dif_pos (by omega)]
    congr 2
    exact wdB_at hk hw _
  · obtain h | h | h : l.getD k 0 = 0 ∨ l.getD k 0 = 1 ∨ l.getD k 0 = 2 := by omega
    all_goals (rw [h]; rfl)
set_option maxHeartbeats 1600000 in
theorem l7Run_any (d : DfaD) (q : Nat) (l : List Nat) (v : Value) (w : World) (hd : dfaOk d.next d.ends = true) (hq : q < d.next.length) (hw : isW l) (hl : l.length ≤ 1000000) (h : DfaR 0 w v d) :
    Calls Try.prog 89 #[v, .int .i64 q, .string (wdB l)] w fun e w' => e = .returned (.int .i64 (runD d q l)) ∧ Below w.heap.size w w' := by
  obtain ⟨v1, v2, rfl, g1, g2⟩ := h
  have hlen := dfaOk_len hd
  have hS0 := (St.start w).alloc _ rfl #[v1, v2] 32
  have hs : (wdB l).size = l.length := wdB_size l
  have G1 := Lib.hid g1
  have Hhd := Lib.hid hd; clear hd
  have Hhw := Lib.hid hw; clear hw
  have HhS0 := Lib.hid hS0; clear hS0
  clear g1 g2
  go_enter Try.func89, Try.ntmps89
  go_wp2
  go_loopw [1, 7] (fun fr i wr => ∃ k p : Nat, fr = .int .i64 p ∧ i = .int .i64 k ∧ k ≤ l.length ∧ p < d.next.length ∧ (p : Int) = runD d q (l.take k) ∧ St w wr [Ent.box w.heap.size #[v1, v2] 32]) (fun _ i _ => l.length - (intOf i).toNat)
  case atStart => exact ⟨0, q, rfl, rfl, Nat.zero_le _, hq, rfl, HhS0.out⟩
  case round =>
    obtain ⟨k, p, rfl, rfl, hk, hp, hrun, hS⟩ := hrel
    by_cases hlt : k < l.length
    · have hc : l.getD k 0 < 3 := Hhw.out _ (memD hlt)
      obtain ⟨b1, o1, cap1, z, t, s, rfl, hc1, hc2, k1, hs1, hs2, k2, hb1, hb2⟩ := dfa_cell (G1.out.below hS.bel) Hhd.out hp hc
      have e0 := hS.cell (v := .slice (some ⟨b1, o1, none⟩) d.next.length cap1) 0 0 rfl rfl
      have hnx := (dfaOk_row Hhd.out hp).2 _ hc
      have hsn := runD_snoc d q hlt
      rw [← hrun] at hsn
      obtain ⟨x, hx⟩ : ∃ x, x = (d.next.getD p []).getD (l.getD k 0) 0 := ⟨_, rfl⟩
      have hdx : dnx d (p : Int) (l.getD k 0) = x := by rw [hx]; rfl
      rw [hdx] at hsn
      rw [← hx] at k2 hnx
      obtain ⟨x0, x1⟩ := hnx
      obtain ⟨x, rfl⟩ := Int.eq_ofNat_of_zero_le x0
      obtain ⟨hidx, hw8, hw9⟩ := index_word hlt Hhw.out
      obtain ⟨c, hcc⟩ : ∃ c, c = l.getD k 0 := ⟨_, rfl⟩
      rw [← hcc] at hc k2 hidx hw8 hw9
      have hp2 : (p : Int) < d.next.length := by omega
      have hc3 : (c : Int) < 3 := by omega
      have hkl : (k : Int) < l.length := by omega
      have HhS := Lib.hid hS; clear hS
      have Hhx := Lib.hid hx; clear hx
      have Hhdx := Lib.hid hdx; clear hdx
      have Hhsn := Lib.hid hsn; clear hsn
      have Hhcc := Lib.hid hcc; clear hcc
      have Hhrun := Lib.hid hrun; clear hrun
      go_wp2
      go_quiet (fail)
      go_wp2
      go_roundw
      case rel => exact ⟨k + 1, x, rfl, by go_num, by omega, by omega, Hhsn.out.symm, HhS.out.drewN _⟩
      case measure => simp [intOf]; omega
    · obtain rfl : k = l.length := by omega
      rw [List.take_length] at hrun
      have HhS := Lib.hid hS; clear hS
      have Hhrun := Lib.hid hrun; clear hrun
      go_wp2
      go_ret
      exact ⟨ret_int Hhrun.out, HhS.out.bel⟩

set_option maxRecDepth 100000 in
set_option maxHeartbeats 4000000 in
theorem l23Row_any (d : DfaD) (re : List (List Nat)) (s : List Nat) (v vr : Value) (w : World) (hd : dfaOk d.next d.ends = true) (hre : okWs re) (hrl : re.length ≤ 100000) (hs : isW s) (hsl : s.length ≤ 400000) (h : DfaR 0 w v d) (hr : Strs 0 w vr re) :
    Calls Try.prog 85 #[v, .string (wdB s), vr] w fun e w' => ∃ a cap, e = .returned (.slice a re.length cap) ∧ St w w' [Ent.row 4 1 (.slice a re.length cap) re.length (boolCells (rowW d re s))] := by
  have HD := Lib.hid h
  obtain ⟨v1, v2, rfl, q1, q2⟩ := h
  obtain ⟨h1, h2, h3⟩ := dfaOk_len hd
  obtain ⟨b2, o2, cap2, rfl, hc1, hc2, -, hb2⟩ := bool_cell q2 (i := 0) (by omega)
  obtain ⟨_, _, hv2, -, -, hcs2⟩ := q2.form
  simp only [Value.slice.injEq, true_and] at hv2
  obtain ⟨rfl, rfl⟩ := hv2
  obtain ⟨_, _, hb2e, -, hb2l, hcs2⟩ := hcs2 (by omega)
  simp only [Option.some.injEq, Addr.mk.injEq, and_true] at hb2e
  obtain ⟨rfl, rfl⟩ := hb2e
  obtain ⟨ar, cr, rfl, hcr1, hcr2, hcs⟩ := hr.form
  obtain ⟨n, hn⟩ : ∃ n, n = re.length := ⟨_, rfl⟩
  have hxl : (rowW d re s).length = n := by rw [rowW_len, hn]
  have hxt : ∀ k, k < n → (rowW d re s).take (k + 1) = (rowW d re s).take k ++ [accD d (s ++ re.getD k [])] := fun k hk => by
    rw [List.take_succ_eq_append_getElem (by omega)]
    rw [hn] at hk
    simp [rowW, hk]
  obtain ⟨xs, hxs⟩ : ∃ xs, xs = rowW d re s := ⟨_, rfl⟩
  rw [← hxs] at hxl hxt
  rw [← hn] at hcr1 hcs hrl
  rw [← hn, ← hxs]
  obtain ⟨i0, hi, hz0, hz1, hz2⟩ := info_parts Try.infoBool
  have hS0 := ((St.start w).alloc _ rfl #[v1, .slice (some ⟨b2, o2, none⟩) d.ends.length cap2] 32).alloc (w.heap.size + 1) (by simp) #[] 4
  have hS1 := hS0.boxrow 1 0 1 [] rfl rfl (Nat.zero_le _)
  have hrun : ∀ x, isW x → x.length ≤ 800000 → ∀ w' : World, Below w.heap.size w w' → Calls Try.prog 89 #[.agg #[v1, .slice (some ⟨b2, o2, none⟩) d.ends.length cap2], .int .i64 0, .string (wdB x)] w' fun e w2 => e = .returned (.int .i64 (runD d 0 x)) ∧ Below w'.heap.size w' w2 := fun x hx hxl w' hb => l7Run_any d 0 x _ w' hd (by omega) hx (by omega) (HD.out.below hb)
  have Hrun := Lib.hid hrun
  have Hlen := Lib.hid h3
  have Hcs2 := Lib.hid hcs2
  have Hhd := Lib.hid hd; clear hd
  have Hhre := Lib.hid hre; clear hre
  have Hhs := Lib.hid hs; clear hs
  have Hhcs := Lib.hid hcs; clear hcs
  have Hhn := Lib.hid hn; clear hn
  have Hhxs := Lib.hid hxs; clear hxs
  have Hhxl := Lib.hid hxl; clear hxl
  have Hhxt := Lib.hid hxt; clear hxt
  have HhS1 := Lib.hid hS1; clear hS1
  have Hhi := Lib.hid hi; clear hi
  have Hhz0 := Lib.hid hz0; clear hz0
  have Hhz1 := Lib.hid hz1; clear hz1
  have Hhz2 := Lib.hid hz2; clear hz2
  clear hS0 q1 q2 hr hrun h3 hcs2
  go_enter Try.func85, Try.ntmps85
  go_wp2
  go_loopw [7, 8] (fun ov i wr => ∃ (k g c : Nat), i = .int .i64 k ∧ ov = .slice (some ⟨g, 0, none⟩) k c ∧ k ≤ n ∧ St w wr [Ent.box w.heap.size #[v1, .slice (some ⟨b2, o2, none⟩) d.ends.length cap2] 32, Ent.row 4 1 (.slice (some ⟨g, 0, none⟩) k c) k (boolCells (xs.take k))])
    (fun _ i _ => n - (intOf i).toNat)
  case atStart => exact ⟨0, _, _, rfl, rfl, Nat.zero_le _, HhS1.out⟩
  case round =>
    obtain ⟨k, g, c, rfl, rfl, hk, hS⟩ := hrel
    obtain ⟨wp, hwp⟩ : ∃ wp : World, wp = wr := ⟨_, rfl⟩
    subst hwp
    by_cases hlt : k < n
    · obtain ⟨b1, o1, rfl, hb1, hc⟩ := Hhcs.out (by omega)
      have k1 := (bcell hS.bel b1 _ hb1).trans (hc k hlt)
      have hrk := Hhre.out _ (memD (d := []) (show k < re.length by rw [← Hhn.out]; exact hlt))
      have htk := Hhxt.out k hlt
      obtain ⟨r, hr⟩ : ∃ r, r = re.getD k [] := ⟨_, rfl⟩
      rw [← hr] at k1 hrk htk
      obtain ⟨hadd, hnlt⟩ := add_words s r hsl hrk.2
      have hsr : isW (s ++ r) := isW_append Hhs.out hrk.1
      obtain ⟨hq0, hq1⟩ := runD_in Hhd.out hsr (s := 0) (by omega) (by omega)
      obtain ⟨q, hq⟩ := Int.eq_ofNat_of_zero_le hq0
      have hqn : q < d.ends.length := by rw [Hlen.out]; omega
      have hacc : accD d (s ++ r) = d.ends.getD q false := by
        unfold accD den
        rw [hq, Int.toNat_natCast]
      rw [hacc] at htk
      have k3 := (bcell hS.bel b2 (o2 + q) hb2l).trans (Hcs2.out q hqn)
      obtain ⟨z, hz⟩ : ∃ z, z = d.ends.getD q false := ⟨_, rfl⟩
      rw [← hz] at htk k3
      have hR := Hrun.out (s ++ r) hsr (by rw [List.length_append]; have := hrk.2; omega) wp.drew hS.bel.drew
      rw [hq] at hR
      have HR := Lib.hid hR
      have e0 := hS.cell (v := v1) 0 0 rfl rfl
      have e1 := hS.cell (v := .slice (some ⟨b2, o2, none⟩) d.ends.length cap2) 0 1 rfl rfl
      have l0 := (hS.boxlt 0 rfl).2
      have l1 := Nat.lt_of_lt_of_le hb1 hS.size
      have l2 := Nat.lt_of_lt_of_le hb2l hS.size
      have Hk := Lib.hid (fun (w' : World) (h : Below wp.drew.heap.size wp.drew w') => (show w'.cell? ⟨w.heap.size, 0, none⟩ = some v1 ∧ w'.cell? ⟨w.heap.size, 1, none⟩ = some (.slice (some ⟨b2, o2, none⟩) d.ends.length cap2) ∧ w'.cell? ⟨b1, o1 + k, none⟩ = some (.string (wdB r)) ∧ w'.cell? ⟨b2, o2 + q, none⟩ = some (.bool z) from ⟨(bcell h _ _ l0).trans e0, (bcell h _ _ l0).trans e1, (bcell h _ _ l1).trans k1, (bcell h _ _ l2).trans k3⟩))
      have hqi : (q : Int) < d.ends.length := by omega
      have hkn : (k : Int) < n := by omega
      have Hhr := Lib.hid hr; clear hr
      have Hhrk := Lib.hid hrk; clear hrk
      have Hhtk := Lib.hid htk; clear htk
      have Hhsr := Lib.hid hsr; clear hsr
      have Hhq := Lib.hid hq; clear hq
      have Hhz := Lib.hid hz; clear hz
      have HhS := Lib.hid hS; clear hS
      clear hc hR hacc hq0 hq1
      go_wp2
      go_region_held3 (fun w' => w'.cell? ⟨w.heap.size, 0, none⟩ = some v1 ∧ w'.cell? ⟨w.heap.size, 1, none⟩ = some (.slice (some ⟨b2, o2, none⟩) d.ends.length cap2) ∧ w'.cell? ⟨b1, o1 + k, none⟩ = some (.string (wdB r)) ∧ w'.cell? ⟨b2, o2 + q, none⟩ = some (.bool z))
        (first | go_keep | exact Hk.out _ hq0 | exact Hk.out _ Hq1.out | exact Hw7.out)
        (first
          | (go_at_call 89; (with_reducible refine HR.out.mono ?_); rintro e u ⟨rfl, hq0⟩; have HSa := Lib.hid ((HhS.out.drew.call hq0).alloc_ (.cells #[.bool z] 4)); have Hq1 := Lib.hid (hq0.alloc hq0.size (.cells #[.bool z] 4)))
          | (refine step_append_lies _ (by rfl) _ _ _ (by rfl) w.heap.size 4 i0 (.bool false) 1 1 Try.underlying23 Hhi.out Hhz0.out Hhz1.out Hhz2.out (by rfl) (by omega) (.slice (some ⟨g, 0, none⟩) k c) k (boolCells (xs.take k)) (by rfl) (HSa.out.row 1 rfl) ⟨u.heap.size, 0, none⟩ 1 1 [.bool z] (by rfl) (by rfl) (World.news_of_block (heap_alloc_new u _)) one_bl (by omega) (by unfold maxLen; omega) (by omega) HSa.out.size (u.heap.size + 1) (by simp) ?_; intro g7 c7 w7 hown7 hgrow7 hat7 hlt7; have HS7 := Lib.hid (HSa.out.app 1 rfl hown7 hgrow7 (by rw [World.size_alloc]; exact hat7)); have Hw7 : Hid (w7.cell? ⟨w.heap.size, 0, none⟩ = some v1 ∧ w7.cell? ⟨w.heap.size, 1, none⟩ = some (.slice (some ⟨b2, o2, none⟩) d.ends.length cap2) ∧ w7.cell? ⟨b1, o1 + k, none⟩ = some (.string (wdB r)) ∧ w7.cell? ⟨b2, o2 + q, none⟩ = some (.bool z)) := Lib.hid ⟨HS7.out.cell 0 0 rfl rfl, HS7.out.cell 0 1 rfl rfl, (bcell HS7.out.bel b1 _ hb1).trans ((bcell HhS.out.bel b1 _ hb1).symm.trans k1), (bcell HS7.out.bel b2 _ hb2l).trans ((bcell HhS.out.bel b2 _ hb2l).symm.trans k3)⟩; clear hown7 hgrow7 hat7))
      go_wp2
      go_roundw
      case rel =>
        refine ⟨k + 1, g7, c7, by go_num, rfl, by omega, ?_⟩
        rw [Hhtk.out, boolC_snoc]
        exact HS7.out
      case measure => simp [intOf]; omega
    · obtain rfl : k = n := by omega
      have hx : xs.take k = xs := List.take_of_length_le (by rw [Hhxl.out]; exact Nat.le_refl _)
      rw [hx] at hS
      have HhS := Lib.hid hS; clear hS
      go_wp2
      go_ret
      exact ⟨_, _, rfl, HhS.out.pick [1] (by decide)⟩
end Go.Proofs.Ytclhcfmlkfiidaa
