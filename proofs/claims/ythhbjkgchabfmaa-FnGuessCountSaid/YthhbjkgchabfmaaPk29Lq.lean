/-
  The walks over the reference's learner: l7Run, l23Row.
  Conditions: the language is a valid automaton and reads as such; the words have letters below three.
-/
import Derived.Test.YthhbjkgchabfmaaPk28Li
namespace Go.Proofs.Ythhbjkgchabfmaa
open Go.RowKit
theorem index_word {l : List Nat} {k : Nat} (hk : k < l.length) (hw : isW l) : (∀ w' : World, (Instr.index 9 (.string (wdB l)) (.int .i64 (k : Int))).run Try.prog w' = .ok (.int .u8 (97 + (l.getD k 0 : Nat))) w') ∧ IntKind.u8.wrap (97 + ((l.getD k 0 : Nat) : Int) - 97) = (l.getD k 0 : Nat) ∧ IntKind.i64.wrap ((l.getD k 0 : Nat) : Int) = (l.getD k 0 : Nat) := by
  have hc : l.getD k 0 < 3 := hw _ (memD hk)
  have hs : (wdB l).size = l.length := wdB_size l
  refine ⟨fun w' => ?_, ?_, IntWalk.i64_in _ (by omega)⟩
  · rw [run_index_string w' 9 (wdB l) .i64 k Try.underlying9, dif_pos (by omega)]
    congr 2
    exact wdB_at hk hw _
  · obtain h | h | h : l.getD k 0 = 0 ∨ l.getD k 0 = 1 ∨ l.getD k 0 = 2 := by omega
    all_goals (rw [h]; rfl)
set_option maxHeartbeats 1600000 in
theorem l7Run_any (d : DfaD) (q : Nat) (l : List Nat) (v : Value) (w : World) (hd : dfaOk d.next d.ends = true) (hq : q < d.next.length) (hw : isW l) (hl : l.length ≤ 1000000) (h : DfaR 0 w v d) :
    Calls Try.prog 142 #[v, .int .i64 q, .string (wdB l)] w fun e w' => e = .returned (.int .i64 (runD d q l)) ∧ Below w.heap.size w w' := by
  obtain ⟨v1, v2, rfl, g1, g2⟩ := h
  have hlen := dfaOk_len hd
  have hS0 := (St.start w).alloc _ rfl #[v1, v2] 26
  have hs : (wdB l).size = l.length := wdB_size l
  have G1 := Lib.hid g1
  have Hhd := Lib.hid hd; clear hd
  have Hhw := Lib.hid hw; clear hw
  have HhS0 := Lib.hid hS0; clear hS0
  clear g1 g2
  go_enter Try.func142, Try.ntmps142
  go_wp2
  go_loopw [1, 7] (fun fr i wr => ∃ k p : Nat, fr = .int .i64 p ∧ i = .int .i64 k ∧ k ≤ l.length ∧ p < d.next.length ∧ (p : Int) = runD d q (l.take k) ∧ St w wr [Ent.box w.heap.size #[v1, v2] 26]) (fun _ i _ => l.length - (intOf i).toNat)
  case atStart => exact ⟨0, q, rfl, rfl, Nat.zero_le _, hq, rfl, HhS0.out⟩
  case round =>
    obtain ⟨k, p, rfl, rfl, hk, hp, hrun, hS⟩ := hrel
    by_cases hlt : k < l.length
    · have hc : l.getD k 0 < 3 := Hhw.out _ (memD hlt)
      obtain ⟨b1, o1, cap1, z, t, s, rfl, hc1, hc2, k1, hs1, hs2, k2, hb1, hb2⟩ := dfa_cell (G1.out.below hS.bel) Hhd.out hp hc
      have e0 := hS.cell (v := .slice (some ⟨b1, o1, none⟩) d.next.length cap1) 0 0 rfl rfl
      have hnx := (dfaOk_row Hhd.out hp).2 _ hc
      have hsn := runD_snoc d q hlt
      rw [← hrun] at hsn
      obtain ⟨x, hx⟩ : ∃ x, x = (d.next.getD p []).getD (l.getD k 0) 0 := ⟨_, rfl⟩
      have hdx : dnx d (p : Int) (l.getD k 0) = x := by rw [hx]; rfl
      rw [hdx] at hsn
      rw [← hx] at k2 hnx
      obtain ⟨x0, x1⟩ := hnx
      obtain ⟨x, rfl⟩ := Int.eq_ofNat_of_zero_le x0
      obtain ⟨hidx, hw8, hw9⟩ := index_word hlt Hhw.out
      obtain ⟨c, hcc⟩ : ∃ c, c = l.getD k 0 := ⟨_, rfl⟩
      rw [← hcc] at hc k2 hidx hw8 hw9
      have hp2 : (p : Int) < d.next.length := by omega
      have hc3 : (c : Int) < 3 := by omega
      have hkl : (k : Int) < l.length := by omega
      have HhS := Lib.hid hS; clear hS
      have Hhx := Lib.hid hx; clear hx
      have Hhdx := Lib.hid hdx; clear hdx
      have Hhsn := Lib.hid hsn; clear hsn
      have Hhcc := Lib.hid hcc; clear hcc
      have Hhrun := Lib.hid hrun; clear hrun
      go_wp2
      go_quiet (fail)
      go_wp2
      go_roundw
      case rel => exact ⟨k + 1, x, rfl, by go_num, by omega, by omega, Hhsn.out.symm, HhS.out.drewN _⟩
      case measure => simp [intOf]; omega
    · obtain rfl : k = l.length := by omega
      rw [List.take_length] at hrun
      have HhS := Lib.hid hS; clear hS
      have Hhrun := Lib.hid hrun; clear hrun
      go_wp2
      go_ret
      exact ⟨ret_int Hhrun.out, HhS.out.bel⟩
set_option maxRecDepth 100000 in
set_option maxHeartbeats 4000000 in
theorem l23Row_any (d : DfaD) (re : List (List Nat)) (s : List Nat) (v vr : Value) (w : World) (hd : dfaOk d.next d.ends = true) (hre : okWs re) (hrl : re.length ≤ 100000) (hs : isW s) (hsl : s.length ≤ 400000) (h : DfaR 0 w v d) (hr : Strs 0 w vr re) :
    Calls Try.prog 138 #[v, .string (wdB s), vr] w fun e w' => ∃ a cap, e = .returned (.slice a re.length cap) ∧ St w w' [Ent.row 4 1 (.slice a re.length cap) re.length (boolCells (rowW d re s))] := by
  have HD := Lib.hid h
  obtain ⟨v1, v2, rfl, q1, q2⟩ := h
  obtain ⟨h1, h2, h3⟩ := dfaOk_len hd
  obtain ⟨b2, o2, cap2, rfl, hc1, hc2, -, hb2⟩ := bool_cell q2 (i := 0) (by omega)
  obtain ⟨_, _, hv2, -, -, hcs2⟩ := q2.form
  simp only [Value.slice.injEq, true_and] at hv2
  obtain ⟨rfl, rfl⟩ := hv2
  obtain ⟨_, _, hb2e, -, hb2l, hcs2⟩ := hcs2 (by omega)
  simp only [Option.some.injEq, Addr.mk.injEq, and_true] at hb2e
  obtain ⟨rfl, rfl⟩ := hb2e
  obtain ⟨ar, cr, rfl, hcr1, hcr2, hcs⟩ := hr.form
  obtain ⟨n, hn⟩ : ∃ n, n = re.length := ⟨_, rfl⟩
  have hxl : (rowW d re s).length = n := by rw [rowW_len, hn]
  have hxt : ∀ k, k < n → (rowW d re s).take (k + 1) = (rowW d re s).take k ++ [accD d (s ++ re.getD k [])] := fun k hk => by
    rw [List.take_succ_eq_append_getElem (by omega)]
    rw [hn] at hk
    simp [rowW, hk]
  obtain ⟨xs, hxs⟩ : ∃ xs, xs = rowW d re s := ⟨_, rfl⟩
  rw [← hxs] at hxl hxt
  rw [← hn] at hcr1 hcs hrl
  rw [← hn, ← hxs]
  obtain ⟨i0, hi, hz0, hz1, hz2⟩ := info_parts Try.infoBool
  have hS0 := ((St.start w).alloc _ rfl #[v1, .slice (some ⟨b2, o2, none⟩) d.ends.length cap2] 26).alloc (w.heap.size + 1) (by simp) #[] 4
  have hS1 := hS0.boxrow 1 0 1 [] rfl rfl (Nat.zero_le _)
  have hrun : ∀ x, isW x → x.length ≤ 800000 → ∀ w' : World, Below w.heap.size w w' → Calls Try.prog 142 #[.agg #[v1, .slice (some ⟨b2, o2, none⟩) d.ends.length cap2], .int .i64 0, .string (wdB x)] w' fun e w2 => e = .returned (.int .i64 (runD d 0 x)) ∧ Below w'.heap.size w' w2 := fun x hx hxl w' hb => l7Run_any d 0 x _ w' hd (by omega) hx (by omega) (HD.out.below hb)
  have Hrun := Lib.hid hrun
  have Hlen := Lib.hid h3
  have Hcs2 := Lib.hid hcs2
  have Hhd := Lib.hid hd; clear hd
  have Hhre := Lib.hid hre; clear hre
  have Hhs := Lib.hid hs; clear hs
  have Hhcs := Lib.hid hcs; clear hcs
  have Hhn := Lib.hid hn; clear hn
  have Hhxs := Lib.hid hxs; clear hxs
  have Hhxl := Lib.hid hxl; clear hxl
  have Hhxt := Lib.hid hxt; clear hxt
  have HhS1 := Lib.hid hS1; clear hS1
  have Hhi := Lib.hid hi; clear hi
  have Hhz0 := Lib.hid hz0; clear hz0
  have Hhz1 := Lib.hid hz1; clear hz1
  have Hhz2 := Lib.hid hz2; clear hz2
  clear hS0 q1 q2 hr hrun h3 hcs2
  go_enter Try.func138, Try.ntmps138
  go_wp2
  go_loopw [7, 8] (fun ov i wr => ∃ (k g c : Nat), i = .int .i64 k ∧ ov = .slice (some ⟨g, 0, none⟩) k c ∧ k ≤ n ∧ St w wr [Ent.box w.heap.size #[v1, .slice (some ⟨b2, o2, none⟩) d.ends.length cap2] 26, Ent.row 4 1 (.slice (some ⟨g, 0, none⟩) k c) k (boolCells (xs.take k))])
    (fun _ i _ => n - (intOf i).toNat)
  case atStart => exact ⟨0, _, _, rfl, rfl, Nat.zero_le _, HhS1.out⟩
  case round =>
    obtain ⟨k, g, c, rfl, rfl, hk, hS⟩ := hrel
    obtain ⟨wp, hwp⟩ : ∃ wp : World, wp = wr := ⟨_, rfl⟩
    subst hwp
    by_cases hlt : k < n
    · obtain ⟨b1, o1, rfl, hb1, hc⟩ := Hhcs.out (by omega)
      have k1 := (bcell hS.bel b1 _ hb1).trans (hc k hlt)
      have hrk := Hhre.out _ (memD (d := []) (show k < re.length by rw [← Hhn.out]; exact hlt))
      have htk := Hhxt.out k hlt
      obtain ⟨r, hr⟩ : ∃ r, r = re.getD k [] := ⟨_, rfl⟩
      rw [← hr] at k1 hrk htk
      obtain ⟨hadd, hnlt⟩ := add_words s r hsl hrk.2
      have hsr : isW (s ++ r) := isW_append Hhs.out hrk.1
      obtain ⟨hq0, hq1⟩ := runD_in Hhd.out hsr (s := 0) (by omega) (by omega)
      obtain ⟨q, hq⟩ := Int.eq_ofNat_of_zero_le hq0
      have hqn : q < d.ends.length := by rw [Hlen.out]; omega
      have hacc : accD d (s ++ r) = d.ends.getD q false := by
        unfold accD den
        rw [hq, Int.toNat_natCast]
      rw [hacc] at htk
      have k3 := (bcell hS.bel b2 (o2 + q) hb2l).trans (Hcs2.out q hqn)
      obtain ⟨z, hz⟩ : ∃ z, z = d.ends.getD q false := ⟨_, rfl⟩
      rw [← hz] at htk k3
      have hR := Hrun.out (s ++ r) hsr (by rw [List.length_append]; have := hrk.2; omega) wp.drew hS.bel.drew
      rw [hq] at hR
      have HR := Lib.hid hR
      have e0 := hS.cell (v := v1) 0 0 rfl rfl
      have e1 := hS.cell (v := .slice (some ⟨b2, o2, none⟩) d.ends.length cap2) 0 1 rfl rfl
      have l0 := (hS.boxlt 0 rfl).2
      have l1 := Nat.lt_of_lt_of_le hb1 hS.size
      have l2 := Nat.lt_of_lt_of_le hb2l hS.size
      have Hk := Lib.hid (fun (w' : World) (h : Below wp.drew.heap.size wp.drew w') => (show w'.cell? ⟨w.heap.size, 0, none⟩ = some v1 ∧ w'.cell? ⟨w.heap.size, 1, none⟩ = some (.slice (some ⟨b2, o2, none⟩) d.ends.length cap2) ∧ w'.cell? ⟨b1, o1 + k, none⟩ = some (.string (wdB r)) ∧ w'.cell? ⟨b2, o2 + q, none⟩ = some (.bool z) from ⟨(bcell h _ _ l0).trans e0, (bcell h _ _ l0).trans e1, (bcell h _ _ l1).trans k1, (bcell h _ _ l2).trans k3⟩))
      have hqi : (q : Int) < d.ends.length := by omega
      have hkn : (k : Int) < n := by omega
      have Hhr := Lib.hid hr; clear hr
      have Hhrk := Lib.hid hrk; clear hrk
      have Hhtk := Lib.hid htk; clear htk
      have Hhsr := Lib.hid hsr; clear hsr
      have Hhq := Lib.hid hq; clear hq
      have Hhz := Lib.hid hz; clear hz
      have HhS := Lib.hid hS; clear hS
      clear hc hR hacc hq0 hq1
      go_wp2
      go_region_held3 (fun w' => w'.cell? ⟨w.heap.size, 0, none⟩ = some v1 ∧ w'.cell? ⟨w.heap.size, 1, none⟩ = some (.slice (some ⟨b2, o2, none⟩) d.ends.length cap2) ∧ w'.cell? ⟨b1, o1 + k, none⟩ = some (.string (wdB r)) ∧ w'.cell? ⟨b2, o2 + q, none⟩ = some (.bool z))
        (first | go_keep | exact Hk.out _ hq0 | exact Hk.out _ Hq1.out | exact Hw7.out)
        (first
          | (go_at_call 142; (with_reducible refine HR.out.mono ?_); rintro e u ⟨rfl, hq0⟩; have HSa := Lib.hid ((HhS.out.drew.call hq0).alloc_ (.cells #[.bool z] 4)); have Hq1 := Lib.hid (hq0.alloc hq0.size (.cells #[.bool z] 4)))
          | (refine step_append_lies _ (by rfl) _ _ _ (by rfl) w.heap.size 4 i0 (.bool false) 1 1 Try.underlying24 Hhi.out Hhz0.out Hhz1.out Hhz2.out (by rfl) (by omega) (.slice (some ⟨g, 0, none⟩) k c) k (boolCells (xs.take k)) (by rfl) (HSa.out.row 1 rfl) ⟨u.heap.size, 0, none⟩ 1 1 [.bool z] (by rfl) (by rfl) (World.news_of_block (heap_alloc_new u _)) one_bl (by omega) (by unfold maxLen; omega) (by omega) HSa.out.size (u.heap.size + 1) (by simp) ?_; intro g7 c7 w7 hown7 hgrow7 hat7 hlt7; have HS7 := Lib.hid (HSa.out.app 1 rfl hown7 hgrow7 (by rw [World.size_alloc]; exact hat7)); have Hw7 : Hid (w7.cell? ⟨w.heap.size, 0, none⟩ = some v1 ∧ w7.cell? ⟨w.heap.size, 1, none⟩ = some (.slice (some ⟨b2, o2, none⟩) d.ends.length cap2) ∧ w7.cell? ⟨b1, o1 + k, none⟩ = some (.string (wdB r)) ∧ w7.cell? ⟨b2, o2 + q, none⟩ = some (.bool z)) := Lib.hid ⟨HS7.out.cell 0 0 rfl rfl, HS7.out.cell 0 1 rfl rfl, (bcell HS7.out.bel b1 _ hb1).trans ((bcell HhS.out.bel b1 _ hb1).symm.trans k1), (bcell HS7.out.bel b2 _ hb2l).trans ((bcell HhS.out.bel b2 _ hb2l).symm.trans k3)⟩; clear hown7 hgrow7 hat7))
      go_wp2
      go_roundw
      case rel =>
        refine ⟨k + 1, g7, c7, by go_num, rfl, by omega, ?_⟩
        rw [Hhtk.out, boolC_snoc]
        exact HS7.out
      case measure => simp [intOf]; omega
    · obtain rfl : k = n := by omega
      have hx : xs.take k = xs := List.take_of_length_le (by rw [Hhxl.out]; exact Nat.le_refl _)
      rw [hx] at hS
      have HhS := Lib.hid hS; clear hS
      go_wp2
      go_ret
      exact ⟨_, _, rfl, HhS.out.pick [1] (by decide)⟩
theorem Try.infoBoolsL : (Try.prog.info? 24).map (fun i => (i.zero, i.size, i.bytes)) = some (some (.slice none 0 0), 1, 24) := by kernel_rfl
theorem key_take (d : DfaD) (re st : List (List Nat)) {k : Nat} (hk : k < st.length) : ((st.map (rowW d re)).take (k + 1)).map boolCells = ((st.map (rowW d re)).take k).map boolCells ++ [boolCells (rowW d re (st.getD k []))] := by
  rw [List.take_succ_eq_append_getElem (by rw [List.length_map]; exact hk), List.map_append]
  simp [hk]
set_option maxRecDepth 100000 in
set_option maxHeartbeats 8000000 in
theorem l23Guess_any (d : DfaD) (st re : List (List Nat)) (dv sv rv : Value) (w : World) (hd : dfaOk d.next d.ends = true) (hst : LOk st) (hsl : st.length ≤ 1000) (hre : okWs re) (hrl : re.length ≤ 1000) (hr0 : re.head? = some []) (h : DfaR 0 w dv d) (hs : Strs 0 w sv st) (hr : Strs 0 w rv re) :
    Calls Try.prog 140 #[dv, sv, rv] w fun e w' => RGuess (guessW d st re) st.length w e w' := by
  have HD := Lib.hid h
  have HR := Lib.hid hr
  obtain ⟨v1, v2, rfl, q1, q2⟩ := h
  obtain ⟨av, cs, rfl, hcs1, hcs2, hsc⟩ := hs.form
  have hok := hst.okWs hsl
  have hre0 : 0 < re.length := by
    cases hre' : re with
    | nil => rw [hre'] at hr0; simp at hr0
    | cons => simp
  obtain ⟨KM, hKM⟩ : ∃ KM, KM = st.map (rowW d re) := ⟨_, rfl⟩
  obtain ⟨n, hn⟩ : ∃ n, n = st.length := ⟨_, rfl⟩
  have hKl : KM.length = n := by rw [hKM, hn]; simp
  obtain ⟨G, hG⟩ : ∃ G, G = guessW d st re := ⟨_, rfl⟩
  have hgt := fun (k : Nat) (hk : k < st.length) => guess_take (d := d) (re := re) hk
  have hgl := guess_len d st re
  rw [← hG] at hgt hgl
  rw [← hn] at hgt hgl hcs1 hsc hsl
  rw [← hG, ← hn]
  have hrow := fun (x : List Nat) (hx : isW x) (hxl : x.length ≤ 400000) (w' : World) (hb : Below w.heap.size w w') => l23Row_any d re x (.agg #[v1, v2]) rv w' hd hre (by omega) hx hxl (HD.out.below hb) (HR.out.below hb)
  have hS0 := ((((St.start w).alloc _ rfl #[v1, v2] 26).alloc (w.heap.size + 1) (by simp) #[.slice none 0 0, .slice none 0 0] 26).alloc (w.heap.size + 1 + 1) (by simp) #[.slice none 0 0, .slice none 0 0] 26).alloc (w.heap.size + 1 + 1 + 1) (by simp) #[] 24
  have hS1 := (hS0.boxrow 3 0 1 [] rfl rfl (Nat.zero_le _)).norows 3 rfl 4
  obtain ⟨i0, hi, hz0, hz1, hz2⟩ := info_parts Try.infoInt
  obtain ⟨j0, hj, hy0, hy1, hy2⟩ := info_parts Try.infoInts
  obtain ⟨k0', hk', hx0, hx1, hx2⟩ := info_parts Try.infoBool
  obtain ⟨b0, hbi, hb0, hb1, hb2⟩ := info_parts Try.infoBoolsL
  have Hrow := Lib.hid hrow
  have Hhd := Lib.hid hd; clear hd
  have Hhst := Lib.hid hst; clear hst
  have Hhok := Lib.hid hok; clear hok
  have Hhre := Lib.hid hre; clear hre
  have Hhr0 := Lib.hid hr0; clear hr0
  have Hhsc := Lib.hid hsc; clear hsc
  have HhKM := Lib.hid hKM; clear hKM
  have Hhn := Lib.hid hn; clear hn
  have HhKl := Lib.hid hKl; clear hKl
  have HhG := Lib.hid hG; clear hG
  have Hhgt := Lib.hid hgt; clear hgt
  have Hhgl := Lib.hid hgl; clear hgl
  have HhS1 := Lib.hid hS1; clear hS1
  have Hhi := Lib.hid hi; clear hi
  have Hhz0 := Lib.hid hz0; clear hz0
  have Hhz1 := Lib.hid hz1; clear hz1
  have Hhz2 := Lib.hid hz2; clear hz2
  have Hhj := Lib.hid hj; clear hj
  have Hhy0 := Lib.hid hy0; clear hy0
  have Hhy1 := Lib.hid hy1; clear hy1
  have Hhy2 := Lib.hid hy2; clear hy2
  have Hhk' := Lib.hid hk'; clear hk'
  have Hhx0 := Lib.hid hx0; clear hx0
  have Hhx1 := Lib.hid hx1; clear hx1
  have Hhx2 := Lib.hid hx2; clear hx2
  have Hhbi := Lib.hid hbi; clear hbi
  have Hhb0 := Lib.hid hb0; clear hb0
  have Hhb1 := Lib.hid hb1; clear hb1
  have Hhb2 := Lib.hid hb2; clear hb2
  clear hS0 hrow hs hr q1 q2
  go_enter Try.func140, Try.ntmps140
  go_wp2
  go_loopw [8, 9] (fun rw i wr => ∃ (k g c : Nat) (vs : List Value), i = .int .i64 k ∧ rw = .slice (some ⟨g, 0, none⟩) k c ∧ k ≤ n ∧ St w wr [Ent.box w.heap.size #[v1, v2] 26, Ent.box (w.heap.size + 1) #[.slice none 0 0, .slice none 0 0] 26, Ent.box (w.heap.size + 1 + 1) #[.slice none 0 0, .slice none 0 0] 26,
      Ent.rows 24 4 (.slice (some ⟨g, 0, none⟩) k c) vs ((KM.take k).map boolCells)])
    (fun _ i _ => n - (intOf i).toNat)
  case atStart => exact ⟨0, _, _, [], rfl, rfl, Nat.zero_le _, HhS1.out⟩
  case round =>
    obtain ⟨k, g, c, vs, rfl, rfl, hk, hS⟩ := hrel
    obtain ⟨wp, hwp⟩ : ∃ wp : World, wp = wr := ⟨_, rfl⟩
    subst hwp
    by_cases hlt : k < n
    · obtain ⟨b1, o1, rfl, hb1l, hc⟩ := Hhsc.out (by omega)
      have k1 := (bcell hS.bel b1 _ hb1l).trans (hc k hlt)
      have hsk := Hhok.out _ (memD (d := []) (show k < st.length by rw [← Hhn.out]; exact hlt))
      have hKt := key_take d re st (show k < st.length by rw [← Hhn.out]; exact hlt)
      rw [← HhKM.out] at hKt
      obtain ⟨s, hs⟩ : ∃ s, s = st.getD k [] := ⟨_, rfl⟩
      rw [← hs] at k1 hsk hKt
      have hlm : ((KM.take k).map boolCells).length = k := by rw [List.length_map, List.length_take, HhKl.out]; omega
      have e0 := hS.cell (v := v1) 0 0 rfl rfl
      have e1 := hS.cell (v := v2) 0 1 rfl rfl
      have l0 := (hS.boxlt 0 rfl).2
      have l1 := Nat.lt_of_lt_of_le hb1l hS.size
      have Hk := Lib.hid (fun (w' : World) (h : Below wp.heap.size wp w') => (show w'.cell? ⟨w.heap.size, 0, none⟩ = some v1 ∧ w'.cell? ⟨w.heap.size, 1, none⟩ = some v2 ∧ w'.cell? ⟨b1, o1 + k, none⟩ = some (.string (wdB s)) from ⟨(bcell h _ _ l0).trans e0, (bcell h _ _ l0).trans e1, (bcell h _ _ l1).trans k1⟩))
      have HR1 := Lib.hid (Hrow.out s hsk.1 (by have := hsk.2; omega) wp.drew hS.bel.drew)
      have hkn : (k : Int) < n := by omega
      have Hhs := Lib.hid hs; clear hs
      have Hhsk := Lib.hid hsk; clear hsk
      have HhKt := Lib.hid hKt; clear hKt
      have Hhlm := Lib.hid hlm; clear hlm
      have HhS := Lib.hid hS; clear hS
      clear hc
      go_wp2
      go_region_held3 (fun w' => w'.cell? ⟨w.heap.size, 0, none⟩ = some v1 ∧ w'.cell? ⟨w.heap.size, 1, none⟩ = some v2 ∧ w'.cell? ⟨b1, o1 + k, none⟩ = some (.string (wdB s)))
        (first | go_keep | exact Hk.out _ Hq1.out | exact Hk.out _ Hq2.out | exact Hw7.out)
        (first
          | (go_at_call 138; (with_reducible refine HR1.out.mono ?_); rintro e u ⟨ax, cx, rfl, hSx⟩; have Hq1 : Hid (Below wp.heap.size wp u) := Lib.hid (((Below.refl _ _).drew).trans hSx.bel); have HSa := Lib.hid (((HhS.out.drew).cat hSx).alloc_ (.cells #[.slice ax re.length cx] 24)); have Hq2 := Lib.hid (Hq1.out.alloc Hq1.out.size (.cells #[.slice ax re.length cx] 24)); have HRw := Lib.hid (show _ from (HSa.out.rows 3 rfl).1); rw [Hhlm.out] at HRw; clear hSx)
          | (refine step_append_lies _ (by rfl) _ _ _ (by rfl) w.heap.size 24 b0 (.slice none 0 0) 1 24 Try.underlying119 Hhbi.out Hhb0.out Hhb1.out Hhb2.out (by rfl) (by omega) (.slice (some ⟨g, 0, none⟩) k c) k vs (by rfl) HRw.out ⟨u.heap.size, 0, none⟩ 1 1 [.slice ax re.length cx] (by rfl) (by rfl) (World.news_of_block (heap_alloc_new u _)) one_sl (by omega) (by unfold maxLen; omega) (by omega) HSa.out.size (u.heap.size + 1) (by simp) ?_; intro g7 c7 w7 hown7 hgrow7 hat7 hlt7; have HS7 := Lib.hid (HSa.out.snoc 3 4 (by decide) rfl rfl (by decide) hgrow7 (by rw [Hhlm.out]; exact hown7) (hat_of (by rw [World.size_alloc]; exact hat7))); have Hw7 : Hid (w7.cell? ⟨w.heap.size, 0, none⟩ = some v1 ∧ w7.cell? ⟨w.heap.size, 1, none⟩ = some v2 ∧ w7.cell? ⟨b1, o1 + k, none⟩ = some (.string (wdB s))) := Lib.hid ⟨HS7.out.cell 0 0 rfl rfl, HS7.out.cell 0 1 rfl rfl, (bcell HS7.out.bel b1 _ hb1l).trans ((bcell HhS.out.bel b1 _ hb1l).symm.trans k1)⟩; clear hown7 hgrow7 hat7))
      go_wp2
      go_roundw
      case rel =>
        refine ⟨k + 1, g7, c7, vs ++ [.slice ax re.length cx], by go_num, rfl, by omega, ?_⟩
        rw [HhKt.out]
        exact HS7.out.pick [0, 1, 2, 3] (by decide)
      case measure => simp [intOf]; omega
    · obtain rfl : k = n := by omega
      have hKa : KM.take k = KM := List.take_of_length_le (by rw [HhKl.out]; exact Nat.le_refl _)
      rw [hKa] at hS
      have hS2 := ((hS.nilRow 29 1).norows 4 rfl 3).nilRow 4 1
      have hlK : (KM.map boolCells).length = k := by rw [List.length_map]; exact HhKl.out
      have HhS2 := Lib.hid hS2; clear hS2
      have HhlK := Lib.hid hlK; clear hlK
      clear hKa hS hlt hk
      go_wp2
      go_loopw [10] (fun i wr => ∃ (m c1 c2 : Nat) (a1 a2 : Option Addr) (us : List Value), i = .int .i64 m ∧ m ≤ k ∧ St w wr [Ent.box w.heap.size #[v1, v2] 26, Ent.box (w.heap.size + 1) #[.slice none 0 0, .slice none 0 0] 26, Ent.box (w.heap.size + 1 + 1) #[.slice a1 m c1, .slice a2 m c2] 26,
          Ent.rows 24 4 (.slice (some ⟨g, 0, none⟩) k c) vs (KM.map boolCells), Ent.rows 29 3 (.slice a1 m c1) us ((G.next.take m).map intCells), Ent.row 4 1 (.slice a2 m c2) m (boolCells (G.ends.take m))])
        (fun i _ => k - (intOf i).toNat)
      case atStart => exact ⟨0, 0, 0, none, none, [], rfl, Nat.zero_le _, HhS2.out⟩
      case round =>
        obtain ⟨m, c1, c2, a1, a2, us, rfl, hm, hS⟩ := hrel
        obtain ⟨wo, hwo⟩ : ∃ wo : World, wo = wr := ⟨_, rfl⟩
        subst hwo
        by_cases hlt : m < k
        · obtain ⟨b1, o1, rfl, hb1l, hc⟩ := Hhsc.out (by omega)
          have hms : m < st.length := by rw [← Hhn.out]; exact hlt
          have hsk := Hhok.out _ (memD (d := []) hms)
          obtain ⟨gt1, gt2⟩ := Hhgt.out m hlt
          have hcell := hc m hlt
          obtain ⟨s, hs⟩ : ∃ s, s = st.getD m [] := ⟨_, rfl⟩
          rw [← hs] at hsk gt1 gt2 hcell
          obtain ⟨R, hR⟩ : ∃ R, R = gRow d st re s := ⟨_, rfl⟩
          rw [← hR] at gt1
          have hRl : R.length = 3 := by rw [hR]; exact gRow_len _ _ _ _
          have hkn : (m : Int) < k := by omega
          have hSn := (hS.alloc _ rfl #[] 3).boxrow 6 0 1 [] rfl rfl (Nat.zero_le _)
          have HhS := Lib.hid hS; clear hS
          have HhSn := Lib.hid hSn; clear hSn
          have Hhs := Lib.hid hs; clear hs
          have Hhsk := Lib.hid hsk; clear hsk
          have Hgt1 := Lib.hid gt1; clear gt1
          have Hgt2 := Lib.hid gt2; clear gt2
          have HhR := Lib.hid hR; clear hR
          have HhRl := Lib.hid hRl; clear hRl
          clear hc
          go_wp2
          go_loopw [11, 12] (fun rv' i wi => ∃ (l g3 c3 : Nat), i = .int .i64 l ∧ rv' = .slice (some ⟨g3, 0, none⟩) l c3 ∧ l ≤ 3 ∧ St w wi [Ent.box w.heap.size #[v1, v2] 26, Ent.box (w.heap.size + 1) #[.slice none 0 0, .slice none 0 0] 26, Ent.box (w.heap.size + 1 + 1) #[.slice a1 m c1, .slice a2 m c2] 26,
              Ent.rows 24 4 (.slice (some ⟨g, 0, none⟩) k c) vs (KM.map boolCells), Ent.rows 29 3 (.slice a1 m c1) us ((G.next.take m).map intCells), Ent.row 4 1 (.slice a2 m c2) m (boolCells (G.ends.take m)), Ent.row 3 1 (.slice (some ⟨g3, 0, none⟩) l c3) l (intCells (R.take l))])
            (fun _ i _ => 3 - (intOf i).toNat)
          case atStart => exact ⟨0, _, _, rfl, rfl, by omega, HhSn.out⟩
          case round =>
            obtain ⟨l, g3, c3, rfl, rfl, hl3, hSi⟩ := hrel
            obtain ⟨wp, hwp⟩ : ∃ wp : World, wp = wr := ⟨_, rfl⟩
            subst hwp
            by_cases hl : l < 3
            · obtain ⟨hadd, hnlt⟩ := add_words s [l] (by have := Hhsk.out.2; omega) (by simp)
              have k1 := (bcell hSi.bel b1 _ hb1l).trans hcell
              have hgt := gRow_take (d := d) (st := st) (re := re) (s := s) hl
              rw [← HhR.out, ← HhKM.out] at hgt
              have e0 := hSi.cell (v := v1) 0 0 rfl rfl
              have e1 := hSi.cell (v := v2) 0 1 rfl rfl
              have hSA0 := hSi.alloc_ (.cells #[.int .u8 (97 + (l : Int))] 5)
              have f0 := hSA0.cell (v := v1) 0 0 rfl rfl
              have f1 := hSA0.cell (v := v2) 0 1 rfl rfl
              have fk := (bcell hSA0.bel b1 _ hb1l).trans hcell
              have hcv := conv_letter l hl (wp.alloc (.cells #[.int .u8 (97 + (l : Int))] 5)).drew wp.heap.size 1 (alloc_cell _ _ _ 0)
              have hw8 := wrap8_letter l hl
              have hw9 : IntKind.i64.wrap (97 + (l : Int)) = 97 + (l : Int) := IntWalk.i64_in _ (by omega)
              have HA : Hid (Below wp.heap.size wp (wp.alloc (.cells #[.int .u8 (97 + (l : Int))] 5)).drew) := Lib.hid ((Below.refl _ _).alloc (Nat.le_refl _) _).drew
              have HSA : Hid (St w (wp.alloc (.cells #[.int .u8 (97 + (l : Int))] 5)).drew _) := Lib.hid (hSi.call HA.out)
              have HR1 := Lib.hid (Hrow.out (s ++ [l]) (isW_append Hhsk.out.1 (isW_one hl)) (by rw [List.length_append]; have := Hhsk.out.2; simp; omega) (wp.alloc (.cells #[.int .u8 (97 + (l : Int))] 5)).drew HSA.out.bel)
              have hfin := fun (w' : World) (v' : Value) (h1 : BoolSS 0 w' (.slice (some ⟨g, 0, none⟩) k c) KM) (h2 : Bools 0 w' v' (rowW d re (s ++ [l]))) => l9Find_any KM (rowW d re (s ++ [l])) re.length _ v' w' (by intro y hy; rw [HhKM.out] at hy; obtain ⟨q, -, rfl⟩ := List.mem_map.1 hy; exact rowW_len _ _ _) (rowW_len _ _ _) (by rw [HhKl.out]; omega) h1 h2
              obtain ⟨p, hp⟩ : ∃ p, p = findB KM (rowW d re (s ++ [l])) := ⟨_, rfl⟩
              rw [← hp] at hgt hfin
              have Hfin := Lib.hid hfin
              have hl4 : (l : Int) < 3 := by omega
              have Hhp := Lib.hid hp; clear hp
              have Hhgt := Lib.hid hgt; clear hgt
              have HhSi := Lib.hid hSi; clear hSi
              clear hfin hSA0
              go_wp2
              go_region_law (first
                  | (go_simp; go_at_call 138; refine HR1.out.mono ?_; rintro e u ⟨ax, cx, rfl, hSx⟩; have HSu := Lib.hid (HSA.out.cat hSx); clear hSx)
                  | (go_simp; go_at_call 139; refine (Hfin.out _ _ (HSu.out.boolSS 3 rfl) (HSu.out.bools 7 rfl)).mono ?_; rintro e u2 ⟨rfl, hb2⟩; have HSa := Lib.hid ((HSu.out.call hb2).alloc_ (.cells #[.int .i64 p] 3)); clear hb2)
                  | (refine step_append_lies _ (by rfl) _ _ _ (by rfl) w.heap.size 3 i0 (.int .i64 0) 1 8 Try.underlying29 Hhi.out Hhz0.out Hhz1.out Hhz2.out (by rfl) (by omega) (.slice (some ⟨g3, 0, none⟩) l c3) l (intCells (R.take l)) (by rfl) (HSa.out.row 6 rfl) ⟨u2.heap.size, 0, none⟩ 1 1 [.int .i64 p] (by rfl) (by rfl) (World.news_of_block (heap_alloc_new u2 _)) one_i (by omega) (by unfold maxLen; omega) (by omega) HSa.out.size (u2.heap.size + 1) (by simp) ?_; intro g7 c7 w7 hown7 hgrow7 hat7 hlt7; have HS7 := Lib.hid (HSa.out.app 6 rfl hown7 hgrow7 (by rw [World.size_alloc]; exact hat7)); clear hown7 hgrow7 hat7))
              all_goals
                go_wp2
                refine ⟨⟨l + 1, g7, c7, by go_num, rfl, by omega, ?_⟩, by simp [intOf]; omega⟩
                rw [Hhgt.out, intC_snoc]
                exact HS7.out.pick [0, 1, 2, 3, 4, 5, 6] (by decide)
            · obtain rfl : l = 3 := by omega
              have hR3 : R.take 3 = R := List.take_of_length_le (by rw [HhRl.out]; exact Nat.le_refl _)
              rw [hR3] at hSi
              have hlm : ((G.next.take m).map intCells).length = m := by rw [List.length_map, List.length_take]; have := Hhgl.out.1; omega
              have hSa := hSi.alloc_ (.cells #[.slice (some ⟨g3, 0, none⟩) 3 c3] 29)
              have hRw := (hSa.rows 4 rfl).1
              rw [hlm] at hRw
              have e0 := hSi.cell (v := .slice a1 m c1) 2 0 rfl rfl
              have HhR3 := Lib.hid hR3; clear hR3
              have Hhlm := Lib.hid hlm; clear hlm
              have HhSi := Lib.hid hSi; clear hSi
              have HhSa := Lib.hid hSa; clear hSa
              have HhRw := Lib.hid hRw; clear hRw
              clear hcell
              go_wp2_with (at_builtin; refine wpList_append_lies _ rfl _ _ _ rfl _ 29 j0 (.slice none 0 0) 1 24 Try.underlying23 Hhj.out Hhy0.out Hhy1.out Hhy2.out rfl (by omega) _ m _ rfl HhRw.out ⟨wp.heap.size, 0, none⟩ 1 1 [.slice (some ⟨g3, 0, none⟩) 3 c3] rfl rfl (World.news_of_block (heap_alloc_new wp _)) one_sl (by omega) (by unfold maxLen; omega) (by omega) HhSa.out.size _ rfl ?_; intro g6 c6 w6 hown6 hgrow6 hat6 hlt6; have HS6 := Lib.hid (HhSa.out.snoc 4 6 (by decide) rfl rfl (by decide) hgrow6 (by rw [Hhlm.out]; exact hown6) (hat_of hat6)); have y1 := HS6.out.cell (v := .slice a1 m c1) 2 0 rfl rfl; have y2 := HS6.out.fr 2 0 rfl; clear hown6 hgrow6 hat6 hlt6)
              have hSq := (HS6.out.set 2 rfl 0 (.slice (some ⟨g6, 0, none⟩) (m + 1) c6)).pick [0, 1, 2, 3, 4, 5] (by decide)
              obtain ⟨wq, hwq⟩ : ∃ wq, wq = w6.setCell ⟨w.heap.size + 1 + 1, 0, none⟩ (.slice (some ⟨g6, 0, none⟩) (m + 1) c6) := ⟨_, rfl⟩
              rw [← hwq] at hSq
              have hSq' : St w wq [Ent.box w.heap.size #[v1, v2] 26, Ent.box (w.heap.size + 1) #[.slice none 0 0, .slice none 0 0] 26, Ent.box (w.heap.size + 1 + 1) #[.slice (some ⟨g6, 0, none⟩) (m + 1) c6, .slice a2 m c2] 26,
                  Ent.rows 24 4 (.slice (some ⟨g, 0, none⟩) k c) vs (KM.map boolCells), Ent.rows 29 3 (.slice (some ⟨g6, 0, none⟩) (m + 1) c6) (us ++ [.slice (some ⟨g3, 0, none⟩) 3 c3]) ((G.next.take (m + 1)).map intCells), Ent.row 4 1 (.slice a2 m c2) m (boolCells (G.ends.take m))] := by
                rw [Hgt1.out, List.map_append]
                exact hSq
              rw [← hwq]
              have hcs : (KM.map boolCells).getD m [] = boolCells (rowW d re s) := by
                rw [HhKM.out, Hhs.out]
                simp [hms]
              obtain ⟨ax, cx, kc, hxr, hcx1, hcx2, hcp1, hcp2, hgl2⟩ := hSq'.rowAt 3 rfl HhlK.out hlt
              rw [hcs] at kc hxr hcx1
              have hxl : (boolCells (rowW d re s)).length = re.length := by simp [rowW_len]
              rw [hxl] at kc hxr hcx1
              obtain ⟨gx, cx', hvx, -, -⟩ := hxr.form hre0
              simp only [Value.slice.injEq] at hvx
              obtain ⟨rfl, -, rfl⟩ := hvx
              have hb0 : (boolCells (rowW d re s))[0]? = some (.bool (accD d s)) := by
                have h0 := Hhr0.out
                cases hre' : re with
                | nil => rw [hre'] at h0; simp at h0
                | cons x t =>
                  rw [hre'] at h0
                  simp at h0
                  simp [rowW, h0]
              have k0 := (hxr.cellAt 0 (by omega)).trans hb0
              obtain ⟨r, hr⟩ : ∃ r, r = accD d s := ⟨_, rfl⟩
              rw [← hr] at k0
              have q2 := hSq'.cell (v := .slice a2 m c2) 2 1 rfl rfl
              have HSa2 := Lib.hid ((hSq'.alloc_ (.cells #[.bool r] 4)).drew)
              have q3 := (hSq'.alloc_ (.cells #[.bool r] 4)).cell (v := .slice a2 m c2) 2 1 rfl rfl
              have hreI : (0 : Int) < re.length := by omega
              have HSq := Lib.hid hSq'
              have Hhwq := Lib.hid hwq; clear hwq
              have Hhr := Lib.hid hr; clear hr
              clear hSq hSq' y1 y2 e0 HS6 hcs hxr hxl hb0
              go_region_law (first
                | (refine step_append_lies _ (by rfl) _ _ _ (by rfl) w.heap.size 4 k0' (.bool false) 1 1 Try.underlying24 Hhk'.out Hhx0.out Hhx1.out Hhx2.out (by rfl) (by omega) (.slice a2 m c2) m (boolCells (G.ends.take m)) (by rfl) (HSa2.out.row 5 rfl) ⟨wq.heap.size, 0, none⟩ 1 1 [.bool r] (by rfl) (by rfl) (World.news_of_block (show (wq.alloc (.cells #[.bool r] 4)).drew.heap[wq.heap.size]? = _ from heap_alloc_new wq _)) one_bl (by omega) (by unfold maxLen; omega) (by omega) HSa2.out.size (wq.heap.size + 1) (by simp) ?_; intro g7 c7 w7 hown7 hgrow7 hat7 hlt7; have HS7 := Lib.hid (HSa2.out.app 5 rfl hown7 hgrow7 (by have h := hat7; simpa using h)); have y1 := HS7.out.cell (v := .slice a2 m c2) 2 1 rfl rfl; have y2 := HS7.out.fr 2 1 rfl; clear hown7 hgrow7 hat7))
              all_goals
                go_wp2
                go_roundw
                case rel =>
                  refine ⟨m + 1, c6, c7, some ⟨g6, 0, none⟩, some ⟨g7, 0, none⟩, us ++ [.slice (some ⟨g3, 0, none⟩) 3 c3], by go_num, by omega, ?_⟩
                  rw [Hgt2.out, boolC_snoc, ← Hhr.out]
                  exact HS7.out.set 2 rfl 1 (.slice (some ⟨g7, 0, none⟩) (m + 1) c7)
                case measure => simp [intOf]; omega
        · obtain rfl : m = k := by omega
          have hn1 : G.next.take m = G.next := List.take_of_length_le (by rw [Hhgl.out.1]; exact Nat.le_refl _)
          have hn2 : G.ends.take m = G.ends := List.take_of_length_le (by rw [Hhgl.out.2]; exact Nat.le_refl _)
          rw [hn1, hn2] at hS
          have d0 := hS.cell (v := .slice a1 m c1) 2 0 rfl rfl
          have d1 := hS.cell (v := .slice a2 m c2) 2 1 rfl rfl
          have f0 := hS.fr 1 0 rfl
          have f1 := hS.fr 1 1 rfl
          have k0 := hS.cell (v := .slice none 0 0) 1 0 rfl rfl
          have k1 := hS.cell (v := .slice none 0 0) 1 1 rfl rfl
          have HhS := Lib.hid hS; clear hS
          clear hn1 hn2
          go_wp2
          have hq := (HhS.out.set 1 rfl 0 (.slice a1 m c1)).set 1 rfl 1 (.slice a2 m c2)
          have q0 := hq.cell (v := .slice a1 m c1) 1 0 rfl rfl
          have q1 := hq.cell (v := .slice a2 m c2) 1 1 rfl rfl
          refine bodyPost_ret (v := .agg #[.slice a1 m c1, .slice a2 m c2]) (by simp [results, Try.results140, go_sem, q0, q1]) rfl ?_
          exact ⟨a1, c1, a2, c2, us, rfl, hq.pick [4, 5] (by decide)⟩
end Go.Proofs.Ythhbjkgchabfmaa
