/-
  The walk over the reference's guess: l23Guess.
  Conditions: the language is a valid automaton; the starts are no longer than their places; the first rest is the empty word; all reads as such.
-/
import Derived.Test.YtclhcfmlkfiidaaLs
namespace Go.Proofs.Ytclhcfmlkfiidaa
open Go.RowKit

theorem Try.infoBoolsL : (Try.prog.info? 23).map (fun i => (i.zero, i.size, i.bytes)) = some (some (.slice none 0 0), 1, 24) := by kernel_rfl
theorem key_take (d : DfaD) (re st : List (List Nat)) {k : Nat} (hk : k < st.length) : ((st.map (rowW d re)).take (k + 1)).map boolCells = ((st.map (rowW d re)).take k).map boolCells ++ [boolCells (rowW d re (st.getD k []))] := by
  rw [List.take_succ_eq_append_getElem (by rw [List.length_map]; exact hk), List.map_append]
  simp [hk]
set_option maxRecDepth 100000 in
set_option maxHeartbeats 8000000 in
theorem l23Guess_any (d : DfaD) (st re : List (List Nat)) (dv sv rv : Value) (w : World) (hd : dfaOk d.next d.ends = true) (hst : LOk st) (hsl : st.length ≤ 1000) (hre : okWs re) (hrl : re.length ≤ 1000) (hr0 : re.head? = some []) (h : DfaR 0 w dv d) (hs : Strs 0 w sv st) (hr : Strs 0 w rv re) :
    Calls Try.prog 87 #[dv, sv, rv] w fun e w' => RGuess (guessW d st re) st.length w e w' := by
  have HD := Lib.hid h
  have HR := Lib.hid hr
  obtain ⟨v1, v2, rfl, q1, q2⟩ := h
  obtain ⟨av, cs, rfl, hcs1, hcs2, hsc⟩ := hs.form
  have hok := hst.okWs hsl
  have hre0 : 0 < re.length := by
    cases hre' : re with
    | nil => rw [hre'] at hr0; simp at hr0
    | cons => simp
  obtain ⟨KM, hKM⟩ : ∃ KM, KM = st.map (rowW d re) := ⟨_, rfl⟩
  obtain ⟨n, hn⟩ : ∃ n, n = st.length := ⟨_, rfl⟩
  have hKl : KM.length = n := by rw [hKM, hn]; simp
  obtain ⟨G, hG⟩ : ∃ G, G = guessW d st re := ⟨_, rfl⟩
  have hgt := fun (k : Nat) (hk : k < st.length) => guess_take (d := d) (re := re) hk
  have hgl := guess_len d st re
  rw [← hG] at hgt hgl
  rw [← hn] at hgt hgl hcs1 hsc hsl
  rw [← hG, ← hn]
  have hrow := fun (x : List Nat) (hx : isW x) (hxl : x.length ≤ 400000) (w' : World) (hb : Below w.heap.size w w') => l23Row_any d re x (.agg #[v1, v2]) rv w' hd hre (by omega) hx hxl (HD.out.below hb) (HR.out.below hb)
  have hS0 := ((((St.start w).alloc _ rfl #[v1, v2] 32).alloc (w.heap.size + 1) (by simp) #[.slice none 0 0, .slice none 0 0] 32).alloc (w.heap.size + 1 + 1) (by simp) #[.slice none 0 0, .slice none 0 0] 32).alloc (w.heap.size + 1 + 1 + 1) (by simp) #[] 23
  have hS1 := (hS0.boxrow 3 0 1 [] rfl rfl (Nat.zero_le _)).norows 3 rfl 4
  obtain ⟨i0, hi, hz0, hz1, hz2⟩ := info_parts Try.infoInt
  obtain ⟨j0, hj, hy0, hy1, hy2⟩ := info_parts Try.infoInts
  obtain ⟨k0', hk', hx0, hx1, hx2⟩ := info_parts Try.infoBool
  obtain ⟨b0, hbi, hb0, hb1, hb2⟩ := info_parts Try.infoBoolsL
  have Hrow := Lib.hid hrow
  have Hhd := Lib.hid hd; clear hd
  have Hhst := Lib.hid hst; clear hst
  have Hhok := Lib.hid hok; clear hok
  have Hhre := Lib.hid hre; clear hre
  have Hhr0 := Lib.hid hr0; clear hr0
  have Hhsc := Lib.hid hsc; clear hsc
  have HhKM := Lib.hid hKM; clear hKM
  have Hhn := Lib.hid hn; clear hn
  have HhKl := Lib.hid hKl; clear hKl
  have HhG := Lib.hid hG; clear hG
  have Hhgt := Lib.hid hgt; clear hgt
  have Hhgl := Lib.hid hgl; clear hgl
  have HhS1 := Lib.hid hS1; clear hS1
  have Hhi := Lib.hid hi; clear hi
  have Hhz0 := Lib.hid hz0; clear hz0
  have Hhz1 := Lib.hid hz1; clear hz1
  have Hhz2 := Lib.hid hz2; clear hz2
  have Hhj := Lib.hid hj; clear hj
  have Hhy0 := Lib.hid hy0; clear hy0
  have Hhy1 := Lib.hid hy1; clear hy1
  have Hhy2 := Lib.hid hy2; clear hy2
  have Hhk' := Lib.hid hk'; clear hk'
  have Hhx0 := Lib.hid hx0; clear hx0
  have Hhx1 := Lib.hid hx1; clear hx1
  have Hhx2 := Lib.hid hx2; clear hx2
  have Hhbi := Lib.hid hbi; clear hbi
  have Hhb0 := Lib.hid hb0; clear hb0
  have Hhb1 := Lib.hid hb1; clear hb1
  have Hhb2 := Lib.hid hb2; clear hb2
  clear hS0 hrow hs hr q1 q2
  go_enter Try.func87, Try.ntmps87
  go_wp2
  go_loopw [8, 9] (fun rw i wr => ∃ (k g c : Nat) (vs : List Value), i = .int .i64 k ∧ rw = .slice (some ⟨g, 0, none⟩) k c ∧ k ≤ n ∧ St w wr [Ent.box w.heap.size #[v1, v2] 32, Ent.box (w.heap.size + 1) #[.slice none 0 0, .slice none 0 0] 32, Ent.box (w.heap.size + 1 + 1) #[.slice none 0 0, .slice none 0 0] 32,
      Ent.rows 23 4 (.slice (some ⟨g, 0, none⟩) k c) vs ((KM.take k).map boolCells)])
    (fun _ i _ => n - (intOf i).toNat)
  case atStart => exact ⟨0, _, _, [], rfl, rfl, Nat.zero_le _, HhS1.out⟩
  case round =>
    obtain ⟨k, g, c, vs, rfl, rfl, hk, hS⟩ := hrel
    obtain ⟨wp, hwp⟩ : ∃ wp : World, wp = wr := ⟨_, rfl⟩
    subst hwp
    by_cases hlt : k < n
    · obtain ⟨b1, o1, rfl, hb1l, hc⟩ := Hhsc.out (by omega)
      have k1 := (bcell hS.bel b1 _ hb1l).trans (hc k hlt)
      have hsk := Hhok.out _ (memD (d := []) (show k < st.length by rw [← Hhn.out]; exact hlt))
      have hKt := key_take d re st (show k < st.length by rw [← Hhn.out]; exact hlt)
      rw [← HhKM.out] at hKt
      obtain ⟨s, hs⟩ : ∃ s, s = st.getD k [] := ⟨_, rfl⟩
      rw [← hs] at k1 hsk hKt
      have hlm : ((KM.take k).map boolCells).length = k := by rw [List.length_map, List.length_take, HhKl.out]; omega
      have e0 := hS.cell (v := v1) 0 0 rfl rfl
      have e1 := hS.cell (v := v2) 0 1 rfl rfl
      have l0 := (hS.boxlt 0 rfl).2
      have l1 := Nat.lt_of_lt_of_le hb1l hS.size
      have Hk := Lib.hid (fun (w' : World) (h : Below wp.heap.size wp w') => (show w'.cell? ⟨w.heap.size, 0, none⟩ = some v1 ∧ w'.cell? ⟨w.heap.size, 1, none⟩ = some v2 ∧ w'.cell? ⟨b1, o1 + k, none⟩ = some (.string (wdB s)) from ⟨(bcell h _ _ l0).trans e0, (bcell h _ _ l0).trans e1, (bcell h _ _ l1).trans k1⟩))
      have HR1 := Lib.hid (Hrow.out s hsk.1 (by have := hsk.2; omega) wp.drew hS.bel.drew)
      have hkn : (k : Int) < n := by omega
      have Hhs := Lib.hid hs; clear hs
      have Hhsk := Lib.hid hsk; clear hsk
      have HhKt := Lib.hid hKt; clear hKt
      have Hhlm := Lib.hid hlm; clear hlm
      have HhS := Lib.hid hS; clear hS
      clear hc
      go_wp2
      go_region_held3 (fun w' => w'.cell? ⟨w.heap.size, 0, none⟩ = some v1 ∧ w'.cell? ⟨w.heap.size, 1, none⟩ = some v2 ∧ w'.cell? ⟨b1, o1 + k, none⟩ = some (.string (wdB s)))
        (first | go_keep | exact Hk.out _ Hq1.out | exact Hk.out _ Hq2.out | exact Hw7.out)
        (first
          | (go_at_call 85; (with_reducible refine HR1.out.mono ?_); rintro e u ⟨ax, cx, rfl, hSx⟩; have Hq1 : Hid (Below wp.heap.size wp u) := Lib.hid (((Below.refl _ _).drew).trans hSx.bel); have HSa := Lib.hid (((HhS.out.drew).cat hSx).alloc_ (.cells #[.slice ax re.length cx] 23)); have Hq2 := Lib.hid (Hq1.out.alloc Hq1.out.size (.cells #[.slice ax re.length cx] 23)); have HRw := Lib.hid (show _ from (HSa.out.rows 3 rfl).1); rw [Hhlm.out] at HRw; clear hSx)
          | (refine step_append_lies _ (by rfl) _ _ _ (by rfl) w.heap.size 23 b0 (.slice none 0 0) 1 24 Try.underlying86 Hhbi.out Hhb0.out Hhb1.out Hhb2.out (by rfl) (by omega) (.slice (some ⟨g, 0, none⟩) k c) k vs (by rfl) HRw.out ⟨u.heap.size, 0, none⟩ 1 1 [.slice ax re.length cx] (by rfl) (by rfl) (World.news_of_block (heap_alloc_new u _)) one_sl (by omega) (by unfold maxLen; omega) (by omega) HSa.out.size (u.heap.size + 1) (by simp) ?_; intro g7 c7 w7 hown7 hgrow7 hat7 hlt7; have HS7 := Lib.hid (HSa.out.snoc 3 4 (by decide) rfl rfl (by decide) hgrow7 (by rw [Hhlm.out]; exact hown7) (hat_of (by rw [World.size_alloc]; exact hat7))); have Hw7 : Hid (w7.cell? ⟨w.heap.size, 0, none⟩ = some v1 ∧ w7.cell? ⟨w.heap.size, 1, none⟩ = some v2 ∧ w7.cell? ⟨b1, o1 + k, none⟩ = some (.string (wdB s))) := Lib.hid ⟨HS7.out.cell 0 0 rfl rfl, HS7.out.cell 0 1 rfl rfl, (bcell HS7.out.bel b1 _ hb1l).trans ((bcell HhS.out.bel b1 _ hb1l).symm.trans k1)⟩; clear hown7 hgrow7 hat7))
      go_wp2
      go_roundw
      case rel =>
        refine ⟨k + 1, g7, c7, vs ++ [.slice ax re.length cx], by go_num, rfl, by omega, ?_⟩
        rw [HhKt.out]
        exact HS7.out.pick [0, 1, 2, 3] (by decide)
      case measure => simp [intOf]; omega
    · obtain rfl : k = n := by omega
      have hKa : KM.take k = KM := List.take_of_length_le (by rw [HhKl.out]; exact Nat.le_refl _)
      rw [hKa] at hS
      have hS2 := ((hS.nilRow 44 1).norows 4 rfl 3).nilRow 4 1
      have hlK : (KM.map boolCells).length = k := by rw [List.length_map]; exact HhKl.out
      have HhS2 := Lib.hid hS2; clear hS2
      have HhlK := Lib.hid hlK; clear hlK
      clear hKa hS hlt hk
      go_wp2
      go_loopw [10] (fun i wr => ∃ (m c1 c2 : Nat) (a1 a2 : Option Addr) (us : List Value), i = .int .i64 m ∧ m ≤ k ∧ St w wr [Ent.box w.heap.size #[v1, v2] 32, Ent.box (w.heap.size + 1) #[.slice none 0 0, .slice none 0 0] 32, Ent.box (w.heap.size + 1 + 1) #[.slice a1 m c1, .slice a2 m c2] 32,
          Ent.rows 23 4 (.slice (some ⟨g, 0, none⟩) k c) vs (KM.map boolCells), Ent.rows 44 3 (.slice a1 m c1) us ((G.next.take m).map intCells), Ent.row 4 1 (.slice a2 m c2) m (boolCells (G.ends.take m))])
        (fun i _ => k - (intOf i).toNat)
      case atStart => exact ⟨0, 0, 0, none, none, [], rfl, Nat.zero_le _, HhS2.out⟩
      case round =>
        obtain ⟨m, c1, c2, a1, a2, us, rfl, hm, hS⟩ := hrel
        obtain ⟨wo, hwo⟩ : ∃ wo : World, wo = wr := ⟨_, rfl⟩
        subst hwo
        by_cases hlt : m < k
        · obtain ⟨b1, o1, rfl, hb1l, hc⟩ := Hhsc.out (by omega)
          have hms : m < st.length := by rw [← Hhn.out]; exact hlt
          have hsk := Hhok.out _ (memD (d := []) hms)
          obtain ⟨gt1, gt2⟩ := Hhgt.out m hlt
          have hcell := hc m hlt
          obtain ⟨s, hs⟩ : ∃ s, s = st.getD m [] := ⟨_, rfl⟩
          rw [← hs] at hsk gt1 gt2 hcell
          obtain ⟨R, hR⟩ : ∃ R, R = gRow d st re s := ⟨_, rfl⟩
          rw [← hR] at gt1
          have hRl : R.length = 3 := by rw [hR]; exact gRow_len _ _ _ _
          have hkn : (m : Int) < k := by omega
          have hSn := (hS.alloc _ rfl #[] 3).boxrow 6 0 1 [] rfl rfl (Nat.zero_le _)
          have HhS := Lib.hid hS; clear hS
          have HhSn := Lib.hid hSn; clear hSn
          have Hhs := Lib.hid hs; clear hs
          have Hhsk := Lib.hid hsk; clear hsk
          have Hgt1 := Lib.hid gt1; clear gt1
          have Hgt2 := Lib.hid gt2; clear gt2
          have HhR := Lib.hid hR; clear hR
          have HhRl := Lib.hid hRl; clear hRl
          clear hc
          go_wp2
          go_loopw [11, 12] (fun rv' i wi => ∃ (l g3 c3 : Nat), i = .int .i64 l ∧ rv' = .slice (some ⟨g3, 0, none⟩) l c3 ∧ l ≤ 3 ∧ St w wi [Ent.box w.heap.size #[v1, v2] 32, Ent.box (w.heap.size + 1) #[.slice none 0 0, .slice none 0 0] 32, Ent.box (w.heap.size + 1 + 1) #[.slice a1 m c1, .slice a2 m c2] 32,
              Ent.rows 23 4 (.slice (some ⟨g, 0, none⟩) k c) vs (KM.map boolCells), Ent.rows 44 3 (.slice a1 m c1) us ((G.next.take m).map intCells), Ent.row 4 1 (.slice a2 m c2) m (boolCells (G.ends.take m)), Ent.row 3 1 (.slice (some ⟨g3, 0, none⟩) l c3) l (intCells (R.take l))])
            (fun _ i _ => 3 - (intOf i).toNat)
          case atStart => exact ⟨0, _, _, rfl, rfl, by omega, HhSn.out⟩
          case round =>
            obtain ⟨l, g3, c3, rfl, rfl, hl3, hSi⟩ := hrel
            obtain ⟨wp, hwp⟩ : ∃ wp : World, wp = wr := ⟨_, rfl⟩
            subst hwp
            by_cases hl : l < 3
            · obtain ⟨hadd, hnlt⟩ := add_words s [l] (by have := Hhsk.out.2; omega) (by simp)
              have k1 := (bcell hSi.bel b1 _ hb1l).trans hcell
              have hgt := gRow_take (d := d) (st := st) (re := re) (s := s) hl
              rw [← HhR.out, ← HhKM.out] at hgt
              have e0 := hSi.cell (v := v1) 0 0 rfl rfl
              have e1 := hSi.cell (v := v2) 0 1 rfl rfl
              have hSA0 := hSi.alloc_ (.cells #[.int .u8 (97 + (l : Int))] 5)
              have f0 := hSA0.cell (v := v1) 0 0 rfl rfl
              have f1 := hSA0.cell (v := v2) 0 1 rfl rfl
              have fk := (bcell hSA0.bel b1 _ hb1l).trans hcell
              have hcv := conv_letter l hl (wp.alloc (.cells #[.int .u8 (97 + (l : Int))] 5)).drew wp.heap.size 1 (alloc_cell _ _ _ 0)
              have hw8 := wrap8_letter l hl
              have hw9 : IntKind.i64.wrap (97 + (l : Int)) = 97 + (l : Int) := IntWalk.i64_in _ (by omega)
              have HA : Hid (Below wp.heap.size wp (wp.alloc (.cells #[.int .u8 (97 + (l : Int))] 5)).drew) := Lib.hid ((Below.refl _ _).alloc (Nat.le_refl _) _).drew
              have HSA : Hid (St w (wp.alloc (.cells #[.int .u8 (97 + (l : Int))] 5)).drew _) := Lib.hid (hSi.call HA.out)
              have HR1 := Lib.hid (Hrow.out (s ++ [l]) (isW_append Hhsk.out.1 (isW_one hl)) (by rw [List.length_append]; have := Hhsk.out.2; simp; omega) (wp.alloc (.cells #[.int .u8 (97 + (l : Int))] 5)).drew HSA.out.bel)
              have hfin := fun (w' : World) (v' : Value) (h1 : BoolSS 0 w' (.slice (some ⟨g, 0, none⟩) k c) KM) (h2 : Bools 0 w' v' (rowW d re (s ++ [l]))) => l9Find_any KM (rowW d re (s ++ [l])) re.length _ v' w' (by intro y hy; rw [HhKM.out] at hy; obtain ⟨q, -, rfl⟩ := List.mem_map.1 hy; exact rowW_len _ _ _) (rowW_len _ _ _) (by rw [HhKl.out]; omega) h1 h2
              obtain ⟨p, hp⟩ : ∃ p, p = findB KM (rowW d re (s ++ [l])) := ⟨_, rfl⟩
              rw [← hp] at hgt hfin
              have Hfin := Lib.hid hfin
              have hl4 : (l : Int) < 3 := by omega
              have Hhp := Lib.hid hp; clear hp
              have Hhgt := Lib.hid hgt; clear hgt
              have HhSi := Lib.hid hSi; clear hSi
              clear hfin hSA0
              go_wp2
              go_region_law (first
                  | (go_simp; go_at_call 85; refine HR1.out.mono ?_; rintro e u ⟨ax, cx, rfl, hSx⟩; have HSu := Lib.hid (HSA.out.cat hSx); clear hSx)
                  | (go_simp; go_at_call 86; refine (Hfin.out _ _ (HSu.out.boolSS 3 rfl) (HSu.out.bools 7 rfl)).mono ?_; rintro e u2 ⟨rfl, hb2⟩; have HSa := Lib.hid ((HSu.out.call hb2).alloc_ (.cells #[.int .i64 p] 3)); clear hb2)
                  | (refine step_append_lies _ (by rfl) _ _ _ (by rfl) w.heap.size 3 i0 (.int .i64 0) 1 8 Try.underlying44 Hhi.out Hhz0.out Hhz1.out Hhz2.out (by rfl) (by omega) (.slice (some ⟨g3, 0, none⟩) l c3) l (intCells (R.take l)) (by rfl) (HSa.out.row 6 rfl) ⟨u2.heap.size, 0, none⟩ 1 1 [.int .i64 p] (by rfl) (by rfl) (World.news_of_block (heap_alloc_new u2 _)) one_i (by omega) (by unfold maxLen; omega) (by omega) HSa.out.size (u2.heap.size + 1) (by simp) ?_; intro g7 c7 w7 hown7 hgrow7 hat7 hlt7; have HS7 := Lib.hid (HSa.out.app 6 rfl hown7 hgrow7 (by rw [World.size_alloc]; exact hat7)); clear hown7 hgrow7 hat7))
              all_goals
                go_wp2
                refine ⟨⟨l + 1, g7, c7, by go_num, rfl, by omega, ?_⟩, by simp [intOf]; omega⟩
                rw [Hhgt.out, intC_snoc]
                exact HS7.out.pick [0, 1, 2, 3, 4, 5, 6] (by decide)
            · obtain rfl : l = 3 := by omega
              have hR3 : R.take 3 = R := List.take_of_length_le (by rw [HhRl.out]; exact Nat.le_refl _)
              rw [hR3] at hSi
              have hlm : ((G.next.take m).map intCells).length = m := by rw [List.length_map, List.length_take]; have := Hhgl.out.1; omega
              have hSa := hSi.alloc_ (.cells #[.slice (some ⟨g3, 0, none⟩) 3 c3] 44)
              have hRw := (hSa.rows 4 rfl).1
              rw [hlm] at hRw
              have e0 := hSi.cell (v := .slice a1 m c1) 2 0 rfl rfl
              have HhR3 := Lib.hid hR3; clear hR3
              have Hhlm := Lib.hid hlm; clear hlm
              have HhSi := Lib.hid hSi; clear hSi
              have HhSa := Lib.hid hSa; clear hSa
              have HhRw := Lib.hid hRw; clear hRw
              clear hcell
              go_wp2_with (at_builtin; refine wpList_append_lies _ rfl _ _ _ rfl _ 44 j0 (.slice none 0 0) 1 24 Try.underlying22 Hhj.out Hhy0.out Hhy1.out Hhy2.out rfl (by omega) _ m _ rfl HhRw.out ⟨wp.heap.size, 0, none⟩ 1 1 [.slice (some ⟨g3, 0, none⟩) 3 c3] rfl rfl (World.news_of_block (heap_alloc_new wp _)) one_sl (by omega) (by unfold maxLen; omega) (by omega) HhSa.out.size _ rfl ?_; intro g6 c6 w6 hown6 hgrow6 hat6 hlt6; have HS6 := Lib.hid (HhSa.out.snoc 4 6 (by decide) rfl rfl (by decide) hgrow6 (by rw [Hhlm.out]; exact hown6) (hat_of hat6)); have y1 := HS6.out.cell (v := .slice a1 m c1) 2 0 rfl rfl; have y2 := HS6.out.fr 2 0 rfl; clear hown6 hgrow6 hat6 hlt6)
              have hSq := (HS6.out.set 2 rfl 0 (.slice (some ⟨g6, 0, none⟩) (m + 1) c6)).pick [0, 1, 2, 3, 4, 5] (by decide)
              obtain ⟨wq, hwq⟩ : ∃ wq, wq = w6.setCell ⟨w.heap.size + 1 + 1, 0, none⟩ (.slice (some ⟨g6, 0, none⟩) (m + 1) c6) := ⟨_, rfl⟩
              rw [← hwq] at hSq
              have hSq' : St w wq [Ent.box w.heap.size #[v1, v2] 32, Ent.box (w.heap.size + 1) #[.slice none 0 0, .slice none 0 0] 32, Ent.box (w.heap.size + 1 + 1) #[.slice (some ⟨g6, 0, none⟩) (m + 1) c6, .slice a2 m c2] 32,
                  Ent.rows 23 4 (.slice (some ⟨g, 0, none⟩) k c) vs (KM.map boolCells), Ent.rows 44 3 (.slice (some ⟨g6, 0, none⟩) (m + 1) c6) (us ++ [.slice (some ⟨g3, 0, none⟩) 3 c3]) ((G.next.take (m + 1)).map intCells), Ent.row 4 1 (.slice a2 m c2) m (boolCells (G.ends.take m))] := by
                rw [Hgt1.out, List.map_append]
                exact hSq
              rw [← hwq]
              have hcs : (KM.map boolCells).getD m [] = boolCells (rowW d re s) := by
                rw [HhKM.out, Hhs.out]
                simp [hms]
              obtain ⟨ax, cx, kc, hxr, hcx1, hcx2, hcp1, hcp2, hgl2⟩ := hSq'.rowAt 3 rfl HhlK.out hlt
              rw [hcs] at kc hxr hcx1
              have hxl : (boolCells (rowW d re s)).length = re.length := by simp [rowW_len]
              rw [hxl] at kc hxr hcx1
              obtain ⟨gx, cx', hvx, -, -⟩ := hxr.form hre0
              simp only [Value.slice.injEq] at hvx
              obtain ⟨rfl, -, rfl⟩ := hvx
              have hb0 : (boolCells (rowW d re s))[0]? = some (.bool (accD d s)) := by
                have h0 := Hhr0.out
                cases hre' : re with
                | nil => rw [hre'] at h0; simp at h0
                | cons x t =>
                  rw [hre'] at h0
                  simp at h0
                  simp [rowW, h0]
              have k0 := (hxr.cellAt 0 (by omega)).trans hb0
              obtain ⟨r, hr⟩ : ∃ r, r = accD d s := ⟨_, rfl⟩
              rw [← hr] at k0
              have q2 := hSq'.cell (v := .slice a2 m c2) 2 1 rfl rfl
              have HSa2 := Lib.hid ((hSq'.alloc_ (.cells #[.bool r] 4)).drew)
              have q3 := (hSq'.alloc_ (.cells #[.bool r] 4)).cell (v := .slice a2 m c2) 2 1 rfl rfl
              have hreI : (0 : Int) < re.length := by omega
              have HSq := Lib.hid hSq'
              have Hhwq := Lib.hid hwq; clear hwq
              have Hhr := Lib.hid hr; clear hr
              clear hSq hSq' y1 y2 e0 HS6 hcs hxr hxl hb0
              go_region_law (first
                | (refine step_append_lies _ (by rfl) _ _ _ (by rfl) w.heap.size 4 k0' (.bool false) 1 1 Try.underlying23 Hhk'.out Hhx0.out Hhx1.out Hhx2.out (by rfl) (by omega) (.slice a2 m c2) m (boolCells (G.ends.take m)) (by rfl) (HSa2.out.row 5 rfl) ⟨wq.heap.size, 0, none⟩ 1 1 [.bool r] (by rfl) (by rfl) (World.news_of_block (show (wq.alloc (.cells #[.bool r] 4)).drew.heap[wq.heap.size]? = _ from heap_alloc_new wq _)) one_bl (by omega) (by unfold maxLen; omega) (by omega) HSa2.out.size (wq.heap.size + 1) (by simp) ?_; intro g7 c7 w7 hown7 hgrow7 hat7 hlt7; have HS7 := Lib.hid (HSa2.out.app 5 rfl hown7 hgrow7 (by have h := hat7; simpa using h)); have y1 := HS7.out.cell (v := .slice a2 m c2) 2 1 rfl rfl; have y2 := HS7.out.fr 2 1 rfl; clear hown7 hgrow7 hat7))
              all_goals
                go_wp2
                go_roundw
                case rel =>
                  refine ⟨m + 1, c6, c7, some ⟨g6, 0, none⟩, some ⟨g7, 0, none⟩, us ++ [.slice (some ⟨g3, 0, none⟩) 3 c3], by go_num, by omega, ?_⟩
                  rw [Hgt2.out, boolC_snoc, ← Hhr.out]
                  exact HS7.out.set 2 rfl 1 (.slice (some ⟨g7, 0, none⟩) (m + 1) c7)
                case measure => simp [intOf]; omega
        · obtain rfl : m = k := by omega
          have hn1 : G.next.take m = G.next := List.take_of_length_le (by rw [Hhgl.out.1]; exact Nat.le_refl _)
          have hn2 : G.ends.take m = G.ends := List.take_of_length_le (by rw [Hhgl.out.2]; exact Nat.le_refl _)
          rw [hn1, hn2] at hS
          have d0 := hS.cell (v := .slice a1 m c1) 2 0 rfl rfl
          have d1 := hS.cell (v := .slice a2 m c2) 2 1 rfl rfl
          have f0 := hS.fr 1 0 rfl
          have f1 := hS.fr 1 1 rfl
          have k0 := hS.cell (v := .slice none 0 0) 1 0 rfl rfl
          have k1 := hS.cell (v := .slice none 0 0) 1 1 rfl rfl
          have HhS := Lib.hid hS; clear hS
          clear hn1 hn2
          go_wp2
          have hq := (HhS.out.set 1 rfl 0 (.slice a1 m c1)).set 1 rfl 1 (.slice a2 m c2)
          have q0 := hq.cell (v := .slice a1 m c1) 1 0 rfl rfl
          have q1 := hq.cell (v := .slice a2 m c2) 1 1 rfl rfl
          refine bodyPost_ret (v := .agg #[.slice a1 m c1, .slice a2 m c2]) (by simp [results, Try.results87, go_sem, q0, q1]) rfl ?_
          exact ⟨a1, c1, a2, c2, us, rfl, hq.pick [4, 5] (by decide)⟩
end Go.Proofs.Ytclhcfmlkfiidaa
