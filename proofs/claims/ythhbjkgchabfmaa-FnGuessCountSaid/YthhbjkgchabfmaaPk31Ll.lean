/-
  The walk over the reference's learner as a whole: l23Learn.
  Conditions: the language is a valid automaton and reads as such.
-/
import Derived.Test.YthhbjkgchabfmaaPk29Lq
import Derived.Test.YthhbjkgchabfmaaPk30L16
namespace Go.Proofs.Ythhbjkgchabfmaa
open Go.RowKit
theorem l16D_any (a b : DfaD) (v1 v2 : Value) (w : World) (hda : dfaOk a.next a.ends = true) (hdb : dfaOk b.next b.ends = true) (h1 : DfaR 0 w v1 a) (h2 : DfaR 0 w v2 b) :
    Calls Try.prog 141 #[v1, v2, .int .i64 3] w fun e w' => e = wordRes (hitP a b) ∧ Below w.heap.size w w' := l16FirstK_any mostP rfl a b v1 v2 w hda hdb h1 h2
set_option maxRecDepth 100000 in
set_option maxHeartbeats 8000000 in
theorem l23Learn_any (d : DfaD) (J : Nat) (v : Value) (w : World) (hd : dfaOk d.next d.ends = true) (hno : (hitD d (gueW d J)).isSome = false) (hyes : ∀ i, i < J → (hitD d (gueW d i)).isSome = true) (h : DfaR 0 w v d) :
    Calls Try.prog 98 #[v] w fun e w' => RLearn d J w e w' := by
  obtain ⟨vn, ve, rfl, q1, q2⟩ := h
  have hl : DfaR 0 w (.agg #[vn, ve]) d := ⟨_, _, rfl, q1, q2⟩
  obtain ⟨i0, hi, hz0, hz1, hz2⟩ := info_parts Try.infoDfa
  have hS1 := (((((St.start w).alloc _ rfl #[vn, ve] 26).alloc (w.heap.size + 1) (by simp) #[.string { data := #[] }] 9).alloc (w.heap.size + 1 + 1) (by simp) #[.string { data := #[] }] 9)).alloc (w.heap.size + 1 + 1 + 1) (by simp) #[] 26
  have hS2 := ((hS1.boxrow 1 1 1 [.string { data := #[] }] rfl rfl (by unfold maxLen; omega)).boxrow 2 1 1 [.string { data := #[] }] rfl rfl (by unfold maxLen; omega)).boxrow 3 0 2 [] rfl rfl (Nat.zero_le _)
  have hS4 : St w _ [Ent.box w.heap.size #[vn, ve] 26, Ent.row 9 1 (.slice (some ⟨w.heap.size + 1, 0, none⟩) 1 1) 1 [.string { data := #[] }], Ent.row 9 1 (.slice (some ⟨w.heap.size + 1 + 1, 0, none⟩) 1 1) 1 [.string { data := #[] }], Ent.row 26 2 (.slice (some ⟨w.heap.size + 1 + 1 + 1, 0, none⟩) 0 0) 0 [], Ent.nil] := (hS2.add (Below.refl _ _) Ent.nil trivial (fun k hk => hk.elim))
  have Hhd := Lib.hid hd; clear hd
  have Hhno := Lib.hid hno; clear hno
  have Hhyes := Lib.hid hyes; clear hyes
  have Hhl := Lib.hid hl; clear hl
  have Hhi := Lib.hid hi; clear hi
  have Hhz0 := Lib.hid hz0; clear hz0
  have Hhz1 := Lib.hid hz1; clear hz1
  have Hhz2 := Lib.hid hz2; clear hz2
  have HhS4 := Lib.hid hS4; clear hS4
  clear hS1 hS2 q1 q2
  go_enter Try.func98, Try.ntmps98
  go_wp2
  go_loopg [3, 4, 5] (J + 1) (fun gg sv rv gv wr => ∃ (j n m gb sb rb : Nat) (sc rc c : Nat) (vals : List (Value × Value)) (X : Ent), gg = J + 1 - j ∧ sv = .slice (some ⟨sb, 0, none⟩) n sc ∧ rv = .slice (some ⟨rb, 0, none⟩) m rc ∧ gv = .slice (some ⟨gb, 0, none⟩) j c ∧ j ≤ J ∧ GMem X vals ((List.range j).map (gueW d)) ∧
      St w wr [Ent.box w.heap.size #[vn, ve] 26, Ent.row 9 1 (.slice (some ⟨sb, 0, none⟩) n sc) n (wdCells (preW d j)), Ent.row 9 1 (.slice (some ⟨rb, 0, none⟩) m rc) m (wdCells (resW d j)), Ent.row 26 2 (.slice (some ⟨gb, 0, none⟩) j c) j (vals.flatMap valCells), X])
  case atStart => exact ⟨0, 1, 1, _, _, _, _, _, _, [], Ent.nil, rfl, rfl, rfl, rfl, Nat.zero_le _, GMem.nil _, HhS4.out⟩
  case round =>
    obtain ⟨j, n, m, gb, sb, rb, sc, rc, c, vals, X, rfl, rfl, rfl, rfl, hj, hG, hS⟩ := hrel
    have hyj : ∀ i, i < j → (hitD d (gueW d i)).isSome = true := fun i hi => Hhyes.out i (by omega)
    have hT := LTab.at Hhd.out j hyj
    have hlt40 := tab_lt Hhd.out (hitD_ok d) (j := j) hyj
    have hcl := closeW_pre d j
    have hgok := guess_ok Hhd.out hT.inv
    have hlen := dfaOk_len Hhd.out
    obtain ⟨re, hre⟩ : ∃ re, re = resW d j := ⟨_, rfl⟩
    obtain ⟨st, hst⟩ : ∃ st, st = preW d j := ⟨_, rfl⟩
    rw [← hre, ← hst] at hS
    have hpre := hT.pre
    have hnd := hT.nd
    have hok := hT.re
    have hrl := hT.rl
    rw [← hst] at hpre
    rw [← hre, ← hst] at hnd
    rw [← hre] at hok hrl
    have hK : ∀ K, (kat (rowW d re) st K).length ≤ 40 := fun K => by
      have := rows_le Hhd.out (LOk.kat hpre K).1 (kat_nodup hnd K)
      omega
    have hP : ∀ k c, k < (kat (rowW d re) st k).length → c ≤ 3 → (kpart (rowW d re) st k c).length ≤ 40 := fun k c h1 h2 => by
      have := rows_le Hhd.out (LOk.part hpre h1 h2).1 (kpart_nodup hnd k c)
      omega
    obtain rfl : m = re.length := by have := (hS.row 2 rfl).1; simp at this; omega
    have hrow := fun (x : List Nat) (hx : isW x) (hxl : x.length ≤ 400000) (w' : World) (h' : St w w' [Ent.row 9 1 (.slice (some ⟨rb, 0, none⟩) re.length rc) re.length (wdCells re)]) => l23Row_any d re x (.agg #[vn, ve]) (.slice (some ⟨rb, 0, none⟩) re.length rc) w' Hhd.out hok (by omega) hx hxl (Hhl.out.below h'.bel) (strs_of_row (h'.row 0 rfl))
    have Hrow := Lib.hid hrow
    have HhG := Lib.hid hG; clear hG
    have HhT := Lib.hid hT; clear hT
    have Hhcl := Lib.hid hcl; clear hcl
    have Hhgok := Lib.hid hgok; clear hgok
    have Hhlen := Lib.hid hlen; clear hlen
    have Hhre := Lib.hid hre; clear hre
    have Hhst := Lib.hid hst; clear hst
    have Hhpre := Lib.hid hpre; clear hpre
    have Hhnd := Lib.hid hnd; clear hnd
    have Hhok := Lib.hid hok; clear hok
    have HhK := Lib.hid hK; clear hK
    have HhP := Lib.hid hP; clear hP
    have HhS := Lib.hid hS; clear hS
    have Hhyj := Lib.hid hyj; clear hyj
    clear hrow
    go_wp2
    go_loopw [3, 6] (fun sv i wr => ∃ (k n' sb sc : Nat), sv = .slice (some ⟨sb, 0, none⟩) n' sc ∧ i = .int .i64 k ∧ k ≤ (kat (rowW d re) st k).length ∧
        St w wr [Ent.box w.heap.size #[vn, ve] 26, Ent.row 9 1 (.slice (some ⟨sb, 0, none⟩) n' sc) n' (wdCells (kat (rowW d re) st k)), Ent.row 9 1 (.slice (some ⟨rb, 0, none⟩) re.length rc) re.length (wdCells re), Ent.row 26 2 (.slice (some ⟨gb, 0, none⟩) j c) j (vals.flatMap valCells), X])
      (fun _ i _ => 41 - (intOf i).toNat)
    case atStart => exact ⟨0, n, sb, sc, rfl, rfl, Nat.zero_le _, HhS.out⟩
    case round =>
      obtain ⟨k, n', sb, sc, rfl, rfl, hk, hS⟩ := hrel
      obtain ⟨wo, hwo⟩ : ∃ wo : World, wo = wr := ⟨_, rfl⟩
      subst hwo
      obtain ⟨S, hSS⟩ : ∃ S, S = kat (rowW d re) st k := ⟨_, rfl⟩
      have hK1 := HhK.out k
      have hSok := LOk.kat (key := rowW d re) Hhpre.out k
      rw [← hSS] at hk hS hK1 hSok
      obtain rfl : n' = S.length := by have := (hS.row 1 rfl).1; simp at this; omega
      obtain ⟨hcap1, hcap2⟩ := hS.rowcap 1 rfl
      by_cases hlt : k < S.length
      · have hlt2 : (k : Int) < S.length := by omega
        have hSn := ((hS.alloc _ rfl #[] 24).boxrow 5 0 1 [] rfl rfl (Nat.zero_le _)).norows 5 rfl 4
        obtain ⟨KM, hKM⟩ : ∃ KM, KM = S.map (rowW d re) := ⟨_, rfl⟩
        obtain ⟨b0, hbi, hb0, hb1, hb2⟩ := info_parts Try.infoBoolsL
        have HhS := Lib.hid hS; clear hS
        have HhSn := Lib.hid hSn; clear hSn
        have HhSS := Lib.hid hSS; clear hSS
        have HhSok := Lib.hid hSok; clear hSok
        have HhKM := Lib.hid hKM; clear hKM
        have Hhbi := Lib.hid hbi; clear hbi
        have Hhb0 := Lib.hid hb0; clear hb0
        have Hhb1 := Lib.hid hb1; clear hb1
        have Hhb2 := Lib.hid hb2; clear hb2
        go_wp2
        go_loopw [7, 8] (fun rw i wr => ∃ (l g c' : Nat) (vs : List Value), i = .int .i64 l ∧ rw = .slice (some ⟨g, 0, none⟩) l c' ∧ l ≤ S.length ∧ St w wr [Ent.box w.heap.size #[vn, ve] 26, Ent.row 9 1 (.slice (some ⟨sb, 0, none⟩) S.length sc) S.length (wdCells S), Ent.row 9 1 (.slice (some ⟨rb, 0, none⟩) re.length rc) re.length (wdCells re), Ent.row 26 2 (.slice (some ⟨gb, 0, none⟩) j c) j (vals.flatMap valCells), X,
            Ent.rows 24 4 (.slice (some ⟨g, 0, none⟩) l c') vs ((KM.take l).map boolCells)])
          (fun _ i _ => S.length - (intOf i).toNat)
        case atStart => exact ⟨0, _, _, [], rfl, rfl, Nat.zero_le _, HhSn.out⟩
        case round =>
          obtain ⟨l, g, c', vs, rfl, rfl, hl, hSi⟩ := hrel
          obtain ⟨wp, hwp⟩ : ∃ wp : World, wp = wr := ⟨_, rfl⟩
          subst hwp
          by_cases hlS : l < S.length
          · have hsk := HhSok.out.okWs (by omega) _ (memD (d := []) hlS)
            have hKt := key_take d re S hlS
            rw [← HhKM.out] at hKt
            obtain ⟨s, hs⟩ : ∃ s, s = S.getD l [] := ⟨_, rfl⟩
            have k1 := hSi.rcell (v := .string (wdB s)) 1 l rfl (by omega) (by rw [hs]; simp [wdCells, hlS])
            rw [← hs] at hsk hKt
            have hlm : ((KM.take l).map boolCells).length = l := by rw [List.length_map, List.length_take, HhKM.out, List.length_map]; omega
            have e0 := hSi.cell (v := vn) 0 0 rfl rfl
            have e1 := hSi.cell (v := ve) 0 1 rfl rfl
            have l0 := (hSi.boxlt 0 rfl).2
            have l1 := (hSi.rowlt 1 rfl).2
            have Hk := Lib.hid (fun (w' : World) (h : Below wp.heap.size wp w') => (show w'.cell? ⟨w.heap.size, 0, none⟩ = some vn ∧ w'.cell? ⟨w.heap.size, 1, none⟩ = some ve ∧ w'.cell? ⟨sb, l, none⟩ = some (.string (wdB s)) from ⟨(bcell h _ _ l0).trans e0, (bcell h _ _ l0).trans e1, (bcell h _ _ l1).trans k1⟩))
            have HR1 := Lib.hid (Hrow.out s hsk.1 (by have := hsk.2; omega) wp.drew (hSi.drew.pick [2] (by decide)))
            have hkn : (l : Int) < S.length := by omega
            have Hhs := Lib.hid hs; clear hs
            have Hhsk := Lib.hid hsk; clear hsk
            have HhKt := Lib.hid hKt; clear hKt
            have Hhlm := Lib.hid hlm; clear hlm
            have HhSi := Lib.hid hSi; clear hSi
            go_wp2
            go_region_held3 (fun w' => w'.cell? ⟨w.heap.size, 0, none⟩ = some vn ∧ w'.cell? ⟨w.heap.size, 1, none⟩ = some ve ∧ w'.cell? ⟨sb, l, none⟩ = some (.string (wdB s)))
              (first | go_keep | exact Hk.out _ Hq1.out | exact Hk.out _ Hq2.out | exact Hw7.out)
              (first
                | (go_at_call 138; (with_reducible refine HR1.out.mono ?_); rintro e u ⟨ax, cx, rfl, hSx⟩; have Hq1 : Hid (Below wp.heap.size wp u) := Lib.hid (((Below.refl _ _).drew).trans hSx.bel); have HSa := Lib.hid (((HhSi.out.drew).cat hSx).alloc_ (.cells #[.slice ax re.length cx] 24)); have Hq2 := Lib.hid (Hq1.out.alloc Hq1.out.size (.cells #[.slice ax re.length cx] 24)); have HRw := Lib.hid (show _ from (HSa.out.rows 5 rfl).1); rw [Hhlm.out] at HRw; clear hSx)
                | (refine step_append_lies _ (by rfl) _ _ _ (by rfl) w.heap.size 24 b0 (.slice none 0 0) 1 24 Try.underlying119 Hhbi.out Hhb0.out Hhb1.out Hhb2.out (by rfl) (by omega) (.slice (some ⟨g, 0, none⟩) l c') l vs (by rfl) HRw.out ⟨u.heap.size, 0, none⟩ 1 1 [.slice ax re.length cx] (by rfl) (by rfl) (World.news_of_block (heap_alloc_new u _)) one_sl (by omega) (by unfold maxLen; omega) (by omega) HSa.out.size (u.heap.size + 1) (by simp) ?_; intro g7 c7 w7 hown7 hgrow7 hat7 hlt7; have HS7 := Lib.hid (HSa.out.snoc 5 6 (by decide) rfl rfl (by decide) hgrow7 (by rw [Hhlm.out]; exact hown7) (hat_of (by rw [World.size_alloc]; exact hat7))); have Hw7 : Hid (w7.cell? ⟨w.heap.size, 0, none⟩ = some vn ∧ w7.cell? ⟨w.heap.size, 1, none⟩ = some ve ∧ w7.cell? ⟨sb, l, none⟩ = some (.string (wdB s))) := Lib.hid ⟨HS7.out.cell 0 0 rfl rfl, HS7.out.cell 0 1 rfl rfl, HS7.out.rcell 1 l rfl (by omega) (by rw [Hhs.out]; simp [wdCells, hlS])⟩; clear hown7 hgrow7 hat7))
            go_wp2
            go_roundw
            case rel =>
              refine ⟨l + 1, g7, c7, vs ++ [.slice ax re.length cx], by go_num, rfl, by omega, ?_⟩
              rw [HhKt.out]
              exact HS7.out.pick [0, 1, 2, 3, 4, 5] (by decide)
            case measure => simp [intOf]; omega
          · obtain rfl : l = S.length := by omega
            have hKa : KM.take S.length = KM := by rw [HhKM.out]; exact List.take_of_length_le (by simp)
            rw [hKa] at hSi
            have hkS : k < (kat (rowW d re) st k).length := by rw [← HhSS.out]; exact hlt
            obtain ⟨s, hs⟩ : ∃ s, s = S.getD k [] := ⟨_, rfl⟩
            have hsS : (kat (rowW d re) st k).getD k [] = s := by rw [← HhSS.out]; exact hs.symm
            have hsW : isW s ∧ s.length ≤ 40 := by
              have h2 := HhSok.out.2 k hlt
              rw [← hs] at h2
              exact ⟨by rw [hs]; exact HhSok.out.1 _ (memD hlt), by omega⟩
            have HhkS := Lib.hid hkS; clear hkS
            have Hhs := Lib.hid hs; clear hs
            have HhsS := Lib.hid hsS; clear hsS
            have HhsW := Lib.hid hsW; clear hsW
            have HhSi := Lib.hid hSi; clear hSi
            clear hKa
            go_wp2
            go_loopw [3, 7, 9] (fun sv rw i wi => ∃ (c' n1 sb1 sc1 g1 c1 : Nat) (vs1 : List Value), sv = .slice (some ⟨sb1, 0, none⟩) n1 sc1 ∧ rw = .slice (some ⟨g1, 0, none⟩) n1 c1 ∧ i = .int .i64 c' ∧ c' ≤ 3 ∧
                St w wi [Ent.box w.heap.size #[vn, ve] 26, Ent.row 9 1 (.slice (some ⟨sb1, 0, none⟩) n1 sc1) n1 (wdCells (kpart (rowW d re) st k c')), Ent.row 9 1 (.slice (some ⟨rb, 0, none⟩) re.length rc) re.length (wdCells re), Ent.row 26 2 (.slice (some ⟨gb, 0, none⟩) j c) j (vals.flatMap valCells), X,
                  Ent.rows 24 4 (.slice (some ⟨g1, 0, none⟩) n1 c1) vs1 (((kpart (rowW d re) st k c').map (rowW d re)).map boolCells)])
              (fun _ _ i _ => 3 - (intOf i).toNat)
            case atStart =>
              refine ⟨0, S.length, sb, sc, g, c', vs, rfl, rfl, rfl, by omega, ?_⟩
              rw [kpart_zero, ← HhSS.out, ← HhKM.out]
              exact HhSi.out
            case round =>
              obtain ⟨l, n1, sb1, sc1, g1, c1, vs1, rfl, rfl, rfl, hc3, hSi⟩ := hrel
              obtain ⟨wp, hwp⟩ : ∃ wp : World, wp = wr := ⟨_, rfl⟩
              subst hwp
              by_cases hc : l < 3
              · have hPk := HhP.out k l HhkS.out hc3
                have hpre := kpart_pre (key := rowW d re) (s0 := st) (k := k) (Nat.zero_le l)
                have hTok := LOk.part (key := rowW d re) Hhpre.out HhkS.out hc3
                have hsucc := kpart_succ (key := rowW d re) (s0 := st) k l
                rw [HhsS.out] at hsucc
                rw [kpart_zero, ← HhSS.out] at hpre
                obtain ⟨T1, hT1⟩ : ∃ T1, T1 = kpart (rowW d re) st k (l + 1) := ⟨_, rfl⟩
                obtain ⟨T, hT⟩ : ∃ T, T = kpart (rowW d re) st k l := ⟨_, rfl⟩
                rw [← hT] at hPk hpre hTok hsucc hSi
                rw [← hT1] at hsucc
                obtain rfl : n1 = T.length := by have := (hSi.row 1 rfl).1; simp at this; omega
                have hkT : k < T.length := Nat.lt_of_lt_of_le hlt hpre.length_le
                have hsT : T.getD k [] = s := (prefix_getD hpre hlt _).trans Hhs.out.symm
                obtain ⟨hcap1, hcap2⟩ := hSi.rowcap 1 rfl
                have k1 := hSi.rcell (v := .string (wdB s)) 1 k rfl (by omega) (by rw [← hsT]; simp [wdCells, hkT])
                have hSA0 := hSi.alloc_ (.cells #[.int .u8 (97 + (l : Int))] 5)
                have fk := hSA0.rcell (v := .string (wdB s)) 1 k rfl (by omega) (by rw [← hsT]; simp [wdCells, hkT])
                have f0 := hSA0.cell (v := vn) 0 0 rfl rfl
                have f1 := hSA0.cell (v := ve) 0 1 rfl rfl
                obtain ⟨hadd, hnlt⟩ := add_words s [l] (by have := HhsW.out.2; omega) (by simp)
                have hcv := conv_letter l hc (wp.alloc (.cells #[.int .u8 (97 + (l : Int))] 5)).drew wp.heap.size 1 (alloc_cell _ _ _ 0)
                have hw8 := wrap8_letter l hc
                have hw9 : IntKind.i64.wrap (97 + (l : Int)) = 97 + (l : Int) := IntWalk.i64_in _ (by omega)
                have HSA : Hid (St w (wp.alloc (.cells #[.int .u8 (97 + (l : Int))] 5)).drew _) := Lib.hid hSA0.drew
                have hx := isW_append HhsW.out.1 (isW_one hc)
                have hxl : (s ++ [l]).length ≤ 400000 := by rw [List.length_append]; have := HhsW.out.2; simp; omega
                have hfin := fun (w' : World) (v1 v' : Value) (h1 : BoolSS 0 w' v1 (T.map (rowW d re))) (h2 : Bools 0 w' v' (rowW d re (s ++ [l]))) => l9Find_any (T.map (rowW d re)) (rowW d re (s ++ [l])) re.length v1 v' w' (by intro y hy; obtain ⟨q, -, rfl⟩ := List.mem_map.1 hy; exact rowW_len _ _ _) (rowW_len _ _ _) (by rw [List.length_map]; omega) h1 h2
                have hkT2 : (k : Int) < T.length := by omega
                have hc4 : (l : Int) < 3 := by omega
                have HR1 := Lib.hid (Hrow.out (s ++ [l]) hx hxl _ (HSA.out.pick [2] (by decide)))
                have Hfin := Lib.hid hfin
                have hlm : ((T.map (rowW d re)).map boolCells).length = T.length := by simp
                have Hhx := Lib.hid hx; clear hx
                have Hhxl := Lib.hid hxl; clear hxl
                have HhT := Lib.hid hT; clear hT
                have HhT1 := Lib.hid hT1; clear hT1
                have Hhpre := Lib.hid hpre; clear hpre
                have HhTok := Lib.hid hTok; clear hTok
                have Hhsucc := Lib.hid hsucc; clear hsucc
                have HhSi := Lib.hid hSi; clear hSi
                have HhsT := Lib.hid hsT; clear hsT
                have Hhlm := Lib.hid hlm; clear hlm
                clear hfin hSA0
                go_wp2
                go_region_law (fail)
                all_goals
                  go_wp2_with fail
                  refine (HR1.out).mono ?_
                  rintro e u ⟨ax, cx, rfl, hSx⟩
                  have hSu := HSA.out.cat hSx
                  have HhSu := Lib.hid hSu; clear hSu
                  clear hSx k1 fk f0 f1
                  go_wp2_with fail
                  refine (Hfin.out _ _ _ (HhSu.out.boolSS 5 rfl) (HhSu.out.bools 6 rfl)).mono ?_
                  rintro e u2 ⟨rfl, hb2⟩
                  have hS2 := HhSu.out.call hb2
                  rcases findB_key (d := d) (re := re) (T := T) (x := s ++ [l]) with ⟨hm, hp⟩ | ⟨hm, hp⟩
                  · have hT1T : T1 = T := Hhsucc.out.trans (kvisit_old hm)
                    obtain ⟨p, hpp⟩ := Int.eq_ofNat_of_zero_le hp
                    rw [hpp]
                    have hp3 : ((p : Int) < 0) = False := by simp
                    have HhS2 := Lib.hid hS2; clear hS2
                    have Hhm := Lib.hid hm; clear hm
                    have Hhpp := Lib.hid hpp; clear hpp
                    have HhT1T := Lib.hid hT1T; clear hT1T
                    clear hb2 hp
                    go_wp2
                    go_roundw
                    case rel =>
                      refine ⟨l + 1, T.length, sb1, sc1, g1, c1, vs1, rfl, rfl, by go_num, by omega, ?_⟩
                      rw [← HhT1.out, HhT1T.out]
                      exact HhS2.out.pick [0, 1, 2, 3, 4, 5] (by decide)
                    case measure => simp [intOf]; omega
                  · have hT1T : T1 = T ++ [s ++ [l]] := Hhsucc.out.trans (kvisit_new hm)
                    rw [hp]
                    obtain ⟨s0, hi0, hx0, hx1, hx2⟩ := info_parts Try.infoStr
                    have hSa := hS2.alloc_ (.cells #[.string (wdB (s ++ [l]))] 9)
                    have hRw := hSa.row 1 rfl
                    have HhS2 := Lib.hid hS2; clear hS2
                    have HhSa := Lib.hid hSa; clear hSa
                    have HhRw := Lib.hid hRw; clear hRw
                    have Hhm := Lib.hid hm; clear hm
                    have HhT1T := Lib.hid hT1T; clear hT1T
                    have Hhi0 := Lib.hid hi0; clear hi0
                    have Hhx0 := Lib.hid hx0; clear hx0
                    have Hhx1 := Lib.hid hx1; clear hx1
                    have Hhx2 := Lib.hid hx2; clear hx2
                    clear hb2 hp
                    go_wp2_with (first
                      | (at_builtin; refine wpList_append_lies _ rfl _ _ _ rfl _ 9 s0 (.string { data := #[] }) 1 16 Try.underlying123 Hhi0.out Hhx0.out Hhx1.out Hhx2.out rfl (by omega) _ T.length _ rfl HhRw.out ⟨u2.heap.size, 0, none⟩ 1 1 [.string (wdB (s ++ [l]))] rfl rfl (World.news_of_block (heap_alloc_new u2 _)) one_str (by omega) (by unfold maxLen; omega) (by omega) HhSa.out.size _ rfl ?_; intro g6 c6 w6 hown6 hgrow6 hat6 hlt6; have HS6 := Lib.hid (HhSa.out.app 1 rfl hown6 hgrow6 hat6); have HSb := Lib.hid (HS6.out.alloc_ (.cells #[.slice ax re.length cx] 24)); have HRb := Lib.hid (show _ from (HSb.out.rows 5 rfl).1); rw [Hhlm.out] at HRb; clear hown6 hgrow6 hat6 hlt6)
                      | (at_builtin; refine wpList_append_lies _ rfl _ _ _ rfl _ 24 b0 (.slice none 0 0) 1 24 Try.underlying119 Hhbi.out Hhb0.out Hhb1.out Hhb2.out rfl (by omega) _ T.length _ rfl HRb.out ⟨w6.heap.size, 0, none⟩ 1 1 [.slice ax re.length cx] rfl rfl (World.news_of_block (heap_alloc_new w6 _)) one_sl (by omega) (by unfold maxLen; omega) (by omega) HSb.out.size _ rfl ?_; intro g7 c7 w7 hown7 hgrow7 hat7 hlt7; have HS7 := Lib.hid (HSb.out.snoc 5 6 (by decide) rfl rfl (by decide) hgrow7 (by rw [Hhlm.out]; exact hown7) (hat_of hat7)); clear hown7 hgrow7 hat7 hlt7))
                    go_roundw
                    case rel =>
                      refine ⟨l + 1, T.length + 1, g6, c6, g7, c7, vs1 ++ [.slice ax re.length cx], rfl, rfl, by go_num, by omega, ?_⟩
                      rw [← HhT1.out, HhT1T.out, wdCells_snoc, List.map_append, List.map_append]
                      exact HS7.out.pick [0, 1, 2, 3, 4, 5] (by decide)
                    case measure => simp [intOf]; omega
              · obtain rfl : l = 3 := by omega
                have hbs := kat_succ (key := rowW d re) (s0 := st) HhkS.out
                have hle := (kpart_pre (key := rowW d re) (s0 := st) (k := k) (Nat.zero_le 3)).length_le
                rw [kpart_zero, ← HhSS.out] at hle
                have Hhbs := Lib.hid hbs; clear hbs
                have Hhle := Lib.hid hle; clear hle
                have HhSi := Lib.hid hSi; clear hSi
                go_wp2
                go_roundw
                case rel =>
                  refine ⟨k + 1, n1, sb1, sc1, rfl, by go_num, by rw [Hhbs.out]; have := Hhle.out; omega, ?_⟩
                  rw [Hhbs.out]
                  exact HhSi.out.pick [0, 1, 2, 3, 4] (by decide)
                case measure => simp [intOf]; omega
      · have hkS : k = S.length := by omega
        have hfin : S = staW d j := by
          have h1 : closeW d st re = S := by
            unfold closeW
            rcases Nat.le_total k (d.next.length + 1) with h | h
            · rw [kat_done (k := k) (by rw [← hSS]; omega) h, ← hSS]
            · have h2 := rows_le Hhd.out (LOk.kat (key := rowW d re) Hhpre.out k).1 (kat_nodup Hhnd.out k)
              rw [← hSS] at h2
              omega
          rw [← h1, Hhre.out, Hhst.out]
          exact Hhcl.out
        have hnl : (S.length : Int) ≤ k := by omega
        have hinv : LInv d S re := by rw [hfin, Hhre.out]; exact HhT.out.inv
        obtain ⟨G, hGG⟩ : ∃ G, G = gueW d j := ⟨_, rfl⟩
        have hGW : guessW d S re = G := by rw [hGG, hfin, Hhre.out]; rfl
        have hgl := guess_len d S re
        rw [hGW] at hgl
        have hgok' : dfaOk G.next G.ends = true := by rw [hGG]; exact Hhgok.out
        have e0 := hS.cell (v := vn) 0 0 rfl rfl
        have e1 := hS.cell (v := ve) 0 1 rfl rfl
        have hr0 := hinv.r0
        have HhS := Lib.hid hS; clear hS
        have HhSS := Lib.hid hSS; clear hSS
        have HhSok := Lib.hid hSok; clear hSok
        have HhkS := Lib.hid hkS; clear hkS
        have Hhfin := Lib.hid hfin; clear hfin
        have Hhinv := Lib.hid hinv; clear hinv
        have HhGG := Lib.hid hGG; clear hGG
        have HhGW := Lib.hid hGW; clear hGW
        have Hhgl := Lib.hid hgl; clear hgl
        have Hhgok' := Lib.hid hgok'; clear hgok'
        have Hhr0 := Lib.hid hr0; clear hr0
        go_wp2_with fail
        refine (l23Guess_any d S re _ _ _ _ Hhd.out HhSok.out (by omega) Hhok.out (by omega) Hhr0.out (Hhl.out.below HhS.out.bel) (strs_of_row (HhS.out.row 1 rfl)) (strs_of_row (HhS.out.row 2 rfl))).mono ?_
        rintro e w2 ⟨a1, c1, a2, c2, us, rfl, hS'⟩
        rw [HhGW.out] at hS'
        have hSx := (HhS.out.cat hS').alloc _ rfl #[.slice a1 S.length c1, .slice a2 S.length c2] 26
        have y0 := hSx.cell (v := .slice a1 S.length c1) 7 0 rfl rfl
        have y1 := hSx.cell (v := .slice a2 S.length c2) 7 1 rfl rfl
        have hSz := hSx.alloc (w2.heap.size + 1) (by simp) #[.slice a1 S.length c1, .slice a2 S.length c2] 26
        have hRw := hSz.row 3 rfl
        have hbx := hSz.box 8 rfl
        have HhSz := Lib.hid hSz; clear hSz
        have HhRw := Lib.hid hRw; clear hRw
        have Hhbx := Lib.hid hbx; clear hbx
        clear hS' hSx e0 e1
        go_wp2_with (at_builtin; refine wpList_append_lies _ rfl _ _ _ rfl _ 26 i0 (.agg #[.slice none 0 0, .slice none 0 0]) 2 48 Try.underlying96 Hhi.out Hhz0.out Hhz1.out Hhz2.out rfl (by omega) _ j _ rfl HhRw.out ⟨w2.heap.size + 1, 0, none⟩ 1 1 [.slice a1 S.length c1, .slice a2 S.length c2] rfl rfl (World.news_of_block Hhbx.out) (by intro u hu; simp at hu; rcases hu with rfl | rfl <;> rfl) (by omega) (by unfold maxLen; omega) (by omega) HhSz.out.size _ rfl ?_; intro g6 c6 w6 hown6 hgrow6 hat6 hlt6; have HS6 := Lib.hid (HhSz.out.app 3 rfl hown6 hgrow6 hat6); clear y0 y1; have y0 := HS6.out.cell (v := .slice a1 S.length c1) 7 0 rfl rfl; have y1 := HS6.out.cell (v := .slice a2 S.length c2) 7 1 rfl rfl; have y2 := HS6.out.cell (v := vn) 0 0 rfl rfl; have y3 := HS6.out.cell (v := ve) 0 1 rfl rfl; clear hown6 hgrow6 hat6 hlt6)
        have hGR := rows_dfaR (HS6.out.has 5 _ rfl).1 (HS6.out.has 6 _ rfl).1
        refine (l16D_any d G _ _ _ Hhd.out Hhgok'.out (Hhl.out.below HS6.out.bel) hGR).mono ?_
        rintro e w7 ⟨he, hb7⟩
        have he : e = wordRes (hitD d G) := he
        have hS7 : St w w7 [Ent.box w.heap.size #[vn, ve] 26, Ent.row 9 1 (.slice (some ⟨sb, 0, none⟩) S.length sc) S.length (wdCells S), Ent.row 9 1 (.slice (some ⟨rb, 0, none⟩) re.length rc) re.length (wdCells re), Ent.row 26 2 (.slice (some ⟨g6, 0, none⟩) (j + 1) c6) (j + 1) (vals.flatMap valCells ++ [.slice a1 S.length c1, .slice a2 S.length c2]), X,
            Ent.rows 29 3 (.slice a1 S.length c1) us (G.next.map intCells), Ent.row 4 1 (.slice a2 S.length c2) S.length (boolCells G.ends), Ent.box w2.heap.size #[.slice a1 S.length c1, .slice a2 S.length c2] 26] := (HS6.out.call hb7).pick [0, 1, 2, 3, 4, 5, 6, 7] (by decide)
        have hgm := HhG.out.snoc (g := G) (a1 := a1) (a2 := a2) (c1 := c1) (c2 := c2) (vs := us)
        rw [Hhgl.out.1] at hgm
        have hrng : (List.range (j + 1)).map (gueW d) = (List.range j).map (gueW d) ++ [G] := by rw [List.range_succ, List.map_append, HhGG.out]; rfl
        rw [← hrng] at hgm
        have HhS7 := Lib.hid hS7; clear hS7
        have Hhgm := Lib.hid hgm; clear hgm
        clear y0 y1 y2 y3 hGR hb7 hrng
        cases hh : hitD d G with
        | none =>
          rw [hh] at he
          have he' : e = .returned (.tuple #[.string { data := #[] }, .bool false]) := he
          clear he
          subst he'
          have hjJ : j = J := by
            rcases Nat.lt_or_ge j J with h | h
            · have := Hhyes.out j h
              rw [← HhGG.out, hh] at this
              cases this
            · omega
          subst hjJ
          have Hhh := Lib.hid hh; clear hh
          go_wp2
          go_ret
          have hq0 : St w w7 [Ent.row 26 2 (.slice (some ⟨g6, 0, none⟩) (j + 1) c6) (j + 1) (vals.flatMap valCells ++ [.slice a1 S.length c1, .slice a2 S.length c2]), X, Ent.rows 29 3 (.slice a1 S.length c1) us (G.next.map intCells), Ent.row 4 1 (.slice a2 S.length c2) S.length (boolCells G.ends)] := HhS7.out.pick [3, 4, 5, 6] (by decide)
          have hq := hq0.pack (A := [Ent.row 26 2 (.slice (some ⟨g6, 0, none⟩) (j + 1) c6) (j + 1) (vals.flatMap valCells ++ [.slice a1 S.length c1, .slice a2 S.length c2])]) (R := [X, Ent.rows 29 3 (.slice a1 S.length c1) us (G.next.map intCells), Ent.row 4 1 (.slice a2 S.length c2) S.length (boolCells G.ends)])
          refine ⟨some ⟨g6, 0, none⟩, c6, vals ++ [(.slice a1 S.length c1, .slice a2 S.length c2)], _, rfl, Hhgm.out, ?_⟩
          rw [List.flatMap_append]
          exact hq
        | some wd =>
          rw [hh] at he
          have he' : e = .returned (.tuple #[.string (wdB wd), .bool true]) := he
          clear he
          subst he'
          have hjJ : j + 1 ≤ J := by
            rcases Nat.lt_or_ge j J with h | h
            · omega
            · obtain rfl : j = J := by omega
              have := Hhno.out
              rw [← HhGG.out, hh] at this
              cases this
          have hwd := hitD_says hh
          have hwl := hitD_len hh
          obtain ⟨hcut1, hcut2, hcut3⟩ := cut_at Hhinv.out hwd.1 (by rw [HhGW.out]; exact hwd.2)
          rw [HhGW.out] at hcut1 hcut2 hcut3
          have hres := resW_succ d j (w := wd) (by rw [← HhGG.out]; exact hh)
          rw [← HhGG.out, ← Hhfin.out, ← Hhre.out] at hres
          obtain ⟨C, hC⟩ : ∃ C, C = cutW d S G wd := ⟨_, rfl⟩
          rw [← hC] at hcut1 hcut2 hcut3 hres
          have hss : (wdB wd).size = wd.length := wdB_size wd
          have hq : ∀ k, k ≤ wd.length → ∃ q : Nat, q < S.length ∧ runD G 0 (wd.take k) = (q : Int) := fun k hk => by
            obtain ⟨h1, h2⟩ := runD_in Hhgok'.out (isW_take hwd.1 k) (s := 0) (by omega) (by have := Hhgok'.out; have := dfaOk_len this; omega)
            obtain ⟨q, hq⟩ := Int.eq_ofNat_of_zero_le h1
            exact ⟨q, by have := Hhgl.out.1; omega, hq⟩
          have hGR := rows_dfaR (HhS7.out.has 5 _ rfl).1 (HhS7.out.has 6 _ rfl).1
          have hrun : ∀ k q : Nat, k ≤ wd.length → runD G 0 (wd.take k) = (q : Int) → ∀ w' : World, Below w7.heap.size w7 w' → Calls Try.prog 142 #[.agg #[.slice a1 S.length c1, .slice a2 S.length c2], .int .i64 0, .string (wdB (wd.take k))] w' fun e w2 => e = .returned (.int .i64 (q : Nat)) ∧ Below w'.heap.size w' w2 := fun k q hk hq w' hb => by
            have h := l7Run_any G 0 (wd.take k) (.agg #[.slice a1 S.length c1, .slice a2 S.length c2]) w' Hhgok'.out (by have := Hhgok'.out; have := dfaOk_len this; omega) (isW_take hwd.1 k) (by rw [List.length_take]; omega) (hGR.below hb)
            have e : runD G ((0 : Nat) : Int) (wd.take k) = (q : Int) := hq
            rw [e] at h
            exact h
          have hstw : ∀ q, q < S.length → isW (S.getD q []) ∧ (S.getD q []).length ≤ 40 := fun q hq => ⟨HhSok.out.1 _ (memD hq), by have := HhSok.out.2 q hq; omega⟩
          have hacc : ∀ (q k : Nat), q < S.length → ∃ p : Nat, p < d.ends.length ∧ accD d (S.getD q [] ++ wd.drop k) = d.ends.getD p false ∧ ∀ w' : World, Below w.heap.size w w' → Calls Try.prog 142 #[.agg #[vn, ve], .int .i64 0, .string (wdB (S.getD q [] ++ wd.drop k))] w' fun e w2 => e = .returned (.int .i64 (p : Nat)) ∧ Below w'.heap.size w' w2 := fun q k hq => by
            have hx : isW (S.getD q [] ++ wd.drop k) := isW_append (hstw q hq).1 (isW_drop hwd.1 k)
            have hdl := dfaOk_len Hhd.out
            obtain ⟨h1, h2⟩ := runD_in Hhd.out hx (s := 0) (by omega) (by omega)
            obtain ⟨p, hp⟩ := Int.eq_ofNat_of_zero_le h1
            refine ⟨p, by omega, by unfold accD den; rw [hp, Int.toNat_natCast], fun w' hb => ?_⟩
            have h := l7Run_any d 0 (S.getD q [] ++ wd.drop k) (.agg #[vn, ve]) w' Hhd.out (by omega) hx (by rw [List.length_append, List.length_drop]; have := (hstw q hq).2; omega) (Hhl.out.below hb)
            have e : runD d ((0 : Nat) : Int) (S.getD q [] ++ wd.drop k) = (p : Int) := hp
            rw [e] at h
            exact h
          have hends : ∃ b2 o2 cap2, ve = .slice (some ⟨b2, o2, none⟩) d.ends.length cap2 ∧ b2 < w.heap.size ∧ d.ends.length ≤ cap2 ∧ cap2 ≤ 9223372036854775807 ∧ ∀ i, i < d.ends.length → w.cell? ⟨b2, o2 + i, none⟩ = some (.bool (d.ends.getD i false)) := by
            obtain ⟨_, _, he, -, hq2⟩ := Hhl.out
            simp only [Value.agg.injEq, Array.mk.injEq, List.cons.injEq, and_true] at he
            obtain ⟨-, rfl⟩ := he
            obtain ⟨a, cap, he2, hc1, hc2, hr⟩ := hq2.form
            have hdl := dfaOk_len Hhd.out
            obtain ⟨b2, o2, rfl, -, hbl, hcs⟩ := hr (by omega)
            exact ⟨b2, o2, cap, he2, hbl, hc1, hc2, hcs⟩
          obtain ⟨b2, o2, cap2, hve, hb2l, hcp1, hcp2, hcs2⟩ := hends
          obtain ⟨s0, hi0, hx0, hx1, hx2⟩ := info_parts Try.infoStr
          have Hq := Lib.hid hq
          have Hrun := Lib.hid hrun
          have Hstw := Lib.hid hstw
          have Hacc := Lib.hid hacc
          have Hcs2 := Lib.hid hcs2
          have Hve := Lib.hid hve
          obtain ⟨hcap1, hcap2⟩ := HhS7.out.rowcap 1 rfl
          have Hhh := Lib.hid hh; clear hh
          have Hhwd := Lib.hid hwd; clear hwd
          have Hhcut1 := Lib.hid hcut1; clear hcut1
          have Hhcut2 := Lib.hid hcut2; clear hcut2
          have Hhcut3 := Lib.hid hcut3; clear hcut3
          have Hhres := Lib.hid hres; clear hres
          have HhC := Lib.hid hC; clear hC
          have Hhi0 := Lib.hid hi0; clear hi0
          have Hhx0 := Lib.hid hx0; clear hx0
          have Hhx1 := Lib.hid hx1; clear hx1
          have Hhx2 := Lib.hid hx2; clear hx2
          clear hq hrun hstw hacc hcs2 hve hGR
          go_wp2
          go_loopw [4, 15] (fun rv i wr => ∃ k : Nat, rv = .slice (some ⟨rb, 0, none⟩) re.length rc ∧ i = .int .i64 k ∧ k ≤ C ∧ Below w7.heap.size w7 wr ∧
              St w wr [Ent.box w.heap.size #[vn, ve] 26, Ent.row 9 1 (.slice (some ⟨sb, 0, none⟩) S.length sc) S.length (wdCells S), Ent.row 9 1 (.slice (some ⟨rb, 0, none⟩) re.length rc) re.length (wdCells re), Ent.row 26 2 (.slice (some ⟨g6, 0, none⟩) (j + 1) c6) (j + 1) (vals.flatMap valCells ++ [.slice a1 S.length c1, .slice a2 S.length c2]), X,
                Ent.rows 29 3 (.slice a1 S.length c1) us (G.next.map intCells), Ent.row 4 1 (.slice a2 S.length c2) S.length (boolCells G.ends), Ent.box w2.heap.size #[.slice a1 S.length c1, .slice a2 S.length c2] 26])
            (fun _ i _ => C + 1 - (intOf i).toNat)
          case atStart => exact ⟨0, rfl, rfl, Nat.zero_le _, Below.refl _ _, HhS7.out⟩
          case round =>
            obtain ⟨k, rfl, rfl, hk, hb, hS⟩ := hrel
            obtain ⟨wp, hwp⟩ : ∃ wp : World, wp = wr := ⟨_, rfl⟩
            subst hwp
            have hks : k < wd.length := by have := Hhcut1.out; omega
            have hks1 : (k : Int) ≤ wd.length := by omega
            have hk3 : (k : Int) + 1 ≤ wd.length := by omega
            have hk4 : (0 : Int) ≤ (k : Int) + 1 := by omega
            have hk5 : IntKind.i64.wrap ((k : Int) + 1) = (k : Int) + 1 := IntWalk.i64_in _ (by omega)
            obtain ⟨q1, hq1, hr1⟩ := Hq.out k (by omega)
            obtain ⟨q2, hq2, hr2⟩ := Hq.out (k + 1) (by omega)
            have hm1 : mixW S G wd k = S.getD q1 [] ++ wd.drop k := by unfold mixW; rw [hr1]; rfl
            have hm2 : mixW S G wd (k + 1) = S.getD q2 [] ++ wd.drop (k + 1) := by unfold mixW; rw [hr2]; rfl
            have hw1 := Hstw.out q1 hq1
            have hw2 := Hstw.out q2 hq2
            obtain ⟨hadd1, hnlt1⟩ := add_words (S.getD q1 []) (wd.drop k) (by omega) (by rw [List.length_drop]; omega)
            obtain ⟨hadd2, hnlt2⟩ := add_words (S.getD q2 []) (wd.drop (k + 1)) (by omega) (by rw [List.length_drop]; omega)
            have t1 := slice_to wd k (k : Int) rfl (by omega)
            have t2 := slice_to wd (k + 1) ((k : Int) + 1) (by push_cast; rfl) (by omega)
            have f1 := slice_from wd k (k : Int) rfl (by omega)
            have f2 := slice_from wd (k + 1) ((k : Int) + 1) (by push_cast; rfl) (by omega)
            obtain ⟨p1, hp1, ha1, A1⟩ := Hacc.out q1 k hq1
            obtain ⟨p2, hp2, ha2, A2⟩ := Hacc.out q2 (k + 1) hq2
            have R1 := Lib.hid (Hrun.out k q1 (by omega) hr1)
            have R2 := Lib.hid (Hrun.out (k + 1) q2 (by omega) hr2)
            obtain ⟨α, hα⟩ : ∃ α, α = d.ends.getD p1 false := ⟨_, rfl⟩
            obtain ⟨β, hβ⟩ : ∃ β, β = d.ends.getD p2 false := ⟨_, rfl⟩
            have e0 := hS.cell (v := vn) 0 0 rfl rfl
            have e1 := hS.cell (v := ve) 0 1 rfl rfl
            rw [Hve.out] at e1
            have g0 := hS.cell (v := .slice a1 S.length c1) 7 0 rfl rfl
            have g1 := hS.cell (v := .slice a2 S.length c2) 7 1 rfl rfl
            have x1 := hS.rcell (v := .string (wdB (S.getD q1 []))) 1 q1 rfl (by omega) (by simp [wdCells, hq1])
            have x2 := hS.rcell (v := .string (wdB (S.getD q2 []))) 1 q2 rfl (by omega) (by simp [wdCells, hq2])
            have z1 := (bcell hS.bel b2 _ hb2l).trans (Hcs2.out p1 hp1)
            have z2 := (bcell hS.bel b2 _ hb2l).trans (Hcs2.out p2 hp2)
            rw [← hα] at z1 ha1
            rw [← hβ] at z2 ha2
            have lb := (hS.boxlt 0 rfl).2
            have lg := (hS.boxlt 7 rfl).2
            have ls := (hS.rowlt 1 rfl).2
            have le := Nat.lt_of_lt_of_le hb2l hS.size
            obtain ⟨u1, hu1⟩ : ∃ u1, u1 = S.getD q1 [] := ⟨_, rfl⟩
            obtain ⟨u2, hu2⟩ : ∃ u2, u2 = S.getD q2 [] := ⟨_, rfl⟩
            rw [← hu1] at hm1 hadd1 hnlt1 x1 A1 ha1
            rw [← hu2] at hm2 hadd2 hnlt2 x2 A2 ha2
            have hcmpL : k < C → (α != β) = false := fun h => by
              have := Hhcut3.out k h
              rw [hm1, hm2, ha1, ha2] at this
              exact this
            have hcmpE : k = C → (α != β) = true := fun h => by
              have := Hhcut2.out
              rw [← h, hm1, hm2, ha1, ha2] at this
              exact this
            have HA1 := Lib.hid A1
            have HA2 := Lib.hid A2
            rw [Hve.out] at HA1 HA2
            have Hk := Lib.hid (fun (w' : World) (h : Below wp.heap.size wp w') => (show w'.cell? ⟨w.heap.size, 0, none⟩ = some vn ∧ w'.cell? ⟨w.heap.size, 1, none⟩ = some (.slice (some ⟨b2, o2, none⟩) d.ends.length cap2) ∧ w'.cell? ⟨w2.heap.size, 0, none⟩ = some (.slice a1 S.length c1) ∧ w'.cell? ⟨w2.heap.size, 1, none⟩ = some (.slice a2 S.length c2) ∧ w'.cell? ⟨sb, q1, none⟩ = some (.string (wdB u1)) ∧ w'.cell? ⟨sb, q2, none⟩ = some (.string (wdB u2)) ∧ w'.cell? ⟨b2, o2 + p1, none⟩ = some (.bool α) ∧ w'.cell? ⟨b2, o2 + p2, none⟩ = some (.bool β) from
              ⟨(bcell h _ _ lb).trans e0, (bcell h _ _ lb).trans e1, (bcell h _ _ lg).trans g0, (bcell h _ _ lg).trans g1, (bcell h _ _ ls).trans x1, (bcell h _ _ ls).trans x2, (bcell h _ _ le).trans z1, (bcell h _ _ le).trans z2⟩))
            have hq1i : (q1 : Int) < S.length := by omega
            have hq2i : (q2 : Int) < S.length := by omega
            have hp1i : (p1 : Int) < d.ends.length := by omega
            have hp2i : (p2 : Int) < d.ends.length := by omega
            have Hb := Lib.hid hb
            have HhS := Lib.hid hS; clear hS
            have Hhr1 := Lib.hid hr1; clear hr1
            have Hhr2 := Lib.hid hr2; clear hr2
            have Hhm1 := Lib.hid hm1; clear hm1
            have Hhm2 := Lib.hid hm2; clear hm2
            have Hhw1 := Lib.hid hw1; clear hw1
            have Hhw2 := Lib.hid hw2; clear hw2
            have Hhu1 := Lib.hid hu1; clear hu1
            have Hhu2 := Lib.hid hu2; clear hu2
            have Hhα := Lib.hid hα; clear hα
            have Hhβ := Lib.hid hβ; clear hβ
            have Hha1 := Lib.hid ha1; clear ha1
            have Hha2 := Lib.hid ha2; clear ha2
            clear hb A1 A2
            go_wp2
            go_region_held3 (fun w' => w'.cell? ⟨w.heap.size, 0, none⟩ = some vn ∧ w'.cell? ⟨w.heap.size, 1, none⟩ = some (.slice (some ⟨b2, o2, none⟩) d.ends.length cap2) ∧ w'.cell? ⟨w2.heap.size, 0, none⟩ = some (.slice a1 S.length c1) ∧ w'.cell? ⟨w2.heap.size, 1, none⟩ = some (.slice a2 S.length c2) ∧ w'.cell? ⟨sb, q1, none⟩ = some (.string (wdB u1)) ∧ w'.cell? ⟨sb, q2, none⟩ = some (.string (wdB u2)) ∧ w'.cell? ⟨b2, o2 + p1, none⟩ = some (.bool α) ∧ w'.cell? ⟨b2, o2 + p2, none⟩ = some (.bool β))
              (first | go_keep | exact Hk.out _ hx1 | exact Hk.out _ hx2)
              (first
                | (go_at_call 142; (with_reducible refine (R1.out _ Hb.out.drew).mono ?_); rintro e v1 ⟨rfl, hx1'⟩; have hx1 : Below wp.heap.size wp v1 := ((Below.refl _ _).drew).trans hx1'; have B1 : Hid (Below w.heap.size w v1) := Lib.hid (HhS.out.call hx1).bel)
                | (go_at_call 142; (with_reducible refine (HA1.out v1 B1.out).mono ?_); rintro e v2 ⟨rfl, hx2'⟩; have hx2 : Below wp.heap.size wp v2 := hx1.trans (hx2'.mono hx1.size)))
            have Hx2 := Lib.hid hx2
            have B2 := Lib.hid (Hb.out.trans (hx2.mono Hb.out.size))
            obtain ⟨y0, y1, y2, y3, y4, y5, y6, y7⟩ := Hk.out _ hx2
            clear hx1 hx2 hx1' hx2' e0 e1 g0 g1 x1 x2 z1 z2 B1
            go_wp2
            go_region_held3 (fun w' => w'.cell? ⟨w.heap.size, 0, none⟩ = some vn ∧ w'.cell? ⟨w.heap.size, 1, none⟩ = some (.slice (some ⟨b2, o2, none⟩) d.ends.length cap2) ∧ w'.cell? ⟨w2.heap.size, 0, none⟩ = some (.slice a1 S.length c1) ∧ w'.cell? ⟨w2.heap.size, 1, none⟩ = some (.slice a2 S.length c2) ∧ w'.cell? ⟨sb, q1, none⟩ = some (.string (wdB u1)) ∧ w'.cell? ⟨sb, q2, none⟩ = some (.string (wdB u2)) ∧ w'.cell? ⟨b2, o2 + p1, none⟩ = some (.bool α) ∧ w'.cell? ⟨b2, o2 + p2, none⟩ = some (.bool β))
              (first | go_keep | exact Hk.out _ hx3 | exact Hk.out _ hx4)
              (first
                | (go_at_call 142; (with_reducible refine (R2.out _ B2.out.drew).mono ?_); rintro e v3 ⟨rfl, hx3'⟩; have hx3 : Below wp.heap.size wp v3 := (Hx2.out.drew).trans (hx3'.mono Hx2.out.size); have B3 : Hid (Below w.heap.size w v3) := Lib.hid (HhS.out.call hx3).bel)
                | (go_at_call 142; (with_reducible refine (HA2.out v3 B3.out).mono ?_); rintro e v4 ⟨rfl, hx4'⟩; have hx4 : Below wp.heap.size wp v4 := hx3.trans (hx4'.mono hx3.size)))
            have HS4 := Lib.hid (HhS.out.call hx4)
            have B4 := Lib.hid (Hb.out.trans (hx4.mono Hb.out.size))
            clear hx3 hx4 hx3' hx4' y0 y1 y2 y3 y4 y5 y6 y7 B3
            by_cases hkC : k < C
            · have hcmp := hcmpL hkC
              have hcmp2 : (!(α == β)) = false := hcmp
              clear hcmpL hcmpE
              go_wp2
              go_roundw
              case rel => exact ⟨k + 1, rfl, by go_num, by omega, B4.out, HS4.out⟩
              case measure => simp [intOf]; omega
            · have hkC' : k = C := by omega
              have hcmp := hcmpE hkC'
              have hcmp2 : (!(α == β)) = true := hcmp
              have hSa := HS4.out.alloc_ (.cells #[.string (wdB (wd.drop (k + 1)))] 9)
              have hRw := hSa.row 2 rfl
              have HhSa := Lib.hid hSa; clear hSa
              have HhRw := Lib.hid hRw; clear hRw
              have HhkC' := Lib.hid hkC'; clear hkC'
              clear hcmpL hcmpE
              go_wp2_with (at_builtin; (refine wpList_append_lies _ rfl _ _ _ rfl _ 9 s0 (.string { data := #[] }) 1 16 Try.underlying123 Hhi0.out Hhx0.out Hhx1.out Hhx2.out rfl (by omega) _ re.length _ rfl HhRw.out ⟨v4.heap.size, 0, none⟩ 1 1 [.string (wdB (wd.drop (k + 1)))] rfl rfl (World.news_of_block (heap_alloc_new v4 _)) one_str (by omega) (by unfold maxLen; omega) (by omega) HhSa.out.size _ rfl ?_; intro g7 c7 w8 hown7 hgrow7 hat7 hlt7; have HS8 := Lib.hid (HhSa.out.app 2 rfl hown7 hgrow7 hat7); clear hown7 hgrow7 hat7 hlt7))
              go_roundg (J + 1 - (j + 1))
              case measure => omega
              case rel =>
                have hpre1 : preW d (j + 1) = S := Hhfin.out.symm
                refine ⟨j + 1, S.length, re.length + 1, g6, sb, g7, sc, c7, c6, vals ++ [(.slice a1 S.length c1, .slice a2 S.length c2)], _, rfl, rfl, rfl, rfl, hjJ, Hhgm.out, ?_⟩
                rw [List.flatMap_append, Hhres.out, wdCells_snoc, hpre1, ← HhkC'.out]
                have hq0 : St w w8 [Ent.box w.heap.size #[vn, ve] 26, Ent.row 9 1 (.slice (some ⟨sb, 0, none⟩) S.length sc) S.length (wdCells S), Ent.row 9 1 (.slice (some ⟨g7, 0, none⟩) (re.length + 1) c7) (re.length + 1) (wdCells re ++ [.string (wdB (wd.drop (k + 1)))]), Ent.row 26 2 (.slice (some ⟨g6, 0, none⟩) (j + 1) c6) (j + 1) (vals.flatMap valCells ++ [.slice a1 S.length c1, .slice a2 S.length c2]),
                    X, Ent.rows 29 3 (.slice a1 S.length c1) us (G.next.map intCells), Ent.row 4 1 (.slice a2 S.length c2) S.length (boolCells G.ends)] := HS8.out.pick [0, 1, 2, 3, 4, 5, 6] (by decide)
                exact hq0.pack (A := [Ent.box w.heap.size #[vn, ve] 26, Ent.row 9 1 (.slice (some ⟨sb, 0, none⟩) S.length sc) S.length (wdCells S), Ent.row 9 1 (.slice (some ⟨g7, 0, none⟩) (re.length + 1) c7) (re.length + 1) (wdCells re ++ [.string (wdB (wd.drop (k + 1)))]), Ent.row 26 2 (.slice (some ⟨g6, 0, none⟩) (j + 1) c6) (j + 1) (vals.flatMap valCells ++ [.slice a1 S.length c1, .slice a2 S.length c2])]) (R := [X, Ent.rows 29 3 (.slice a1 S.length c1) us (G.next.map intCells), Ent.row 4 1 (.slice a2 S.length c2) S.length (boolCells G.ends)])
end Go.Proofs.Ythhbjkgchabfmaa
