/-
  The walk over the program's exploration of states that are integers, where all that is met has room.
  Conditions: a bound on the number of states met; contracts for the two functions that are handed in.
-/
import Derived.Test.YtfgpkadhegdffaaPk17Nd
namespace Go.Proofs.Ytfgpkadhegdffaa
open Go.RowKit Go.Maps
set_option maxRecDepth 100000 in
set_option maxHeartbeats 8000000 in
theorem exploredM_any (a0 : Int) (bc bd : Nat) (nx : Int → Nat → Int) (en : Int → Bool) (Q : Int → Prop) (most : Nat) (w : World) (h0 : Q a0) (hQ : ∀ x c, c < 3 → Q x → Q (nx x c)) (hfit : ∀ x, Q x → fitI x) (hm0 : 0 < most) (hm1 : most ≤ 100000) (hroom : (bat nx a0 most).met.length ≤ most)
    (hN : ∀ x c w', Q x → c < 3 → Below w.heap.size w w' → Calls Try.prog 85 #[.int .i64 x, .int .i64 (c : Nat), .pointer (some ⟨bc, 0, none⟩), .pointer (some ⟨bd, 0, none⟩)] w' fun e w2 => e = .returned (.int .i64 (nx x c)) ∧ Below w'.heap.size w' w2)
    (hE : ∀ x w', Q x → Below w.heap.size w w' → Calls Try.prog 86 #[.int .i64 x, .pointer (some ⟨bd, 0, none⟩)] w' fun e w2 => e = .returned (.bool (en x)) ∧ Below w'.heap.size w' w2) :
    Calls Try.prog 81 #[.int .i64 a0, .int .i64 most, .func (.func 85) #[] #[.pointer (some ⟨bc, 0, none⟩), .pointer (some ⟨bd, 0, none⟩)], .func (.func 86) #[] #[.pointer (some ⟨bd, 0, none⟩)]] w
      fun e w' => ∃ a1 c1 a2 c2 a3 c3 vs, e = .returned (.tuple #[.agg #[.slice a1 (bat nx a0 most).met.length c1, .slice a2 (bat nx a0 most).met.length c2], .slice a3 (bat nx a0 most).met.length c3, .bool true]) ∧
        St w w' [Ent.rows 60 3 (.slice a1 (bat nx a0 most).met.length c1) vs (((bat nx a0 most).met.map (numRow nx (bat nx a0 most).met)).map intCells), Ent.row 4 1 (.slice a2 (bat nx a0 most).met.length c2) (bat nx a0 most).met.length (boolCells ((bat nx a0 most).met.map en)),
          Ent.row 3 1 (.slice a3 (bat nx a0 most).met.length c3) (bat nx a0 most).met.length (intCells (bat nx a0 most).met)] := by
  have hmm := @run_makeMap Try.prog
  obtain ⟨l0, hl0⟩ := Try.keyOfInt a0 (hfit _ h0)
  obtain ⟨i0, hi, hz0, hz1, hz2⟩ := info_parts Try.infoInt
  obtain ⟨j0, hj, hy0, hy1, hy2⟩ := info_parts Try.infoInts
  obtain ⟨b0, hbi0, hx0, hx1, hx2⟩ := info_parts Try.infoBool
  have hSa := (St.start w).alloc _ rfl #[.slice none 0 0, .slice none 0 0] 30
  have HM : MapL Try.prog 3 intEnc ((w.alloc (.cells #[.slice none 0 0, .slice none 0 0] 30)).alloc (.map #[] 0)) (w.heap.size + 1) ([] : List (Int × Value)) := by
    simpa using MapL.made (P := Try.prog) (kt := 3) (enc := intEnc) (w.alloc (.cells #[.slice none 0 0, .slice none 0 0] 30))
  have hSb := hSa.add ((Below.refl _ _).alloc (Nat.le_refl _) (.map #[] 0)) (Ent.map 3 intEnc (w.heap.size + 1) ([] : List (Int × Value))) HM fun k hk => by
    have hk : k = w.heap.size + 1 := hk
    subst hk
    simp
  obtain ⟨w1, hrun, hm1', hg1⟩ := HM.store Try.lawInt intEnc_inj Try.underlying134 hl0 (.int .i64 0)
  simp only [intEnc] at hrun
  have hSc := hSb.mapset 1 rfl hm1' hg1
  have hSd := (((((hSc.alloc _ rfl #[.int .i64 a0] 3).boxrow 2 1 1 [.int .i64 a0] rfl rfl (by unfold maxLen; omega)).alloc (w1.heap.size + 1) (by simp) #[.slice none 0 0, .slice none 0 0] 30).nilRow 60 1).norows 4 rfl 3).nilRow 4 1
  obtain ⟨F, hF⟩ : ∃ F, F = (bat nx a0 most).met := ⟨_, rfl⟩
  have hbel : ∀ k, k ≤ most → (bat nx a0 k).met.length ≤ most := fun k hk => by
    have := (bat_le (nx := nx) (a := a0) hk).1.length_le
    omega
  rw [← hF] at hroom
  rw [← hF]
  have HN := Lib.hid hN
  have HE := Lib.hid hE
  have HQ := Lib.hid hQ
  have Hfit := Lib.hid hfit
  have Hh0 := Lib.hid h0
  have Hbel := Lib.hid hbel
  have HhF := Lib.hid hF; clear hF
  have HhSd := Lib.hid hSd; clear hSd
  have Hhl0 := Lib.hid hl0; clear hl0
  have Hhi := Lib.hid hi; clear hi
  have Hhz0 := Lib.hid hz0; clear hz0
  have Hhz1 := Lib.hid hz1; clear hz1
  have Hhz2 := Lib.hid hz2; clear hz2
  have Hhj := Lib.hid hj; clear hj
  have Hhy0 := Lib.hid hy0; clear hy0
  have Hhy1 := Lib.hid hy1; clear hy1
  have Hhy2 := Lib.hid hy2; clear hy2
  have Hhbi0 := Lib.hid hbi0; clear hbi0
  have Hhx0 := Lib.hid hx0; clear hx0
  have Hhx1 := Lib.hid hx1; clear hx1
  have Hhx2 := Lib.hid hx2; clear hx2
  clear hSa hSb hSc HM hm1' hg1 hN hE hQ hfit h0 hbel
  go_enter Try.func81, Try.ntmps81
  go_wp2
  clear hrun hmm
  go_loopw [9, 10, 12, 14] (fun r1 r2 vm i wr => ∃ (k g3 c3 : Nat) (a1 a2 : Option Addr) (c1 c2 : Nat) (vs : List Value), i = .int .i64 k ∧ vm = .slice (some ⟨g3, 0, none⟩) (bat nx a0 k).met.length c3 ∧ k ≤ (bat nx a0 k).met.length ∧ k ≤ most ∧
      St w wr [Ent.box w.heap.size #[.slice none 0 0, .slice none 0 0] 30, Ent.map 3 intEnc (w.heap.size + 1) (numbered (bat nx a0 k).met), Ent.row 3 1 (.slice (some ⟨g3, 0, none⟩) (bat nx a0 k).met.length c3) (bat nx a0 k).met.length (intCells (bat nx a0 k).met),
        Ent.box (w1.heap.size + 1) #[.slice a1 k c1, .slice a2 k c2] 30, Ent.rows 60 3 (.slice a1 k c1) vs ((((bat nx a0 k).met.take k).map (numRow nx F)).map intCells), Ent.row 4 1 (.slice a2 k c2) k (boolCells (((bat nx a0 k).met.take k).map en))])
    (fun _ _ _ i _ => most + 1 - (intOf i).toNat)
  case atStart => exact ⟨0, _, _, none, none, 0, 0, [], rfl, rfl, Nat.zero_le _, Nat.zero_le _, HhSd.out⟩
  case round =>
    obtain ⟨k, g3, c3, a1, a2, c1, c2, vs, rfl, rfl, hk, hkm, hS⟩ := hrel
    obtain ⟨wo, hwo⟩ : ∃ wo : World, wo = wr := ⟨_, rfl⟩
    subst hwo
    obtain ⟨M, hM⟩ : ∃ M, M = (bat nx a0 k).met := ⟨_, rfl⟩
    have hMl := Hbel.out k hkm
    rw [← hM] at hS hk hMl
    rw [← hM]
    by_cases hlt : k < M.length
    · have hlt2 : (k : Int) < M.length := by omega
      have HF : ∀ n, n ≤ 3 → (bpart nx a0 k n).met <+: F := fun n hn => by rw [HhF.out]; exact (bpart_le_bat (by rw [← hM]; exact hlt) hn (by omega)).1
      have HT : ∀ n, n ≤ 3 → (bpart nx a0 k n).met.length ≤ most := fun n hn => Nat.le_trans (HF n hn).length_le hroom
      obtain ⟨x, hxx⟩ : ∃ x, x = M.getD k a0 := ⟨_, rfl⟩
      have hQx : Q x := by
        rw [hxx, hM]
        exact bat_all Hh0.out HQ.out k _ (mem_getD (by rw [← hM]; exact hlt))
      have Hhxx := Lib.hid hxx; clear hxx
      have HHF := Lib.hid HF; clear HF
      have HHT := Lib.hid HT; clear HT
      have HhQx := Lib.hid hQx; clear hQx
      have HhM := Lib.hid hM; clear hM
      have HhS := Lib.hid hS; clear hS
      go_wp2_with (at_make; refine wpList_make_full _ rfl _ _ 60 rfl wo.heap.size 3 i0 (.int .i64 0) 1 Try.underlying60 Hhi.out Hhz0.out Hhz1.out .i64 .i64 _ _ 3 rfl rfl rfl rfl (by rw [Hhz2.out]; omega) (by unfold maxLen; omega) (Nat.le_refl _) ?_; intro w2 hown hgrow; have HS2 := Lib.hid (HhS.out.made ((Below.refl _ _).grown hgrow (Nat.le_refl _) (fun _ h => by cases h)) hown); have hcl := Lib.hid hown.1; clear hown hgrow)
      go_loopw [9, 10, 12, 32] (fun r1 r2 vm i wi => ∃ (n g4 c4 : Nat) (cs : List Value), i = .int .i64 n ∧ vm = .slice (some ⟨g4, 0, none⟩) (bpart nx a0 k n).met.length c4 ∧ n ≤ 3 ∧ cs.length = 3 ∧ cs.take n = (intCells (numRow nx F x)).take n ∧
          St w wi [Ent.box w.heap.size #[.slice none 0 0, .slice none 0 0] 30, Ent.map 3 intEnc (w.heap.size + 1) (numbered (bpart nx a0 k n).met), Ent.row 3 1 (.slice (some ⟨g4, 0, none⟩) (bpart nx a0 k n).met.length c4) (bpart nx a0 k n).met.length (intCells (bpart nx a0 k n).met),
            Ent.box (w1.heap.size + 1) #[.slice a1 k c1, .slice a2 k c2] 30, Ent.rows 60 3 (.slice a1 k c1) vs (((M.take k).map (numRow nx F)).map intCells), Ent.row 4 1 (.slice a2 k c2) k (boolCells ((M.take k).map en)), Ent.row 3 1 (.slice (some ⟨wo.heap.size, 0, none⟩) 3 3) 3 cs])
        (fun _ _ _ i _ => 3 - (intOf i).toNat)
      case atStart =>
        refine ⟨0, g3, c3, (madeCells (Value.int .i64 0).cells (3 * 1)).toList, rfl, by rw [bpart_zero, ← HhM.out], by omega, by simpa using hcl.out, rfl, ?_⟩
        rw [bpart_zero, ← HhM.out]
        exact HS2.out
      case round =>
        obtain ⟨n, g4, c4, cs, rfl, rfl, hn, hcs, htk, hSi⟩ := hrel
        have hMS : M <+: (bpart nx a0 k n).met := by rw [HhM.out, ← bpart_zero]; exact (bpart_le (Nat.zero_le n)).1
        have hSl : M.length ≤ (bpart nx a0 k n).met.length := hMS.length_le
        by_cases hn3 : n < 3
        · have hnd : (bpart nx a0 k n).met.Nodup := (bpart_good (by rw [← HhM.out]; exact hlt) hn).1
          have hSF := HHF.out n hn
          have hSF1 := HHF.out (n + 1) (by omega)
          have hT0 := HHT.out n hn
          have hT1 := HHT.out (n + 1) (by omega)
          have hold : nx x n ∈ (bpart nx a0 k n).met → (bpart nx a0 k (n + 1)).met = (bpart nx a0 k n).met := fun h => by rw [bpart_old (by rw [← HhM.out, ← Hhxx.out]; exact h)]
          have hnew : nx x n ∉ (bpart nx a0 k n).met → (bpart nx a0 k (n + 1)).met = (bpart nx a0 k n).met ++ [nx x n] := fun h => by rw [bpart_new (by rw [← HhM.out, ← Hhxx.out]; exact h), ← HhM.out, ← Hhxx.out]
          have hQy : Q (nx x n) := HQ.out x n hn3 HhQx.out
          have hf := Hfit.out _ hQy
          have hNx := fun w' (h : Below w.heap.size w w') => HN.out x n w' HhQx.out hn3 h
          have hrowy : (intCells (numRow nx F x))[n]? = some (.int .i64 (placeOf F (nx x n) : Int)) := by simp [numRow, hn3]
          obtain ⟨S1, hS1⟩ : ∃ S1, S1 = (bpart nx a0 k (n + 1)).met := ⟨_, rfl⟩
          obtain ⟨S, hSS⟩ : ∃ S, S = (bpart nx a0 k n).met := ⟨_, rfl⟩
          obtain ⟨y, hy⟩ : ∃ y, y = nx x n := ⟨_, rfl⟩
          rw [← hSS] at hSi hMS hSl hnd hold hnew hSF hT0
          rw [← hS1] at hold hnew hSF1 hT1
          rw [← hy] at hQy hf hNx hold hnew hrowy
          rw [← hSS]
          have hxS : S.getD k a0 = x := by rw [Hhxx.out]; exact prefix_getD hMS hlt _
          have hkS : (k : Int) < S.length := by omega
          have e1 := hSi.rcell (v := .int .i64 x) 2 k rfl (by omega) (by rw [← hxS]; simp [intCells, show k < S.length by omega])
          obtain ⟨ly, hly⟩ := Try.keyOfInt y hf
          have hNx' := Lib.hid (hNx _ hSi.bel)
          have HhSS := Lib.hid hSS; clear hSS
          have HhS1 := Lib.hid hS1; clear hS1
          have Hhy := Lib.hid hy; clear hy
          have Hhnd := Lib.hid hnd; clear hnd
          have Hhold := Lib.hid hold; clear hold
          have Hhnew := Lib.hid hnew; clear hnew
          have HhSF := Lib.hid hSF; clear hSF
          have HhSF1 := Lib.hid hSF1; clear hSF1
          have Hhrowy := Lib.hid hrowy; clear hrowy
          have Hhcs := Lib.hid hcs; clear hcs
          have Hhtk := Lib.hid htk; clear htk
          have HhSi := Lib.hid hSi; clear hSi
          have HhMS := Lib.hid hMS; clear hMS
          have HhQy := Lib.hid hQy; clear hQy
          have Hhf := Lib.hid hf; clear hf
          have HhxS := Lib.hid hxS; clear hxS
          have Hhly := Lib.hid hly; clear hly
          clear hNx
          go_wp2_with fail
          refine hNx'.out.mono ?_
          rintro e w3 ⟨rfl, hb3⟩
          have hS3 := HhSi.out.call hb3
          clear hb3 e1
          by_cases hmem : y ∈ S
          · have hlk1 := (hS3.map 1 rfl).lookupOk Try.lawInt intEnc_inj Try.underlying134 (zeroIntI _) Hhly.out
            have hlk2 := (hS3.map 1 rfl).lookup Try.lawInt intEnc_inj Try.underlying134 (zeroIntI _) Hhly.out
            have hpl : placeOf S y = placeOf F y := (prefix_idx HhSF.out hmem).symm
            rw [look_numbered Hhnd.out hmem, hpl] at hlk1 hlk2
            simp only [Option.getD_some, Option.isSome_some, intEnc] at hlk1 hlk2
            obtain ⟨q, hq⟩ : ∃ q, q = placeOf F y := ⟨_, rfl⟩
            rw [← hq] at hlk1 hlk2
            obtain ⟨u0, hu0⟩ := row_some (hS3.row 6 rfl) n (by omega)
            have hfr := hS3.rfr 6 n rfl
            have Hhq := Lib.hid hq; clear hq
            have Hhpl := Lib.hid hpl; clear hpl
            have HhS3 := Lib.hid hS3; clear hS3
            have Hhmem := Lib.hid hmem; clear hmem
            go_wp2
            go_roundw
            case rel =>
              refine ⟨n + 1, g4, c4, cs.set n (.int .i64 (q : Int)), by go_num, by rw [← HhS1.out, Hhold.out Hhmem.out], by omega, by simpa using Hhcs.out, cells_set (n := 3) Hhcs.out (by simp [numRow]) hn3 Hhtk.out (by rw [Hhrowy.out, ← Hhq.out]), ?_⟩
              rw [← HhS1.out, Hhold.out Hhmem.out]
              exact HhS3.out.store 6 rfl n (.int .i64 (q : Int))
            case measure => simp [intOf]; omega
          · have hlk1 := (hS3.map 1 rfl).lookupOk Try.lawInt intEnc_inj Try.underlying134 (zeroIntI _) Hhly.out
            rw [look_unnumbered hmem] at hlk1
            simp only [Option.getD_none, Option.isSome_none, intEnc] at hlk1
            have hnw := Hhnew.out hmem
            have hfull : S.length < most := by rw [hnw] at hT1; simp at hT1; omega
            have hq1 : ((S.length : Int) == (most : Int)) = false := by simp; omega
            have hq2 : ¬ (S.length : Int) = (most : Int) := by omega
            obtain ⟨w5, hrun5, hm5, hg5⟩ := (hS3.map 1 rfl).store Try.lawInt intEnc_inj Try.underlying134 Hhly.out (.int .i64 (S.length : Int))
            rw [upd_unnumbered hmem] at hm5
            simp only [intEnc] at hrun5
            have hS5 := hS3.mapset 1 rfl hm5 hg5
            have hSa := hS5.alloc_ (.cells #[.int .i64 y] 3)
            have hR := hSa.row 2 rfl
            obtain ⟨q, hq⟩ : ∃ q, q = placeOf F y := ⟨_, rfl⟩
            have hA : ∀ w7, MapL Try.prog 3 intEnc w7 (w.heap.size + 1) (numbered (S ++ [y])) → (Instr.lookup 134 (.map (some (w.heap.size + 1))) (.int .i64 y) false).run Try.prog w7 = .ok (.int .i64 (q : Int)) w7 := fun w7 h7 => by
              have hlk7 := h7.lookup Try.lawInt intEnc_inj Try.underlying134 (zeroIntI _) Hhly.out
              have hpl : placeOf (S ++ [y]) y = placeOf F y := (prefix_idx (by rw [← hnw]; exact HhSF1.out) (by simp)).symm
              rw [look_numbered (nodup_snoc Hhnd.out hmem) (by simp), hpl, ← hq] at hlk7
              exact hlk7
            have hsb : (S.length + 1) * 8 ≤ 140737488355328 := by omega
            have hs63 : S.length + 1 ≤ maxLen := by unfold maxLen; omega
            have Hhq := Lib.hid hq; clear hq
            have HhA := Lib.hid hA; clear hA
            have HhS3 := Lib.hid hS3; clear hS3
            have HhS5 := Lib.hid hS5; clear hS5
            have HhSa := Lib.hid hSa; clear hSa
            have HhR := Lib.hid hR; clear hR
            have Hhm5 := Lib.hid hm5; clear hm5
            have Hhg5 := Lib.hid hg5; clear hg5
            have Hhmem := Lib.hid hmem; clear hmem
            have Hhnw := Lib.hid hnw; clear hnw
            go_wp2_with (at_builtin; refine wpList_append_lies _ rfl _ _ _ rfl _ 3 i0 (.int .i64 0) 1 8 Try.underlying60 Hhi.out Hhz0.out Hhz1.out Hhz2.out rfl (by omega) _ S.length _ rfl HhR.out ⟨w5.heap.size, 0, none⟩ 1 1 [.int .i64 y] rfl rfl (World.news_of_block (heap_alloc_new w5 _)) one_int (by omega) hs63 hsb HhSa.out.size _ rfl ?_; intro g7 c7 w7 hown7 hgrow7 hat7 hlt7; have HS7 := Lib.hid (HhSa.out.app 2 rfl hown7 hgrow7 hat7); have hlk7 := HhA.out w7 (HS7.out.map 1 rfl); obtain ⟨u0, hu0⟩ := row_some (HS7.out.row 6 rfl) n (by omega); have hfr7 := HS7.out.rfr 6 n rfl; clear hown7 hgrow7 hat7)
            go_roundw
            case rel =>
              refine ⟨n + 1, g7, c7, cs.set n (.int .i64 (q : Int)), by go_num, by rw [← HhS1.out, Hhnw.out, List.length_append]; rfl, by omega, by simpa using Hhcs.out, cells_set (n := 3) Hhcs.out (by simp [numRow]) hn3 Hhtk.out (by rw [Hhrowy.out, ← Hhq.out]), ?_⟩
              rw [← HhS1.out, Hhnw.out, List.length_append, intCells_snoc]
              exact HS7.out.store 6 rfl n (.int .i64 (q : Int))
            case measure => simp [intOf]; omega
        · obtain rfl : n = 3 := by omega
          have hbs : (bat nx a0 (k + 1)).met = (bpart nx a0 k 3).met := congrArg Bs.met (bat_succ (by rw [← HhM.out]; exact hlt))
          have hxS : (bpart nx a0 k 3).met.getD k a0 = x := by rw [Hhxx.out]; exact prefix_getD hMS hlt _
          have htake : (bpart nx a0 k 3).met.take (k + 1) = M.take k ++ [x] := by
            obtain ⟨t, ht⟩ := hMS
            rw [← ht, List.take_append_of_le_length (by omega), List.take_succ_eq_append_getElem hlt, Hhxx.out]
            simp [hlt]
          obtain ⟨S, hSS⟩ : ∃ S, S = (bpart nx a0 k 3).met := ⟨_, rfl⟩
          rw [← hSS] at hSi hxS htake hSl hbs
          rw [← hSS]
          have hkS : k < S.length := by omega
          have hkSI : (k : Int) < S.length := by omega
          have hce : cs = intCells (numRow nx F x) := by rwa [List.take_of_length_le (by omega), List.take_of_length_le (by simp [numRow])] at htk
          subst hce
          have hlm : (((M.take k).map (numRow nx F)).map intCells).length = k := by rw [map2_len, List.length_take]; omega
          have hSa := hSi.alloc_ (.cells #[.slice (some ⟨wo.heap.size, 0, none⟩) 3 3] 60)
          have hRw := (hSa.rows 4 rfl).1
          rw [hlm] at hRw
          have e0 := hSi.cell (v := .slice a1 k c1) 3 0 rfl rfl
          have hsx : (intCells S)[k]? = some (.int .i64 x) := by rw [← hxS]; simp [intCells, hkS]
          have htk1 : (S.take (k + 1)).map (numRow nx F) = (M.take k).map (numRow nx F) ++ [numRow nx F x] := by rw [htake, List.map_append]; rfl
          have htk2 : (S.take (k + 1)).map en = (M.take k).map en ++ [en x] := by rw [htake, List.map_append]; rfl
          have hEn := fun w' (h : Below w.heap.size w w') => HE.out x w' HhQx.out h
          obtain ⟨r, hr⟩ : ∃ r, r = en x := ⟨_, rfl⟩
          rw [← hr] at hEn htk2
          have HEn := Lib.hid hEn
          have Hhlm := Lib.hid hlm; clear hlm
          have HhSi := Lib.hid hSi; clear hSi
          have HhSa := Lib.hid hSa; clear hSa
          have HhRw := Lib.hid hRw; clear hRw
          have Hhbs := Lib.hid hbs; clear hbs
          have HhSS := Lib.hid hSS; clear hSS
          have Hhtake := Lib.hid htake; clear htake
          have Hhsx := Lib.hid hsx; clear hsx
          have HhxS := Lib.hid hxS; clear hxS
          have Hhtk1 := Lib.hid htk1; clear htk1
          have Hhtk2 := Lib.hid htk2; clear htk2
          have HhMS := Lib.hid hMS; clear hMS
          have Hhcs := Lib.hid hcs; clear hcs
          have Hhtk := Lib.hid htk; clear htk
          have Hhr := Lib.hid hr; clear hr
          clear hEn
          go_wp2_with (at_builtin; refine wpList_append_lies _ rfl _ _ _ rfl _ 60 j0 (.slice none 0 0) 1 24 Try.underlying27 Hhj.out Hhy0.out Hhy1.out Hhy2.out rfl (by omega) _ k _ rfl HhRw.out ⟨wr.heap.size, 0, none⟩ 1 1 [.slice (some ⟨wo.heap.size, 0, none⟩) 3 3] rfl rfl (World.news_of_block (heap_alloc_new wr _)) one_slice (by omega) (by unfold maxLen; omega) (by omega) HhSa.out.size _ rfl ?_; intro g6 c6 w6 hown6 hgrow6 hat6 hlt6; have HS6 := Lib.hid (HhSa.out.snoc 4 6 (by decide) rfl rfl (by decide) hgrow6 (by rw [Hhlm.out]; exact hown6) (hat_of hat6)); have y1 := HS6.out.cell (v := .slice a1 k c1) 3 0 rfl rfl; have y2 := HS6.out.fr 3 0 rfl; clear hown6 hgrow6 hat6 hlt6)
          have hSq := (HS6.out.set 3 rfl 0 (.slice (some ⟨g6, 0, none⟩) (k + 1) c6)).pick [0, 1, 2, 3, 4, 5] (by decide)
          obtain ⟨wq, hwq⟩ : ∃ wq, wq = w6.setCell ⟨w1.heap.size + 1, 0, none⟩ (.slice (some ⟨g6, 0, none⟩) (k + 1) c6) := ⟨_, rfl⟩
          rw [← hwq] at hSq
          have hSq' : St w wq [Ent.box w.heap.size #[.slice none 0 0, .slice none 0 0] 30, Ent.map 3 intEnc (w.heap.size + 1) (numbered S), Ent.row 3 1 (.slice (some ⟨g4, 0, none⟩) S.length c4) S.length (intCells S),
              Ent.box (w1.heap.size + 1) #[.slice (some ⟨g6, 0, none⟩) (k + 1) c6, .slice a2 k c2] 30,
              Ent.rows 60 3 (.slice (some ⟨g6, 0, none⟩) (k + 1) c6) (vs ++ [.slice (some ⟨wo.heap.size, 0, none⟩) 3 3]) (((S.take (k + 1)).map (numRow nx F)).map intCells), Ent.row 4 1 (.slice a2 k c2) k (boolCells ((M.take k).map en))] := by
            rw [Hhtk1.out, List.map_append]
            exact hSq
          rw [← hwq]
          have HSq := Lib.hid hSq'
          have Hhwq := Lib.hid hwq; clear hwq
          clear hSq hSq' y1 y2 e0 HS6
          refine wp_region_any (by kernel_rfl) ?_
          refine wpAny_invA (fun A listed a w' => ∃ (l0 l1 l2 l3 l4 l5 l6 l7 l8 l9 l10 l11 : Bool) (g7 : Nat) (c7 : Nat) (bn : Nat), listed = #[l0, l1, l2, l3, l4, l5, l6, l7, l8, l9, l10, l11] ∧ (l9 = true → l1 = true ∧ l8 = true) ∧ (l11 = true → l9 = true ∧ l1 = true) ∧
              a = ⟨(((((((((((A.tmps.setIfInBounds 76 (if l0 = true then .pointer (some ⟨w1.heap.size + 1, 1, none⟩) else A.tmps.getD 76 undef)).setIfInBounds 77 (if l1 = true then .slice a2 k c2 else A.tmps.getD 77 undef)).setIfInBounds 78 (if l2 = true then .func (.func 86) #[] #[.pointer (some ⟨bd, 0, none⟩)] else A.tmps.getD 78 undef)).setIfInBounds 79 (if l3 = true then .slice (some ⟨g4, 0, none⟩) S.length c4 else A.tmps.getD 79 undef)).setIfInBounds 80 (if l4 = true then .int .i64 (k : Int) else A.tmps.getD 80 undef)).setIfInBounds 81 (if l5 = true then .pointer (some ⟨g4, k, none⟩) else A.tmps.getD 81 undef)).setIfInBounds 82 (if l6 = true then .int .i64 x else A.tmps.getD 82 undef)).setIfInBounds 83 (if l7 = true then .bool r else A.tmps.getD 83 undef)).setIfInBounds 84 (if l8 = true then .slice (some ⟨bn, 0, none⟩) 1 1 else A.tmps.getD 84 undef)).setIfInBounds 85 (if l9 = true then .slice (some ⟨g7, 0, none⟩) (k + 1) c7 else A.tmps.getD 85 undef)).setIfInBounds 86 (if l10 = true then .pointer (some ⟨w1.heap.size + 1, 1, none⟩) else A.tmps.getD 86 undef)), A.defers⟩ ∧
              St w w' [Ent.box w.heap.size #[.slice none 0 0, .slice none 0 0] 30, Ent.map 3 intEnc (w.heap.size + 1) (numbered S), Ent.row 3 1 (.slice (some ⟨g4, 0, none⟩) S.length c4) S.length (intCells S), Ent.box (w1.heap.size + 1) #[.slice (some ⟨g6, 0, none⟩) (k + 1) c6, (if l11 = true then .slice (some ⟨g7, 0, none⟩) (k + 1) c7 else .slice a2 k c2)] 30, Ent.rows 60 3 (.slice (some ⟨g6, 0, none⟩) (k + 1) c6) (vs ++ [.slice (some ⟨wo.heap.size, 0, none⟩) 3 3]) (((S.take (k + 1)).map (numRow nx F)).map intCells), (if l9 = true then Ent.row 4 1 (.slice (some ⟨g7, 0, none⟩) (k + 1) c7) (k + 1) ((boolCells ((M.take k).map en)) ++ [.bool r]) else Ent.row 4 1 (.slice a2 k c2) k (boolCells ((M.take k).map en))), (if l8 = true then Ent.box bn #[.bool r] 4 else Ent.nil)]) ?_ ?_ ?_
          · rintro listed a w' ⟨l0, l1, l2, l3, l4, l5, l6, l7, l8, l9, l10, l11, g7, c7, bn, rfl, hd9, hd11, rfl, hS⟩ i hi
            obtain ⟨hun, o, ho, hall⟩ := mem_ready.1 hi
            have hlt := (Array.getElem?_eq_some_iff.1 ho).1
            refine wpOp_step ho (fun K hK => ?_)
            clear hi
            have HS := Lib.hid hS
            clear hS
            simp only [List.setIfInBounds_toArray, List.set_cons_zero, List.set_cons_succ, Array.getD_eq_getD_getElem?, List.getElem?_toArray, List.getElem?_cons_zero, List.getElem?_cons_succ, Option.getD_some]
            obtain h | h | h | h | h | h | h | h | h | h | h | h : i = 0 ∨ i = 1 ∨ i = 2 ∨ i = 3 ∨ i = 4 ∨ i = 5 ∨ i = 6 ∨ i = 7 ∨ i = 8 ∨ i = 9 ∨ i = 10 ∨ i = 11 := by simp at hlt; omega
            all_goals subst h
            all_goals simp only [List.getElem?_toArray, List.getElem?_cons_zero, List.getElem?_cons_succ, Option.some.injEq] at ho
            all_goals subst ho
            all_goals simp [Region.binds] at hun hall
            · subst hun
              go_simp
              exact hK _ _ ⟨true, l1, l2, l3, l4, l5, l6, l7, l8, l9, l10, l11, g7, c7, bn, rfl, hd9, hd11, (by simp), HS.out⟩
            · obtain rfl := hall
              subst hun
              obtain rfl : l9 = false := offL hd9 rfl
              obtain rfl : l11 = false := offL hd11 rfl
              have e0 := HS.out.cell (v := .slice a2 k c2) 3 1 rfl rfl
              go_simp
              exact hK _ _ ⟨true, true, l2, l3, l4, l5, l6, l7, l8, false, l10, false, g7, c7, bn, rfl, by simp, by simp, (by simp), HS.out⟩
            · subst hun
              go_simp
              exact hK _ _ ⟨l0, l1, true, l3, l4, l5, l6, l7, l8, l9, l10, l11, g7, c7, bn, rfl, hd9, hd11, (by simp), HS.out⟩
            · subst hun
              go_simp
              exact hK _ _ ⟨l0, l1, l2, true, l4, l5, l6, l7, l8, l9, l10, l11, g7, c7, bn, rfl, hd9, hd11, (by simp), HS.out⟩
            · subst hun
              go_simp
              exact hK _ _ ⟨l0, l1, l2, l3, true, l5, l6, l7, l8, l9, l10, l11, g7, c7, bn, rfl, hd9, hd11, (by simp), HS.out⟩
            · obtain ⟨rfl, rfl⟩ := hall
              subst hun
              go_simp
              exact hK _ _ ⟨l0, l1, l2, true, true, true, l6, l7, l8, l9, l10, l11, g7, c7, bn, rfl, hd9, hd11, (by simp), HS.out⟩
            · obtain rfl := hall
              subst hun
              have e0 := HS.out.rcell (v := .int .i64 x) 2 k rfl (by omega) Hhsx.out
              go_simp
              exact hK _ _ ⟨l0, l1, l2, l3, l4, true, true, l7, l8, l9, l10, l11, g7, c7, bn, rfl, hd9, hd11, (by simp), HS.out⟩
            · obtain ⟨rfl, rfl⟩ := hall
              subst hun
              go_simp
              go_at_call 86
              refine (HEn.out _ HS.out.bel).mono ?_
              rintro e u1 ⟨rfl, hbx⟩
              have hS2 := HS.out.call hbx
              have HhS2 := Lib.hid hS2; clear hS2
              go_simp
              exact hK _ _ ⟨l0, l1, true, l3, l4, l5, true, true, l8, l9, l10, l11, g7, c7, bn, rfl, hd9, hd11, (by simp), HhS2.out⟩
            · obtain rfl := hall
              subst hun
              obtain rfl : l9 = false := offR hd9 rfl
              obtain rfl : l11 = false := offL hd11 rfl
              have hS2 := (HS.out.alloc _ rfl #[.bool r] 4).pick [0, 1, 2, 3, 4, 5, 7] (by decide)
              have HhS2 := Lib.hid hS2; clear hS2
              go_simp
              exact hK _ _ ⟨l0, l1, l2, l3, l4, l5, l6, true, true, false, l10, false, g7, c7, _, rfl, by simp, by simp, (by simp), HhS2.out⟩
            · obtain ⟨rfl, rfl, rfl⟩ := hall
              subst hun
              obtain rfl : l11 = false := offL hd11 rfl
              refine step_append_lies (a := ⟨_, _⟩) _ (by rfl) _ _ _ (by rfl) w.heap.size 4 b0 (.bool false) 1 1 Try.underlying28 Hhbi0.out Hhx0.out Hhx1.out Hhx2.out (by rfl) (by omega) (.slice a2 k c2) k (boolCells ((M.take k).map en)) (by rfl) (HS.out.row 5 rfl) ⟨bn, 0, none⟩ 1 1 [.bool r] (by rfl) (by rfl) (World.news_of_block (HS.out.box 6 rfl)) one_bool (by omega) (by unfold maxLen; omega) (by omega) HS.out.size _ rfl ?_
              intro g8 c8 w8 hown8 hgrow8 hat8 hlt8
              have HS8 := Lib.hid (HS.out.app 5 rfl hown8 hgrow8 hat8)
              clear hown8 hgrow8 hat8
              go_simp
              exact hK _ _ ⟨l0, true, l2, l3, l4, l5, l6, true, true, true, l10, false, g8, c8, bn, rfl, by simp, by simp, (by simp), HS8.out⟩
            · obtain ⟨rfl, rfl, rfl, rfl, rfl, rfl, rfl, rfl, rfl, rfl⟩ := hall
              subst hun
              go_simp
              exact hK _ _ ⟨true, true, true, true, true, true, true, true, true, true, true, l11, g7, c7, bn, rfl, by simp, hd11, (by simp only [↓reduceIte, List.setIfInBounds_toArray, List.set_cons_zero, List.set_cons_succ]), HS.out⟩
            · obtain ⟨rfl, rfl, rfl, rfl, rfl, rfl, rfl, rfl, rfl, rfl, rfl, -⟩ := hall
              subst hun
              have f0 := HS.out.fr 3 1 rfl
              have k0 := HS.out.cell (v := .slice a2 k c2) 3 1 rfl rfl
              go_simp
              exact hK _ _ ⟨true, true, true, true, true, true, true, true, true, true, true, true, g7, c7, bn, rfl, by simp, by simp, (by simp only [↓reduceIte, List.setIfInBounds_toArray, List.set_cons_zero, List.set_cons_succ]), (HS.out.set 3 rfl 1 (.slice (some ⟨g7, 0, none⟩) (k + 1) c7))⟩
          · rintro listed a w' ⟨l0, l1, l2, l3, l4, l5, l6, l7, l8, l9, l10, l11, g7, c7, bn, rfl, hd9, hd11, rfl, hS⟩ hr
            have hall := ready_nil (by kernel_rfl) rfl hr
            obtain rfl : l0 = true := by simpa using hall 0 (by simp)
            obtain rfl : l1 = true := by simpa using hall 1 (by simp)
            obtain rfl : l2 = true := by simpa using hall 2 (by simp)
            obtain rfl : l3 = true := by simpa using hall 3 (by simp)
            obtain rfl : l4 = true := by simpa using hall 4 (by simp)
            obtain rfl : l5 = true := by simpa using hall 5 (by simp)
            obtain rfl : l6 = true := by simpa using hall 6 (by simp)
            obtain rfl : l7 = true := by simpa using hall 7 (by simp)
            obtain rfl : l8 = true := by simpa using hall 8 (by simp)
            obtain rfl : l9 = true := by simpa using hall 9 (by simp)
            obtain rfl : l10 = true := by simpa using hall 10 (by simp)
            obtain rfl : l11 = true := by simpa using hall 11 (by simp)
            clear hall hr hd9 hd11
            simp only [↓reduceIte] at hS ⊢
            simp only [List.setIfInBounds_toArray, List.set_cons_zero, List.set_cons_succ]
            have hS9 := hS.pick [0, 1, 2, 3, 4, 5] (by decide)
            have HhS9 := Lib.hid hS9; clear hS9
            clear hS
            go_wp2
            go_roundw
            case rel =>
              refine ⟨k + 1, g4, c4, some ⟨g6, 0, none⟩, some ⟨g7, 0, none⟩, c6, c7, vs ++ [.slice (some ⟨wo.heap.size, 0, none⟩) 3 3], by go_num, by rw [Hhbs.out], by rw [Hhbs.out]; omega, by omega, ?_⟩
              rw [Hhbs.out, Hhtk2.out, boolCells_snoc]
              exact HhS9.out
            case measure => simp [intOf]; omega
          · refine ⟨false, false, false, false, false, false, false, false, false, false, false, false, 0, 0, 0, rfl, by simp, by simp, (by simp), ?_⟩
            exact HSq.out.drew.pick [0, 1, 2, 3, 4, 5, 6] (by decide)
    · have hMF : M = F := by rw [HhF.out, hM]; exact (congrArg Bs.met (bat_done (by rw [← hM]; omega) (by omega))).symm
      obtain rfl : k = M.length := by omega
      subst hMF
      rw [List.take_length] at hS
      have d0 := hS.cell (v := .slice a1 M.length c1) 3 0 rfl rfl
      have d1 := hS.cell (v := .slice a2 M.length c2) 3 1 rfl rfl
      have f0 := hS.fr 0 0 rfl
      have f1 := hS.fr 0 1 rfl
      have k0 := hS.cell (v := .slice none 0 0) 0 0 rfl rfl
      have k1 := hS.cell (v := .slice none 0 0) 0 1 rfl rfl
      have HhS := Lib.hid hS; clear hS
      have HhM := Lib.hid hM; clear hM
      clear hk hMl
      go_wp2
      have hq := (HhS.out.set 0 rfl 0 (.slice a1 M.length c1)).set 0 rfl 1 (.slice a2 M.length c2)
      have q0 := hq.cell (v := .slice a1 M.length c1) 0 0 rfl rfl
      have q1 := hq.cell (v := .slice a2 M.length c2) 0 1 rfl rfl
      refine bodyPost_ret (v := .tuple #[.agg #[.slice a1 M.length c1, .slice a2 M.length c2], .slice (some ⟨g3, 0, none⟩) M.length c3, .bool true]) (by simp [results, Try.results81, go_sem, q0, q1]) rfl ?_
      exact ⟨a1, c1, a2, c2, _, c3, vs, rfl, hq.pick [4, 5, 2] (by decide)⟩
end Go.Proofs.Ytfgpkadhegdffaa
namespace Go.Proofs.Ytfgpkadhegdffaa
open Go.RowKit
set_option maxHeartbeats 1600000 in
theorem min1_any (d : DfaD) (cl : Nat → Nat) (b1 o1 cv b2 o2 cw bc bd g cg x c : Nat) (w : World) (hC : DfaC w d b1 o1 cv b2 o2 cw) (hx : x < d.next.length) (hc : c < 3) (hb : Bx w bd #[.slice (some ⟨b1, o1, none⟩) d.next.length cv, .slice (some ⟨b2, o2, none⟩) d.next.length cw] 30)
    (hbc : Bx w bc #[.slice (some ⟨g, 0, none⟩) d.next.length cg] 60) (hcl : ∀ s, s < d.next.length → w.cell? ⟨g, s, none⟩ = some (.int .i64 ((cl s : Nat) : Int))) :
    Calls Try.prog 85 #[.int .i64 (x : Nat), .int .i64 (c : Nat), .pointer (some ⟨bc, 0, none⟩), .pointer (some ⟨bd, 0, none⟩)] w fun e w' => e = .returned (.int .i64 ((cl (nxD d x c) : Nat) : Int)) ∧ Below w.heap.size w w' := by
  have c0 := hb.cell 0
  have c1 := hbc.cell 0
  simp only [List.getElem?_toArray, List.getElem?_cons_zero] at c0 c1
  obtain ⟨b3, o3, c3, p1, p2, p3, p4, p5⟩ := hC.row x hx
  have p6 := p5 c hc
  have hyl := hC.lt x c hx hc
  obtain ⟨y, hy⟩ : ∃ y, y = nxD d x c := ⟨_, rfl⟩
  rw [← hy] at p6 hyl
  rw [← hy]
  have c2 := hcl y hyl
  obtain ⟨z, hz⟩ : ∃ z, z = cl y := ⟨_, rfl⟩
  rw [← hz] at c2
  rw [← hz]
  have hc3 : (c : Int) < 3 := by omega
  have hxL : (x : Int) < d.next.length := by omega
  have hyL : (y : Int) < d.next.length := by omega
  have hl2 := hC.l2
  have Hhy := Lib.hid hy; clear hy
  have Hhz := Lib.hid hz; clear hz
  clear p5 hC hb hbc hcl
  go_enter Try.func85, Try.ntmps85
  go_wp2
  go_quiet (fail)
  go_wp2
  go_ret
  exact ⟨rfl, below_drewN (Below.refl _ _) _⟩
set_option maxHeartbeats 1600000 in
theorem min2_any (d : DfaD) (b1 o1 cv b2 o2 cw bd x : Nat) (w : World) (hC : DfaC w d b1 o1 cv b2 o2 cw) (hx : x < d.next.length) (hb : Bx w bd #[.slice (some ⟨b1, o1, none⟩) d.next.length cv, .slice (some ⟨b2, o2, none⟩) d.next.length cw] 30) :
    Calls Try.prog 86 #[.int .i64 (x : Nat), .pointer (some ⟨bd, 0, none⟩)] w fun e w' => e = .returned (.bool (den d (x : Int))) ∧ Below w.heap.size w w' := by
  have c0 := hb.cell 1
  simp only [List.getElem?_toArray, List.getElem?_cons_zero, List.getElem?_cons_succ] at c0
  have p6 := hC.en x hx
  have hz : den d (x : Int) = enD d x := by simp [den, enD]
  rw [hz]
  obtain ⟨y, hy⟩ : ∃ y, y = enD d x := ⟨_, rfl⟩
  rw [← hy] at p6
  rw [← hy]
  have hxL : (x : Int) < d.next.length := by omega
  have hl2 := hC.l2
  have Hhy := Lib.hid hy; clear hy
  have Hhz := Lib.hid hz; clear hz
  clear hC hb
  go_enter Try.func86, Try.ntmps86
  go_wp2
  go_ret
  exact ⟨rfl, Below.refl _ _⟩
theorem minM_facts {d : DfaD} (hd : dfaOk d.next d.ends = true) (K : Nat) : (∀ x ∈ (bat (nxM d) ((clD d 0 : Nat) : Int) K).met, 0 ≤ x ∧ x < (d.next.length : Int)) ∧ (bat (nxM d) ((clD d 0 : Nat) : Int) K).met.length ≤ d.next.length := by
  have hf := fine_of hd
  have hl := dfaOk_len hd
  have h1 : ∀ x ∈ (bat (nxM d) ((clD d 0 : Nat) : Int) K).met, 0 ≤ x ∧ x < (d.next.length : Int) := by
    refine bat_all (Q := fun x => 0 ≤ x ∧ x < (d.next.length : Int)) ?_ (fun x c hc hx => ?_) K
    · have := (clD_le (d := d) 0 (by omega)).1
      omega
    · have h2 := (nxD_lt hf (s := x.toNat) (c := c) (by omega) hc).1
      have h3 := (clD_le (d := d) (nxD d x.toNat c) h2).1
      unfold nxM
      omega
  refine ⟨h1, ?_⟩
  have h2 := nodup_le (bat_good (nx := nxM d) (a := ((clD d 0 : Nat) : Int)) K).1 (m := upInts d.next.length) (fun x hx => by
    have := h1 x hx
    have e : x = ((x.toNat : Nat) : Int) := by omega
    rw [e, mem_upInts]
    omega)
  rw [upInts_len] at h2
  exact h2
set_option maxRecDepth 100000 in
set_option maxHeartbeats 4000000 in
theorem implMin_any (d : DfaD) (v : Value) (w : World) (hd : dfaOk d.next d.ends = true) (h : DfaR 0 w v d) :
    Calls Try.prog 48 #[v] w fun e w' => RDo (minD d) w e w' := by
  have HR := Lib.hid h
  obtain ⟨b1, o1, cv, b2, o2, cw, rfl, hC⟩ := dfa_open hd h
  have hl1 := hC.l1
  have hl2 := hC.l2
  have hFl := (minM_facts hd d.next.length).2
  have hS0 := ((St.start w).alloc _ rfl #[.slice (some ⟨b1, o1, none⟩) d.next.length cv, .slice (some ⟨b2, o2, none⟩) d.next.length cw] 30).alloc (w.heap.size + 1) (by simp) #[.slice none 0 0, .slice none 0 0] 30
  have hex := fun (W : World) (bc g cg : Nat) (hbx : Bx W w.heap.size #[.slice (some ⟨b1, o1, none⟩) d.next.length cv, .slice (some ⟨b2, o2, none⟩) d.next.length cw] 30) (hbc : Bx W bc #[.slice (some ⟨g, 0, none⟩) d.next.length cg] 60)
      (hg : g < W.heap.size) (hcl : ∀ s, s < d.next.length → W.cell? ⟨g, s, none⟩ = some (.int .i64 ((clD d s : Nat) : Int))) (hb : Below w.heap.size w W) =>
    exploredM_any ((clD d 0 : Nat) : Int) bc w.heap.size (nxM d) (den d) (fun x => 0 ≤ x ∧ x < (d.next.length : Int)) d.next.length W
      (by have := (clD_le (d := d) 0 (by omega)).1; omega)
      (fun x c hc hx => by
        have h2 := (nxD_lt (fine_of hd) (s := x.toNat) (c := c) (by omega) hc).1
        have h3 := (clD_le (d := d) (nxD d x.toNat c) h2).1
        unfold nxM
        omega)
      (fun x hx => by unfold fitI; omega) (by omega) (by omega) hFl
      (fun x c w' hx hc hb' => by
        obtain ⟨n, rfl⟩ : ∃ n : Nat, x = (n : Int) := ⟨x.toNat, by omega⟩
        exact min1_any d (clD d) b1 o1 cv b2 o2 cw bc w.heap.size g cg n c w' ((hC.below hb).below hb') (by omega) hc (hbx.below hb' hbx.lt) (hbc.below hb' hbc.lt) (fun s hs => (bcell hb' g _ hg).trans (hcl s hs)))
      (fun x w' hx hb' => by
        obtain ⟨n, rfl⟩ : ∃ n : Nat, x = (n : Int) := ⟨x.toNat, by omega⟩
        exact min2_any d b1 o1 cv b2 o2 cw w.heap.size n w' ((hC.below hb).below hb') (by omega) (hbx.below hb' hbx.lt))
  obtain ⟨F, hF⟩ : ∃ F, F = (bat (nxM d) ((clD d 0 : Nat) : Int) d.next.length).met := ⟨_, rfl⟩
  rw [← hF] at hex hFl
  have htr : minD d = ⟨F.map (numRow (nxM d) F), F.map (den d)⟩ := by unfold minD; rw [← hF]; rfl
  rw [htr]
  have hsm := fun (W : World) (hb : Below w.heap.size w W) => sameStates_any d (.agg #[.slice (some ⟨b1, o1, none⟩) d.next.length cv, .slice (some ⟨b2, o2, none⟩) d.next.length cw]) W hd (HR.out.below hb)
  unfold RCl at hsm
  obtain ⟨L, hL⟩ : ∃ L, L = d.next.length := ⟨_, rfl⟩
  obtain ⟨C, hK⟩ : ∃ C, C = clD d := ⟨_, rfl⟩
  rw [← hL, ← hK] at hex hsm
  rw [← hL] at hS0 hFl hl1 hl2
  rw [← hL]
  obtain ⟨k0, hk0⟩ : ∃ k0, k0 = C 0 := ⟨_, rfl⟩
  rw [← hk0] at hex
  have Hex := Lib.hid hex
  have Hsm := Lib.hid hsm
  have HhS0 := Lib.hid hS0; clear hS0
  have HhF := Lib.hid hF; clear hF
  have Hhtr := Lib.hid htr; clear htr
  have HhL := Lib.hid hL; clear hL
  have HhK := Lib.hid hK; clear hK
  have Hhk0 := Lib.hid hk0; clear hk0
  clear hex hsm hC h
  go_enter Try.func48, Try.ntmps48
  have e0 := HhS0.out.cell (v := .slice (some ⟨b1, o1, none⟩) L cv) 0 0 rfl rfl
  have e1 := HhS0.out.cell (v := .slice (some ⟨b2, o2, none⟩) L cw) 0 1 rfl rfl
  go_wp2_with fail
  refine (Hsm.out _ HhS0.out.bel).mono ?_
  rintro e w1 ⟨g, cg, rfl, hS'⟩
  have hS2 := (HhS0.out.cat hS').alloc _ rfl #[.slice (some ⟨g, 0, none⟩) L cg] 60
  have HS := Lib.hid hS2
  clear hS2 hS' e0 e1
  go_wp2
  have hc0 := clsL_cell (n := L) (s := 0) C (by omega)
  rw [← Hhk0.out] at hc0
  have hL0 : (0 : Int) < L := by omega
  have hL00 : 0 < L := by omega
  have Hhc0 := Lib.hid hc0; clear hc0
  refine wp_region_any (by kernel_rfl) ?_
  refine wpAny_invA (fun A listed a w' => ∃ (l0 l1 l2 l3 l4 l5 l6 l7 l8 l9 l10 l11 l12 l13 l14 l15 l16 : Bool) (a1 : Option Addr) (c1 : Nat) (a2 : Option Addr) (c2 : Nat) (a3 : Option Addr) (c3 : Nat) (vs : List Value) (b : Nat), listed = #[l0, l1, l2, l3, l4, l5, l6, l7, l8, l9, l10, l11, l12, l13, l14, l15, l16] ∧ (l8 = true → l7 = true ∧ l6 = true) ∧ (l9 = true → l8 = true ∧ l7 = true) ∧ (l10 = true → l9 = true ∧ l8 = true) ∧ (l11 = true → l9 = true ∧ l8 = true) ∧ (l14 = true → l10 = true ∧ l13 = true) ∧ (l15 = true → l11 = true ∧ l14 = true) ∧
      a = ⟨((((((((((((((((A.tmps.setIfInBounds 10 (if l0 = true then .slice (some ⟨g, 0, none⟩) L cg else A.tmps.getD 10 undef)).setIfInBounds 11 (if l1 = true then .pointer (some ⟨g, 0, none⟩) else A.tmps.getD 11 undef)).setIfInBounds 12 (if l2 = true then .int .i64 ((k0 : Nat) : Int) else A.tmps.getD 12 undef)).setIfInBounds 13 (if l3 = true then .pointer (some ⟨w.heap.size, 0, none⟩) else A.tmps.getD 13 undef)).setIfInBounds 14 (if l4 = true then .slice (some ⟨b1, o1, none⟩) L cv else A.tmps.getD 14 undef)).setIfInBounds 15 (if l5 = true then .int .i64 (L : Int) else A.tmps.getD 15 undef)).setIfInBounds 16 (if l6 = true then .func (.func 85) #[] #[.pointer (some ⟨w1.heap.size, 0, none⟩), .pointer (some ⟨w.heap.size, 0, none⟩)] else A.tmps.getD 16 undef)).setIfInBounds 17 (if l7 = true then .func (.func 86) #[] #[.pointer (some ⟨w.heap.size, 0, none⟩)] else A.tmps.getD 17 undef)).setIfInBounds 18 (if l8 = true then .tuple #[.agg #[.slice a1 F.length c1, .slice a2 F.length c2], .slice a3 F.length c3, .bool true] else A.tmps.getD 18 undef)).setIfInBounds 9 (if l9 = true then .tuple #[.agg #[.slice a1 F.length c1, .slice a2 F.length c2], .slice a3 F.length c3, .bool true] else A.tmps.getD 9 undef)).setIfInBounds 19 (if l10 = true then .agg #[.slice a1 F.length c1, .slice a2 F.length c2] else A.tmps.getD 19 undef)).setIfInBounds 20 (if l11 = true then .slice a3 F.length c3 else A.tmps.getD 20 undef)).setIfInBounds 21 (if l12 = true then .bool true else A.tmps.getD 21 undef)).setIfInBounds 4 (if l13 = true then .pointer (some ⟨b, 0, none⟩) else A.tmps.getD 4 undef)).setIfInBounds 5 (if l15 = true then .slice a3 F.length c3 else A.tmps.getD 5 undef)).setIfInBounds 6 (if l16 = true then .bool true else A.tmps.getD 6 undef)), A.defers⟩ ∧
      St w w' [Ent.box w.heap.size #[.slice (some ⟨b1, o1, none⟩) L cv, .slice (some ⟨b2, o2, none⟩) L cw] 30, Ent.box (w.heap.size + 1) #[.slice none 0 0, .slice none 0 0] 30, Ent.row 3 1 (.slice (some ⟨g, 0, none⟩) L cg) L (intCells (clsL L C)), Ent.box w1.heap.size #[.slice (some ⟨g, 0, none⟩) L cg] 60, (if l13 = true then Ent.box b (if l14 = true then #[.slice a1 F.length c1, .slice a2 F.length c2] else #[.slice none 0 0, .slice none 0 0]) 30 else Ent.nil), (if l8 = true then Ent.rows 60 3 (.slice a1 F.length c1) vs ((F.map (numRow (nxM d) F)).map intCells) else Ent.nil), (if l8 = true then Ent.row 4 1 (.slice a2 F.length c2) F.length (boolCells (F.map (den d))) else Ent.nil), (if l8 = true then Ent.row 3 1 (.slice a3 F.length c3) F.length (intCells F) else Ent.nil)]) ?_ ?_ ?_
  · rintro listed a w' ⟨l0, l1, l2, l3, l4, l5, l6, l7, l8, l9, l10, l11, l12, l13, l14, l15, l16, a1, c1, a2, c2, a3, c3, vs, b, rfl, hd8, hd9, hd10, hd11, hd14, hd15, rfl, hS⟩ i hi
    obtain ⟨hun, o, ho, hall⟩ := mem_ready.1 hi
    have hlt := (Array.getElem?_eq_some_iff.1 ho).1
    refine wpOp_step ho (fun K hK => ?_)
    clear hi
    have HS := Lib.hid hS
    clear hS
    simp only [List.setIfInBounds_toArray, List.set_cons_zero, List.set_cons_succ, Array.getD_eq_getD_getElem?, List.getElem?_toArray, List.getElem?_cons_zero, List.getElem?_cons_succ, Option.getD_some]
    obtain h | h | h | h | h | h | h | h | h | h | h | h | h | h | h | h | h : i = 0 ∨ i = 1 ∨ i = 2 ∨ i = 3 ∨ i = 4 ∨ i = 5 ∨ i = 6 ∨ i = 7 ∨ i = 8 ∨ i = 9 ∨ i = 10 ∨ i = 11 ∨ i = 12 ∨ i = 13 ∨ i = 14 ∨ i = 15 ∨ i = 16 := by simp at hlt; omega
    all_goals subst h
    all_goals simp only [List.getElem?_toArray, List.getElem?_cons_zero, List.getElem?_cons_succ, Option.some.injEq] at ho
    all_goals subst ho
    all_goals simp [Region.binds] at hun hall
    · subst hun
      have e0 := HS.out.cell (v := .slice (some ⟨g, 0, none⟩) L cg) 3 0 rfl rfl
      go_simp
      exact hK _ _ ⟨true, l1, l2, l3, l4, l5, l6, l7, l8, l9, l10, l11, l12, l13, l14, l15, l16, a1, c1, a2, c2, a3, c3, vs, b, rfl, hd8, hd9, hd10, hd11, hd14, hd15, (by simp), HS.out⟩
    · obtain rfl := hall
      subst hun
      go_simp
      exact hK _ _ ⟨true, true, l2, l3, l4, l5, l6, l7, l8, l9, l10, l11, l12, l13, l14, l15, l16, a1, c1, a2, c2, a3, c3, vs, b, rfl, hd8, hd9, hd10, hd11, hd14, hd15, (by simp), HS.out⟩
    · obtain rfl := hall
      subst hun
      have e0 := HS.out.rcell (v := .int .i64 ((k0 : Nat) : Int)) 2 0 rfl (by omega) Hhc0.out
      go_simp
      exact hK _ _ ⟨l0, true, true, l3, l4, l5, l6, l7, l8, l9, l10, l11, l12, l13, l14, l15, l16, a1, c1, a2, c2, a3, c3, vs, b, rfl, hd8, hd9, hd10, hd11, hd14, hd15, (by simp), HS.out⟩
    · subst hun
      go_simp
      exact hK _ _ ⟨l0, l1, l2, true, l4, l5, l6, l7, l8, l9, l10, l11, l12, l13, l14, l15, l16, a1, c1, a2, c2, a3, c3, vs, b, rfl, hd8, hd9, hd10, hd11, hd14, hd15, (by simp), HS.out⟩
    · obtain rfl := hall
      subst hun
      have e0 := HS.out.cell (v := .slice (some ⟨b1, o1, none⟩) L cv) 0 0 rfl rfl
      go_simp
      exact hK _ _ ⟨l0, l1, l2, true, true, l5, l6, l7, l8, l9, l10, l11, l12, l13, l14, l15, l16, a1, c1, a2, c2, a3, c3, vs, b, rfl, hd8, hd9, hd10, hd11, hd14, hd15, (by simp), HS.out⟩
    · obtain rfl := hall
      subst hun
      go_simp
      exact hK _ _ ⟨l0, l1, l2, l3, true, true, l6, l7, l8, l9, l10, l11, l12, l13, l14, l15, l16, a1, c1, a2, c2, a3, c3, vs, b, rfl, hd8, hd9, hd10, hd11, hd14, hd15, (by simp), HS.out⟩
    · subst hun
      obtain rfl : l8 = false := offR hd8 rfl
      obtain rfl : l9 = false := offL hd9 rfl
      obtain rfl : l10 = false := offL hd10 rfl
      obtain rfl : l11 = false := offL hd11 rfl
      obtain rfl : l14 = false := offL hd14 rfl
      obtain rfl : l15 = false := offL hd15 rfl
      go_simp
      exact hK _ _ ⟨l0, l1, l2, l3, l4, l5, true, l7, false, false, false, false, l12, l13, false, false, l16, a1, c1, a2, c2, a3, c3, vs, b, rfl, by simp, by simp, by simp, by simp, by simp, by simp, (by simp), HS.out⟩
    · subst hun
      obtain rfl : l8 = false := offL hd8 rfl
      obtain rfl : l9 = false := offL hd9 rfl
      obtain rfl : l10 = false := offL hd10 rfl
      obtain rfl : l11 = false := offL hd11 rfl
      obtain rfl : l14 = false := offL hd14 rfl
      obtain rfl : l15 = false := offL hd15 rfl
      go_simp
      exact hK _ _ ⟨l0, l1, l2, l3, l4, l5, l6, true, false, false, false, false, l12, l13, false, false, l16, a1, c1, a2, c2, a3, c3, vs, b, rfl, by simp, by simp, by simp, by simp, by simp, by simp, (by simp), HS.out⟩
    · obtain ⟨rfl, rfl, rfl, rfl⟩ := hall
      subst hun
      obtain rfl : l9 = false := offL hd9 rfl
      obtain rfl : l10 = false := offL hd10 rfl
      obtain rfl : l11 = false := offL hd11 rfl
      obtain rfl : l14 = false := offL hd14 rfl
      obtain rfl : l15 = false := offL hd15 rfl
      go_simp
      go_at_call 81
      refine (Hex.out _ _ _ _ (HS.out.box 0 rfl) (HS.out.box 3 rfl) (HS.out.rowlt 2 rfl).2 (fun x hx => HS.out.rcell 2 x rfl (by omega) (clsL_cell C hx)) HS.out.bel).mono ?_
      rintro e u1 ⟨a1, c1, a2, c2, a3, c3, vs, rfl, hSx⟩
      have hS2 := (HS.out.cat hSx).pick [0, 1, 2, 3, 4, 8, 9, 10] (by decide)
      have HhS2 := Lib.hid hS2; clear hS2
      go_simp
      exact hK _ _ ⟨l0, l1, true, l3, l4, true, true, true, true, false, false, false, l12, l13, false, false, l16, a1, c1, a2, c2, a3, c3, vs, b, rfl, by simp, by simp, by simp, by simp, by simp, by simp, (by simp), HhS2.out⟩
    · obtain rfl := hall
      subst hun
      obtain ⟨rfl, rfl⟩ := hd8 rfl
      obtain rfl : l10 = false := offL hd10 rfl
      obtain rfl : l11 = false := offL hd11 rfl
      obtain rfl : l14 = false := offL hd14 rfl
      obtain rfl : l15 = false := offL hd15 rfl
      go_simp
      exact hK _ _ ⟨l0, l1, l2, l3, l4, l5, true, true, true, true, false, false, l12, l13, false, false, l16, a1, c1, a2, c2, a3, c3, vs, b, rfl, by simp, by simp, by simp, by simp, by simp, by simp, (by simp), HS.out⟩
    · obtain rfl := hall
      subst hun
      obtain ⟨rfl, rfl⟩ := hd9 rfl
      obtain ⟨-, rfl⟩ := hd8 rfl
      obtain rfl : l14 = false := offL hd14 rfl
      obtain rfl : l15 = false := offR hd15 rfl
      go_simp
      exact hK _ _ ⟨l0, l1, l2, l3, l4, l5, true, true, true, true, true, l11, l12, l13, false, false, l16, a1, c1, a2, c2, a3, c3, vs, b, rfl, by simp, by simp, by simp, hd11, by simp, by simp, (by simp), HS.out⟩
    · obtain rfl := hall
      subst hun
      obtain ⟨rfl, rfl⟩ := hd9 rfl
      obtain ⟨-, rfl⟩ := hd8 rfl
      obtain rfl : l15 = false := offL hd15 rfl
      go_simp
      exact hK _ _ ⟨l0, l1, l2, l3, l4, l5, true, true, true, true, l10, true, l12, l13, l14, false, l16, a1, c1, a2, c2, a3, c3, vs, b, rfl, by simp, by simp, hd10, by simp, hd14, by simp, (by simp), HS.out⟩
    · obtain rfl := hall
      subst hun
      obtain ⟨rfl, rfl⟩ := hd9 rfl
      obtain ⟨-, rfl⟩ := hd8 rfl
      go_simp
      exact hK _ _ ⟨l0, l1, l2, l3, l4, l5, true, true, true, true, l10, l11, true, l13, l14, l15, l16, a1, c1, a2, c2, a3, c3, vs, b, rfl, by simp, by simp, hd10, hd11, hd14, hd15, (by simp), HS.out⟩
    · subst hun
      obtain rfl : l14 = false := offR hd14 rfl
      obtain rfl : l15 = false := offR hd15 rfl
      have hS2 := (HS.out.alloc _ rfl #[.slice none 0 0, .slice none 0 0] 30).pick [0, 1, 2, 3, 8, 5, 6, 7] (by decide)
      have HhS2 := Lib.hid hS2; clear hS2
      go_simp
      exact hK _ _ ⟨l0, l1, l2, l3, l4, l5, l6, l7, l8, l9, l10, l11, l12, true, false, false, l16, a1, c1, a2, c2, a3, c3, vs, _, rfl, hd8, hd9, hd10, hd11, by simp, by simp, (by simp), HhS2.out⟩
    · obtain ⟨rfl, rfl, rfl, rfl, rfl, rfl, rfl, rfl, rfl, rfl, rfl, -, rfl, -⟩ := hall
      subst hun
      obtain rfl : l15 = false := offR hd15 rfl
      have f0 := HS.out.fr 4 0 rfl
      have f1 := HS.out.fr 4 1 rfl
      have k0 := HS.out.cell (v := .slice none 0 0) 4 0 rfl rfl
      have k1 := HS.out.cell (v := .slice none 0 0) 4 1 rfl rfl
      go_simp
      exact hK _ _ ⟨true, true, true, true, true, true, true, true, true, true, true, l11, l12, true, true, false, l16, a1, c1, a2, c2, a3, c3, vs, b, rfl, by simp, by simp, by simp, hd11, by simp, by simp, (by simp), ((HS.out.set 4 rfl 0 (.slice a1 F.length c1)).set 4 rfl 1 (.slice a2 F.length c2))⟩
    · obtain ⟨rfl, rfl, rfl, rfl, rfl, rfl, rfl, rfl, rfl, rfl, rfl, rfl, rfl, -, rfl, -⟩ := hall
      subst hun
      go_simp
      exact hK _ _ ⟨true, true, true, true, true, true, true, true, true, true, true, true, l12, true, true, true, l16, a1, c1, a2, c2, a3, c3, vs, b, rfl, by simp, by simp, by simp, by simp, by simp, by simp, (by simp), HS.out⟩
    · obtain ⟨rfl, rfl, rfl, rfl, rfl, rfl, rfl, rfl, rfl, rfl, rfl, rfl, rfl, rfl, -, rfl, rfl, -⟩ := hall
      subst hun
      go_simp
      exact hK _ _ ⟨true, true, true, true, true, true, true, true, true, true, true, true, true, true, true, true, true, a1, c1, a2, c2, a3, c3, vs, b, rfl, by simp, by simp, by simp, by simp, by simp, by simp, (by simp only [↓reduceIte, List.setIfInBounds_toArray, List.set_cons_zero, List.set_cons_succ]), HS.out⟩
  · rintro listed a w' ⟨l0, l1, l2, l3, l4, l5, l6, l7, l8, l9, l10, l11, l12, l13, l14, l15, l16, a1, c1, a2, c2, a3, c3, vs, b, rfl, hd8, hd9, hd10, hd11, hd14, hd15, rfl, hS⟩ hr
    have hall := ready_nilM (by kernel_rfl) rfl hr
    obtain rfl : l0 = true := by simpa using hall 0 (by simp)
    obtain rfl : l1 = true := by simpa using hall 1 (by simp)
    obtain rfl : l2 = true := by simpa using hall 2 (by simp)
    obtain rfl : l3 = true := by simpa using hall 3 (by simp)
    obtain rfl : l4 = true := by simpa using hall 4 (by simp)
    obtain rfl : l5 = true := by simpa using hall 5 (by simp)
    obtain rfl : l6 = true := by simpa using hall 6 (by simp)
    obtain rfl : l7 = true := by simpa using hall 7 (by simp)
    obtain rfl : l8 = true := by simpa using hall 8 (by simp)
    obtain rfl : l9 = true := by simpa using hall 9 (by simp)
    obtain rfl : l10 = true := by simpa using hall 10 (by simp)
    obtain rfl : l11 = true := by simpa using hall 11 (by simp)
    obtain rfl : l12 = true := by simpa using hall 12 (by simp)
    obtain rfl : l13 = true := by simpa using hall 13 (by simp)
    obtain rfl : l14 = true := by simpa using hall 14 (by simp)
    obtain rfl : l15 = true := by simpa using hall 15 (by simp)
    obtain rfl : l16 = true := by simpa using hall 16 (by simp)
    clear hall hr hd8 hd9 hd10 hd11 hd14 hd15
    simp only [↓reduceIte] at hS ⊢
    simp only [List.setIfInBounds_toArray, List.set_cons_zero, List.set_cons_succ]
    have d0 := hS.cell (v := .slice a1 F.length c1) 4 0 rfl rfl
    have d1 := hS.cell (v := .slice a2 F.length c2) 4 1 rfl rfl
    have f0 := hS.fr 1 0 rfl
    have f1 := hS.fr 1 1 rfl
    have k0 := hS.cell (v := .slice none 0 0) 1 0 rfl rfl
    have k1 := hS.cell (v := .slice none 0 0) 1 1 rfl rfl
    have HS9 := Lib.hid hS
    clear hS
    go_wp2
    have hq := (HS9.out.set 1 rfl 0 (.slice a1 F.length c1)).set 1 rfl 1 (.slice a2 F.length c2)
    have q0 := hq.cell (v := .slice a1 F.length c1) 1 0 rfl rfl
    have q1 := hq.cell (v := .slice a2 F.length c2) 1 1 rfl rfl
    refine bodyPost_ret (v := .agg #[.slice a1 F.length c1, .slice a2 F.length c2]) (by simp [results, Try.results48, go_sem, q0, q1]) rfl ?_
    refine ⟨a1, c1, a2, c2, by simp only [List.length_map], ⟨.slice a1 F.length c1, .slice a2 F.length c2, by simp only [List.length_map], hq.intSS 5 rfl, ?_⟩, hq.bel⟩
    have hb := own_of_row (hq.row 6 rfl)
    unfold OBools
    simpa only [List.length_map] using hb
  · refine ⟨false, false, false, false, false, false, false, false, false, false, false, false, false, false, false, false, false, none, 0, none, 0, none, 0, [], 0, rfl, by simp, by simp, by simp, by simp, by simp, by simp, (by simp), ?_⟩
    exact HS.out.drew.pick [0, 1, 2, 3, 4, 5, 6, 7] (by decide)
def DfaV (B H : Nat) (v1 v2 : Value) (D : DfaD) : Ent := ⟨fun k => B ≤ k ∧ k < H, fun u => ∃ w : World, w.heap.size = H ∧ DfaR B w (.agg #[v1, v2]) D ∧ ∀ k, B ≤ k → k < H → u.heap[k]? = w.heap[k]?,
  fun _ _ ⟨w, h1, h2, h3⟩ hk => ⟨w, h1, h2, fun k p q => (hk k ⟨p, q⟩).trans (h3 k p q)⟩⟩
def RDs (D : DfaD) (w : World) (e : Ending) (w' : World) : Prop := ∃ a1 c1 a2 c2, e = .returned (.agg #[.slice a1 D.next.length c1, .slice a2 D.ends.length c2]) ∧ DfaR w.heap.size w' (.agg #[.slice a1 D.next.length c1, .slice a2 D.ends.length c2]) D ∧ Below w.heap.size w w'
end Go.Proofs.Ytfgpkadhegdffaa
