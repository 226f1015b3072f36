/-
  The walk over the reference's automaton of sets of states: l9Dfa.
  Conditions: there are m states, at most 40; moves, first and last states lie below; the automaton reads as such.
-/
import Derived.Test.YtclhcfmlkfiidaaS10
namespace Go.Proofs.Ytclhcfmlkfiidaa
open Go.RowKit Go.Maps

/-- What it hands back: the automaton of the sets, or nothing. -/
def RDetS (n : NfaD) (K B : Nat) (e : Ending) (w' : World) : Prop :=
  if (metS n K).length ≤ K then
    ∃ a1 l1 c1 a2 l2 c2, e = .returned (.tuple #[.agg #[.slice a1 l1 c1, .slice a2 l2 c2], .bool true]) ∧ DfaR B w' (.agg #[.slice a1 l1 c1, .slice a2 l2 c2]) (numDfa (nxS n) (enS n) (metS n K))
  else e = .returned (.tuple #[.agg #[.slice none 0 0, .slice none 0 0], .bool false])
theorem l9SubsetsK_any (m K : Nat) (hK : K = 40) (mvs : List (Int × Int × Int)) (fs es : List Int) (v1 v2 v3 : Value) (w : World) (hm : m ≤ 40) (hmv : mvIn m mvs) (hml : mvs.length ≤ 1000000) (hf : inN m fs) (hfl : fs.length ≤ 1000000) (h1 : Moves 0 w v1 mvs) (h2 : Ints 0 w v2 fs) :
    Calls Try.prog 75 #[.agg #[.int .i64 (m : Int), v1, v2, v3], .int .i64 40] w fun e w' => RSub ⟨(m : Int), mvs, fs, es⟩ m K w e w' := by
  have h := l9Subsets_any m K mvs fs es v1 v2 v3 w hm (by omega) (by omega) hmv hml hf hfl h1 h2
  have e : ((K : Nat) : Int) = 40 := by omega
  rw [e] at h
  exact h
theorem St.rowsform {w0 w : World} {L : List Ent} (h : St w0 w L) (i : Nat) {es e n c : Nat} {a : Option Addr} {vs : List Value} {css : List (List Value)} (hx : L[i]? = some (Ent.rows es e (.slice a n c) vs css)) (hn : 0 < css.length) : ∃ g, a = some ⟨g, 0, none⟩ ∧ n = css.length := by
  obtain ⟨g, cap, hv, -, -⟩ := (h.rows i hx).1.form hn
  simp only [Value.slice.injEq] at hv
  exact ⟨g, hv.1, hv.2.1⟩
theorem one_bool {x : Bool} : ∀ u ∈ [Value.bool x], u.oneCell' = true := by
  intro u hu
  simp only [List.mem_singleton] at hu
  subst hu
  rfl
theorem boolCells_snoc (l : List Bool) (x : Bool) : boolCells (l ++ [x]) = boolCells l ++ [.bool x] := by simp [boolCells]
theorem any_take_succ {l : List Int} {p : Int → Bool} {j : Nat} (hj : j < l.length) : (l.take (j + 1)).any p = ((l.take j).any p || p (l.getD j 0)) := by
  rw [List.take_succ_eq_append_getElem hj, List.any_append]
  simp [hj]
set_option maxRecDepth 100000 in
set_option maxHeartbeats 8000000 in
theorem l9Dfa_any (m K : Nat) (hK : K = 40) (mvs : List (Int × Int × Int)) (fs es : List Int) (v1 v2 v3 : Value) (w : World) (hm : m ≤ 40) (hmv : mvIn m mvs) (hml : mvs.length ≤ 1000000) (hf : inN m fs) (hfl : fs.length ≤ 1000000) (he : inN m es) (hel : es.length ≤ 1000000) (h1 : Moves 0 w v1 mvs) (h2 : Ints 0 w v2 fs) (h3 : Ints 0 w v3 es) :
    Calls Try.prog 51 #[.agg #[.int .i64 (m : Int), v1, v2, v3]] w fun e w' => RDetS ⟨(m : Int), mvs, fs, es⟩ K w.heap.size e w' ∧ Below w.heap.size w w' := by
  obtain ⟨a3, c3, rfl, hc3, hm3, hr3⟩ := h3.form
  obtain ⟨n, hn⟩ : ∃ n : NfaD, n = ⟨(m : Int), mvs, fs, es⟩ := ⟨_, rfl⟩
  have hne : n.ends = es := by rw [hn]
  have hS0 := ((St.start w).alloc _ rfl #[.int .i64 (m : Int), v1, v2, .slice a3 es.length c3] 67).alloc (w.heap.size + 1) (by simp) #[.slice none 0 0, .slice none 0 0] 32
  have hsub := l9SubsetsK_any m K hK mvs fs es v1 v2 (.slice a3 es.length c3) _ hm hmv hml hf hfl (h1.below hS0.bel) (h2.below hS0.bel)
  rw [← hn] at hsub
  rw [← hn]
  obtain ⟨i0, hi, hz0, hz1, hz2⟩ := info_parts Try.infoBool
  have hpos := bat_pos (nx := nxS n) (a := (((fstV n : Nat) : Int), 0)) K
  obtain ⟨F, hF⟩ : ∃ F, F = metS n K := ⟨_, rfl⟩
  have hpos' : 0 < F.length := by rw [hF]; exact hpos
  have hres : ∀ B e w', RDetS n K B e w' = if F.length ≤ K then
    ∃ a1 l1 c1 a2 l2 c2, e = .returned (.tuple #[.agg #[.slice a1 l1 c1, .slice a2 l2 c2], .bool true]) ∧ DfaR B w' (.agg #[.slice a1 l1 c1, .slice a2 l2 c2]) (numDfa (nxS n) (enS n) F)
    else e = .returned (.tuple #[.agg #[.slice none 0 0, .slice none 0 0], .bool false]) := fun B e w' => by rw [hF]; rfl
  have hRS : ∀ e w', RSub n m K ((w.alloc (.cells #[.int .i64 (m : Int), v1, v2, .slice a3 es.length c3] 67)).alloc (.cells #[.slice none 0 0, .slice none 0 0] 32)) e w' → ∃ a1 c1 a2 c2 l1 l2, e = .returned (.tuple #[.slice a1 l1 c1, .slice a2 l2 c2]) ∧ l1 < 1000000 ∧
    (if F.length ≤ K then l1 = F.length ∧ ∃ vs1 vs2, St ((w.alloc (.cells #[.int .i64 (m : Int), v1, v2, .slice a3 es.length c3] 67)).alloc (.cells #[.slice none 0 0, .slice none 0 0] 32)) w' [Ent.rows 23 4 (.slice a1 l1 c1) vs1 ((F.map (flc m)).map boolCells), Ent.rows 44 3 (.slice a2 l2 c2) vs2 ((F.map (numRow (nxS n) F)).map intCells)]
     else K < l1 ∧ Below ((w.alloc (.cells #[.int .i64 (m : Int), v1, v2, .slice a3 es.length c3] 67)).alloc (.cells #[.slice none 0 0, .slice none 0 0] 32)).heap.size ((w.alloc (.cells #[.int .i64 (m : Int), v1, v2, .slice a3 es.length c3] 67)).alloc (.cells #[.slice none 0 0, .slice none 0 0] 32)) w') := fun e w' h => by rw [hF]; exact h
  have HRes := Lib.hid hres
  have HRS := Lib.hid hRS
  have Hsub := Lib.hid hsub
  have Hhn := Lib.hid hn; clear hn
  have Hhne := Lib.hid hne; clear hne
  have HhS0 := Lib.hid hS0; clear hS0
  have Hhi := Lib.hid hi; clear hi
  have Hhz0 := Lib.hid hz0; clear hz0
  have Hhz1 := Lib.hid hz1; clear hz1
  have Hhz2 := Lib.hid hz2; clear hz2
  have HhF := Lib.hid hF; clear hF
  have Hhr3 := Lib.hid hr3; clear hr3
  have Hhe := Lib.hid he; clear he
  have HhK := Lib.hid hK; clear hK
  clear h1 h2 h3 hres hRS hsub hpos
  go_enter Try.func51, Try.ntmps51
  go_wp2_with fail
  refine Hsub.out.mono ?_
  rintro e w1 hr
  obtain ⟨a1, c1, a2, c2, l1, l2, rfl, hl1, hr⟩ := HRS.out e w1 hr
  by_cases hle : F.length ≤ K
  · rw [if_pos hle] at hr
    obtain ⟨hlF, vs1, vs2, hS'⟩ := hr
    have hS1 := HhS0.out.cat hS'
    have hlm1 : ((F.map (flc m)).map boolCells).length = F.length := map2_len _ _ _
    have hlm2 : ((F.map (numRow (nxS n) F)).map intCells).length = F.length := map2_len _ _ _
    obtain ⟨g1, rfl, -⟩ := hS1.rowsform 2 rfl (by rw [hlm1]; exact hpos')
    obtain ⟨g2, rfl, hl2⟩ := hS1.rowsform 3 rfl (by rw [hlm2]; exact hpos')
    rw [hlm2] at hl2
    have hl40 : (l1 : Int) ≤ 40 := by have := HhK.out; omega
    have hS2 := (hS1.alloc _ rfl #[.slice (some ⟨g2, 0, none⟩) l2 c2, .slice none 0 0] 32).nilRow 4 1
    have HhlF := Lib.hid hlF; clear hlF
    have Hhl2 := Lib.hid hl2; clear hl2
    have Hhlm1 := Lib.hid hlm1; clear hlm1
    have Hhlm2 := Lib.hid hlm2; clear hlm2
    have HhS2 := Lib.hid hS2; clear hS2
    clear hS1 hS'
    go_wp2
    go_loopw [7] (fun i wr => ∃ (k c : Nat) (a : Option Addr), i = .int .i64 k ∧ k ≤ l1 ∧ St w wr [Ent.box w.heap.size #[.int .i64 (m : Int), v1, v2, .slice a3 es.length c3] 67, Ent.box (w.heap.size + 1) #[.slice none 0 0, .slice none 0 0] 32,
        Ent.rows 23 4 (.slice (some ⟨g1, 0, none⟩) l1 c1) vs1 ((F.map (flc m)).map boolCells), Ent.rows 44 3 (.slice (some ⟨g2, 0, none⟩) l2 c2) vs2 ((F.map (numRow (nxS n) F)).map intCells),
        Ent.box w1.heap.size #[.slice (some ⟨g2, 0, none⟩) l2 c2, .slice a k c] 32, Ent.row 4 1 (.slice a k c) k (boolCells ((F.take k).map (enS n)))])
      (fun i _ => l1 - (intOf i).toNat)
    case atStart => exact ⟨0, 0, none, rfl, Nat.zero_le _, HhS2.out⟩
    case round =>
      obtain ⟨k, c, a, rfl, hk, hS⟩ := hrel
      obtain ⟨wo, hwo⟩ : ∃ wo : World, wo = wr := ⟨_, rfl⟩
      subst hwo
      have HhS := Lib.hid hS; clear hS
      by_cases hlt : k < l1
      · have hkF : k < F.length := by have := HhlF.out; omega
        obtain ⟨x, hx⟩ : ∃ x, x = F.getD k ((0, 0) : Int × Int) := ⟨_, rfl⟩
        have hcs : ((F.map (flc m)).map boolCells).getD k [] = boolCells (flc m x) := by
          rw [hx]
          simp [hkF]
        have hlt2 : (k : Int) < l1 := by omega
        have Hhx := Lib.hid hx; clear hx
        have Hhcs := Lib.hid hcs; clear hcs
        go_wp2
        go_loopw [8, 9] (fun ev i wi => ∃ (j : Nat) (b : Bool), i = .int .i64 j ∧ ev = .bool b ∧ j ≤ es.length ∧ b = (es.take j).any (fun s => x.1.toNat.testBit s.toNat) ∧ St w wi [Ent.box w.heap.size #[.int .i64 (m : Int), v1, v2, .slice a3 es.length c3] 67, Ent.box (w.heap.size + 1) #[.slice none 0 0, .slice none 0 0] 32,
            Ent.rows 23 4 (.slice (some ⟨g1, 0, none⟩) l1 c1) vs1 ((F.map (flc m)).map boolCells), Ent.rows 44 3 (.slice (some ⟨g2, 0, none⟩) l2 c2) vs2 ((F.map (numRow (nxS n) F)).map intCells),
            Ent.box w1.heap.size #[.slice (some ⟨g2, 0, none⟩) l2 c2, .slice a k c] 32, Ent.row 4 1 (.slice a k c) k (boolCells ((F.take k).map (enS n)))])
          (fun _ i _ => es.length - (intOf i).toNat)
        case atStart => exact ⟨0, false, rfl, rfl, Nat.zero_le _, by simp, HhS.out⟩
        case round =>
          obtain ⟨j, b, rfl, rfl, hj, hb, hSi⟩ := hrel
          have e3 := hSi.cell (v := .slice a3 es.length c3) 0 3 rfl rfl
          by_cases hjl : j < es.length
          · obtain ⟨b3, o3, rfl, -, hbl3, hcs3⟩ := Hhr3.out (by omega)
            have hce := (bcell hSi.bel b3 (o3 + j) hbl3).trans (hcs3 j hjl)
            obtain ⟨s0, s1⟩ := Hhe.out _ (memD (d := 0) hjl)
            have hany := any_take_succ (p := fun s => x.1.toNat.testBit s.toNat) hjl
            obtain ⟨s, hs⟩ := Int.eq_ofNat_of_zero_le s0
            rw [hs] at hce s1 hany
            have hsm : s < m := by omega
            obtain ⟨ax, cx, hcell, hxr, hcx1, hcx2, hcp1, hcp2, hb1l⟩ := hSi.rowAt 2 rfl (Hhlm1.out.trans HhlF.out.symm) hlt
            rw [Hhcs.out] at hcell hxr hcx1
            have hxl : (boolCells (flc m x)).length = m := by simp [flc_len]
            rw [hxl] at hcell hxr hcx1
            obtain ⟨gx, cx', hvx, -, -⟩ := hxr.form (by omega)
            simp only [Value.slice.injEq] at hvx
            obtain ⟨rfl, -, rfl⟩ := hvx
            have hbit := (hxr.cellAt s (by omega)).trans (flag_cell hsm)
            have hjl2 : (j : Int) < es.length := by omega
            have hsm2 : (s : Int) < m := by omega
            have Hhs := Lib.hid hs; clear hs
            have Hhb := Lib.hid hb; clear hb
            have Hhany := Lib.hid hany; clear hany
            have HhSi := Lib.hid hSi; clear hSi
            clear hcs3 hxr hxl s0
            cases b
            · cases ht : x.1.toNat.testBit s
              all_goals
                rw [ht] at hbit
                have Hht := Lib.hid ht; clear ht
                go_wp2
                go_quiet (fail)
                go_wp2
                go_roundw
                case rel =>
                  refine ⟨j + 1, _, by go_num, rfl, by omega, ?_, HhSi.out.drewN _⟩
                  rw [Hhany.out, ← Hhb.out, Int.toNat_natCast, Hht.out]
                  rfl
                case measure => simp [intOf]; omega
            · go_wp2
              go_quiet (fail)
              go_wp2
              go_roundw
              case rel =>
                refine ⟨j + 1, _, by go_num, rfl, by omega, ?_, HhSi.out.drewN _⟩
                rw [Hhany.out, ← Hhb.out]
                rfl
              case measure => simp [intOf]; omega
          · obtain rfl : j = es.length := by omega
            rw [List.take_length] at hb
            have hen : enS n x = b := by rw [hb, ← Hhne.out]; rfl
            have d1 := hSi.cell (v := .slice a k c) 4 1 rfl rfl
            have hSa := hSi.alloc_ (.cells #[.bool b] 4)
            have hR := hSa.row 5 rfl
            have htk : (F.take (k + 1)).map (enS n) = (F.take k).map (enS n) ++ [b] := by
              rw [List.take_succ_eq_append_getElem hkF, List.map_append, ← hen, Hhx.out]
              simp [hkF]
            have Hhen := Lib.hid hen; clear hen
            have Hhb := Lib.hid hb; clear hb
            have Hhtk := Lib.hid htk; clear htk
            have HhSi := Lib.hid hSi; clear hSi
            have HhSa := Lib.hid hSa; clear hSa
            have HhR := Lib.hid hR; clear hR
            go_wp2_with (at_builtin; refine wpList_append_lies _ rfl _ _ _ rfl _ 4 i0 (.bool false) 1 1 Try.underlying23 Hhi.out Hhz0.out Hhz1.out Hhz2.out rfl (by omega) _ k _ rfl HhR.out ⟨wr.heap.size, 0, none⟩ 1 1 [.bool b] rfl rfl (World.news_of_block (heap_alloc_new wr _)) one_bool (by omega) (by unfold maxLen; omega) (by omega) HhSa.out.size _ rfl ?_; intro g6 c6 w6 hown6 hgrow6 hat6 hlt6; have HS6 := Lib.hid (HhSa.out.app 5 rfl hown6 hgrow6 hat6); have y1 := HS6.out.cell (v := .slice a k c) 4 1 rfl rfl; have y2 := HS6.out.fr 4 1 rfl; clear hown6 hgrow6 hat6 hlt6)
            go_roundw
            case rel =>
              refine ⟨k + 1, c6, some ⟨g6, 0, none⟩, by go_num, by omega, ?_⟩
              rw [Hhtk.out, boolCells_snoc]
              exact HS6.out.set 4 rfl 1 (.slice (some ⟨g6, 0, none⟩) (k + 1) c6)
            case measure => simp [intOf]; omega
      · obtain rfl : k = l1 := by omega
        have d0 := HhS.out.cell (v := .slice (some ⟨g2, 0, none⟩) l2 c2) 4 0 rfl rfl
        have d1 := HhS.out.cell (v := .slice a k c) 4 1 rfl rfl
        have f0 := HhS.out.fr 1 0 rfl
        have f1 := HhS.out.fr 1 1 rfl
        have k0 := HhS.out.cell (v := .slice none 0 0) 1 0 rfl rfl
        have k1 := HhS.out.cell (v := .slice none 0 0) 1 1 rfl rfl
        go_wp2
        have hq := (HhS.out.set 1 rfl 0 (.slice (some ⟨g2, 0, none⟩) l2 c2)).set 1 rfl 1 (.slice a k c)
        have q0 := hq.cell (v := .slice (some ⟨g2, 0, none⟩) l2 c2) 1 0 rfl rfl
        have q1 := hq.cell (v := .slice a k c) 1 1 rfl rfl
        refine bodyPost_ret (v := .tuple #[.agg #[.slice (some ⟨g2, 0, none⟩) l2 c2, .slice a k c], .bool true]) (by simp [results, Try.results51, go_sem, q0, q1]) rfl ⟨?_, hq.bel⟩
        rw [HRes.out, if_pos hle]
        refine ⟨_, _, _, _, _, _, rfl, _, _, rfl, (hq.intSS 3 rfl).intSS, ?_⟩
        have hb := boolsB_of_row (hq.row 5 rfl)
        rw [List.take_of_length_le (by have := HhlF.out; omega)] at hb
        exact hb
  · rw [if_neg hle] at hr
    have hl40 : (l1 : Int) > 40 := by have := HhK.out; omega
    have hS1 := HhS0.out.call hr.2
    have f0 := hS1.fr 1 0 rfl
    have f1 := hS1.fr 1 1 rfl
    have k0 := hS1.cell (v := .slice none 0 0) 1 0 rfl rfl
    have k1 := hS1.cell (v := .slice none 0 0) 1 1 rfl rfl
    have HhS1 := Lib.hid hS1; clear hS1
    go_wp2
    have hq := (HhS1.out.set 1 rfl 0 (.slice none 0 0)).set 1 rfl 1 (.slice none 0 0)
    have q0 := hq.cell (v := .slice none 0 0) 1 0 rfl rfl
    have q1 := hq.cell (v := .slice none 0 0) 1 1 rfl rfl
    refine bodyPost_ret (v := .tuple #[.agg #[.slice none 0 0, .slice none 0 0], .bool false]) (by simp [results, Try.results51, go_sem, q0, q1]) rfl ⟨?_, hq.bel⟩
    rw [HRes.out, if_neg hle]
end Go.Proofs.Ytclhcfmlkfiidaa
