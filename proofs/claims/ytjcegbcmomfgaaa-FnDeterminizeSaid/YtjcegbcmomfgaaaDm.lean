/-
  The walk over the reference's automaton of sets of states: l9Dfa.
  Conditions: there are m states, at most 40; moves, first and last states lie below; the automaton reads as such.
  The walks over Determinize, of the program and of the reference.
  Conditions: the automaton reads as such.
-/
import Derived.Test.YtjcegbcmomfgaaaS10
import Derived.Test.YtjcegbcmomfgaaaNvs
import Derived.Test.YtjcegbcmomfgaaaNk
import Derived.Test.YtjcegbcmomfgaaaMk
namespace Go.Proofs.Ytjcegbcmomfgaaa
open Go.RowKit Go.Maps

/-- What it hands back: the automaton of the sets, or nothing. -/
def RDetS (n : NfaD) (K B : Nat) (e : Ending) (w' : World) : Prop :=
  if (metS n K).length ≤ K then
    ∃ a1 l1 c1 a2 l2 c2, e = .returned (.tuple #[.agg #[.slice a1 l1 c1, .slice a2 l2 c2], .bool true]) ∧ DfaR B w' (.agg #[.slice a1 l1 c1, .slice a2 l2 c2]) (numDfa (nxS n) (enS n) (metS n K))
  else e = .returned (.tuple #[.agg #[.slice none 0 0, .slice none 0 0], .bool false])
theorem l9SubsetsK_any (m K : Nat) (hK : K = 40) (mvs : List (Int × Int × Int)) (fs es : List Int) (v1 v2 v3 : Value) (w : World) (hm : m ≤ 40) (hmv : mvIn m mvs) (hml : mvs.length ≤ 1000000) (hf : inN m fs) (hfl : fs.length ≤ 1000000) (h1 : Moves 0 w v1 mvs) (h2 : Ints 0 w v2 fs) :
    Calls Try.prog 37 #[.agg #[.int .i64 (m : Int), v1, v2, v3], .int .i64 40] w fun e w' => RSub ⟨(m : Int), mvs, fs, es⟩ m K w e w' := by
  have h := l9Subsets_any m K mvs fs es v1 v2 v3 w hm (by omega) (by omega) hmv hml hf hfl h1 h2
  have e : ((K : Nat) : Int) = 40 := by omega
  rw [e] at h
  exact h
theorem St.rowsform {w0 w : World} {L : List Ent} (h : St w0 w L) (i : Nat) {es e n c : Nat} {a : Option Addr} {vs : List Value} {css : List (List Value)} (hx : L[i]? = some (Ent.rows es e (.slice a n c) vs css)) (hn : 0 < css.length) : ∃ g, a = some ⟨g, 0, none⟩ ∧ n = css.length := by
  obtain ⟨g, cap, hv, -, -⟩ := (h.rows i hx).1.form hn
  simp only [Value.slice.injEq] at hv
  exact ⟨g, hv.1, hv.2.1⟩
theorem one_bool {x : Bool} : ∀ u ∈ [Value.bool x], u.oneCell' = true := by
  intro u hu
  simp only [List.mem_singleton] at hu
  subst hu
  rfl
theorem boolCells_snoc (l : List Bool) (x : Bool) : boolCells (l ++ [x]) = boolCells l ++ [.bool x] := by simp [boolCells]
theorem any_take_succ {l : List Int} {p : Int → Bool} {j : Nat} (hj : j < l.length) : (l.take (j + 1)).any p = ((l.take j).any p || p (l.getD j 0)) := by
  rw [List.take_succ_eq_append_getElem hj, List.any_append]
  simp [hj]
set_option maxRecDepth 100000 in
set_option maxHeartbeats 8000000 in
theorem l9Dfa_any (m K : Nat) (hK : K = 40) (mvs : List (Int × Int × Int)) (fs es : List Int) (v1 v2 v3 : Value) (w : World) (hm : m ≤ 40) (hmv : mvIn m mvs) (hml : mvs.length ≤ 1000000) (hf : inN m fs) (hfl : fs.length ≤ 1000000) (he : inN m es) (hel : es.length ≤ 1000000) (h1 : Moves 0 w v1 mvs) (h2 : Ints 0 w v2 fs) (h3 : Ints 0 w v3 es) :
    Calls Try.prog 39 #[.agg #[.int .i64 (m : Int), v1, v2, v3]] w fun e w' => RDetS ⟨(m : Int), mvs, fs, es⟩ K w.heap.size e w' ∧ Below w.heap.size w w' := by
  obtain ⟨a3, c3, rfl, hc3, hm3, hr3⟩ := h3.form
  obtain ⟨n, hn⟩ : ∃ n : NfaD, n = ⟨(m : Int), mvs, fs, es⟩ := ⟨_, rfl⟩
  have hne : n.ends = es := by rw [hn]
  have hS0 := ((St.start w).alloc _ rfl #[.int .i64 (m : Int), v1, v2, .slice a3 es.length c3] 26).alloc (w.heap.size + 1) (by simp) #[.slice none 0 0, .slice none 0 0] 33
  have hsub := l9SubsetsK_any m K hK mvs fs es v1 v2 (.slice a3 es.length c3) _ hm hmv hml hf hfl (h1.below hS0.bel) (h2.below hS0.bel)
  rw [← hn] at hsub
  rw [← hn]
  obtain ⟨i0, hi, hz0, hz1, hz2⟩ := info_parts Try.infoBool
  have hpos := bat_pos (nx := nxS n) (a := (((fstV n : Nat) : Int), 0)) K
  obtain ⟨F, hF⟩ : ∃ F, F = metS n K := ⟨_, rfl⟩
  have hpos' : 0 < F.length := by rw [hF]; exact hpos
  have hres : ∀ B e w', RDetS n K B e w' = if F.length ≤ K then
    ∃ a1 l1 c1 a2 l2 c2, e = .returned (.tuple #[.agg #[.slice a1 l1 c1, .slice a2 l2 c2], .bool true]) ∧ DfaR B w' (.agg #[.slice a1 l1 c1, .slice a2 l2 c2]) (numDfa (nxS n) (enS n) F)
    else e = .returned (.tuple #[.agg #[.slice none 0 0, .slice none 0 0], .bool false]) := fun B e w' => by rw [hF]; rfl
  have hRS : ∀ e w', RSub n m K ((w.alloc (.cells #[.int .i64 (m : Int), v1, v2, .slice a3 es.length c3] 26)).alloc (.cells #[.slice none 0 0, .slice none 0 0] 33)) e w' → ∃ a1 c1 a2 c2 l1 l2, e = .returned (.tuple #[.slice a1 l1 c1, .slice a2 l2 c2]) ∧ l1 < 1000000 ∧
    (if F.length ≤ K then l1 = F.length ∧ ∃ vs1 vs2, St ((w.alloc (.cells #[.int .i64 (m : Int), v1, v2, .slice a3 es.length c3] 26)).alloc (.cells #[.slice none 0 0, .slice none 0 0] 33)) w' [Ent.rows 31 4 (.slice a1 l1 c1) vs1 ((F.map (flc m)).map boolCells), Ent.rows 24 3 (.slice a2 l2 c2) vs2 ((F.map (numRow (nxS n) F)).map intCells)]
     else K < l1 ∧ Below ((w.alloc (.cells #[.int .i64 (m : Int), v1, v2, .slice a3 es.length c3] 26)).alloc (.cells #[.slice none 0 0, .slice none 0 0] 33)).heap.size ((w.alloc (.cells #[.int .i64 (m : Int), v1, v2, .slice a3 es.length c3] 26)).alloc (.cells #[.slice none 0 0, .slice none 0 0] 33)) w') := fun e w' h => by rw [hF]; exact h
  have HRes := Lib.hid hres
  have HRS := Lib.hid hRS
  have Hsub := Lib.hid hsub
  have Hhn := Lib.hid hn; clear hn
  have Hhne := Lib.hid hne; clear hne
  have HhS0 := Lib.hid hS0; clear hS0
  have Hhi := Lib.hid hi; clear hi
  have Hhz0 := Lib.hid hz0; clear hz0
  have Hhz1 := Lib.hid hz1; clear hz1
  have Hhz2 := Lib.hid hz2; clear hz2
  have HhF := Lib.hid hF; clear hF
  have Hhr3 := Lib.hid hr3; clear hr3
  have Hhe := Lib.hid he; clear he
  have HhK := Lib.hid hK; clear hK
  clear h1 h2 h3 hres hRS hsub hpos
  go_enter Try.func39, Try.ntmps39
  go_wp2_with fail
  refine Hsub.out.mono ?_
  rintro e w1 hr
  obtain ⟨a1, c1, a2, c2, l1, l2, rfl, hl1, hr⟩ := HRS.out e w1 hr
  by_cases hle : F.length ≤ K
  · rw [if_pos hle] at hr
    obtain ⟨hlF, vs1, vs2, hS'⟩ := hr
    have hS1 := HhS0.out.cat hS'
    have hlm1 : ((F.map (flc m)).map boolCells).length = F.length := map2_len _ _ _
    have hlm2 : ((F.map (numRow (nxS n) F)).map intCells).length = F.length := map2_len _ _ _
    obtain ⟨g1, rfl, -⟩ := hS1.rowsform 2 rfl (by rw [hlm1]; exact hpos')
    obtain ⟨g2, rfl, hl2⟩ := hS1.rowsform 3 rfl (by rw [hlm2]; exact hpos')
    rw [hlm2] at hl2
    have hl40 : (l1 : Int) ≤ 40 := by have := HhK.out; omega
    have hS2 := (hS1.alloc _ rfl #[.slice (some ⟨g2, 0, none⟩) l2 c2, .slice none 0 0] 33).nilRow 4 1
    have HhlF := Lib.hid hlF; clear hlF
    have Hhl2 := Lib.hid hl2; clear hl2
    have Hhlm1 := Lib.hid hlm1; clear hlm1
    have Hhlm2 := Lib.hid hlm2; clear hlm2
    have HhS2 := Lib.hid hS2; clear hS2
    clear hS1 hS'
    go_wp2
    go_loopw [7] (fun i wr => ∃ (k c : Nat) (a : Option Addr), i = .int .i64 k ∧ k ≤ l1 ∧ St w wr [Ent.box w.heap.size #[.int .i64 (m : Int), v1, v2, .slice a3 es.length c3] 26, Ent.box (w.heap.size + 1) #[.slice none 0 0, .slice none 0 0] 33,
        Ent.rows 31 4 (.slice (some ⟨g1, 0, none⟩) l1 c1) vs1 ((F.map (flc m)).map boolCells), Ent.rows 24 3 (.slice (some ⟨g2, 0, none⟩) l2 c2) vs2 ((F.map (numRow (nxS n) F)).map intCells),
        Ent.box w1.heap.size #[.slice (some ⟨g2, 0, none⟩) l2 c2, .slice a k c] 33, Ent.row 4 1 (.slice a k c) k (boolCells ((F.take k).map (enS n)))])
      (fun i _ => l1 - (intOf i).toNat)
    case atStart => exact ⟨0, 0, none, rfl, Nat.zero_le _, HhS2.out⟩
    case round =>
      obtain ⟨k, c, a, rfl, hk, hS⟩ := hrel
      obtain ⟨wo, hwo⟩ : ∃ wo : World, wo = wr := ⟨_, rfl⟩
      subst hwo
      have HhS := Lib.hid hS; clear hS
      by_cases hlt : k < l1
      · have hkF : k < F.length := by have := HhlF.out; omega
        obtain ⟨x, hx⟩ : ∃ x, x = F.getD k ((0, 0) : Int × Int) := ⟨_, rfl⟩
        have hcs : ((F.map (flc m)).map boolCells).getD k [] = boolCells (flc m x) := by
          rw [hx]
          simp [hkF]
        have hlt2 : (k : Int) < l1 := by omega
        have Hhx := Lib.hid hx; clear hx
        have Hhcs := Lib.hid hcs; clear hcs
        go_wp2
        go_loopw [8, 9] (fun ev i wi => ∃ (j : Nat) (b : Bool), i = .int .i64 j ∧ ev = .bool b ∧ j ≤ es.length ∧ b = (es.take j).any (fun s => x.1.toNat.testBit s.toNat) ∧ St w wi [Ent.box w.heap.size #[.int .i64 (m : Int), v1, v2, .slice a3 es.length c3] 26, Ent.box (w.heap.size + 1) #[.slice none 0 0, .slice none 0 0] 33,
            Ent.rows 31 4 (.slice (some ⟨g1, 0, none⟩) l1 c1) vs1 ((F.map (flc m)).map boolCells), Ent.rows 24 3 (.slice (some ⟨g2, 0, none⟩) l2 c2) vs2 ((F.map (numRow (nxS n) F)).map intCells),
            Ent.box w1.heap.size #[.slice (some ⟨g2, 0, none⟩) l2 c2, .slice a k c] 33, Ent.row 4 1 (.slice a k c) k (boolCells ((F.take k).map (enS n)))])
          (fun _ i _ => es.length - (intOf i).toNat)
        case atStart => exact ⟨0, false, rfl, rfl, Nat.zero_le _, by simp, HhS.out⟩
        case round =>
          obtain ⟨j, b, rfl, rfl, hj, hb, hSi⟩ := hrel
          have e3 := hSi.cell (v := .slice a3 es.length c3) 0 3 rfl rfl
          by_cases hjl : j < es.length
          · obtain ⟨b3, o3, rfl, -, hbl3, hcs3⟩ := Hhr3.out (by omega)
            have hce := (bcell hSi.bel b3 (o3 + j) hbl3).trans (hcs3 j hjl)
            obtain ⟨s0, s1⟩ := Hhe.out _ (memD (d := 0) hjl)
            have hany := any_take_succ (p := fun s => x.1.toNat.testBit s.toNat) hjl
            obtain ⟨s, hs⟩ := Int.eq_ofNat_of_zero_le s0
            rw [hs] at hce s1 hany
            have hsm : s < m := by omega
            obtain ⟨ax, cx, hcell, hxr, hcx1, hcx2, hcp1, hcp2, hb1l⟩ := hSi.rowAt 2 rfl (Hhlm1.out.trans HhlF.out.symm) hlt
            rw [Hhcs.out] at hcell hxr hcx1
            have hxl : (boolCells (flc m x)).length = m := by simp [flc_len]
            rw [hxl] at hcell hxr hcx1
            obtain ⟨gx, cx', hvx, -, -⟩ := hxr.form (by omega)
            simp only [Value.slice.injEq] at hvx
            obtain ⟨rfl, -, rfl⟩ := hvx
            have hbit := (hxr.cellAt s (by omega)).trans (flag_cell hsm)
            have hjl2 : (j : Int) < es.length := by omega
            have hsm2 : (s : Int) < m := by omega
            have Hhs := Lib.hid hs; clear hs
            have Hhb := Lib.hid hb; clear hb
            have Hhany := Lib.hid hany; clear hany
            have HhSi := Lib.hid hSi; clear hSi
            clear hcs3 hxr hxl s0
            cases b
            · cases ht : x.1.toNat.testBit s
              all_goals
                rw [ht] at hbit
                have Hht := Lib.hid ht; clear ht
                go_wp2
                go_quiet (fail)
                go_wp2
                go_roundw
                case rel =>
                  refine ⟨j + 1, _, by go_num, rfl, by omega, ?_, HhSi.out.drewN _⟩
                  rw [Hhany.out, ← Hhb.out, Int.toNat_natCast, Hht.out]
                  rfl
                case measure => simp [intOf]; omega
            · go_wp2
              go_quiet (fail)
              go_wp2
              go_roundw
              case rel =>
                refine ⟨j + 1, _, by go_num, rfl, by omega, ?_, HhSi.out.drewN _⟩
                rw [Hhany.out, ← Hhb.out]
                rfl
              case measure => simp [intOf]; omega
          · obtain rfl : j = es.length := by omega
            rw [List.take_length] at hb
            have hen : enS n x = b := by rw [hb, ← Hhne.out]; rfl
            have d1 := hSi.cell (v := .slice a k c) 4 1 rfl rfl
            have hSa := hSi.alloc_ (.cells #[.bool b] 4)
            have hR := hSa.row 5 rfl
            have htk : (F.take (k + 1)).map (enS n) = (F.take k).map (enS n) ++ [b] := by
              rw [List.take_succ_eq_append_getElem hkF, List.map_append, ← hen, Hhx.out]
              simp [hkF]
            have Hhen := Lib.hid hen; clear hen
            have Hhb := Lib.hid hb; clear hb
            have Hhtk := Lib.hid htk; clear htk
            have HhSi := Lib.hid hSi; clear hSi
            have HhSa := Lib.hid hSa; clear hSa
            have HhR := Lib.hid hR; clear hR
            go_wp2_with (at_builtin; refine wpList_append_lies _ rfl _ _ _ rfl _ 4 i0 (.bool false) 1 1 Try.underlying31 Hhi.out Hhz0.out Hhz1.out Hhz2.out rfl (by omega) _ k _ rfl HhR.out ⟨wr.heap.size, 0, none⟩ 1 1 [.bool b] rfl rfl (World.news_of_block (heap_alloc_new wr _)) one_bool (by omega) (by unfold maxLen; omega) (by omega) HhSa.out.size _ rfl ?_; intro g6 c6 w6 hown6 hgrow6 hat6 hlt6; have HS6 := Lib.hid (HhSa.out.app 5 rfl hown6 hgrow6 hat6); have y1 := HS6.out.cell (v := .slice a k c) 4 1 rfl rfl; have y2 := HS6.out.fr 4 1 rfl; clear hown6 hgrow6 hat6 hlt6)
            go_roundw
            case rel =>
              refine ⟨k + 1, c6, some ⟨g6, 0, none⟩, by go_num, by omega, ?_⟩
              rw [Hhtk.out, boolCells_snoc]
              exact HS6.out.set 4 rfl 1 (.slice (some ⟨g6, 0, none⟩) (k + 1) c6)
            case measure => simp [intOf]; omega
      · obtain rfl : k = l1 := by omega
        have d0 := HhS.out.cell (v := .slice (some ⟨g2, 0, none⟩) l2 c2) 4 0 rfl rfl
        have d1 := HhS.out.cell (v := .slice a k c) 4 1 rfl rfl
        have f0 := HhS.out.fr 1 0 rfl
        have f1 := HhS.out.fr 1 1 rfl
        have k0 := HhS.out.cell (v := .slice none 0 0) 1 0 rfl rfl
        have k1 := HhS.out.cell (v := .slice none 0 0) 1 1 rfl rfl
        go_wp2
        have hq := (HhS.out.set 1 rfl 0 (.slice (some ⟨g2, 0, none⟩) l2 c2)).set 1 rfl 1 (.slice a k c)
        have q0 := hq.cell (v := .slice (some ⟨g2, 0, none⟩) l2 c2) 1 0 rfl rfl
        have q1 := hq.cell (v := .slice a k c) 1 1 rfl rfl
        refine bodyPost_ret (v := .tuple #[.agg #[.slice (some ⟨g2, 0, none⟩) l2 c2, .slice a k c], .bool true]) (by simp [results, Try.results39, go_sem, q0, q1]) rfl ⟨?_, hq.bel⟩
        rw [HRes.out, if_pos hle]
        refine ⟨_, _, _, _, _, _, rfl, _, _, rfl, (hq.intSS 3 rfl).intSS, ?_⟩
        have hb := boolsB_of_row (hq.row 5 rfl)
        rw [List.take_of_length_le (by have := HhlF.out; omega)] at hb
        exact hb
  · rw [if_neg hle] at hr
    have hl40 : (l1 : Int) > 40 := by have := HhK.out; omega
    have hS1 := HhS0.out.call hr.2
    have f0 := hS1.fr 1 0 rfl
    have f1 := hS1.fr 1 1 rfl
    have k0 := hS1.cell (v := .slice none 0 0) 1 0 rfl rfl
    have k1 := hS1.cell (v := .slice none 0 0) 1 1 rfl rfl
    have HhS1 := Lib.hid hS1; clear hS1
    go_wp2
    have hq := (HhS1.out.set 1 rfl 0 (.slice none 0 0)).set 1 rfl 1 (.slice none 0 0)
    have q0 := hq.cell (v := .slice none 0 0) 1 0 rfl rfl
    have q1 := hq.cell (v := .slice none 0 0) 1 1 rfl rfl
    refine bodyPost_ret (v := .tuple #[.agg #[.slice none 0 0, .slice none 0 0], .bool false]) (by simp [results, Try.results39, go_sem, q0, q1]) rfl ⟨?_, hq.bel⟩
    rw [HRes.out, if_neg hle]
end Go.Proofs.Ytjcegbcmomfgaaa
namespace Go.Proofs.Ytjcegbcmomfgaaa
open Go.RowKit Go.Maps

def detK (K : Nat) (n : NfaD) : Option DfaD := if nfaOk n = true ∧ (metS n K).length ≤ K then some (numDfa (nxS n) (enS n) (metS n K)) else none
def zeroD : DfaD := ⟨[], []⟩
def forty : Nat := 40
def det (n : NfaD) : Option DfaD := detK forty n
theorem numDfa_sum {α : Type} [DecidableEq α] (nx : α → Nat → α) (en : α → Bool) (F : List α) : sumLen (numDfa nx en F).next = 3 * F.length := by
  have key : ∀ L : List α, sumLen (L.map (numRow nx F)) = 3 * L.length := by
    intro L
    induction L with
    | nil => rfl
    | cons x L ih =>
      have hn : (numRow nx F x).length = 3 := by simp [numRow]
      simp only [List.map_cons, sumLen, List.sum_cons, List.length_cons] at ih ⊢
      rw [hn, ih]
      omega
  exact key F
theorem detK_small {K : Nat} (hK : K = 40) (n : NfaD) : ((detK K n).getD zeroD).next.length ≤ 40 ∧ sumLen ((detK K n).getD zeroD).next ≤ 120 ∧ ((detK K n).getD zeroD).ends.length ≤ 40 := by
  unfold detK
  split
  · rename_i h
    simp only [Option.getD_some]
    rw [numDfa_sum, numDfa_len]
    have : (numDfa (nxS n) (enS n) (metS n K)).ends.length = (metS n K).length := by simp [numDfa]
    omega
  · simp [zeroD, sumLen]
theorem det_small (n : NfaD) : ((det n).getD zeroD).next.length ≤ 40 ∧ sumLen ((det n).getD zeroD).next ≤ 120 ∧ ((det n).getD zeroD).ends.length ≤ 40 := detK_small rfl n

/-- An automaton and a truth value, of the call's own or to be read. -/
def RDfaB (D : DfaD) (fb : Bool) (B : Nat) (e : Ending) (w' : World) : Prop := ∃ a1 c1 a2 c2, e = .returned (.tuple #[.agg #[.slice a1 D.next.length c1, .slice a2 D.ends.length c2], .bool fb]) ∧ DfaO 24 3 4 B w'.heap.size w' (.agg #[.slice a1 D.next.length c1, .slice a2 D.ends.length c2]) D
def RDfaBr (D : DfaD) (fb : Bool) (e : Ending) (w' : World) : Prop := ∃ a1 c1 a2 c2, e = .returned (.tuple #[.agg #[.slice a1 D.next.length c1, .slice a2 D.ends.length c2], .bool fb]) ∧ DfaR 0 w' (.agg #[.slice a1 D.next.length c1, .slice a2 D.ends.length c2]) D
theorem ownsRow_nil (w : World) (B e size : Nat) : w.ownsRow B e size (.slice none 0 0) 0 [] := ⟨by simp, Or.inl ⟨rfl, rfl⟩⟩
theorem zeroD_own (w : World) (B tS tI tB : Nat) : DfaO tS tI tB B w.heap.size w (.agg #[.slice none 0 0, .slice none 0 0]) zeroD :=
  ⟨_, _, rfl, ⟨[], own_of_row (ownsRow_nil w B tS 1), fun i hi => absurd hi (by simp [zeroD]), fun i j k _ hj => absurd hj (by simp [zeroD])⟩, own_of_row (ownsRow_nil w B tB 1)⟩

set_option maxRecDepth 100000 in
set_option maxHeartbeats 4000000 in
theorem implDetK_any (K : Nat) (hK : K = 40) (n : NfaD) (D : DfaD) (fb : Bool) (hD : (detK K n).getD zeroD = D) (hfb : (detK K n).isSome = fb) (v : Value) (w : World) (h : NfaR 0 w v n) :
    Calls Try.prog 9 #[v] w fun e w' => RDfaB D fb w.heap.size e w' ∧ Below w.heap.size w w' := by
  have H := Lib.hid h
  obtain ⟨v1, v2, v3, rfl, g1, g2, g3, -, -⟩ := h
  have hS0 := ((St.start w).alloc _ rfl #[.int .i64 n.states, v1, v2, v3] 26).alloc (w.heap.size + 1) (by simp) #[.slice none 0 0, .slice none 0 0] 33
  cases hok : nfaOk n
  · have hn : detK K n = none := by
      unfold detK
      rw [if_neg]
      rintro ⟨h1, -⟩
      rw [hok] at h1
      cases h1
    rw [hn] at hD hfb
    subst hD
    subst hfb
    have Hhok := Lib.hid hok; clear hok
    have HhS0 := Lib.hid hS0; clear hS0
    clear g1 g2 g3
    go_enter Try.func9, Try.ntmps9
    go_wp2_with fail
    refine (implNfaValid_any n _ _ (H.out.below HhS0.out.bel) _ Hhok.out).mono ?_
    rintro e w1 ⟨rfl, hb1⟩
    have hS1 := HhS0.out.call hb1
    have f0 := hS1.fr 1 0 rfl
    have f1 := hS1.fr 1 1 rfl
    have k0 := hS1.cell (v := .slice none 0 0) 1 0 rfl rfl
    have k1 := hS1.cell (v := .slice none 0 0) 1 1 rfl rfl
    have HhS1 := Lib.hid hS1; clear hS1
    clear hb1
    go_wp2
    have hq := (HhS1.out.set 1 rfl 0 (.slice none 0 0)).set 1 rfl 1 (.slice none 0 0)
    have q0 := hq.cell (v := .slice none 0 0) 1 0 rfl rfl
    have q1 := hq.cell (v := .slice none 0 0) 1 1 rfl rfl
    refine bodyPost_ret (v := .tuple #[.agg #[.slice none 0 0, .slice none 0 0], .bool false]) (by simp [results, Try.results9, go_sem, q0, q1]) rfl ⟨?_, hq.bel⟩
    exact ⟨none, 0, none, 0, rfl, zeroD_own _ _ _ _ _⟩
  · obtain ⟨m, hm, hm40, hmv, hml, hf, hfl, he, hel⟩ := nfaOk_facts hok
    have hmv40 := mvIn_40 hmv hm40
    have hf40 : inN 40 n.firsts := fun s hs => by have := hf s hs; omega
    have he40 : inN 40 n.ends := fun s hs => by have := he s hs; omega
    have hdet := fun (w' : World) (hb : Below w.heap.size w w') => determinize_any n K hK v1 v2 v3 w' hmv40 (by omega) hf40 (by omega) he40 (g1.below hb) (g2.below hb) (g3.below hb)
    have Hhok := Lib.hid hok; clear hok
    have HhS0 := Lib.hid hS0; clear hS0
    have Hdet := Lib.hid hdet
    clear g1 g2 g3 hdet hm
    go_enter Try.func9, Try.ntmps9
    go_wp2_with fail
    refine (implNfaValid_any n _ _ (H.out.below HhS0.out.bel) _ Hhok.out).mono ?_
    rintro e w1 ⟨rfl, hb1⟩
    have hS1 := HhS0.out.call hb1
    have e0 := hS1.cell (v := .int .i64 n.states) 0 0 rfl rfl
    have e1 := hS1.cell (v := v1) 0 1 rfl rfl
    have e2 := hS1.cell (v := v2) 0 2 rfl rfl
    have e3 := hS1.cell (v := v3) 0 3 rfl rfl
    have HhS1 := Lib.hid hS1; clear hS1
    clear hb1
    go_wp2_with fail
    refine (Hdet.out _ HhS1.out.bel).mono ?_
    rintro e w2 ⟨hr, hb2⟩
    unfold RDet at hr
    by_cases hle : (metS n K).length ≤ K
    · rw [if_pos hle] at hr
      obtain ⟨an, cn, ae, ce, rfl, hown⟩ := hr
      have hn : detK K n = some (numDfa (nxS n) (enS n) (metS n K)) := by
        unfold detK
        rw [if_pos ⟨Hhok.out, hle⟩]
      rw [hn] at hD hfb
      obtain ⟨L, hL⟩ : ∃ L, L = (metS n K).length := ⟨_, rfl⟩
      have hl1 : D.next.length = L := by rw [← hD, hL]; exact numDfa_len _ _ _
      have hl2 : D.ends.length = L := by rw [← hD, hL]; simp [numDfa]
      rw [show numDfa (nxS n) (enS n) (metS n K) = D from hD] at hown
      rw [← hL] at hown
      rw [← hL]
      have hL40 : (L : Int) ≤ 40 := by omega
      have hfb' : fb = true := hfb.symm
      subst hfb'
      have hS2 := (HhS1.out.call hb2).alloc _ rfl #[.slice an L cn, .slice ae L ce] 33
      have f0 := hS2.fr 1 0 rfl
      have f1 := hS2.fr 1 1 rfl
      have k0 := hS2.cell (v := .slice none 0 0) 1 0 rfl rfl
      have k1 := hS2.cell (v := .slice none 0 0) 1 1 rfl rfl
      have d0 := hS2.cell (v := .slice an L cn) 2 0 rfl rfl
      have d1 := hS2.cell (v := .slice ae L ce) 2 1 rfl rfl
      have hDM := DMem.of hown HhS1.out.size
      have hD2 := (hDM.alloc (.cells #[.slice an L cn, .slice ae L ce] 33))
      have hb0 := hS2.box 1 rfl
      have HhS2 := Lib.hid hS2; clear hS2
      have HhD2 := Lib.hid hD2; clear hD2
      have Hhl1 := Lib.hid hl1; clear hl1
      have Hhl2 := Lib.hid hl2; clear hl2
      have Hhb0 := Lib.hid hb0; clear hb0
      clear hown hDM hb2 hL hD hfb hn
      go_wp2
      have hq := (HhS2.out.set 1 rfl 0 (.slice an L cn)).set 1 rfl 1 (.slice ae L ce)
      have q0 := hq.cell (v := .slice an L cn) 1 0 rfl rfl
      have q1 := hq.cell (v := .slice ae L ce) 1 1 rfl rfl
      refine bodyPost_ret (v := .tuple #[.agg #[.slice an L cn, .slice ae L ce], .bool true]) (by simp [results, Try.results9, go_sem, q0, q1]) rfl ⟨?_, hq.bel⟩
      have hm := (HhD2.out.set Hhb0.out 0 (.slice an L cn)).set (Hhb0.out.set 0 _) 1 (.slice ae L ce)
      refine ⟨an, cn, ae, ce, by rw [Hhl1.out, Hhl2.out], ?_⟩
      rw [Hhl1.out, Hhl2.out]
      exact ⟨_, _, rfl, hm.1, hm.2⟩
    · rw [if_neg hle] at hr
      subst hr
      have hn : detK K n = none := by
        unfold detK
        rw [if_neg]
        rintro ⟨-, h2⟩
        exact hle h2
      rw [hn] at hD hfb
      subst hD
      subst hfb
      have hS2 := (HhS1.out.call hb2).alloc _ rfl #[.slice none 0 0, .slice none 0 0] 33
      have f0 := hS2.fr 1 0 rfl
      have f1 := hS2.fr 1 1 rfl
      have k0 := hS2.cell (v := .slice none 0 0) 1 0 rfl rfl
      have k1 := hS2.cell (v := .slice none 0 0) 1 1 rfl rfl
      have d0 := hS2.cell (v := .slice none 0 0) 2 0 rfl rfl
      have d1 := hS2.cell (v := .slice none 0 0) 2 1 rfl rfl
      have HhS2 := Lib.hid hS2; clear hS2
      clear hb2
      go_wp2
      have hq := (HhS2.out.set 1 rfl 0 (.slice none 0 0)).set 1 rfl 1 (.slice none 0 0)
      have q0 := hq.cell (v := .slice none 0 0) 1 0 rfl rfl
      have q1 := hq.cell (v := .slice none 0 0) 1 1 rfl rfl
      refine bodyPost_ret (v := .tuple #[.agg #[.slice none 0 0, .slice none 0 0], .bool false]) (by simp [results, Try.results9, go_sem, q0, q1]) rfl ⟨?_, hq.bel⟩
      exact ⟨none, 0, none, 0, rfl, zeroD_own _ _ _ _ _⟩

set_option maxRecDepth 100000 in
set_option maxHeartbeats 4000000 in
theorem specDetK_any (K : Nat) (hK : K = 40) (n : NfaD) (D : DfaD) (fb : Bool) (hD : (detK K n).getD zeroD = D) (hfb : (detK K n).isSome = fb) (v : Value) (w : World) (h : NfaR 0 w v n) :
    Calls Try.prog 18 #[v] w fun e w' => RDfaBr D fb e w' ∧ Below w.heap.size w w' := by
  have H := Lib.hid h
  obtain ⟨v1, v2, v3, rfl, g1, g2, g3, -, -⟩ := h
  have hS0 := ((St.start w).alloc _ rfl #[.int .i64 n.states, v1, v2, v3] 26).alloc (w.heap.size + 1) (by simp) #[.slice none 0 0, .slice none 0 0] 33
  cases hok : nfaOk n
  · have hn : detK K n = none := by
      unfold detK
      rw [if_neg]
      rintro ⟨h1, -⟩
      rw [hok] at h1
      cases h1
    rw [hn] at hD hfb
    subst hD
    subst hfb
    have Hhok := Lib.hid hok; clear hok
    have HhS0 := Lib.hid hS0; clear hS0
    clear g1 g2 g3
    go_enter Try.func18, Try.ntmps18
    go_wp2_with fail
    refine (specNfaValid_any n _ _ (H.out.below HhS0.out.bel) _ Hhok.out).mono ?_
    rintro e w1 ⟨rfl, hb1⟩
    have hS1 := HhS0.out.call hb1
    have f0 := hS1.fr 1 0 rfl
    have f1 := hS1.fr 1 1 rfl
    have k0 := hS1.cell (v := .slice none 0 0) 1 0 rfl rfl
    have k1 := hS1.cell (v := .slice none 0 0) 1 1 rfl rfl
    have HhS1 := Lib.hid hS1; clear hS1
    clear hb1
    go_wp2
    have hq := (HhS1.out.set 1 rfl 0 (.slice none 0 0)).set 1 rfl 1 (.slice none 0 0)
    have q0 := hq.cell (v := .slice none 0 0) 1 0 rfl rfl
    have q1 := hq.cell (v := .slice none 0 0) 1 1 rfl rfl
    refine bodyPost_ret (v := .tuple #[.agg #[.slice none 0 0, .slice none 0 0], .bool false]) (by simp [results, Try.results18, go_sem, q0, q1]) rfl ⟨?_, hq.bel⟩
    exact ⟨none, 0, none, 0, rfl, (zeroD_own _ 0 0 0 0).r⟩
  · obtain ⟨m, hm, hm40, hmv, hml, hf, hfl, he, hel⟩ := nfaOk_facts hok
    have hnn : n = ⟨(m : Int), n.moves, n.firsts, n.ends⟩ := by rw [← hm]
    have hdet := fun (w' : World) (hb : Below w.heap.size w w') => l9Dfa_any m K hK n.moves n.firsts n.ends v1 v2 v3 w' hm40 hmv (by omega) hf (by omega) he (by omega) (g1.below hb) (g2.below hb) (g3.below hb)
    rw [← hnn, ← hm] at hdet
    have Hhok := Lib.hid hok; clear hok
    have HhS0 := Lib.hid hS0; clear hS0
    have Hdet := Lib.hid hdet
    clear g1 g2 g3 hdet hm hnn
    go_enter Try.func18, Try.ntmps18
    go_wp2_with fail
    refine (specNfaValid_any n _ _ (H.out.below HhS0.out.bel) _ Hhok.out).mono ?_
    rintro e w1 ⟨rfl, hb1⟩
    have hS1 := HhS0.out.call hb1
    have e0 := hS1.cell (v := .int .i64 n.states) 0 0 rfl rfl
    have e1 := hS1.cell (v := v1) 0 1 rfl rfl
    have e2 := hS1.cell (v := v2) 0 2 rfl rfl
    have e3 := hS1.cell (v := v3) 0 3 rfl rfl
    have HhS1 := Lib.hid hS1; clear hS1
    clear hb1
    go_wp2_with fail
    refine (Hdet.out _ HhS1.out.bel).mono ?_
    rintro e w2 ⟨hr, hb2⟩
    unfold RDetS at hr
    by_cases hle : (metS n K).length ≤ K
    · rw [if_pos hle] at hr
      obtain ⟨an, ln, cn, ae, le, ce, rfl, hown⟩ := hr
      have hn : detK K n = some (numDfa (nxS n) (enS n) (metS n K)) := by
        unfold detK
        rw [if_pos ⟨Hhok.out, hle⟩]
      rw [hn] at hD hfb
      rw [show numDfa (nxS n) (enS n) (metS n K) = D from hD] at hown
      have hln : ln = D.next.length ∧ le = D.ends.length := by
        obtain ⟨q1, q2, hq, hd1, hd2⟩ := hown
        simp only [Value.agg.injEq] at hq
        have e1 := congrArg (fun (l : Array Value) => l[0]?) hq
        have e2 := congrArg (fun (l : Array Value) => l[1]?) hq
        simp at e1 e2
        subst e1
        subst e2
        obtain ⟨_, _, h1, -⟩ := hd1.form
        obtain ⟨_, _, h2, -⟩ := hd2.form
        simp only [Value.slice.injEq] at h1 h2
        exact ⟨h1.2.1, h2.2.1⟩
      obtain ⟨rfl, rfl⟩ := hln
      have hfb' : fb = true := hfb.symm
      subst hfb'
      have hS2 := HhS1.out.call hb2
      have f0 := hS2.fr 1 0 rfl
      have f1 := hS2.fr 1 1 rfl
      have k0 := hS2.cell (v := .slice none 0 0) 1 0 rfl rfl
      have k1 := hS2.cell (v := .slice none 0 0) 1 1 rfl rfl
      have HhS2 := Lib.hid hS2; clear hS2
      have HO := Lib.hid hown
      have hB1 := (HhS1.out.boxlt 1 rfl).2
      clear hown hb2 hD hfb hn
      go_wp2
      have hq := (HhS2.out.set 1 rfl 0 (.slice an D.next.length cn)).set 1 rfl 1 (.slice ae D.ends.length ce)
      have q0 := hq.cell (v := .slice an D.next.length cn) 1 0 rfl rfl
      have q1 := hq.cell (v := .slice ae D.ends.length ce) 1 1 rfl rfl
      refine bodyPost_ret (v := .tuple #[.agg #[.slice an D.next.length cn, .slice ae D.ends.length ce], .bool true]) (by simp [results, Try.results18, go_sem, q0, q1]) rfl ⟨?_, hq.bel⟩
      exact ⟨an, cn, ae, ce, rfl, ((HO.out.far hB1 0 _).far hB1 1 _).mono (Nat.zero_le _)⟩
    · rw [if_neg hle] at hr
      subst hr
      have hn : detK K n = none := by
        unfold detK
        rw [if_neg]
        rintro ⟨-, h2⟩
        exact hle h2
      rw [hn] at hD hfb
      subst hD
      subst hfb
      have hS2 := HhS1.out.call hb2
      have f0 := hS2.fr 1 0 rfl
      have f1 := hS2.fr 1 1 rfl
      have k0 := hS2.cell (v := .slice none 0 0) 1 0 rfl rfl
      have k1 := hS2.cell (v := .slice none 0 0) 1 1 rfl rfl
      have HhS2 := Lib.hid hS2; clear hS2
      clear hb2
      go_wp2
      have hq := (HhS2.out.set 1 rfl 0 (.slice none 0 0)).set 1 rfl 1 (.slice none 0 0)
      have q0 := hq.cell (v := .slice none 0 0) 1 0 rfl rfl
      have q1 := hq.cell (v := .slice none 0 0) 1 1 rfl rfl
      refine bodyPost_ret (v := .tuple #[.agg #[.slice none 0 0, .slice none 0 0], .bool false]) (by simp [results, Try.results18, go_sem, q0, q1]) rfl ⟨?_, hq.bel⟩
      exact ⟨none, 0, none, 0, rfl, (zeroD_own _ 0 0 0 0).r⟩
theorem implDet_any (n : NfaD) (D : DfaD) (fb : Bool) (hD : (det n).getD zeroD = D) (hfb : (det n).isSome = fb) (v : Value) (w : World) (h : NfaR 0 w v n) :
    Calls Try.prog 9 #[v] w fun e w' => RDfaB D fb w.heap.size e w' ∧ Below w.heap.size w w' := implDetK_any forty rfl n D fb hD hfb v w h
theorem specDet_any (n : NfaD) (D : DfaD) (fb : Bool) (hD : (det n).getD zeroD = D) (hfb : (det n).isSome = fb) (v : Value) (w : World) (h : NfaR 0 w v n) :
    Calls Try.prog 18 #[v] w fun e w' => RDfaBr D fb e w' ∧ Below w.heap.size w w' := specDetK_any forty rfl n D fb hD hfb v w h
end Go.Proofs.Ytjcegbcmomfgaaa
