/-
  The walk over the reference's DfaRests.
  Condition: the automaton reads as such.
-/
import Derived.Test.YtclhcfmlkfiidaaPk44
import Derived.Test.YtclhcfmlkfiidaaDs
namespace Go.Proofs.Ytclhcfmlkfiidaa
open Go.RowKit

set_option maxRecDepth 100000 in
set_option maxHeartbeats 4000000 in
theorem specRsK_any (K : Nat) (hK : K = 40) (d D : DfaD) (fb : Bool) (hD : (rsK K d).getD zeD = D) (hfb : (rsK K d).isSome = fb) (v : Value) (w : World) (h : DfaR 0 w v d) :
    Calls Try.prog 32 #[v] w fun e w' => RTtr D fb e w' ∧ Below w.heap.size w w' := by
  have H := Lib.hid h
  obtain ⟨v1, v2, rfl, -, -⟩ := h
  have hS0 := ((St.start w).alloc _ rfl #[v1, v2] 32).alloc (w.heap.size + 1) (by simp) #[.slice none 0 0, .slice none 0 0] 32
  have e0 := hS0.cell (v := v1) 0 0 rfl rfl
  have e1 := hS0.cell (v := v2) 0 1 rfl rfl
  cases hok : dfaOk d.next d.ends
  · have hn : rsK K d = none := by
      unfold rsK
      rw [hok]
      rfl
    rw [hn] at hD hfb
    subst hD
    subst hfb
    have Hhok := Lib.hid hok; clear hok
    have HhS0 := Lib.hid hS0; clear hS0
    go_enter Try.func32, Try.ntmps32
    go_wp2_with fail
    refine (specDfaValidD2_any d _ _ (H.out.below HhS0.out.bel) _ Hhok.out).mono ?_
    rintro e w1 ⟨rfl, hb1⟩
    have hS1 := HhS0.out.call hb1
    have f0 := hS1.fr 1 0 rfl
    have f1 := hS1.fr 1 1 rfl
    have k0 := hS1.cell (v := .slice none 0 0) 1 0 rfl rfl
    have k1 := hS1.cell (v := .slice none 0 0) 1 1 rfl rfl
    have HhS1 := Lib.hid hS1; clear hS1
    clear hb1 e0 e1
    go_wp2
    have hq := (HhS1.out.set 1 rfl 0 (.slice none 0 0)).set 1 rfl 1 (.slice none 0 0)
    have q0 := hq.cell (v := .slice none 0 0) 1 0 rfl rfl
    have q1 := hq.cell (v := .slice none 0 0) 1 1 rfl rfl
    refine bodyPost_ret (v := .tuple #[.agg #[.slice none 0 0, .slice none 0 0], .bool false]) (by simp [results, Try.results32, go_sem, q0, q1]) rfl ⟨?_, hq.bel⟩
    exact ⟨none, 0, none, 0, rfl, (zeD_own _ 0 0 0 0).r⟩
  · rw [rsK_yes hok] at hD hfb
    obtain ⟨X, hX⟩ : ∃ X, X = trimD d := ⟨_, rfl⟩
    have hXo := (trim_ok hok).1
    rw [← hX] at hD hfb hXo
    have hdo := restsN_det hXo
    have hl := dfaOk_len hXo
    have hst : (nfaOf X).states = (X.next.length : Int) := rfl
    have hrm : (restsN X).moves = (nfaOf X).moves := rfl
    have hrf : (restsN X).firsts = upInts X.next.length := rfl
    have hre : (restsN X).ends = (nfaOf X).ends := rfl
    have hrs : (restsN X).states = (X.next.length : Int) := rfl
    have hml := hdo.ml
    have hel := hdo.el
    rw [hrm] at hml
    rw [hre] at hel
    have hup0 : intCells (upInts 0) = [] := rfl
    obtain ⟨L, hL⟩ : ∃ L, L = X.next.length := ⟨_, rfl⟩
    have hl1 : 1 ≤ L := by omega
    have hl2 : L ≤ 40 := by omega
    obtain ⟨i0, hi, hz0, hz1, hz2⟩ := info_parts Try.infoInt
    rw [← hL] at hst hrf hrs
    have Hhok := Lib.hid hok; clear hok
    have HhS0 := Lib.hid hS0; clear hS0
    have HhD := Lib.hid hD; clear hD
    have Hhfb := Lib.hid hfb; clear hfb
    have HhX := Lib.hid hX; clear hX
    have HhXo := Lib.hid hXo; clear hXo
    have Hhdo := Lib.hid hdo; clear hdo
    have Hhst := Lib.hid hst; clear hst
    have Hhrm := Lib.hid hrm; clear hrm
    have Hhrf := Lib.hid hrf; clear hrf
    have Hhre := Lib.hid hre; clear hre
    have Hhrs := Lib.hid hrs; clear hrs
    have Hhml := Lib.hid hml; clear hml
    have Hhel := Lib.hid hel; clear hel
    have Hhup0 := Lib.hid hup0; clear hup0
    have HhL := Lib.hid hL; clear hL
    have Hhi := Lib.hid hi; clear hi
    have Hhz0 := Lib.hid hz0; clear hz0
    have Hhz1 := Lib.hid hz1; clear hz1
    have Hhz2 := Lib.hid hz2; clear hz2
    clear hl
    go_enter Try.func32, Try.ntmps32
    go_wp2_with fail
    refine (specDfaValidD2_any d _ _ (H.out.below HhS0.out.bel) _ Hhok.out).mono ?_
    rintro e w1 ⟨rfl, hb1⟩
    have hS1 := HhS0.out.call hb1
    have e0' := hS1.cell (v := v1) 0 0 rfl rfl
    have e1' := hS1.cell (v := v2) 0 1 rfl rfl
    have HhS1 := Lib.hid hS1; clear hS1
    clear hb1 e0 e1
    go_wp2_with fail
    refine (specTrim_any d _ _ Hhok.out (H.out.below HhS1.out.bel)).mono ?_
    rintro e w2 ⟨a1, c1, a2, c2, rfl, hown, hb2⟩
    rw [← HhX.out] at hown
    rw [← HhX.out]
    have hS2 := HhS1.out.call hb2
    have hDR := hown.mono (Nat.zero_le _)
    have HhS2 := Lib.hid hS2; clear hS2
    have HhDR := Lib.hid hDR; clear hDR
    clear hown hb2 e0' e1'
    go_wp2_with fail
    refine (specNfaOf_any X _ _ HhXo.out HhDR.out).mono ?_
    rintro e w3 ⟨a3, c3, a4, c4, a5, c5, rfl, hS'⟩
    rw [Hhst.out]
    have hS3 := (((HhS2.out.cat hS').alloc _ rfl #[.int .i64 (L : Int), .slice a3 (nfaOf X).moves.length c3, .slice (some ⟨w3.heap.size + 1, 0, none⟩) 0 0, .slice a5 (nfaOf X).ends.length c5] 67).alloc (w3.heap.size + 1) (by simp) #[] 3).boxrow 6 0 1 [] rfl rfl (Nat.zero_le _)
    have hS4 := hS3.pick [0, 1, 2, 4, 5, 6] (by decide)
    have HS4 := Lib.hid hS4
    clear hS3 hS4 hS'
    go_wp2
    go_loopw [5] (fun i wr => ∃ (s : Nat) (a : Option Addr) (c : Nat), i = .int .i64 s ∧ s ≤ L ∧ St w wr [Ent.box w.heap.size #[v1, v2] 32, Ent.box (w.heap.size + 1) #[.slice none 0 0, .slice none 0 0] 32, Ent.row 90 3 (.slice a3 (nfaOf X).moves.length c3) (nfaOf X).moves.length ((nfaOf X).moves.flatMap moveCells), Ent.row 3 1 (.slice a5 (nfaOf X).ends.length c5) (nfaOf X).ends.length (intCells (nfaOf X).ends),
        Ent.box w3.heap.size #[.int .i64 (L : Int), .slice a3 (nfaOf X).moves.length c3, .slice a s c, .slice a5 (nfaOf X).ends.length c5] 67, Ent.row 3 1 (.slice a s c) s (intCells (upInts s))]) (fun i _ => L - (intOf i).toNat)
    case atStart => exact ⟨0, _, _, rfl, Nat.zero_le _, HS4.out⟩
    case round =>
      obtain ⟨s, a, c, rfl, hs, hS⟩ := hrel
      have e9 := hS.cell (v := .int .i64 (L : Int)) 4 0 rfl rfl
      by_cases hlt : s < L
      · have hlt2 : (s : Int) < L := by omega
        have hup := upInts_succ s
        have hSa := hS.alloc_ (.cells #[.int .i64 (s : Int)] 3)
        have hR := hSa.row 5 rfl
        have e0 := hS.cell (v := .slice a s c) 4 2 rfl rfl
        have HS5 := Lib.hid hS
        have HhSa := Lib.hid hSa; clear hSa
        have HhR := Lib.hid hR; clear hR
        have Hhup := Lib.hid hup; clear hup
        clear hS
        go_wp2_with (at_builtin; refine wpList_append_lies _ rfl _ _ _ rfl _ 3 i0 (.int .i64 0) 1 8 Try.underlying44 Hhi.out Hhz0.out Hhz1.out Hhz2.out rfl (by omega) _ s _ rfl HhR.out ⟨wr.heap.size, 0, none⟩ 1 1 [.int .i64 (s : Int)] rfl rfl (World.news_of_block (heap_alloc_new wr _)) one_int (by omega) (by unfold maxLen; omega) (by omega) HhSa.out.size _ rfl ?_; intro g6 c6 w6 hown6 hgrow6 hat6 hlt6; have HS6 := Lib.hid (HhSa.out.app 5 rfl hown6 hgrow6 hat6); have y1 := HS6.out.cell (v := .slice a s c) 4 2 rfl rfl; have y2 := HS6.out.fr 4 2 rfl; clear hown6 hgrow6 hat6 hlt6)
        go_roundw
        case rel =>
          refine ⟨s + 1, some ⟨g6, 0, none⟩, c6, by go_num, by omega, ?_⟩
          rw [Hhup.out, intCells_snoc]
          exact HS6.out.set 4 rfl 2 (.slice (some ⟨g6, 0, none⟩) (s + 1) c6)
        case measure => simp [intOf]; omega
      · obtain rfl : L = s := by omega
        have e0 := hS.cell (v := .int .i64 (L : Int)) 4 0 rfl rfl
        have e1 := hS.cell (v := .slice a3 (nfaOf X).moves.length c3) 4 1 rfl rfl
        have e2 := hS.cell (v := .slice a L c) 4 2 rfl rfl
        have e3 := hS.cell (v := .slice a5 (nfaOf X).ends.length c5) 4 3 rfl rfl
        have hcall := l9Dfa_any X.next.length K hK (restsN X).moves (restsN X).firsts (restsN X).ends (.slice a3 (nfaOf X).moves.length c3) (.slice a L c) (.slice a5 (nfaOf X).ends.length c5) wr Hhdo.out.m40 Hhdo.out.mv (by have := Hhdo.out.ml; omega) Hhdo.out.f (by have := Hhdo.out.fl; omega) Hhdo.out.e (by have := Hhdo.out.el; omega) (by rw [Hhrm.out]; exact hS.moves 2 rfl) (by rw [Hhrf.out]; exact hS.intsR 5 rfl) (by rw [Hhre.out]; exact hS.intsR 3 rfl)
        have hN : (⟨((X.next.length : Nat) : Int), (restsN X).moves, (restsN X).firsts, (restsN X).ends⟩ : NfaD) = restsN X := rfl
        rw [hN, ← HhL.out] at hcall
        have Hcall := Lib.hid hcall
        have HS5 := Lib.hid hS
        have HhN := Lib.hid hN; clear hN
        clear hS hcall
        go_wp2_with fail
        refine Hcall.out.mono ?_
        rintro e w5 ⟨hr, hb5⟩
        unfold RDetS at hr
        by_cases hle : (metS (restsN X) K).length ≤ K
        · rw [if_pos hle] at hr
          obtain ⟨an, ln, cn, ae, le, ce, rfl, hown⟩ := hr
          obtain ⟨rfl, rfl⟩ := dfaR_lens hown
          have htd := detQK_some hle
          obtain ⟨Y, hY⟩ : ∃ Y, Y = numDfa (nxS (restsN X)) (enS (restsN X)) (metS (restsN X) K) := ⟨_, rfl⟩
          rw [← hY] at hown htd
          rw [← hY]
          have hD := HhD.out
          have hfb := Hhfb.out
          rw [htd] at hD hfb
          have hD : minD Y = D := hD
          have hfb : true = fb := hfb
          subst hD
          subst hfb
          have hYo : dfaOk Y.next Y.ends = true := detQK_ok hK (n := restsN X) htd
          have hsm := small_min (fine_of hYo)
          have hS6 := (HS5.out.call hb5).alloc _ rfl #[.slice an Y.next.length cn, .slice ae Y.ends.length ce] 32
          have hRY := (hown.mono (Nat.zero_le _)).below ((Below.refl w5.heap.size w5).alloc (Nat.le_refl _) (.cells #[.slice an Y.next.length cn, .slice ae Y.ends.length ce] 32))
          have z0 := hS6.cell (v := .slice an Y.next.length cn) 6 0 rfl rfl
          have z1 := hS6.cell (v := .slice ae Y.ends.length ce) 6 1 rfl rfl
          have HS6 := Lib.hid hS6
          have HRY := Lib.hid hRY
          have HhY := Lib.hid hY; clear hY
          have Hhtd := Lib.hid htd; clear htd
          have HhYo := Lib.hid hYo; clear hYo
          have Hhsm := Lib.hid hsm; clear hsm
          clear hS6 hown hb5 hle hRY e0 e1 e2 e3 e9
          go_wp2_with fail
          refine (l10Small_any Y _ _ HhYo.out HRY.out).mono ?_
          rintro e w7 ⟨a6, c6, a7, c7, rfl, hown, hb7⟩
          rw [Hhsm.out] at hown
          rw [Hhsm.out]
          obtain ⟨M, hM⟩ : ∃ M, M = minD Y := ⟨_, rfl⟩
          rw [← hM] at hown
          rw [← hM]
          have hB1 := (HS6.out.boxlt 1 rfl).2
          have hS7 := HS6.out.call hb7
          have f0 := hS7.fr 1 0 rfl
          have f1 := hS7.fr 1 1 rfl
          have k0 := hS7.cell (v := .slice none 0 0) 1 0 rfl rfl
          have k1 := hS7.cell (v := .slice none 0 0) 1 1 rfl rfl
          have HO := Lib.hid ((hown.far hB1 0 (.slice a6 M.next.length c6)).far hB1 1 (.slice a7 M.ends.length c7))
          have HS7 := Lib.hid hS7
          have HhM := Lib.hid hM; clear hM
          clear hS7 hown hb7 z0 z1 hB1
          go_wp2
          have hq := (HS7.out.set 1 rfl 0 (.slice a6 M.next.length c6)).set 1 rfl 1 (.slice a7 M.ends.length c7)
          have q0 := hq.cell (v := .slice a6 M.next.length c6) 1 0 rfl rfl
          have q1 := hq.cell (v := .slice a7 M.ends.length c7) 1 1 rfl rfl
          refine bodyPost_ret (v := .tuple #[.agg #[.slice a6 M.next.length c6, .slice a7 M.ends.length c7], .bool true]) (by simp [results, Try.results32, go_sem, q0, q1]) rfl ⟨?_, hq.bel⟩
          rw [← HhM.out]
          exact ⟨a6, c6, a7, c7, rfl, HO.out.mono (Nat.zero_le _)⟩
        · rw [if_neg hle] at hr
          subst hr
          have hD := HhD.out
          have hfb := Hhfb.out
          rw [detQK_none hle] at hD hfb
          have hD : zeD = D := hD
          have hfb : false = fb := hfb
          subst hD
          subst hfb
          have hS6 := (HS5.out.call hb5).alloc _ rfl #[.slice none 0 0, .slice none 0 0] 32
          have f0 := hS6.fr 1 0 rfl
          have f1 := hS6.fr 1 1 rfl
          have k0 := hS6.cell (v := .slice none 0 0) 1 0 rfl rfl
          have k1 := hS6.cell (v := .slice none 0 0) 1 1 rfl rfl
          have HS6 := Lib.hid hS6
          clear hS6 hb5 hle e0 e1 e2 e3 e9
          go_wp2
          have hq := (HS6.out.set 1 rfl 0 (.slice none 0 0)).set 1 rfl 1 (.slice none 0 0)
          have q0 := hq.cell (v := .slice none 0 0) 1 0 rfl rfl
          have q1 := hq.cell (v := .slice none 0 0) 1 1 rfl rfl
          refine bodyPost_ret (v := .tuple #[.agg #[.slice none 0 0, .slice none 0 0], .bool false]) (by simp [results, Try.results32, go_sem, q0, q1]) rfl ⟨?_, hq.bel⟩
          exact ⟨none, 0, none, 0, rfl, (zeD_own _ 0 0 0 0).r⟩

/-- The two contracts at the bound itself. -/
def rs (d : DfaD) : Option DfaD := rsK forty' d
theorem implRs_any (d D : DfaD) (fb : Bool) (hD : (rs d).getD zeD = D) (hfb : (rs d).isSome = fb) (v : Value) (w : World) (h : DfaR 0 w v d) :
    Calls Try.prog 33 #[v] w fun e w' => RTt D fb w.heap.size e w' ∧ Below w.heap.size w w' := implRsK_any forty' rfl d D fb hD hfb v w h
theorem specRs_any (d D : DfaD) (fb : Bool) (hD : (rs d).getD zeD = D) (hfb : (rs d).isSome = fb) (v : Value) (w : World) (h : DfaR 0 w v d) :
    Calls Try.prog 32 #[v] w fun e w' => RTtr D fb e w' ∧ Below w.heap.size w w' := specRsK_any forty' rfl d D fb hD hfb v w h
theorem rsK_small {K : Nat} (hK : K = 40) (d : DfaD) : ((rsK K d).getD zeD).next.length ≤ 40 ∧ (((rsK K d).getD zeD).next.map List.length).sum ≤ 120 ∧ ((rsK K d).getD zeD).ends.length ≤ 40 := by
  cases h : rsK K d with
  | none => exact ⟨Nat.zero_le _, Nat.zero_le _, Nat.zero_le _⟩
  | some Z =>
    unfold rsK at h
    split at h
    · obtain ⟨Y, hY, rfl⟩ := Option.map_eq_some_iff.1 h
      have hok := detQK_ok hK (n := restsN (trimD d)) hY
      have h1 := minD_len hok
      have h2 := dfaOk_len hok
      simp only [Option.getD_some]
      omega
    · cases h
theorem rs_small (d : DfaD) : ((rs d).getD zeD).next.length ≤ 40 ∧ (((rs d).getD zeD).next.map List.length).sum ≤ 120 ∧ ((rs d).getD zeD).ends.length ≤ 40 := rsK_small (K := forty') rfl d
end Go.Proofs.Ytclhcfmlkfiidaa
