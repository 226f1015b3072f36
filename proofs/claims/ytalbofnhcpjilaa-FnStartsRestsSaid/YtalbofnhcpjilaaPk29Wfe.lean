/-
  The walk over the program's small.
  Conditions: the automaton's numbers are in bounds; the arguments read as such data.
-/
import Derived.Test.YtalbofnhcpjilaaPk27Tm
import Derived.Test.YtalbofnhcpjilaaPk28Mn
namespace Go.Proofs.Ytalbofnhcpjilaa
open Go.RowKit
theorem detQK_some {K : Nat} {n : NfaD} (h : (metS n K).length ≤ K) : detQK K n = some (numDfa (nxS n) (enS n) (metS n K)) := if_pos h
theorem detQK_none {K : Nat} {n : NfaD} (h : ¬ (metS n K).length ≤ K) : detQK K n = none := if_neg h
set_option maxRecDepth 100000 in
set_option maxHeartbeats 4000000 in
theorem implSmall_any (n : NfaD) (m K : Nat) (hK : K = 40) (D : DfaD) (fb : Bool) (hD : ((detQK K n).map minD).getD zeD = D) (hfb : ((detQK K n).map minD).isSome = fb) (v1 v2 v3 : Value) (w : World) (hdo : DetOk n m) (h1 : Moves 0 w v1 n.moves) (h2 : Ints 0 w v2 n.firsts) (h3 : Ints 0 w v3 n.ends) :
  Calls Try.prog 62 #[.agg #[.int .i64 n.states, v1, v2, v3]] w fun e w' => RTt D fb w.heap.size e w' ∧ Below w.heap.size w w' := by
 have hS0 := ((St.start w).alloc _ rfl #[.int .i64 n.states, v1, v2, v3] 50).alloc (w.heap.size + 1) (by simp) #[.slice none 0 0, .slice none 0 0] 27
 have hdet := fun (W : World) (hb : Below w.heap.size w W) => determinize_any n K hK v1 v2 v3 W (mvIn_40 hdo.mv hdo.m40) (by have := hdo.ml; omega) (fun s hs => by have := hdo.f s hs; have := hdo.m40; omega) (by have := hdo.fl; omega) (fun s hs => by have := hdo.e s hs; have := hdo.m40; omega) (h1.below hb) (h2.below hb) (h3.below hb)
 have Hdet := Lib.hid hdet
 have HhS0 := Lib.hid hS0; clear hS0
 have HhD := Lib.hid hD; clear hD
 have Hhfb := Lib.hid hfb; clear hfb
 clear hdet h1 h2 h3 hdo
 go_enter Try.func62, Try.ntmps62
 have e0 := HhS0.out.cell (v := .int .i64 n.states) 0 0 rfl rfl
 have e1 := HhS0.out.cell (v := v1) 0 1 rfl rfl
 have e2 := HhS0.out.cell (v := v2) 0 2 rfl rfl
 have e3 := HhS0.out.cell (v := v3) 0 3 rfl rfl
 go_wp2_with fail
 refine (Hdet.out _ HhS0.out.bel).mono ?_
 rintro e w3 ⟨hr, hb3⟩
 unfold RDet at hr
 by_cases hle : (metS n K).length ≤ K
 ·rw [if_pos hle] at hr
  obtain ⟨an, cn, ae, ce, rfl, hown⟩ := hr
  have htd := detQK_some hle
  obtain ⟨X, hX⟩ : ∃ X, X = numDfa (nxS n) (enS n) (metS n K) := ⟨_, rfl⟩
  have hl1 : X.next.length = (metS n K).length := by rw [hX]; exact numDfa_len _ _ _
  have hl2 : X.ends.length = (metS n K).length := by rw [hX]; simp [numDfa]
  rw [← hX] at hown htd
  have hD := HhD.out
  have hfb := Hhfb.out
  rw [htd] at hD hfb
  have hD : minD X = D := hD
  have hfb : true = fb := hfb
  subst hD
  subst hfb
  obtain ⟨L, hL⟩ : ∃ L, L = (metS n K).length := ⟨_, rfl⟩
  rw [← hL] at hown hl1 hl2 hle
  rw [← hL]
  have hL40 : (L : Int) ≤ 40 := by omega
  have hXo : dfaOk X.next X.ends = true := detQK_ok hK (n := n) htd
  have hS4 := (HhS0.out.call hb3).alloc _ rfl #[.slice an L cn, .slice ae L ce] 27
  have hDR : DfaR 0 (w3.alloc (.cells #[.slice an L cn, .slice ae L ce] 27)) (.agg #[.slice an L cn, .slice ae L ce]) X := (hown.r.mono (Nat.zero_le _)).below ((Below.refl _ _).alloc (Nat.le_refl _) _)
  have d0 := hS4.cell (v := .slice an L cn) 2 0 rfl rfl
  have d1 := hS4.cell (v := .slice ae L ce) 2 1 rfl rfl
  have HS4 := Lib.hid hS4
  have HDR := Lib.hid hDR
  have Hhl1 := Lib.hid hl1; clear hl1
  have Hhl2 := Lib.hid hl2; clear hl2
  have Hhtd := Lib.hid htd; clear htd
  have HhXo := Lib.hid hXo; clear hXo
  have HhX := Lib.hid hX; clear hX
  have HhL := Lib.hid hL; clear hL
  clear hown hb3 hle hS4 hDR e0 e1 e2 e3
  go_wp2_with fail
  refine (implMin_any X _ _ HhXo.out HDR.out).mono ?_
  rintro e w5 ⟨a1, c1, a2, c2, rfl, hown, hb5⟩
  obtain ⟨M, hM⟩ : ∃ M, M = minD X := ⟨_, rfl⟩
  rw [← hM] at hown
  rw [← hM]
  have hS5 := HS4.out.call hb5
  have f0 := hS5.fr 1 0 rfl
  have f1 := hS5.fr 1 1 rfl
  have k0 := hS5.cell (v := .slice none 0 0) 1 0 rfl rfl
  have k1 := hS5.cell (v := .slice none 0 0) 1 1 rfl rfl
  have hDM := DMem.of hown HS4.out.size
  have hb0 := hS5.box 1 rfl
  have HS5 := Lib.hid hS5
  have HDM := Lib.hid hDM
  have Hhb0 := Lib.hid hb0; clear hb0
  have HhM := Lib.hid hM; clear hM
  clear hS5 hown hb5 hDM d0 d1
  go_wp2
  have hq := (HS5.out.set 1 rfl 0 (.slice a1 M.next.length c1)).set 1 rfl 1 (.slice a2 M.ends.length c2)
  have q0 := hq.cell (v := .slice a1 M.next.length c1) 1 0 rfl rfl
  have q1 := hq.cell (v := .slice a2 M.ends.length c2) 1 1 rfl rfl
  have hm := (HDM.out.set Hhb0.out 0 (.slice a1 M.next.length c1)).set (Hhb0.out.set 0 _) 1 (.slice a2 M.ends.length c2)
  refine bodyPost_ret (v := .tuple #[.agg #[.slice a1 M.next.length c1, .slice a2 M.ends.length c2], .bool true]) (by simp [results, Try.results62, go_sem, q0, q1]) rfl ⟨?_, hq.bel⟩
  rw [← HhM.out]
  exact ⟨a1, c1, a2, c2, rfl, _, _, rfl, hm.1, hm.2⟩
 ·rw [if_neg hle] at hr
  subst hr
  have hD := HhD.out
  have hfb := Hhfb.out
  rw [detQK_none hle] at hD hfb
  have hD : zeD = D := hD
  have hfb : false = fb := hfb
  subst hD
  subst hfb
  have hS4 := (HhS0.out.call hb3).alloc _ rfl #[.slice none 0 0, .slice none 0 0] 27
  have f0 := hS4.fr 1 0 rfl
  have f1 := hS4.fr 1 1 rfl
  have k0 := hS4.cell (v := .slice none 0 0) 1 0 rfl rfl
  have k1 := hS4.cell (v := .slice none 0 0) 1 1 rfl rfl
  have HS4 := Lib.hid hS4
  clear hb3 hle hS4 e0 e1 e2 e3
  go_wp2
  have hq := (HS4.out.set 1 rfl 0 (.slice none 0 0)).set 1 rfl 1 (.slice none 0 0)
  have q0 := hq.cell (v := .slice none 0 0) 1 0 rfl rfl
  have q1 := hq.cell (v := .slice none 0 0) 1 1 rfl rfl
  refine bodyPost_ret (v := .tuple #[.agg #[.slice none 0 0, .slice none 0 0], .bool false]) (by simp [results, Try.results62, go_sem, q0, q1]) rfl ⟨?_, hq.bel⟩
  exact ⟨none, 0, none, 0, rfl, zeD_own _ _ _ _ _⟩
theorem rsK_yes {K : Nat} {d : DfaD} (h : dfaOk d.next d.ends = true) : rsK K d = (detQK K (restsN (trimD d))).map minD := if_pos h
set_option maxRecDepth 100000 in
set_option maxHeartbeats 4000000 in
theorem implRsK_any (K : Nat) (hK : K = 40) (d D : DfaD) (fb : Bool) (hD : (rsK K d).getD zeD = D) (hfb : (rsK K d).isSome = fb) (v : Value) (w : World) (h : DfaR 0 w v d) :
  Calls Try.prog 23 #[v] w fun e w' => RTt D fb w.heap.size e w' ∧ Below w.heap.size w w' := by
 have H := Lib.hid h
 obtain ⟨v1, v2, rfl, -, -⟩ := h
 have hS0 := ((St.start w).alloc _ rfl #[v1, v2] 27).alloc (w.heap.size + 1) (by simp) #[.slice none 0 0, .slice none 0 0] 27
 have e0 := hS0.cell (v := v1) 0 0 rfl rfl
 have e1 := hS0.cell (v := v2) 0 1 rfl rfl
 cases hok : dfaOk d.next d.ends
 ·have hn : rsK K d = none := by
   unfold rsK
   rw [hok]
   rfl
  rw [hn] at hD hfb
  subst hD
  subst hfb
  have Hhok := Lib.hid hok; clear hok
  have HhS0 := Lib.hid hS0; clear hS0
  go_enter Try.func23, Try.ntmps23
  go_wp2_with fail
  refine (implDfaValid_any d _ _ (H.out.below HhS0.out.bel) _ Hhok.out).mono ?_
  rintro e w1 ⟨rfl, hb1⟩
  have hS1 := HhS0.out.call hb1
  have f0 := hS1.fr 1 0 rfl
  have f1 := hS1.fr 1 1 rfl
  have k0 := hS1.cell (v := .slice none 0 0) 1 0 rfl rfl
  have k1 := hS1.cell (v := .slice none 0 0) 1 1 rfl rfl
  have HhS1 := Lib.hid hS1; clear hS1
  clear hb1 e0 e1
  go_wp2
  have hq := (HhS1.out.set 1 rfl 0 (.slice none 0 0)).set 1 rfl 1 (.slice none 0 0)
  have q0 := hq.cell (v := .slice none 0 0) 1 0 rfl rfl
  have q1 := hq.cell (v := .slice none 0 0) 1 1 rfl rfl
  refine bodyPost_ret (v := .tuple #[.agg #[.slice none 0 0, .slice none 0 0], .bool false]) (by simp [results, Try.results23, go_sem, q0, q1]) rfl ⟨?_, hq.bel⟩
  exact ⟨none, 0, none, 0, rfl, zeD_own _ _ _ _ _⟩
 ·rw [rsK_yes hok] at hD hfb
  obtain ⟨X, hX⟩ : ∃ X, X = trimD d := ⟨_, rfl⟩
  have hXo := (trim_ok hok).1
  rw [← hX] at hD hfb hXo
  have hdo := restsN_det hXo
  have hl := dfaOk_len hXo
  have hst : (nfaOf X).states = (X.next.length : Int) := rfl
  have hrm : (restsN X).moves = (nfaOf X).moves := rfl
  have hrf : (restsN X).firsts = upInts X.next.length := rfl
  have hre : (restsN X).ends = (nfaOf X).ends := rfl
  have hrs : (restsN X).states = (X.next.length : Int) := rfl
  have hml := hdo.ml
  have hel := hdo.el
  rw [hrm] at hml
  rw [hre] at hel
  have hup0 : intCells (upInts 0) = [] := rfl
  obtain ⟨L, hL⟩ : ∃ L, L = X.next.length := ⟨_, rfl⟩
  have hl1 : 1 ≤ L := by omega
  have hl2 : L ≤ 40 := by omega
  obtain ⟨i0, hi, hz0, hz1, hz2⟩ := info_parts Try.infoInt
  rw [← hL] at hst hrf hrs
  have Hhok := Lib.hid hok; clear hok
  have HhS0 := Lib.hid hS0; clear hS0
  have HhD := Lib.hid hD; clear hD
  have Hhfb := Lib.hid hfb; clear hfb
  have HhX := Lib.hid hX; clear hX
  have HhXo := Lib.hid hXo; clear hXo
  have Hhdo := Lib.hid hdo; clear hdo
  have Hhst := Lib.hid hst; clear hst
  have Hhrm := Lib.hid hrm; clear hrm
  have Hhrf := Lib.hid hrf; clear hrf
  have Hhre := Lib.hid hre; clear hre
  have Hhrs := Lib.hid hrs; clear hrs
  have Hhml := Lib.hid hml; clear hml
  have Hhel := Lib.hid hel; clear hel
  have Hhup0 := Lib.hid hup0; clear hup0
  have HhL := Lib.hid hL; clear hL
  have Hhi := Lib.hid hi; clear hi
  have Hhz0 := Lib.hid hz0; clear hz0
  have Hhz1 := Lib.hid hz1; clear hz1
  have Hhz2 := Lib.hid hz2; clear hz2
  clear hl
  go_enter Try.func23, Try.ntmps23
  go_wp2_with fail
  refine (implDfaValid_any d _ _ (H.out.below HhS0.out.bel) _ Hhok.out).mono ?_
  rintro e w1 ⟨rfl, hb1⟩
  have hS1 := HhS0.out.call hb1
  have e0' := hS1.cell (v := v1) 0 0 rfl rfl
  have e1' := hS1.cell (v := v2) 0 1 rfl rfl
  have HhS1 := Lib.hid hS1; clear hS1
  clear hb1 e0 e1
  go_wp2_with fail
  refine (implTrim_any d _ _ Hhok.out (H.out.below HhS1.out.bel)).mono ?_
  rintro e w2 ⟨a1, c1, a2, c2, rfl, hown, hb2⟩
  rw [← HhX.out] at hown
  rw [← HhX.out]
  have hS2 := HhS1.out.call hb2
  have hDR := hown.r.mono (Nat.zero_le _)
  have HhS2 := Lib.hid hS2; clear hS2
  have HhDR := Lib.hid hDR; clear hDR
  clear hown hb2 e0' e1'
  go_wp2_with fail
  refine (implNfa_any X _ _ HhXo.out HhDR.out).mono ?_
  rintro e w3 ⟨a3, c3, a4, c4, a5, c5, rfl, hS'⟩
  rw [Hhst.out]
  have hS3 := (HhS2.out.cat hS').alloc _ rfl #[.int .i64 (L : Int), .slice a3 (nfaOf X).moves.length c3, .slice none 0 0, .slice a5 (nfaOf X).ends.length c5] 50
  have hS4 := (hS3.nilRow 3 1).pick [0, 1, 2, 4, 5, 6] (by decide)
  have z0 := hS4.cell (v := .int .i64 (L : Int)) 4 0 rfl rfl
  have HS4 := Lib.hid hS4
  clear hS3 hS4 hS'
  go_wp2
  clear z0
  go_loopw [16] (fun i wr => ∃ (s : Nat) (a : Option Addr) (c : Nat), i = .int .i64 s ∧ s ≤ L ∧ St w wr [Ent.box w.heap.size #[v1, v2] 27, Ent.box (w.heap.size + 1) #[.slice none 0 0, .slice none 0 0] 27, Ent.row 124 3 (.slice a3 (nfaOf X).moves.length c3) (nfaOf X).moves.length ((nfaOf X).moves.flatMap moveCells), Ent.row 3 1 (.slice a5 (nfaOf X).ends.length c5) (nfaOf X).ends.length (intCells (nfaOf X).ends),
    Ent.box w3.heap.size #[.int .i64 (L : Int), .slice a3 (nfaOf X).moves.length c3, .slice a s c, .slice a5 (nfaOf X).ends.length c5] 50, Ent.row 3 1 (.slice a s c) s (intCells (upInts s))]) (fun i _ => L - (intOf i).toNat)
  case atStart => exact ⟨0, none, 0, rfl, Nat.zero_le _, HS4.out⟩
  case round =>
   obtain ⟨s, a, c, rfl, hs, hS⟩ := hrel
   by_cases hlt : s < L
   ·have hlt2 : (s : Int) < L := by omega
    have hup := upInts_succ s
    have hSa := hS.alloc_ (.cells #[.int .i64 (s : Int)] 3)
    have hR := hSa.row 5 rfl
    have e0 := hS.cell (v := .slice a s c) 4 2 rfl rfl
    have HS5 := Lib.hid hS
    have HhSa := Lib.hid hSa; clear hSa
    have HhR := Lib.hid hR; clear hR
    have Hhup := Lib.hid hup; clear hup
    clear hS
    go_wp2_with (at_builtin; refine wpList_append_lies _ rfl _ _ _ rfl _ 3 i0 (.int .i64 0) 1 8 Try.underlying48 Hhi.out Hhz0.out Hhz1.out Hhz2.out rfl (by omega) _ s _ rfl HhR.out ⟨wr.heap.size, 0, none⟩ 1 1 [.int .i64 (s : Int)] rfl rfl (World.news_of_block (heap_alloc_new wr _)) one_int (by omega) (by unfold maxLen; omega) (by omega) HhSa.out.size _ rfl ?_; intro g6 c6 w6 hown6 hgrow6 hat6 hlt6; have HS6 := Lib.hid (HhSa.out.app 5 rfl hown6 hgrow6 hat6); have y1 := HS6.out.cell (v := .slice a s c) 4 2 rfl rfl; have y2 := HS6.out.fr 4 2 rfl; clear hown6 hgrow6 hat6 hlt6)
    go_roundw
    case rel =>
     refine ⟨s + 1, some ⟨g6, 0, none⟩, c6, by go_num, by omega, ?_⟩
     rw [Hhup.out, intCells_snoc]
     exact HS6.out.set 4 rfl 2 (.slice (some ⟨g6, 0, none⟩) (s + 1) c6)
    case measure => simp [intOf]; omega
   ·obtain rfl : L = s := by omega
    have e0 := hS.cell (v := .int .i64 (L : Int)) 4 0 rfl rfl
    have e1 := hS.cell (v := .slice a3 (nfaOf X).moves.length c3) 4 1 rfl rfl
    have e2 := hS.cell (v := .slice a L c) 4 2 rfl rfl
    have e3 := hS.cell (v := .slice a5 (nfaOf X).ends.length c5) 4 3 rfl rfl
    have hcall := implSmall_any (restsN X) X.next.length K hK D fb HhD.out Hhfb.out (.slice a3 (nfaOf X).moves.length c3) (.slice a L c) (.slice a5 (nfaOf X).ends.length c5) wr Hhdo.out (by rw [Hhrm.out]; exact hS.moves 2 rfl) (by rw [Hhrf.out]; exact hS.intsR 5 rfl) (by rw [Hhre.out]; exact hS.intsR 3 rfl)
    rw [Hhrs.out] at hcall
    have Hcall := Lib.hid hcall
    have HS5 := Lib.hid hS
    clear hS hcall
    go_wp2_with fail
    refine Hcall.out.mono ?_
    rintro e w5 ⟨⟨a6, c6, a7, c7, rfl, hown⟩, hb5⟩
    have hS6 := HS5.out.call hb5
    have f0 := hS6.fr 1 0 rfl
    have f1 := hS6.fr 1 1 rfl
    have k0 := hS6.cell (v := .slice none 0 0) 1 0 rfl rfl
    have k1 := hS6.cell (v := .slice none 0 0) 1 1 rfl rfl
    have hDM := DMem.of hown HS5.out.size
    have hb0 := hS6.box 1 rfl
    have HS6 := Lib.hid hS6
    have HDM := Lib.hid hDM
    have Hhb0 := Lib.hid hb0; clear hb0
    clear hS6 hown hb5 hDM e0 e1 e2 e3
    go_wp2
    have hq := (HS6.out.set 1 rfl 0 (.slice a6 D.next.length c6)).set 1 rfl 1 (.slice a7 D.ends.length c7)
    have q0 := hq.cell (v := .slice a6 D.next.length c6) 1 0 rfl rfl
    have q1 := hq.cell (v := .slice a7 D.ends.length c7) 1 1 rfl rfl
    have hm := (HDM.out.set Hhb0.out 0 (.slice a6 D.next.length c6)).set (Hhb0.out.set 0 _) 1 (.slice a7 D.ends.length c7)
    refine bodyPost_ret (v := .tuple #[.agg #[.slice a6 D.next.length c6, .slice a7 D.ends.length c7], .bool fb]) (by simp [results, Try.results23, go_sem, q0, q1]) rfl ⟨?_, hq.bel⟩
    exact ⟨a6, c6, a7, c7, rfl, _, _, rfl, hm.1, hm.2⟩
set_option maxRecDepth 100000 in
set_option maxHeartbeats 4000000 in
theorem specRsK_any (K : Nat) (hK : K = 40) (d D : DfaD) (fb : Bool) (hD : (rsK K d).getD zeD = D) (hfb : (rsK K d).isSome = fb) (v : Value) (w : World) (h : DfaR 0 w v d) :
  Calls Try.prog 24 #[v] w fun e w' => RTtr D fb e w' ∧ Below w.heap.size w w' := by
 have H := Lib.hid h
 obtain ⟨v1, v2, rfl, -, -⟩ := h
 have hS0 := ((St.start w).alloc _ rfl #[v1, v2] 27).alloc (w.heap.size + 1) (by simp) #[.slice none 0 0, .slice none 0 0] 27
 have e0 := hS0.cell (v := v1) 0 0 rfl rfl
 have e1 := hS0.cell (v := v2) 0 1 rfl rfl
 cases hok : dfaOk d.next d.ends
 ·have hn : rsK K d = none := by
   unfold rsK
   rw [hok]
   rfl
  rw [hn] at hD hfb
  subst hD
  subst hfb
  have Hhok := Lib.hid hok; clear hok
  have HhS0 := Lib.hid hS0; clear hS0
  go_enter Try.func24, Try.ntmps24
  go_wp2_with fail
  refine (specDfaValidD2_any d _ _ (H.out.below HhS0.out.bel) _ Hhok.out).mono ?_
  rintro e w1 ⟨rfl, hb1⟩
  have hS1 := HhS0.out.call hb1
  have f0 := hS1.fr 1 0 rfl
  have f1 := hS1.fr 1 1 rfl
  have k0 := hS1.cell (v := .slice none 0 0) 1 0 rfl rfl
  have k1 := hS1.cell (v := .slice none 0 0) 1 1 rfl rfl
  have HhS1 := Lib.hid hS1; clear hS1
  clear hb1 e0 e1
  go_wp2
  have hq := (HhS1.out.set 1 rfl 0 (.slice none 0 0)).set 1 rfl 1 (.slice none 0 0)
  have q0 := hq.cell (v := .slice none 0 0) 1 0 rfl rfl
  have q1 := hq.cell (v := .slice none 0 0) 1 1 rfl rfl
  refine bodyPost_ret (v := .tuple #[.agg #[.slice none 0 0, .slice none 0 0], .bool false]) (by simp [results, Try.results24, go_sem, q0, q1]) rfl ⟨?_, hq.bel⟩
  exact ⟨none, 0, none, 0, rfl, (zeD_own _ 0 0 0 0).r⟩
 ·rw [rsK_yes hok] at hD hfb
  obtain ⟨X, hX⟩ : ∃ X, X = trimD d := ⟨_, rfl⟩
  have hXo := (trim_ok hok).1
  rw [← hX] at hD hfb hXo
  have hdo := restsN_det hXo
  have hl := dfaOk_len hXo
  have hst : (nfaOf X).states = (X.next.length : Int) := rfl
  have hrm : (restsN X).moves = (nfaOf X).moves := rfl
  have hrf : (restsN X).firsts = upInts X.next.length := rfl
  have hre : (restsN X).ends = (nfaOf X).ends := rfl
  have hrs : (restsN X).states = (X.next.length : Int) := rfl
  have hml := hdo.ml
  have hel := hdo.el
  rw [hrm] at hml
  rw [hre] at hel
  have hup0 : intCells (upInts 0) = [] := rfl
  obtain ⟨L, hL⟩ : ∃ L, L = X.next.length := ⟨_, rfl⟩
  have hl1 : 1 ≤ L := by omega
  have hl2 : L ≤ 40 := by omega
  obtain ⟨i0, hi, hz0, hz1, hz2⟩ := info_parts Try.infoInt
  rw [← hL] at hst hrf hrs
  have Hhok := Lib.hid hok; clear hok
  have HhS0 := Lib.hid hS0; clear hS0
  have HhD := Lib.hid hD; clear hD
  have Hhfb := Lib.hid hfb; clear hfb
  have HhX := Lib.hid hX; clear hX
  have HhXo := Lib.hid hXo; clear hXo
  have Hhdo := Lib.hid hdo; clear hdo
  have Hhst := Lib.hid hst; clear hst
  have Hhrm := Lib.hid hrm; clear hrm
  have Hhrf := Lib.hid hrf; clear hrf
  have Hhre := Lib.hid hre; clear hre
  have Hhrs := Lib.hid hrs; clear hrs
  have Hhml := Lib.hid hml; clear hml
  have Hhel := Lib.hid hel; clear hel
  have Hhup0 := Lib.hid hup0; clear hup0
  have HhL := Lib.hid hL; clear hL
  have Hhi := Lib.hid hi; clear hi
  have Hhz0 := Lib.hid hz0; clear hz0
  have Hhz1 := Lib.hid hz1; clear hz1
  have Hhz2 := Lib.hid hz2; clear hz2
  clear hl
  go_enter Try.func24, Try.ntmps24
  go_wp2_with fail
  refine (specDfaValidD2_any d _ _ (H.out.below HhS0.out.bel) _ Hhok.out).mono ?_
  rintro e w1 ⟨rfl, hb1⟩
  have hS1 := HhS0.out.call hb1
  have e0' := hS1.cell (v := v1) 0 0 rfl rfl
  have e1' := hS1.cell (v := v2) 0 1 rfl rfl
  have HhS1 := Lib.hid hS1; clear hS1
  clear hb1 e0 e1
  go_wp2_with fail
  refine (specTrim_any d _ _ Hhok.out (H.out.below HhS1.out.bel)).mono ?_
  rintro e w2 ⟨a1, c1, a2, c2, rfl, hown, hb2⟩
  rw [← HhX.out] at hown
  rw [← HhX.out]
  have hS2 := HhS1.out.call hb2
  have hDR := hown.mono (Nat.zero_le _)
  have HhS2 := Lib.hid hS2; clear hS2
  have HhDR := Lib.hid hDR; clear hDR
  clear hown hb2 e0' e1'
  go_wp2_with fail
  refine (specNfaOf_any X _ _ HhXo.out HhDR.out).mono ?_
  rintro e w3 ⟨a3, c3, a4, c4, a5, c5, rfl, hS'⟩
  rw [Hhst.out]
  have hS3 := (((HhS2.out.cat hS').alloc _ rfl #[.int .i64 (L : Int), .slice a3 (nfaOf X).moves.length c3, .slice (some ⟨w3.heap.size + 1, 0, none⟩) 0 0, .slice a5 (nfaOf X).ends.length c5] 50).alloc (w3.heap.size + 1) (by simp) #[] 3).boxrow 6 0 1 [] rfl rfl (Nat.zero_le _)
  have hS4 := hS3.pick [0, 1, 2, 4, 5, 6] (by decide)
  have HS4 := Lib.hid hS4
  clear hS3 hS4 hS'
  go_wp2
  go_loopw [5] (fun i wr => ∃ (s : Nat) (a : Option Addr) (c : Nat), i = .int .i64 s ∧ s ≤ L ∧ St w wr [Ent.box w.heap.size #[v1, v2] 27, Ent.box (w.heap.size + 1) #[.slice none 0 0, .slice none 0 0] 27, Ent.row 124 3 (.slice a3 (nfaOf X).moves.length c3) (nfaOf X).moves.length ((nfaOf X).moves.flatMap moveCells), Ent.row 3 1 (.slice a5 (nfaOf X).ends.length c5) (nfaOf X).ends.length (intCells (nfaOf X).ends),
    Ent.box w3.heap.size #[.int .i64 (L : Int), .slice a3 (nfaOf X).moves.length c3, .slice a s c, .slice a5 (nfaOf X).ends.length c5] 50, Ent.row 3 1 (.slice a s c) s (intCells (upInts s))]) (fun i _ => L - (intOf i).toNat)
  case atStart => exact ⟨0, _, _, rfl, Nat.zero_le _, HS4.out⟩
  case round =>
   obtain ⟨s, a, c, rfl, hs, hS⟩ := hrel
   have e9 := hS.cell (v := .int .i64 (L : Int)) 4 0 rfl rfl
   by_cases hlt : s < L
   ·have hlt2 : (s : Int) < L := by omega
    have hup := upInts_succ s
    have hSa := hS.alloc_ (.cells #[.int .i64 (s : Int)] 3)
    have hR := hSa.row 5 rfl
    have e0 := hS.cell (v := .slice a s c) 4 2 rfl rfl
    have HS5 := Lib.hid hS
    have HhSa := Lib.hid hSa; clear hSa
    have HhR := Lib.hid hR; clear hR
    have Hhup := Lib.hid hup; clear hup
    clear hS
    go_wp2_with (at_builtin; refine wpList_append_lies _ rfl _ _ _ rfl _ 3 i0 (.int .i64 0) 1 8 Try.underlying48 Hhi.out Hhz0.out Hhz1.out Hhz2.out rfl (by omega) _ s _ rfl HhR.out ⟨wr.heap.size, 0, none⟩ 1 1 [.int .i64 (s : Int)] rfl rfl (World.news_of_block (heap_alloc_new wr _)) one_int (by omega) (by unfold maxLen; omega) (by omega) HhSa.out.size _ rfl ?_; intro g6 c6 w6 hown6 hgrow6 hat6 hlt6; have HS6 := Lib.hid (HhSa.out.app 5 rfl hown6 hgrow6 hat6); have y1 := HS6.out.cell (v := .slice a s c) 4 2 rfl rfl; have y2 := HS6.out.fr 4 2 rfl; clear hown6 hgrow6 hat6 hlt6)
    go_roundw
    case rel =>
     refine ⟨s + 1, some ⟨g6, 0, none⟩, c6, by go_num, by omega, ?_⟩
     rw [Hhup.out, intCells_snoc]
     exact HS6.out.set 4 rfl 2 (.slice (some ⟨g6, 0, none⟩) (s + 1) c6)
    case measure => simp [intOf]; omega
   ·obtain rfl : L = s := by omega
    have e0 := hS.cell (v := .int .i64 (L : Int)) 4 0 rfl rfl
    have e1 := hS.cell (v := .slice a3 (nfaOf X).moves.length c3) 4 1 rfl rfl
    have e2 := hS.cell (v := .slice a L c) 4 2 rfl rfl
    have e3 := hS.cell (v := .slice a5 (nfaOf X).ends.length c5) 4 3 rfl rfl
    have hcall := l9Dfa_any X.next.length K hK (restsN X).moves (restsN X).firsts (restsN X).ends (.slice a3 (nfaOf X).moves.length c3) (.slice a L c) (.slice a5 (nfaOf X).ends.length c5) wr Hhdo.out.m40 Hhdo.out.mv (by have := Hhdo.out.ml; omega) Hhdo.out.f (by have := Hhdo.out.fl; omega) Hhdo.out.e (by have := Hhdo.out.el; omega) (by rw [Hhrm.out]; exact hS.moves 2 rfl) (by rw [Hhrf.out]; exact hS.intsR 5 rfl) (by rw [Hhre.out]; exact hS.intsR 3 rfl)
    have hN : (⟨((X.next.length : Nat) : Int), (restsN X).moves, (restsN X).firsts, (restsN X).ends⟩ : NfaD) = restsN X := rfl
    rw [hN, ← HhL.out] at hcall
    have Hcall := Lib.hid hcall
    have HS5 := Lib.hid hS
    have HhN := Lib.hid hN; clear hN
    clear hS hcall
    go_wp2_with fail
    refine Hcall.out.mono ?_
    rintro e w5 ⟨hr, hb5⟩
    unfold RDetS at hr
    by_cases hle : (metS (restsN X) K).length ≤ K
    ·rw [if_pos hle] at hr
     obtain ⟨an, ln, cn, ae, le, ce, rfl, hown⟩ := hr
     obtain ⟨rfl, rfl⟩ := dfaR_lens hown
     have htd := detQK_some hle
     obtain ⟨Y, hY⟩ : ∃ Y, Y = numDfa (nxS (restsN X)) (enS (restsN X)) (metS (restsN X) K) := ⟨_, rfl⟩
     rw [← hY] at hown htd
     rw [← hY]
     have hD := HhD.out
     have hfb := Hhfb.out
     rw [htd] at hD hfb
     have hD : minD Y = D := hD
     have hfb : true = fb := hfb
     subst hD
     subst hfb
     have hYo : dfaOk Y.next Y.ends = true := detQK_ok hK (n := restsN X) htd
     have hsm := small_min (fine_of hYo)
     have hS6 := (HS5.out.call hb5).alloc _ rfl #[.slice an Y.next.length cn, .slice ae Y.ends.length ce] 27
     have hRY := (hown.mono (Nat.zero_le _)).below ((Below.refl w5.heap.size w5).alloc (Nat.le_refl _) (.cells #[.slice an Y.next.length cn, .slice ae Y.ends.length ce] 27))
     have z0 := hS6.cell (v := .slice an Y.next.length cn) 6 0 rfl rfl
     have z1 := hS6.cell (v := .slice ae Y.ends.length ce) 6 1 rfl rfl
     have HS6 := Lib.hid hS6
     have HRY := Lib.hid hRY
     have HhY := Lib.hid hY; clear hY
     have Hhtd := Lib.hid htd; clear htd
     have HhYo := Lib.hid hYo; clear hYo
     have Hhsm := Lib.hid hsm; clear hsm
     clear hS6 hown hb5 hle hRY e0 e1 e2 e3 e9
     go_wp2_with fail
     refine (l10Small_any Y _ _ HhYo.out HRY.out).mono ?_
     rintro e w7 ⟨a6, c6, a7, c7, rfl, hown, hb7⟩
     rw [Hhsm.out] at hown
     rw [Hhsm.out]
     obtain ⟨M, hM⟩ : ∃ M, M = minD Y := ⟨_, rfl⟩
     rw [← hM] at hown
     rw [← hM]
     have hB1 := (HS6.out.boxlt 1 rfl).2
     have hS7 := HS6.out.call hb7
     have f0 := hS7.fr 1 0 rfl
     have f1 := hS7.fr 1 1 rfl
     have k0 := hS7.cell (v := .slice none 0 0) 1 0 rfl rfl
     have k1 := hS7.cell (v := .slice none 0 0) 1 1 rfl rfl
     have HO := Lib.hid ((hown.far hB1 0 (.slice a6 M.next.length c6)).far hB1 1 (.slice a7 M.ends.length c7))
     have HS7 := Lib.hid hS7
     have HhM := Lib.hid hM; clear hM
     clear hS7 hown hb7 z0 z1 hB1
     go_wp2
     have hq := (HS7.out.set 1 rfl 0 (.slice a6 M.next.length c6)).set 1 rfl 1 (.slice a7 M.ends.length c7)
     have q0 := hq.cell (v := .slice a6 M.next.length c6) 1 0 rfl rfl
     have q1 := hq.cell (v := .slice a7 M.ends.length c7) 1 1 rfl rfl
     refine bodyPost_ret (v := .tuple #[.agg #[.slice a6 M.next.length c6, .slice a7 M.ends.length c7], .bool true]) (by simp [results, Try.results24, go_sem, q0, q1]) rfl ⟨?_, hq.bel⟩
     rw [← HhM.out]
     exact ⟨a6, c6, a7, c7, rfl, HO.out.mono (Nat.zero_le _)⟩
    ·rw [if_neg hle] at hr
     subst hr
     have hD := HhD.out
     have hfb := Hhfb.out
     rw [detQK_none hle] at hD hfb
     have hD : zeD = D := hD
     have hfb : false = fb := hfb
     subst hD
     subst hfb
     have hS6 := (HS5.out.call hb5).alloc _ rfl #[.slice none 0 0, .slice none 0 0] 27
     have f0 := hS6.fr 1 0 rfl
     have f1 := hS6.fr 1 1 rfl
     have k0 := hS6.cell (v := .slice none 0 0) 1 0 rfl rfl
     have k1 := hS6.cell (v := .slice none 0 0) 1 1 rfl rfl
     have HS6 := Lib.hid hS6
     clear hS6 hb5 hle e0 e1 e2 e3 e9
     go_wp2
     have hq := (HS6.out.set 1 rfl 0 (.slice none 0 0)).set 1 rfl 1 (.slice none 0 0)
     have q0 := hq.cell (v := .slice none 0 0) 1 0 rfl rfl
     have q1 := hq.cell (v := .slice none 0 0) 1 1 rfl rfl
     refine bodyPost_ret (v := .tuple #[.agg #[.slice none 0 0, .slice none 0 0], .bool false]) (by simp [results, Try.results24, go_sem, q0, q1]) rfl ⟨?_, hq.bel⟩
     exact ⟨none, 0, none, 0, rfl, (zeD_own _ 0 0 0 0).r⟩
def rs (d : DfaD) : Option DfaD := rsK forty' d
theorem implRs_any (d D : DfaD) (fb : Bool) (hD : (rs d).getD zeD = D) (hfb : (rs d).isSome = fb) (v : Value) (w : World) (h : DfaR 0 w v d) :
  Calls Try.prog 23 #[v] w fun e w' => RTt D fb w.heap.size e w' ∧ Below w.heap.size w w' := implRsK_any forty' rfl d D fb hD hfb v w h
theorem specRs_any (d D : DfaD) (fb : Bool) (hD : (rs d).getD zeD = D) (hfb : (rs d).isSome = fb) (v : Value) (w : World) (h : DfaR 0 w v d) :
  Calls Try.prog 24 #[v] w fun e w' => RTtr D fb e w' ∧ Below w.heap.size w w' := specRsK_any forty' rfl d D fb hD hfb v w h
theorem upInts_mem {n : Nat} {x : Int} : x ∈ upInts n ↔ ∃ s : Nat, x = (s : Int) ∧ s < n := by
 unfold upInts
 rw [List.mem_map]
 exact ⟨fun ⟨s, hs, e⟩ => ⟨s, e.symm, List.mem_range.1 hs⟩, fun ⟨s, e, hs⟩ => ⟨s, List.mem_range.2 hs, e.symm⟩⟩
theorem upInts_at {n k : Nat} (hk : k < n) : (upInts n).getD k 0 = (k : Int) := by
 simp [upInts, List.getElem?_range hk]
theorem rests_ok {y : DfaD} (hy : dfaOk y.next y.ends = true) : nfaOk (restsN y) = true := by
 have h := nfaOf_ok hy
 have hl := dfaOk_len hy
 unfold nfaOk at *
 simp only [Bool.and_eq_true] at *
 refine ⟨⟨⟨h.1.1.1, ?_⟩, h.1.2⟩, h.2⟩
 refine stOk_ofP fun j hj => ?_
 have hj : j < (upInts y.next.length).length := hj
 rw [upInts_len] at hj
 have h0 := upInts_at hj
 refine ⟨?_, fun h => ?_⟩
 ·show 0 ≤ (upInts y.next.length).getD j 0 ∧ (upInts y.next.length).getD j 0 ≤ (y.next.length : Int) - 1
  omega
 ·show (upInts y.next.length).getD (j - 1) 0 < (upInts y.next.length).getD j 0
  rw [upInts_at (show j - 1 < y.next.length by omega), h0]
  omega
theorem rests_acc {y : DfaD} (hy : dfaOk y.next y.ends = true) {w : List Nat} (hw : isW w) : accS (restsN y) w = true ↔ ∃ s : Nat, s < y.next.length ∧ den y (runD y (s : Int) w) = true := by
 rw [accS_pth (rests_ok hy)]
 constructor
 ·rintro ⟨f, hf, e, he, hp⟩
  obtain ⟨s, rfl, hs⟩ := upInts_mem.1 hf
  obtain ⟨t, rfl, ht, hen⟩ := eds_mem.1 he
  have hr := pth_run hy w hs hp hw
  exact ⟨s, hs, by rw [hr, den_nat]; exact hen⟩
 ·rintro ⟨s, hs, hd⟩
  obtain ⟨t, ht, hr⟩ := runD_nat (fine_of hy) w hw hs
  have hp := run_pth hy w hs hw
  rw [hr] at hp hd
  exact ⟨_, upInts_mem.2 ⟨s, rfl, hs⟩, _, eds_mem.2 ⟨t, rfl, ht, by rw [← den_nat]; exact hd⟩, hp⟩
theorem rs_acc {d X : DfaD} (h : rs d = some X) : dfaOk d.next d.ends = true ∧ dfaOk X.next X.ends = true ∧ ∀ w, isW w → (accD X w = true ↔ ∃ s : Nat, s < (trimD d).next.length ∧ den (trimD d) (runD (trimD d) (s : Int) w) = true) := by
 have hd : dfaOk d.next d.ends = true := Classical.byContradiction fun hn => by
  rw [rs, rsK, if_neg hn] at h
  cases h
 rw [rs, rsK, if_pos hd, Option.map_eq_some_iff] at h
 obtain ⟨Z, hZ, rfl⟩ := h
 have ht := (trim_ok hd).1
 have hZo := detQK_ok (K := forty') rfl hZ
 have hdet : detK forty' (restsN (trimD d)) = some Z := by
  unfold detQK at hZ
  unfold detK
  split at hZ
  ·rename_i hle
   rw [if_pos ⟨rests_ok ht, hle⟩]
   exact hZ
  ·cases hZ
 refine ⟨hd, ?_, fun w hw => ?_⟩
 ·rw [← small_min (fine_of hZo)]
  exact (trim_ok (fold_ok (trim_ok hZo).1)).1
 ·rw [min_acc (fine_of hZo) hw, det_accK hdet hw]
  exact rests_acc ht hw
theorem trim_trim {d : DfaD} (hd : dfaOk d.next d.ends = true) : trimD (trimD d) = trimD d := by
 have h := (met_facts (fine_of hd) d.next.length).2
 exact trim_num (K := d.next.length) h
theorem rs_iff {d X : DfaD} (h : rs d = some X) {w : List Nat} (hw : isW w) : accD X w = true ↔ ∃ u, isW u ∧ accD d (u ++ w) = true := by
 obtain ⟨hd, -, hx⟩ := rs_acc h
 have ht := (trim_ok hd).1
 have hf := fine_of ht
 rw [hx w hw]
 constructor
 ·rintro ⟨s, hs, he⟩
  obtain ⟨u, hu, hr⟩ := trim_reach hf (trim_trim hd) hs
  refine ⟨u, hu, ?_⟩
  rw [← trim_acc (fine_of hd) (isW_append hu hw)]
  show den (trimD d) (runD (trimD d) 0 (u ++ w)) = true
  rw [runD_app, hr]
  exact he
 ·rintro ⟨u, hu, he⟩
  rw [← trim_acc (fine_of hd) (isW_append hu hw)] at he
  have he : den (trimD d) (runD (trimD d) 0 (u ++ w)) = true := he
  obtain ⟨s, hs, hr⟩ := runD_nat hf u (s := 0) hu (by have := dfaOk_len ht; omega)
  have hr : runD (trimD d) 0 u = (s : Int) := hr
  rw [runD_app, hr] at he
  exact ⟨s, hs, he⟩
set_option maxHeartbeats 800000 in
theorem sameFlagsOf_any (xs : List Bool) (v1 v2 : Value) (w : World) (h1 : Bools 0 w v1 xs) (h2 : Bools 0 w v2 xs) :
  Calls Try.prog 68 #[v1, v2] w fun e w' => e = .returned (.bool true) ∧ Below w.heap.size w w' := by
 obtain ⟨a1, c1, rfl, hc1, hm1, hr1⟩ := h1.form
 obtain ⟨a2, c2, rfl, hc2, hm2, hr2⟩ := h2.form
 clear h1 h2
 have hl : ((xs.length : Int) != xs.length) = false := by simp
 go_enter Try.func68, Try.ntmps68
 go_wp2
 go_loopw [4, 5] (fun r i wr => ∃ k : Nat, k ≤ xs.length ∧ i = .int .i64 k ∧ Below w.heap.size w wr) (fun _ i _ => xs.length - (intOf i).toNat)
 case atStart => exact ⟨0, Nat.zero_le _, rfl, Below.refl _ _⟩
 case round =>
  obtain ⟨k, hk, rfl, hb⟩ := hrel
  by_cases hlt : k < xs.length
  ·obtain ⟨b1, o1, rfl, hB1, hbl1, hcs1⟩ := hr1 (by omega)
   obtain ⟨b2, o2, rfl, hB2, hbl2, hcs2⟩ := hr2 (by omega)
   have hx1 := (bcell hb b1 (o1 + k) hbl1).trans (hcs1 k hlt)
   have hx2 := (bcell hb b2 (o2 + k) hbl2).trans (hcs2 k hlt)
   obtain ⟨x, hx⟩ : ∃ x, x = xs.getD k false := ⟨_, rfl⟩
   rw [← hx] at hx1 hx2
   have hne : (x != x) = false := by simp
   have hne' : (!(x == x)) = false := by simp
   have Hhx := Lib.hid hx; clear hx
   have Hhb := Lib.hid hb; clear hb
   clear hcs1 hcs2 hr1 hr2
   go_wp2
   go_quiet (fail)
   go_wp2
   go_roundw
   case rel => exact ⟨k + 1, by omega, by go_num, below_drewN Hhb.out _⟩
   case measure => simp [intOf]; omega
  ·clear hr1 hr2
   have Hhb := Lib.hid hb; clear hb
   go_wp2
   go_ret
   exact ⟨rfl, Hhb.out⟩
theorem quiet_drew {P : Program} {f : FuncId} {args : Array Value} {w : World} {n : Nat} {v : Value}
  (h : Calls P f args (w.drewN n) fun e w' => e = .returned v ∧ ∃ m, w' = (w.drewN n).drewN m) : Calls P f args (w.drewN n) fun e w'' => e = .returned v ∧ ∃ m, w'' = w.drewN m :=
 h.mono fun _ _ ⟨he, _, hm⟩ => ⟨he, _, hm.trans (World.drewN_drewN _ _ _)⟩
set_option maxHeartbeats 800000 in
theorem sameIntsQ_any (xs : List Int) (v1 v2 : Value) (w : World) (h1 : Ints 0 w v1 xs) (h2 : Ints 0 w v2 xs) :
  Calls Try.prog 67 #[v1, v2] w fun e w' => e = .returned (.bool true) ∧ ∃ m, w' = w.drewN m := by
 obtain ⟨a1, c1, rfl, hc1, hm1, hr1⟩ := h1.form
 obtain ⟨a2, c2, rfl, hc2, hm2, hr2⟩ := h2.form
 clear h1 h2
 have hl : ((xs.length : Int) != xs.length) = false := by simp
 go_enter Try.func67, Try.ntmps67
 go_wp2
 go_loopw [4, 5] (fun r i wr => ∃ k : Nat, k ≤ xs.length ∧ i = .int .i64 k ∧ ∃ m, wr = w.drewN m) (fun _ i _ => xs.length - (intOf i).toNat)
 case atStart => exact ⟨0, Nat.zero_le _, rfl, 0, rfl⟩
 case round =>
  obtain ⟨k, hk, rfl, hm⟩ := hrel
  by_cases hlt : k < xs.length
  ·obtain ⟨b1, o1, rfl, hB1, hbl1, hcs1⟩ := hr1 (by omega)
   obtain ⟨b2, o2, rfl, hB2, hbl2, hcs2⟩ := hr2 (by omega)
   have hb : Below w.heap.size w wr := by obtain ⟨m, rfl⟩ := hm; exact below_drewN (Below.refl _ _) m
   have hx1 := (bcell hb b1 (o1 + k) hbl1).trans (hcs1 k hlt)
   have hx2 := (bcell hb b2 (o2 + k) hbl2).trans (hcs2 k hlt)
   obtain ⟨x, hx⟩ : ∃ x, x = xs.getD k 0 := ⟨_, rfl⟩
   rw [← hx] at hx1 hx2
   have hne : (x != x) = false := by simp
   have hne' : (!(x == x)) = false := by simp
   have Hhx := Lib.hid hx; clear hx
   have Hhm := Lib.hid hm; clear hm
   clear hcs1 hcs2 hr1 hr2 hb
   go_wp2
   go_quiet (fail)
   go_wp2
   go_roundw
   case rel => exact ⟨k + 1, by omega, by go_num, by obtain ⟨m, rfl⟩ := Hhm.out; exact ⟨_, World.drewN_drewN _ _ _⟩⟩
   case measure => simp [intOf]; omega
  ·clear hr1 hr2
   have Hhm := Lib.hid hm; clear hm
   go_wp2
   go_ret
   exact ⟨rfl, Hhm.out⟩
set_option maxRecDepth 100000 in
set_option maxHeartbeats 4000000 in
theorem sameDfa_any (d : DfaD) (a b : Value) (w : World) (h1 : DfaR 0 w a d) (h2 : DfaR 0 w b d) :
  Calls Try.prog 25 #[a, b] w fun e w' => e = .returned (.bool true) ∧ Below w.heap.size w w' := by
 obtain ⟨v1, v2, rfl, g1, g2⟩ := h1
 obtain ⟨u1, u2, rfl, k1, k2⟩ := h2
 obtain ⟨a1, c1, rfl, hc1, hm1, hr1⟩ := g1.formI
 obtain ⟨b1, d1, rfl, hd1, hn1, hq1⟩ := k1.formI
 have G2 := Lib.hid g2
 have K2 := Lib.hid k2
 have hS0 := ((St.start w).alloc _ rfl #[.slice a1 d.next.length c1, v2] 27).alloc (w.heap.size + 1) (by simp) #[.slice b1 d.next.length d1, u2] 27
 have e0 := hS0.cell (v := .slice a1 d.next.length c1) 0 0 rfl rfl
 have f0 := hS0.cell (v := .slice b1 d.next.length d1) 1 0 rfl rfl
 have hne2 : ((d.next.length : Int) != d.next.length) = false := by simp
 have HhS0 := Lib.hid hS0; clear hS0
 have Hhr1 := Lib.hid hr1; clear hr1
 have Hhq1 := Lib.hid hq1; clear hq1
 clear g1 g2 k1 k2
 go_enter Try.func25, Try.ntmps25
 go_wp2
 go_loopw [5] (fun i wr => ∃ k : Nat, i = .int .i64 k ∧ k ≤ d.next.length ∧ St w wr [Ent.box w.heap.size #[.slice a1 d.next.length c1, v2] 27, Ent.box (w.heap.size + 1) #[.slice b1 d.next.length d1, u2] 27]) (fun i _ => d.next.length - (intOf i).toNat)
 case atStart => exact ⟨0, rfl, Nat.zero_le _, HhS0.out⟩
 case round =>
  obtain ⟨k, rfl, hk, hS⟩ := hrel
  clear e0 f0
  by_cases hlt : k < d.next.length
  ·have hkI : (k : Int) < d.next.length := by omega
   obtain ⟨x1, y1, rfl, -, hbl1, hcs1⟩ := Hhr1.out (by omega)
   obtain ⟨x2, y2, rfl, -, hbl2, hcs2⟩ := Hhq1.out (by omega)
   obtain ⟨m1, z1, p1, -, -, p2⟩ := hcs1 k hlt
   obtain ⟨m2, z2, q1, -, -, q2⟩ := hcs2 k hlt
   replace p1 := (bcell hS.bel x1 _ hbl1).trans p1
   replace q1 := (bcell hS.bel x2 _ hbl2).trans q1
   have P2 := Lib.hid p2
   have Q2 := Lib.hid q2
   have e1 := hS.cell (v := .slice (some ⟨x1, y1, none⟩) d.next.length c1) 0 0 rfl rfl
   have f1 := hS.cell (v := .slice (some ⟨x2, y2, none⟩) d.next.length d1) 1 0 rfl rfl
   obtain ⟨x, hx⟩ : ∃ x, d.next.getD k [] = x := ⟨_, rfl⟩
   rw [hx] at p1 q1 P2 Q2
   have HS := Lib.hid hS
   replace P2 := Lib.hid (P2.out.below HS.out.bel)
   replace Q2 := Lib.hid (Q2.out.below HS.out.bel)
   have Hhx := Lib.hid hx; clear hx
   clear hcs1 hcs2 hS p2 q2
   go_wp2_with fail
   go_quiet ((go_at_call 67; exact quiet_drew (sameIntsQ_any x _ _ _ (P2.out.below (below_drewN (Below.refl _ _) _)) (Q2.out.below (below_drewN (Below.refl _ _) _)))))
   go_wp2
   go_roundw
   case rel => exact ⟨k + 1, by go_num, by omega, HS.out.drewN nq⟩
   case measure => simp [intOf]; omega
  ·obtain rfl : k = d.next.length := by omega
   have e1 := hS.cell (v := .slice a1 d.next.length c1) 0 0 rfl rfl
   have e2 := hS.cell (v := v2) 0 1 rfl rfl
   have f2 := hS.cell (v := u2) 1 1 rfl rfl
   have HS := Lib.hid hS
   clear hS
   go_wp2_with fail
   refine (sameFlagsOf_any d.ends _ _ _ (G2.out.below HS.out.bel) (K2.out.below HS.out.bel)).mono ?_
   rintro e w4 ⟨rfl, hb4⟩
   have HS4 := Lib.hid (HS.out.call hb4)
   clear hb4
   go_wp2
   go_ret
   exact ⟨rfl, HS4.out.bel⟩
set_option maxRecDepth 100000 in
set_option maxHeartbeats 4000000 in
theorem dfaAccT_any (d : DfaD) (l : List Nat) (v : Value) (w : World) (ht : isT l) (hll : l.length ≤ 1000) (h : DfaR 0 w v d) (hd : dfaOk d.next d.ends = true) (q : Bool) (hq : (wdOk l && accD d (lets l)) = q) :
  Calls Try.prog 31 #[v, .string (txB l)] w fun e w' => e = .returned (.bool q) ∧ Below w.heap.size w w' := by
 cases hwd : wdOk l
 ·obtain rfl : q = false := by rw [← hq, hwd]; rfl
  have H := Lib.hid h
  obtain ⟨v1, v2, rfl, g1, g2⟩ := h
  have hS0 := (St.start w).alloc _ rfl #[v1, v2] 27
  have e0 := hS0.cell (v := v1) 0 0 rfl rfl
  have e1 := hS0.cell (v := v2) 0 1 rfl rfl
  have Hht := Lib.hid ht; clear ht
  have HhS0 := Lib.hid hS0; clear hS0
  have Hhd := Lib.hid hd; clear hd
  have Hhwd := Lib.hid hwd; clear hwd
  have Hhq := Lib.hid hq; clear hq
  clear g1 g2
  go_enter Try.func31, Try.ntmps31
  go_wp2_with fail
  refine (implDfaValid_any d _ _ (H.out.below HhS0.out.bel) _ Hhd.out).mono ?_
  rintro e w1 ⟨rfl, hb1⟩
  have HS1 := Lib.hid (HhS0.out.call hb1)
  clear hb1 e0 e1
  go_wp2_with (go_at_call 74; refine (implWordValid_any l _ Hht.out (by omega) _ Hhwd.out).mono ?_; rintro e w' ⟨rfl, rfl⟩)
  go_ret
  exact ⟨rfl, HS1.out.bel⟩
 ·have := dfaAccepts_any d l v w ht hll h hd hwd
  rw [hwd, Bool.true_and] at hq
  rwa [hq] at this
theorem txB_append (u v : List Nat) : txB u ++ txB v = txB (u ++ v) := by
 apply ByteArray.ext
 simp [txB, ByteArray.data_append]
theorem txB_cat (u : List Nat) {v : ByteArray} {l : List Nat} (hv : v = txB l) : txB u ++ v = txB (u ++ l) := by rw [hv, txB_append]
theorem strOfNums_let (c : Nat) (hc : c < 3) : strOfNums [97 + (c : Int)] = txB [97 + c] := by
 obtain rfl | rfl | rfl : c = 0 ∨ c = 1 ∨ c = 2 := by omega
 all_goals rfl
theorem conv_let (c : Nat) (hc : c < 3) (w : World) (b cap : Nat) (h : w.cell? ⟨b, 0, none⟩ = some (.int .u8 (97 + (c : Int)))) :
  (convert 38 9 (.slice (some ⟨b, 0, none⟩) 1 cap)).run Try.prog w = .ok (.string (txB [97 + c])) w := by
 rw [← strOfNums_let c hc]
 exact run_convert_bytes_arg w 38 5 Try.underlying38 Try.underlying5 b 0 1 cap [97 + (c : Int)] rfl (fun i hi => by
  obtain rfl : i = 0 := by omega
  simpa using h) 9 Try.underlying9
theorem wrap8_let (c : Nat) (hc : c < 3) : IntKind.u8.wrap (97 + (c : Int)) = 97 + (c : Int) := by
 obtain rfl | rfl | rfl : c = 0 ∨ c = 1 ∨ c = 2 := by omega
 all_goals rfl
theorem add_tx (u : List Nat) (v : ByteArray) (hu : u.length ≤ 1000) (hv : v.size ≤ 1000) : (∀ w' : World, (Op.stringOp .add (txB u) v).run Try.prog w' = .ok (.string (txB u ++ v)) w') ∧ ¬ 9223372036854775807 < (txB u).size + v.size := by
 have h := txB_size u
 exact ⟨fun w' => run_string_add_sum w' _ _ (by omega), by omega⟩
theorem isT_snoc {l : List Nat} {c : Nat} (h : isT l) (hc : c < 256) : isT (l ++ [c]) := fun b hb => by
 rcases List.mem_append.1 hb with hb | hb
 ·exact h b hb
 ·rw [List.mem_singleton.1 hb]; exact hc
set_option maxRecDepth 100000 in
set_option maxHeartbeats 8000000 in
theorem l20Word_any (bs : List Nat) (vb : Value) (b p n : Nat) (w0 w : World) (X : Ent) (hb : Bytes 0 w0 vb bs) (hlen : bs.length ≤ 2000) (hp : p ≤ 10000) (hn1 : n ≤ 10000) (hS : St w0 w [RdE b vb p, X]) :
  Calls Try.prog 72 #[.pointer (some ⟨b, 0, none⟩), .int .i64 ((n : Nat) : Int)] w fun e w' => ∃ (l : List Nat) (p' : Nat), isT l ∧ l.length ≤ 10 ∧ e = .returned (.string (txB l)) ∧ St w0 w' [RdE b vb p', X] := by
 have Hb := Lib.hid hb
 have HS := Lib.hid hS
 clear hb hS
 go_enter Try.func72, Try.ntmps72
 go_wp2_with fail
 refine (pick_any bs vb b p 9 w0 _ _ Hb.out hlen (by omega) (by omega) (by omega) HS.out).mono ?_
 rintro e w1 ⟨k0, hk0, rfl, hS1⟩
 have HS1 := Lib.hid hS1
 clear hS1
 go_wp2
 go_loopw [5, 6] (fun vs vk wr => ∃ (k pq : Nat) (l : List Nat), vk = .int .i64 k ∧ vs = .string (txB l) ∧ l.length + k ≤ 8 ∧ pq + k ≤ p + 9 ∧ isT l ∧ St w0 wr [RdE b vb pq, X])
  (fun _ vk _ => (intOf vk).toNat)
 case atStart => exact ⟨k0, p + 1, [], rfl, rfl, by simp; omega, by omega, (fun b hb => by cases hb), HS1.out⟩
 case round =>
  obtain ⟨k, pq, l, rfl, rfl, hk, hpq, ht, hS⟩ := hrel
  have HS2 := Lib.hid hS
  have Ht := Lib.hid ht
  clear hS ht
  by_cases hlt : 0 < k
  ·go_wp2_with fail
   refine (pick_any bs vb b pq 3 w0 _ _ Hb.out hlen (by omega) (by omega) (by omega) HS2.out).mono ?_
   rintro e w2 ⟨c, hc, rfl, hS3⟩
   have HS3 := Lib.hid (hS3.alloc_ (.cells #[.int .u8 (97 + (c : Int))] 5))
   have hw1 : IntKind.i64.wrap (97 + (c : Int)) = 97 + (c : Int) := IntWalk.i64_in _ (by omega)
   have hw2 := wrap8_let c hc
   have hcv := conv_let c hc (w2.alloc (.cells #[.int .u8 (97 + (c : Int))] 5)) w2.heap.size 1 (alloc_cell _ _ _ 0)
   obtain ⟨hadd, hnlt⟩ := add_tx l (txB [97 + c]) (by omega) (by rw [txB_size]; simp)
   clear hS3
   go_wp2
   go_roundw
   case rel =>
    refine ⟨k - 1, pq + 1, l ++ [97 + c], by congr 1; omega, by rw [txB_append], by rw [List.length_append]; simp; omega, by omega, isT_snoc Ht.out (by omega), HS3.out⟩
   case measure => simp [intOf]; omega
  ·have hz : ((0 : Int) < (k : Int)) = False := by simp; omega
   have hz2 : (0 < k) = False := by simp; omega
   clear hlt
   go_wp2_with fail
   refine (odd_any bs vb b pq n w0 _ _ Hb.out hlen (by omega) hn1 HS2.out).mono ?_
   rintro e w2 ⟨q, p2, hp2, rfl, hS3⟩
   have HS3 := Lib.hid hS3
   clear hS3
   cases q
   ·go_wp2
    go_ret
    exact ⟨l, p2, Ht.out, by omega, rfl, HS3.out⟩
   ·obtain ⟨hadd1, hnlt1⟩ := add_tx l { data := #[100] } (by omega) (by decide)
    obtain ⟨hadd2, hnlt2⟩ := add_tx l { data := #[65] } (by omega) (by decide)
    obtain ⟨u1, hu1⟩ : ∃ u1, u1 = txB l ++ { data := #[100] } := ⟨_, rfl⟩
    obtain ⟨u2, hu2⟩ : ∃ u2, u2 = txB l ++ { data := #[65] } := ⟨_, rfl⟩
    rw [← hu1] at hadd1
    rw [← hu2] at hadd2
    have he1 : u1 = txB (l ++ [100]) := by rw [hu1]; exact txB_cat l rfl
    have he2 : u2 = txB (l ++ [65]) := by rw [hu2]; exact txB_cat l rfl
    have HS4 := Lib.hid (HS3.out.alloc _ rfl #[.string u1, .string u2, .string { data := #[97, 97, 97, 97, 97, 97, 97, 97, 97] }] 9)
    have Hhu1 := Lib.hid hu1; clear hu1
    have Hhu2 := Lib.hid hu2; clear hu2
    have Hhe1 := Lib.hid he1; clear he1
    have Hhe2 := Lib.hid he2; clear he2
    go_wp2_with fail
    refine (pick_any bs vb b p2 3 w0 _ _ Hb.out hlen (by omega) (by omega) (by omega) (St.pack (A := [RdE b vb p2]) (R := [X, Ent.box w2.heap.size #[.string u1, .string u2, .string { data := #[97, 97, 97, 97, 97, 97, 97, 97, 97] }] 9]) HS4.out)).mono ?_
    rintro e w5 ⟨j, hj, rfl, hSp⟩
    have HS5 := Lib.hid (St.unpack (A := [RdE b vb p2]) (A' := [RdE b vb (p2 + 1)]) (R := [X, Ent.box w2.heap.size #[.string u1, .string u2, .string { data := #[97, 97, 97, 97, 97, 97, 97, 97, 97] }] 9]) HS4.out hSp)
    have c0 := HS5.out.cell (v := .string u1) 2 0 rfl rfl
    have c1 := HS5.out.cell (v := .string u2) 2 1 rfl rfl
    have c2 := HS5.out.cell (v := .string { data := #[97, 97, 97, 97, 97, 97, 97, 97, 97] }) 2 2 rfl rfl
    clear hSp
    obtain rfl | rfl | rfl : j = 0 ∨ j = 1 ∨ j = 2 := by omega
    ·go_wp2
     go_ret
     exact ⟨l ++ [100], p2 + 1, isT_snoc Ht.out (by omega), by rw [List.length_append]; simp; omega, by rw [Hhe1.out]; rfl, HS5.out.pick [0, 1] (by decide)⟩
    ·go_wp2
     go_ret
     exact ⟨l ++ [65], p2 + 1, isT_snoc Ht.out (by omega), by rw [List.length_append]; simp; omega, by rw [Hhe2.out]; rfl, HS5.out.pick [0, 1] (by decide)⟩
    ·go_wp2
     go_ret
     exact ⟨[97, 97, 97, 97, 97, 97, 97, 97, 97], p2 + 1, (fun b hb => by simp at hb; omega), by decide, rfl, HS5.out.pick [0, 1] (by decide)⟩
set_option maxRecDepth 100000 in
set_option maxHeartbeats 4000000 in
theorem drawWord_any (bs : List Nat) (v : Value) (w : World) (hb : Bytes 0 w v bs) (hlen : bs.length ≤ 100000000) :
  Calls Try.prog 29 #[v] w fun e w' => ∃ l : List Nat, isT l ∧ l.length ≤ 10 ∧ e = .returned (.string (txB l)) ∧ Below w.heap.size w w' := by
 have Hb := Lib.hid hb
 clear hb
 go_enter Try.func29, Try.ntmps29
 go_wp2_with fail
 refine (open_any bs v _ Hb.out hlen).mono ?_
 rintro e w1 ⟨vb, bs', hl', hB, rfl, hS'⟩
 have HB := Lib.hid hB
 have HS1 := Lib.hid hS'
 clear hB hS'
 go_wp2_with fail
 refine (l20Word_any bs' vb w.heap.size 0 9 w w1 _ HB.out hl' (by omega) (by omega) (St.pack (A := [RdE w.heap.size vb 0]) (R := []) HS1.out)).mono ?_
 rintro e w2 ⟨l, p', ht, hl, rfl, hS2⟩
 have HS2 := Lib.hid hS2
 have Ht := Lib.hid ht
 clear hS2 ht
 go_wp2
 go_ret
 exact ⟨l, Ht.out, hl, rfl, HS2.out.bel⟩
def DfaV (B H : Nat) (v1 v2 : Value) (D : DfaD) : Ent := ⟨fun k => B ≤ k ∧ k < H, fun u => ∃ w : World, w.heap.size = H ∧ DfaR B w (.agg #[v1, v2]) D ∧ ∀ k, B ≤ k → k < H → u.heap[k]? = w.heap[k]?,
 fun _ _ ⟨w, h1, h2, h3⟩ hk => ⟨w, h1, h2, fun k p q => (hk k ⟨p, q⟩).trans (h3 k p q)⟩⟩
theorem St.dfaV {w0 w w' : World} {L : List Ent} (h : St w0 w L) (hb : Below w.heap.size w w') {v1 v2 : Value} {D : DfaD} (hr : DfaR w.heap.size w' (.agg #[v1, v2]) D) : St w0 w' (L ++ [DfaV w.heap.size w'.heap.size v1 v2 D]) :=
 h.add hb _ ⟨w', rfl, hr, fun _ _ _ => rfl⟩ fun _ hk => hk
theorem St.dfaVr {w0 w : World} {L : List Ent} (h : St w0 w L) (i : Nat) {B H : Nat} {v1 v2 : Value} {D : DfaD} (hx : L[i]? = some (DfaV B H v1 v2 D)) : DfaR 0 w (.agg #[v1, v2]) D := by
 have hE := h.has i _ hx
 obtain ⟨⟨w', h1, ⟨x1, x2, hv, ⟨vs, h2, h3⟩, h4⟩, h5⟩, hf⟩ := hE
 simp only [Value.agg.injEq, Array.mk.injEq, List.cons.injEq, and_true] at hv
 obtain ⟨rfl, rfl⟩ := hv
 by_cases hlt : B < H
 ·have hs : w'.heap.size ≤ w.heap.size := by
   have : H - 1 < w.heap.size := (hf (H - 1) (show B ≤ H - 1 ∧ H - 1 < H by omega)).2
   omega
  have hk : ∀ k, B ≤ k → k < w'.heap.size → w.heap[k]? = w'.heap[k]? := fun k p q => h5 k p (by omega)
  exact ⟨_, _, rfl, ⟨vs, h2.keptJ (Nat.zero_le _) hs hk, fun i hi => Sl.keptJ (h3 i hi) (Nat.zero_le _) hs hk⟩, Sl.keptJ h4 (Nat.zero_le _) hs hk⟩
 ·have hno : ∀ {v : Value} {n size : Nat} {cs : List Value}, Sl B w' v n size cs → 0 < size → Sl 0 w v n size cs := fun {v n size cs} hs hz => by
   obtain ⟨g1, a, cap, g2, g3, g4, g5⟩ := hs
   refine ⟨g1, a, cap, g2, g3, g4, fun hn => ?_⟩
   obtain ⟨b, off, -, p, q, -⟩ := g5 hn
   omega
  exact ⟨_, _, rfl, ⟨vs, hno h2 (by omega), fun i hi => hno (h3 i hi) (by omega)⟩, hno h4 (by omega)⟩
def RDs (D : DfaD) (w : World) (e : Ending) (w' : World) : Prop := ∃ a1 c1 a2 c2, e = .returned (.agg #[.slice a1 D.next.length c1, .slice a2 D.ends.length c2]) ∧ DfaR w.heap.size w' (.agg #[.slice a1 D.next.length c1, .slice a2 D.ends.length c2]) D ∧ Below w.heap.size w w'
def loW (v : Nat) : Nat := v % 2 ^ 64
def hiW (v : Nat) : Nat := v / 2 ^ 64
@[simp] theorem loW_zero : loW 0 = 0 := rfl
@[simp] theorem hiW_zero : hiW 0 = 0 := rfl
end Go.Proofs.Ytalbofnhcpjilaa
namespace Go.Proofs.Ytalbofnhcpjilaa
open Go.RowKit
end Go.Proofs.Ytalbofnhcpjilaa
namespace Go.Proofs.Ytalbofnhcpjilaa
open Go.RowKit
end Go.Proofs.Ytalbofnhcpjilaa
