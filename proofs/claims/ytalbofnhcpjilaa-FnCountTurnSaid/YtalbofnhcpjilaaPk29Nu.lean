/-
  The walk over the reference's automaton of sets of states: l9Dfa.
  Conditions: there are m states, at most 40; moves, first and last states lie below; the automaton reads as such.
  The walks over Determinize, of the program and of the reference.
  Conditions: the automaton reads as such.
-/
import Derived.Test.YtalbofnhcpjilaaPk12Nu
import Derived.Test.YtalbofnhcpjilaaPk28Det
namespace Go.Proofs.Ytalbofnhcpjilaa
open Go.RowKit Go.Maps
end Go.Proofs.Ytalbofnhcpjilaa
namespace Go.Proofs.Ytalbofnhcpjilaa
open Go.RowKit Go.Maps
def forty : Nat := 40
def det (n : NfaD) : Option DfaD := detK forty n
def RDfaB (D : DfaD) (fb : Bool) (B : Nat) (e : Ending) (w' : World) : Prop := ∃ a1 c1 a2 c2, e = .returned (.tuple #[.agg #[.slice a1 D.next.length c1, .slice a2 D.ends.length c2], .bool fb]) ∧ DfaO 48 3 4 B w'.heap.size w' (.agg #[.slice a1 D.next.length c1, .slice a2 D.ends.length c2]) D
set_option maxRecDepth 100000 in
set_option maxHeartbeats 4000000 in
theorem implDetK_any (K : Nat) (hK : K = 40) (n : NfaD) (D : DfaD) (fb : Bool) (hD : (detK K n).getD zeroD = D) (hfb : (detK K n).isSome = fb) (v : Value) (w : World) (h : NfaR 0 w v n) :
    Calls Try.prog 26 #[v] w fun e w' => RDfaB D fb w.heap.size e w' ∧ Below w.heap.size w w' := by
  have H := Lib.hid h
  obtain ⟨v1, v2, v3, rfl, g1, g2, g3, -, -⟩ := h
  have hS0 := ((St.start w).alloc _ rfl #[.int .i64 n.states, v1, v2, v3] 50).alloc (w.heap.size + 1) (by simp) #[.slice none 0 0, .slice none 0 0] 27
  cases hok : nfaOk n
  · have hn : detK K n = none := by
      unfold detK
      rw [if_neg]
      rintro ⟨h1, -⟩
      rw [hok] at h1
      cases h1
    rw [hn] at hD hfb
    subst hD
    subst hfb
    have Hhok := Lib.hid hok; clear hok
    have HhS0 := Lib.hid hS0; clear hS0
    clear g1 g2 g3
    go_enter Try.func26, Try.ntmps26
    go_wp2_with fail
    refine (implNfaValid_any n _ _ (H.out.below HhS0.out.bel) _ Hhok.out).mono ?_
    rintro e w1 ⟨rfl, hb1⟩
    have hS1 := HhS0.out.call hb1
    have f0 := hS1.fr 1 0 rfl
    have f1 := hS1.fr 1 1 rfl
    have k0 := hS1.cell (v := .slice none 0 0) 1 0 rfl rfl
    have k1 := hS1.cell (v := .slice none 0 0) 1 1 rfl rfl
    have HhS1 := Lib.hid hS1; clear hS1
    clear hb1
    go_wp2
    have hq := (HhS1.out.set 1 rfl 0 (.slice none 0 0)).set 1 rfl 1 (.slice none 0 0)
    have q0 := hq.cell (v := .slice none 0 0) 1 0 rfl rfl
    have q1 := hq.cell (v := .slice none 0 0) 1 1 rfl rfl
    refine bodyPost_ret (v := .tuple #[.agg #[.slice none 0 0, .slice none 0 0], .bool false]) (by simp [results, Try.results26, go_sem, q0, q1]) rfl ⟨?_, hq.bel⟩
    exact ⟨none, 0, none, 0, rfl, zeroD_own _ _ _ _ _⟩
  · obtain ⟨m, hm, hm40, hmv, hml, hf, hfl, he, hel⟩ := nfaOk_facts hok
    have hmv40 := mvIn_40 hmv hm40
    have hf40 : inN 40 n.firsts := fun s hs => by have := hf s hs; omega
    have he40 : inN 40 n.ends := fun s hs => by have := he s hs; omega
    have hdet := fun (w' : World) (hb : Below w.heap.size w w') => determinize_any n K hK v1 v2 v3 w' hmv40 (by omega) hf40 (by omega) he40 (g1.below hb) (g2.below hb) (g3.below hb)
    have Hhok := Lib.hid hok; clear hok
    have HhS0 := Lib.hid hS0; clear hS0
    have Hdet := Lib.hid hdet
    clear g1 g2 g3 hdet hm
    go_enter Try.func26, Try.ntmps26
    go_wp2_with fail
    refine (implNfaValid_any n _ _ (H.out.below HhS0.out.bel) _ Hhok.out).mono ?_
    rintro e w1 ⟨rfl, hb1⟩
    have hS1 := HhS0.out.call hb1
    have e0 := hS1.cell (v := .int .i64 n.states) 0 0 rfl rfl
    have e1 := hS1.cell (v := v1) 0 1 rfl rfl
    have e2 := hS1.cell (v := v2) 0 2 rfl rfl
    have e3 := hS1.cell (v := v3) 0 3 rfl rfl
    have HhS1 := Lib.hid hS1; clear hS1
    clear hb1
    go_wp2_with fail
    refine (Hdet.out _ HhS1.out.bel).mono ?_
    rintro e w2 ⟨hr, hb2⟩
    unfold RDet at hr
    by_cases hle : (metS n K).length ≤ K
    · rw [if_pos hle] at hr
      obtain ⟨an, cn, ae, ce, rfl, hown⟩ := hr
      have hn : detK K n = some (numDfa (nxS n) (enS n) (metS n K)) := by
        unfold detK
        rw [if_pos ⟨Hhok.out, hle⟩]
      rw [hn] at hD hfb
      obtain ⟨L, hL⟩ : ∃ L, L = (metS n K).length := ⟨_, rfl⟩
      have hl1 : D.next.length = L := by rw [← hD, hL]; exact numDfa_len _ _ _
      have hl2 : D.ends.length = L := by rw [← hD, hL]; simp [numDfa]
      rw [show numDfa (nxS n) (enS n) (metS n K) = D from hD] at hown
      rw [← hL] at hown
      rw [← hL]
      have hL40 : (L : Int) ≤ 40 := by omega
      have hfb' : fb = true := hfb.symm
      subst hfb'
      have hS2 := (HhS1.out.call hb2).alloc _ rfl #[.slice an L cn, .slice ae L ce] 27
      have f0 := hS2.fr 1 0 rfl
      have f1 := hS2.fr 1 1 rfl
      have k0 := hS2.cell (v := .slice none 0 0) 1 0 rfl rfl
      have k1 := hS2.cell (v := .slice none 0 0) 1 1 rfl rfl
      have d0 := hS2.cell (v := .slice an L cn) 2 0 rfl rfl
      have d1 := hS2.cell (v := .slice ae L ce) 2 1 rfl rfl
      have hDM := DMem.of hown HhS1.out.size
      have hD2 := (hDM.alloc (.cells #[.slice an L cn, .slice ae L ce] 27))
      have hb0 := hS2.box 1 rfl
      have HhS2 := Lib.hid hS2; clear hS2
      have HhD2 := Lib.hid hD2; clear hD2
      have Hhl1 := Lib.hid hl1; clear hl1
      have Hhl2 := Lib.hid hl2; clear hl2
      have Hhb0 := Lib.hid hb0; clear hb0
      clear hown hDM hb2 hL hD hfb hn
      go_wp2
      have hq := (HhS2.out.set 1 rfl 0 (.slice an L cn)).set 1 rfl 1 (.slice ae L ce)
      have q0 := hq.cell (v := .slice an L cn) 1 0 rfl rfl
      have q1 := hq.cell (v := .slice ae L ce) 1 1 rfl rfl
      refine bodyPost_ret (v := .tuple #[.agg #[.slice an L cn, .slice ae L ce], .bool true]) (by simp [results, Try.results26, go_sem, q0, q1]) rfl ⟨?_, hq.bel⟩
      have hm := (HhD2.out.set Hhb0.out 0 (.slice an L cn)).set (Hhb0.out.set 0 _) 1 (.slice ae L ce)
      refine ⟨an, cn, ae, ce, by rw [Hhl1.out, Hhl2.out], ?_⟩
      rw [Hhl1.out, Hhl2.out]
      exact ⟨_, _, rfl, hm.1, hm.2⟩
    · rw [if_neg hle] at hr
      subst hr
      have hn : detK K n = none := by
        unfold detK
        rw [if_neg]
        rintro ⟨-, h2⟩
        exact hle h2
      rw [hn] at hD hfb
      subst hD
      subst hfb
      have hS2 := (HhS1.out.call hb2).alloc _ rfl #[.slice none 0 0, .slice none 0 0] 27
      have f0 := hS2.fr 1 0 rfl
      have f1 := hS2.fr 1 1 rfl
      have k0 := hS2.cell (v := .slice none 0 0) 1 0 rfl rfl
      have k1 := hS2.cell (v := .slice none 0 0) 1 1 rfl rfl
      have d0 := hS2.cell (v := .slice none 0 0) 2 0 rfl rfl
      have d1 := hS2.cell (v := .slice none 0 0) 2 1 rfl rfl
      have HhS2 := Lib.hid hS2; clear hS2
      clear hb2
      go_wp2
      have hq := (HhS2.out.set 1 rfl 0 (.slice none 0 0)).set 1 rfl 1 (.slice none 0 0)
      have q0 := hq.cell (v := .slice none 0 0) 1 0 rfl rfl
      have q1 := hq.cell (v := .slice none 0 0) 1 1 rfl rfl
      refine bodyPost_ret (v := .tuple #[.agg #[.slice none 0 0, .slice none 0 0], .bool false]) (by simp [results, Try.results26, go_sem, q0, q1]) rfl ⟨?_, hq.bel⟩
      exact ⟨none, 0, none, 0, rfl, zeroD_own _ _ _ _ _⟩
theorem implDet_any (n : NfaD) (D : DfaD) (fb : Bool) (hD : (det n).getD zeroD = D) (hfb : (det n).isSome = fb) (v : Value) (w : World) (h : NfaR 0 w v n) :
    Calls Try.prog 26 #[v] w fun e w' => RDfaB D fb w.heap.size e w' ∧ Below w.heap.size w w' := implDetK_any forty rfl n D fb hD hfb v w h
end Go.Proofs.Ytalbofnhcpjilaa
namespace Go.Proofs.Ytalbofnhcpjilaa
open Go.RowKit
def detQK (K : Nat) (n : NfaD) : Option DfaD := if (metS n K).length ≤ K then some (numDfa (nxS n) (enS n) (metS n K)) else none
theorem detQK_ok {K : Nat} (hK : K = 40) {n : NfaD} {d : DfaD} (h : detQK K n = some d) : dfaOk d.next d.ends = true := by
  unfold detQK at h
  split at h
  · rename_i hle
    simp only [Option.some.injEq] at h
    subst h
    obtain ⟨h1, h2, h3, h4⟩ := fine_num (en := enS n) (nx := nxS n) (a := (((fstV n : Nat) : Int), 0)) hle (by omega)
    refine dfaOk_of h1 (by rw [numDfa_len]; omega) h3 fun i hi => ?_
    exact h4 i hi
  · cases h
def tdK (K : Nat) (d : DfaD) : Option DfaD := detQK K (turnN (nfaOf d))
end Go.Proofs.Ytalbofnhcpjilaa
namespace Go.Proofs.Ytalbofnhcpjilaa
open Go.RowKit
def padT (n s : Nat) (cl : Nat → Nat) (t : Nat) : List Int := clsL s cl ++ ((t : Nat) : Int) :: List.replicate (n - s - 1) 0
theorem padL_end (n : Nat) (cl : Nat → Nat) : padL n n cl = clsL n cl := by simp [padL]
theorem padL_T {n s : Nat} (cl : Nat → Nat) (h : s < n) : padL n s cl = padT n s cl 0 := by
  unfold padL padT
  rw [show n - s = (n - s - 1) + 1 by omega, List.replicate_succ]
  rfl
theorem padT_end {n s : Nat} (cl : Nat → Nat) : padT n s cl (cl s) = padL n (s + 1) cl := by
  unfold padL padT
  rw [clsL_snoc, List.append_assoc, show n - (s + 1) = n - s - 1 by omega]
  rfl
theorem padT_set {n s : Nat} (cl : Nat → Nat) (t t' : Nat) : (intCells (padT n s cl t)).set s (.int .i64 ((t' : Nat) : Int)) = intCells (padT n s cl t') := by
  unfold intCells
  rw [← List.map_set (f := fun x => Value.int .i64 x)]
  congr 1
  unfold padT
  rw [List.set_append_right _ _ (by rw [clsL_len]; exact Nat.le_refl _), clsL_len, Nat.sub_self]
  rfl
theorem padT_at {n s : Nat} (cl : Nat → Nat) (t : Nat) : (intCells (padT n s cl t))[s]? = some (.int .i64 ((t : Nat) : Int)) := by
  simp [intCells, padT, clsL_len]
set_option maxRecDepth 100000 in
set_option maxHeartbeats 1600000 in
theorem clone_any (xs : List Int) (v : Value) (w : World) (hl : xs.length ≤ 1000000) (h : Ints 0 w v xs) :
    Calls Try.prog 124 #[v] w fun e w' => ∃ a c, e = .returned (.slice a xs.length c) ∧ St w w' [Ent.row 3 1 (.slice a xs.length c) xs.length (intCells xs)] := by
  have hx := h
  obtain ⟨a, cap, rfl, hc1, hc2, hr⟩ := h.form
  obtain ⟨j0, hj, hy0, hy1, hy2⟩ := info_parts Try.infoInt
  cases a with
  | none =>
    have h0 : xs = [] := by
      rcases Nat.eq_zero_or_pos xs.length with h0 | h0
      · exact List.eq_nil_of_length_eq_zero h0
      · obtain ⟨b, off, hb, -⟩ := hr h0
        cases hb
    subst h0
    have qT := fun (w' : World) => Lib.run_eql_slice_nil (P := Try.prog) w' 48 3 none 0 cap 0 0 Try.underlying48
    simp only [Option.isNone] at qT
    go_enter Try.func124, Try.ntmps124
    go_wp2
    go_ret
    exact ⟨none, 0, rfl, (St.start w).nilRow 3 1⟩
  | some ad =>
    have hS0 := ((St.start w).alloc _ rfl #[] 3).boxrow 0 0 1 [] rfl rfl (Nat.zero_le _)
    have hRw := hS0.row 0 rfl
    have hX := hx.below hS0.bel
    have HhS0 := Lib.hid hS0; clear hS0
    have HhRw := Lib.hid hRw; clear hRw
    have HhX := Lib.hid hX; clear hX
    have Hhx := Lib.hid hx; clear hx
    clear hr
    have qT := fun (w' : World) => Lib.run_eql_slice_nil (P := Try.prog) w' 48 3 (some ad) xs.length cap 0 0 Try.underlying48
    simp only [Option.isNone] at qT
    go_enter Try.func124, Try.ntmps124
    go_wp2_with (at_builtin; refine wpList_append_sl _ rfl _ _ _ rfl _ 3 j0 (.int .i64 0) 1 8 Try.underlying48 hj hy0 hy1 hy2 rfl (by omega) _ 0 _ rfl HhRw.out _ xs.length (intCells xs) rfl HhX.out on_is (by unfold maxLen; omega) (by omega) HhS0.out.size ?_; intro a6 c6 w6 hown6 hgrow6 hat6; have HS6 := Lib.hid (HhS0.out.appS 0 rfl hown6 hgrow6 hat6); clear hown6 hgrow6 hat6)
    go_ret
    have hq : St w w6 [Ent.row 3 1 (.slice a6 (0 + xs.length) c6) (0 + xs.length) (intCells xs)] := HS6.out
    rw [Nat.zero_add] at hq
    exact ⟨a6, c6, rfl, hq⟩
theorem turnM_take {ms : List (Int × Int × Int)} {k : Nat} (hk : k < ms.length) : (ms.take (k + 1)).map turnM = (ms.take k).map turnM ++ [((ms.getD k (0, 0, 0)).2.2, (ms.getD k (0, 0, 0)).2.1, (ms.getD k (0, 0, 0)).1)] := by
  rw [List.take_succ_eq_append_getElem hk, List.map_append]
  simp [turnM, hk]
set_option maxRecDepth 100000 in
set_option maxHeartbeats 4000000 in
theorem implTurn_any (n : NfaD) (v1 v2 v3 : Value) (w : World) (hml : n.moves.length ≤ 100000) (hfl : n.firsts.length ≤ 100000) (hel : n.ends.length ≤ 100000) (h1 : Moves 0 w v1 n.moves) (h2 : Ints 0 w v2 n.firsts) (h3 : Ints 0 w v3 n.ends) :
    Calls Try.prog 71 #[.agg #[.int .i64 n.states, v1, v2, v3]] w fun e w' => RNfaS (turnN n) w e w' := by
  obtain ⟨L, hL⟩ : ∃ L, L = n.moves.length := ⟨_, rfl⟩
  have hLle : L ≤ 100000 := by omega
  obtain ⟨av, cv, rfl, hc1, hc2, hr1⟩ := h1.form
  rw [← hL] at hc1 hr1
  rw [← hL]
  obtain ⟨i0, hi, hz0, hz1, hz2⟩ := info_parts Try.infoMv
  have hS := ((St.start w).alloc _ rfl #[.int .i64 n.states, .slice av L cv, v2, v3] 50).alloc (w.heap.size + 1) (by simp) #[.int .i64 0, .slice none 0 0, .slice none 0 0, .slice none 0 0] 50
  obtain ⟨W, hW⟩ : ∃ W, W = (w.alloc (.cells #[.int .i64 n.states, .slice av L cv, v2, v3] 50)).alloc (.cells #[.int .i64 0, .slice none 0 0, .slice none 0 0, .slice none 0 0] 50) := ⟨_, rfl⟩
  rw [← hW] at hS
  have e0 := hS.cell (v := .int .i64 n.states) 0 0 rfl rfl
  have e1 := hS.cell (v := .slice av L cv) 0 1 rfl rfl
  have e2 := hS.cell (v := v2) 0 2 rfl rfl
  have e3 := hS.cell (v := v3) 0 3 rfl rfl
  have l0 := (hS.boxlt 0 rfl).2
  have Hk := Lib.hid (fun (w' : World) (h : Below W.heap.size W w') => (show w'.cell? ⟨w.heap.size, 0, none⟩ = some (.int .i64 n.states) ∧ w'.cell? ⟨w.heap.size, 1, none⟩ = some (.slice av L cv) ∧ w'.cell? ⟨w.heap.size, 2, none⟩ = some v2 ∧ w'.cell? ⟨w.heap.size, 3, none⟩ = some v3 from ⟨(bcell h _ _ l0).trans e0, (bcell h _ _ l0).trans e1, (bcell h _ _ l0).trans e2, (bcell h _ _ l0).trans e3⟩))
  have Hc2 := Lib.hid (fun (w' : World) (hb : Below w.heap.size w w') => clone_any n.firsts v2 w' (by omega) (h2.below hb))
  have Hc3 := Lib.hid (fun (w' : World) (hb : Below w.heap.size w w') => clone_any n.ends v3 w' (by omega) (h3.below hb))
  have Hr1 := Lib.hid hr1
  have HWB := Lib.hid hS.drew.bel
  have HhS := Lib.hid hS; clear hS
  have HhL := Lib.hid hL; clear hL
  have Hhi := Lib.hid hi; clear hi
  have Hhz0 := Lib.hid hz0; clear hz0
  have Hhz1 := Lib.hid hz1; clear hz1
  have Hhz2 := Lib.hid hz2; clear hz2
  clear hr1 h1 h2 h3 l0
  go_enter Try.func71, Try.ntmps71
  go_wp2
  rw [← hW]
  have HhW := Lib.hid hW; clear hW
  refine wp_region_any (by kernel_rfl) ?_
  refine wpAny_inv (fun listed a w' => ∃ (l0 l1 l2 l3 l4 l5 l6 l7 l8 l9 l10 : Bool) (a5 a6 : Option Addr) (c5 c6 b : Nat), listed = #[l0, l1, l2, l3, l4, l5, l6, l7, l8, l9, l10] ∧ (l8 = true → l4 = true ∧ l7 = true) ∧ (l10 = true → l8 = true ∧ l9 = true) ∧
      a = ⟨#[.agg #[.int .i64 n.states, .slice av L cv, v2, v3], .pointer (some ⟨w.heap.size, 0, none⟩), .pointer (some ⟨w.heap.size + 1, 0, none⟩), (if l9 = true then .pointer (some ⟨b, 0, none⟩) else undef), undef, undef, (if l0 = true then .pointer (some ⟨w.heap.size, 0, none⟩) else undef), (if l1 = true then .int .i64 n.states else undef), (if l2 = true then .pointer (some ⟨w.heap.size, 3, none⟩) else undef), (if l3 = true then v3 else undef), (if l4 = true then .slice a5 n.ends.length c5 else undef), (if l5 = true then .pointer (some ⟨w.heap.size, 2, none⟩) else undef), (if l6 = true then v2 else undef), (if l7 = true then .slice a6 n.firsts.length c6 else undef), (if l8 = true then .agg #[.int .i64 n.states, .slice none 0 0, .slice a5 n.ends.length c5, .slice a6 n.firsts.length c6] else undef), undef, undef, undef, undef, undef, undef, undef, undef, undef, undef, undef, undef, undef, undef, undef, undef, undef, undef, undef, undef, undef], []⟩ ∧
      St w w' [Ent.box w.heap.size #[.int .i64 n.states, .slice av L cv, v2, v3] 50, Ent.box (w.heap.size + 1) #[.int .i64 0, .slice none 0 0, .slice none 0 0, .slice none 0 0] 50,
        (if l4 = true then Ent.row 3 1 (.slice a5 n.ends.length c5) n.ends.length (intCells n.ends) else Ent.nil), (if l7 = true then Ent.row 3 1 (.slice a6 n.firsts.length c6) n.firsts.length (intCells n.firsts) else Ent.nil),
        (if l9 = true then Ent.box b (if l10 = true then #[.int .i64 n.states, .slice none 0 0, .slice a5 n.ends.length c5, .slice a6 n.firsts.length c6] else #[.int .i64 0, .slice none 0 0, .slice none 0 0, .slice none 0 0]) 50 else Ent.nil)]) ?_ ?_ _ _ _ _ (unl_le _ _) ?_
  · rintro listed a w' ⟨l0, l1, l2, l3, l4, l5, l6, l7, l8, l9, l10, a5, a6, c5, c6, b, rfl, hd8, hd10, rfl, hS⟩ i hi
    obtain ⟨hun, o, ho, hall⟩ := mem_ready.1 hi
    have hlt := (Array.getElem?_eq_some_iff.1 ho).1
    refine wpOp_step ho (fun K hK => ?_)
    clear hi
    have HhS := Lib.hid hS; clear hS
    obtain h | h | h | h | h | h | h | h | h | h | h : i = 0 ∨ i = 1 ∨ i = 2 ∨ i = 3 ∨ i = 4 ∨ i = 5 ∨ i = 6 ∨ i = 7 ∨ i = 8 ∨ i = 9 ∨ i = 10 := by simp at hlt; omega
    all_goals subst h
    all_goals simp only [List.getElem?_toArray, List.getElem?_cons_zero, List.getElem?_cons_succ, Option.some.injEq] at ho
    all_goals subst ho
    all_goals simp [Region.binds] at hun hall
    · subst hun
      go_simp
      exact hK _ _ ⟨true, l1, l2, l3, l4, l5, l6, l7, l8, l9, l10, a5, a6, c5, c6, b, rfl, hd8, hd10, rfl, HhS.out⟩
    · obtain rfl := hall
      subst hun
      have e0 := HhS.out.cell (v := .int .i64 n.states) 0 0 rfl rfl
      go_simp
      exact hK _ _ ⟨true, true, l2, l3, l4, l5, l6, l7, l8, l9, l10, a5, a6, c5, c6, b, rfl, hd8, hd10, rfl, HhS.out⟩
    · subst hun
      go_simp
      exact hK _ _ ⟨l0, l1, true, l3, l4, l5, l6, l7, l8, l9, l10, a5, a6, c5, c6, b, rfl, hd8, hd10, rfl, HhS.out⟩
    · obtain rfl := hall
      subst hun
      have e0 := HhS.out.cell (v := v3) 0 3 rfl rfl
      go_simp
      exact hK _ _ ⟨l0, l1, true, true, l4, l5, l6, l7, l8, l9, l10, a5, a6, c5, c6, b, rfl, hd8, hd10, rfl, HhS.out⟩
    · obtain rfl := hall
      subst hun
      obtain rfl : l8 = false := offL hd8 rfl
      obtain rfl : l10 = false := offL hd10 rfl
      go_simp
      go_at_call 124
      refine (Hc3.out _ HhS.out.bel).mono ?_
      rintro e u1 ⟨a7, c7, rfl, hSx⟩
      have hS2 := (HhS.out.cat hSx).pick [0, 1, 5, 3, 4] (by decide)
      have HhS2 := Lib.hid hS2; clear hS2
      go_simp
      exact hK _ _ ⟨l0, l1, l2, true, true, l5, l6, l7, false, l9, false, a7, a6, c7, c6, b, rfl, by simp, by simp, rfl, HhS2.out⟩
    · subst hun
      go_simp
      exact hK _ _ ⟨l0, l1, l2, l3, l4, true, l6, l7, l8, l9, l10, a5, a6, c5, c6, b, rfl, hd8, hd10, rfl, HhS.out⟩
    · obtain rfl := hall
      subst hun
      have e0 := HhS.out.cell (v := v2) 0 2 rfl rfl
      go_simp
      exact hK _ _ ⟨l0, l1, l2, l3, l4, true, true, l7, l8, l9, l10, a5, a6, c5, c6, b, rfl, hd8, hd10, rfl, HhS.out⟩
    · obtain ⟨rfl, rfl⟩ := hall
      subst hun
      obtain rfl : l8 = false := offR hd8 rfl
      obtain rfl : l10 = false := offL hd10 rfl
      go_simp
      go_at_call 124
      refine (Hc2.out _ HhS.out.bel).mono ?_
      rintro e u1 ⟨a7, c7, rfl, hSx⟩
      have hS2 := (HhS.out.cat hSx).pick [0, 1, 2, 5, 4] (by decide)
      have HhS2 := Lib.hid hS2; clear hS2
      go_simp
      exact hK _ _ ⟨l0, l1, l2, l3, true, l5, true, true, false, l9, false, a5, a7, c5, c7, b, rfl, by simp, by simp, rfl, HhS2.out⟩
    · obtain ⟨rfl, rfl, rfl⟩ := hall
      subst hun
      obtain rfl : l10 = false := offL hd10 rfl
      go_simp
      exact hK _ _ ⟨l0, true, l2, l3, true, l5, l6, true, true, l9, false, a5, a6, c5, c6, b, rfl, by simp, by simp, rfl, HhS.out⟩
    · subst hun
      obtain rfl : l10 = false := offR hd10 rfl
      have hS2 := (HhS.out.alloc _ rfl #[.int .i64 0, .slice none 0 0, .slice none 0 0, .slice none 0 0] 50).pick [0, 1, 2, 3, 5] (by decide)
      have HhS2 := Lib.hid hS2; clear hS2
      go_simp
      refine hK _ _ ⟨l0, l1, l2, l3, l4, l5, l6, l7, l8, true, false, a5, a6, c5, c6, _, rfl, hd8, by simp, rfl, HhS2.out⟩
    · obtain ⟨rfl, rfl, rfl, rfl, rfl, rfl, rfl, rfl, rfl, rfl, -⟩ := hall
      subst hun
      have f0 := HhS.out.fr 4 0 rfl
      have k0 := HhS.out.cell (v := .int .i64 0) 4 0 rfl rfl
      have f1 := HhS.out.fr 4 1 rfl
      have k1 := HhS.out.cell (v := .slice none 0 0) 4 1 rfl rfl
      have f2 := HhS.out.fr 4 2 rfl
      have k2 := HhS.out.cell (v := .slice none 0 0) 4 2 rfl rfl
      have f3 := HhS.out.fr 4 3 rfl
      have k3 := HhS.out.cell (v := .slice none 0 0) 4 3 rfl rfl
      go_simp
      have hq := (((HhS.out.set 4 rfl 0 (.int .i64 n.states)).set 4 rfl 1 (.slice none 0 0)).set 4 rfl 2 (.slice a5 n.ends.length c5)).set 4 rfl 3 (.slice a6 n.firsts.length c6)
      exact hK _ _ ⟨true, true, true, true, true, true, true, true, true, true, true, a5, a6, c5, c6, b, rfl, by simp, by simp, rfl, hq⟩
  · rintro listed a w' ⟨l0, l1, l2, l3, l4, l5, l6, l7, l8, l9, l10, a5, a6, c5, c6, b, rfl, hd8, hd10, rfl, hS⟩ hr
    have hall := ready_nil (by kernel_rfl) rfl hr
    obtain rfl : l0 = true := by simpa using hall 0 (by simp)
    obtain rfl : l1 = true := by simpa using hall 1 (by simp)
    obtain rfl : l2 = true := by simpa using hall 2 (by simp)
    obtain rfl : l3 = true := by simpa using hall 3 (by simp)
    obtain rfl : l4 = true := by simpa using hall 4 (by simp)
    obtain rfl : l5 = true := by simpa using hall 5 (by simp)
    obtain rfl : l6 = true := by simpa using hall 6 (by simp)
    obtain rfl : l7 = true := by simpa using hall 7 (by simp)
    obtain rfl : l8 = true := by simpa using hall 8 (by simp)
    obtain rfl : l9 = true := by simpa using hall 9 (by simp)
    obtain rfl : l10 = true := by simpa using hall 10 (by simp)
    clear hall hr hd8 hd10 e0 e2 e3
    simp only [↓reduceIte] at hS ⊢
    have x1 := hS.cell (v := .slice av L cv) 0 1 rfl rfl
    have hS0 := (hS.pick [0, 1, 2, 3, 4] (by decide)).nilRow 124 3
    have hS1 : St w w' [Ent.box w.heap.size #[.int .i64 n.states, .slice av L cv, v2, v3] 50, Ent.box (w.heap.size + 1) #[.int .i64 0, .slice none 0 0, .slice none 0 0, .slice none 0 0] 50, Ent.row 3 1 (.slice a5 n.ends.length c5) n.ends.length (intCells n.ends), Ent.row 3 1 (.slice a6 n.firsts.length c6) n.firsts.length (intCells n.firsts),
        Ent.box b #[.int .i64 n.states, .slice none 0 0, .slice a5 n.ends.length c5, .slice a6 n.firsts.length c6] 50, Ent.row 124 3 (.slice none 0 0) 0 []] := hS0
    have HhS1 := Lib.hid hS1; clear hS1
    clear hS hS0 e1
    go_wp2
    go_loopw [18] (fun i wr => ∃ (k c1 : Nat) (a1 : Option Addr), i = .int .i64 k ∧ k ≤ L ∧ St w wr [Ent.box w.heap.size #[.int .i64 n.states, .slice av L cv, v2, v3] 50, Ent.box (w.heap.size + 1) #[.int .i64 0, .slice none 0 0, .slice none 0 0, .slice none 0 0] 50, Ent.row 3 1 (.slice a5 n.ends.length c5) n.ends.length (intCells n.ends), Ent.row 3 1 (.slice a6 n.firsts.length c6) n.firsts.length (intCells n.firsts),
        Ent.box b #[.int .i64 n.states, .slice a1 k c1, .slice a5 n.ends.length c5, .slice a6 n.firsts.length c6] 50, Ent.row 124 3 (.slice a1 k c1) k (((n.moves.take k).map turnM).flatMap moveCells)])
      (fun i _ => L - (intOf i).toNat)
    case atStart => exact ⟨0, 0, none, rfl, Nat.zero_le _, HhS1.out⟩
    case round =>
      obtain ⟨k, c1, a1, rfl, hk, hS⟩ := hrel
      by_cases hlt : k < L
      · have hlt2 : (k : Int) < L := by omega
        obtain ⟨b1, o1, rfl, -, hb1, hcs⟩ := Hr1.out (by omega)
        obtain ⟨z0, z1, z2⟩ := hcs k hlt
        have m0 := (bcell hS.bel b1 _ hb1).trans z0
        have m1 := (bcell hS.bel b1 _ hb1).trans z1
        have m2 := (bcell hS.bel b1 _ hb1).trans z2
        have htk := turnM_take (ms := n.moves) (k := k) (by have := HhL.out; omega)
        obtain ⟨p, hp⟩ : ∃ p, p = n.moves.getD k (0, 0, 0) := ⟨_, rfl⟩
        rw [← hp] at m0 m1 m2 htk
        obtain ⟨p0, p1, p2⟩ := p
        simp only at m0 m1 m2 htk
        have y1 := (hS.alloc_ (.cells #[.int .i64 p0, .int .i64 p1, .int .i64 p2] 124)).cell (v := .slice a1 k c1) 4 1 rfl rfl
        have hSa := (hS.alloc_ (.cells #[.int .i64 p0, .int .i64 p1, .int .i64 p2] 124)).alloc (wr.heap.size + 1) (by simp) #[.int .i64 p2, .int .i64 p1, .int .i64 p0] 124
        have hRw := hSa.row 5 rfl
        have hbx := hSa.box 6 rfl
        have HhS := Lib.hid hS; clear hS
        have HhSa := Lib.hid hSa; clear hSa
        have HhRw := Lib.hid hRw; clear hRw
        have Hhbx := Lib.hid hbx; clear hbx
        have Hhp := Lib.hid hp; clear hp
        have Hhtk := Lib.hid htk; clear htk
        clear hcs z0 z1 z2
        go_wp2_with (at_builtin; refine wpList_append_lies _ rfl _ _ _ rfl _ 124 i0 (.agg #[.int .i64 0, .int .i64 0, .int .i64 0]) 3 24 Try.underlying47 Hhi.out Hhz0.out Hhz1.out Hhz2.out rfl (by omega) _ k _ rfl HhRw.out ⟨wr.heap.size + 1, 0, none⟩ 1 1 [.int .i64 p2, .int .i64 p1, .int .i64 p0] rfl rfl (World.news_of_block Hhbx.out) one_mv (by omega) (by unfold maxLen; omega) (by omega) HhSa.out.size _ rfl ?_; intro g6 c8 w6 hown6 hgrow6 hat6 hlt6; have HS6 := Lib.hid (HhSa.out.app 5 rfl hown6 hgrow6 hat6); have y1 := HS6.out.cell (v := .slice a1 k c1) 4 1 rfl rfl; have y2 := HS6.out.fr 4 1 rfl; clear hown6 hgrow6 hat6 hlt6)
        go_roundw
        case rel =>
          refine ⟨k + 1, c8, some ⟨g6, 0, none⟩, by go_num, by omega, ?_⟩
          rw [Hhtk.out, flatM_snoc]
          exact (HS6.out.set 4 rfl 1 (.slice (some ⟨g6, 0, none⟩) (k + 1) c8)).pick [0, 1, 2, 3, 4, 5] (by decide)
        case measure => simp [intOf]; omega
      · obtain rfl : k = L := by omega
        have hta : n.moves.take k = n.moves := List.take_of_length_le (by rw [← HhL.out]; exact Nat.le_refl _)
        rw [hta] at hS
        have f0 := hS.fr 1 0 rfl
        have f1 := hS.fr 1 1 rfl
        have f2 := hS.fr 1 2 rfl
        have f3 := hS.fr 1 3 rfl
        have k0 := hS.cell (v := .int .i64 0) 1 0 rfl rfl
        have k1 := hS.cell (v := .slice none 0 0) 1 1 rfl rfl
        have k2 := hS.cell (v := .slice none 0 0) 1 2 rfl rfl
        have k3 := hS.cell (v := .slice none 0 0) 1 3 rfl rfl
        have d0 := hS.cell (v := .int .i64 n.states) 4 0 rfl rfl
        have d1 := hS.cell (v := .slice a1 k c1) 4 1 rfl rfl
        have d2 := hS.cell (v := .slice a5 n.ends.length c5) 4 2 rfl rfl
        have d3 := hS.cell (v := .slice a6 n.firsts.length c6) 4 3 rfl rfl
        have HhS := Lib.hid hS; clear hS
        clear hta
        go_wp2
        have hq := (((HhS.out.set 1 rfl 0 (.int .i64 n.states)).set 1 rfl 1 (.slice a1 k c1)).set 1 rfl 2 (.slice a5 n.ends.length c5)).set 1 rfl 3 (.slice a6 n.firsts.length c6)
        have q0 := hq.cell (v := .int .i64 n.states) 1 0 rfl rfl
        have q1 := hq.cell (v := .slice a1 k c1) 1 1 rfl rfl
        have q2 := hq.cell (v := .slice a5 n.ends.length c5) 1 2 rfl rfl
        have q3 := hq.cell (v := .slice a6 n.firsts.length c6) 1 3 rfl rfl
        refine bodyPost_ret (v := .agg #[.int .i64 n.states, .slice a1 k c1, .slice a5 n.ends.length c5, .slice a6 n.firsts.length c6]) (by simp [results, Try.results71, go_sem, q0, q1, q2, q3]) rfl ?_
        have hkl : k = (turnN n).moves.length := by rw [HhL.out]; simp [turnN]
        refine ⟨a1, c1, a5, c5, a6, c6, by rw [← hkl]; rfl, ?_⟩
        rw [← hkl]
        exact hq.pick [5, 2, 3] (by decide)
  · refine ⟨false, false, false, false, false, false, false, false, false, false, false, none, none, 0, 0, 0, rfl, by simp, by simp, rfl, ?_⟩
    exact HhS.out.drew.pick [0, 1, 2, 3, 4] (by decide)
def RTt (D : DfaD) (fb : Bool) (B : Nat) (e : Ending) (w' : World) : Prop := ∃ a1 c1 a2 c2, e = .returned (.tuple #[.agg #[.slice a1 D.next.length c1, .slice a2 D.ends.length c2], .bool fb]) ∧ DfaO 48 3 4 B w'.heap.size w' (.agg #[.slice a1 D.next.length c1, .slice a2 D.ends.length c2]) D
theorem runD_nil (d : DfaD) (s : Int) : runD d s [] = s := rfl
theorem runD_cons (d : DfaD) (s : Int) (c : Nat) (w : List Nat) : runD d s (c :: w) = runD d (dnx d s c) w := rfl
theorem runD_app (d : DfaD) (s : Int) (u w : List Nat) : runD d s (u ++ w) = runD d (runD d s u) w := by simp [runD]
theorem isW_cons {c : Nat} {w : List Nat} (h : isW (c :: w)) : c < 3 ∧ isW w := ⟨h c (by simp), fun b hb => h b (by simp [hb])⟩
theorem isW_nil : isW [] := fun c hc => by simp at hc
theorem runD_nat {d : DfaD} (hd : fine d) : ∀ (w : List Nat) {s : Nat}, isW w → s < d.next.length → ∃ t : Nat, t < d.next.length ∧ runD d (s : Int) w = (t : Int)
  | [], s, _, hs => ⟨s, hs, rfl⟩
  | c :: w, s, hw, hs => by
    obtain ⟨h1, h2⟩ := isW_cons hw
    obtain ⟨h3, h4⟩ := fine_nx hd hs h1
    rw [runD_cons, h4]
    exact runD_nat hd w h2 h3
theorem accS_same {n m : NfaD} (hn : nfaOk n = true) (hm : nfaOk m = true) {x y : List Nat} (h1 : ∀ f ∈ n.firsts, ∀ e ∈ n.ends, Pth n.moves f x e → ∃ g ∈ m.firsts, ∃ d ∈ m.ends, Pth m.moves g y d) (h2 : ∀ f ∈ m.firsts, ∀ e ∈ m.ends, Pth m.moves f y e → ∃ g ∈ n.firsts, ∃ d ∈ n.ends, Pth n.moves g x d) : accS n x = accS m y := by
  rw [Bool.eq_iff_iff, accS_pth hn, accS_pth hm]
  exact ⟨fun ⟨f, hf, e, he, hp⟩ => h1 f hf e he hp, fun ⟨f, hf, e, he, hp⟩ => h2 f hf e he hp⟩
-- repeated
theorem Pth.turn {ms : List (Int × Int × Int)} {s t : Int} {x : List Nat} (h : Pth ms s x t) : Pth (ms.map turnM) t x.reverse s := by
  induction h with
  | here s => exact .here s
  | eps hm _ ih => 
    have := ih.append (y := []) (.eps (List.mem_map.2 ⟨_, hm, rfl⟩) (.here _))
    rwa [List.append_nil] at this
  | step hm _ ih =>
    rw [List.reverse_cons]
    exact ih.append (.step (List.mem_map.2 ⟨_, hm, rfl⟩) (.here _))
theorem turn_turn (n : NfaD) : turnN (turnN n) = n := by
  obtain ⟨s, ms, f, e⟩ := n
  have : turnM ∘ turnM = id := rfl
  simp [turnN, this]
theorem turn_ok {n : NfaD} (hn : nfaOk n = true) : nfaOk (turnN n) = true := by
  unfold nfaOk at *
  simp only [Bool.and_eq_true, turnN, List.length_map, List.all_map] at *
  refine ⟨⟨⟨⟨hn.1.1.1.1, hn.1.1.1.2⟩, hn.1.2⟩, hn.1.1.2⟩, ?_⟩
  rw [List.all_eq_true]
  intro x hx
  have := List.all_eq_true.1 hn.2 x hx
  simp only [mvOk, turnM, Function.comp, Bool.and_eq_true] at *
  exact ⟨⟨this.1.2, this.1.1⟩, this.2⟩
theorem turn_acc {n : NfaD} (hn : nfaOk n = true) (x : List Nat) : accS (turnN n) x.reverse = accS n x := by
  refine accS_same (turn_ok hn) hn ?_ ?_
  · intro f hf e he hp
    have h := hp.turn
    rw [List.reverse_reverse] at h
    refine ⟨e, he, f, hf, ?_⟩
    have h2 : (turnN n).moves.map turnM = n.moves := congrArg NfaD.moves (turn_turn n)
    rwa [h2] at h
  · intro f hf e he hp
    exact ⟨e, he, f, hf, hp.turn⟩
-- either, joined: the second automaton is moved up
theorem tdK_det {d : DfaD} (hd : dfaOk d.next d.ends = true) (K : Nat) : tdK K d = detK K (turnN (nfaOf d)) := by
  unfold tdK detQK detK
  by_cases h : (metS (turnN (nfaOf d)) K).length ≤ K
  · rw [if_pos h, if_pos ⟨turn_ok (nfaOf_ok hd), h⟩]
  · rw [if_neg h, if_neg (fun h' => h h'.2)]
theorem isW_rev {w : List Nat} (h : isW w) : isW w.reverse := fun c hc => h c (by simpa using hc)
theorem td_acc {d y : DfaD} (hd : dfaOk d.next d.ends = true) {K : Nat} (h : tdK K d = some y) {w : List Nat} (hw : isW w) : accD y w = accD d w.reverse := by
  rw [tdK_det hd] at h
  rw [det_accK h hw, ← nfaOf_acc hd (isW_rev hw), ← turn_acc (nfaOf_ok hd) w.reverse, List.reverse_reverse]
theorem td_ok {d y : DfaD} {K : Nat} (hK : K = 40) (h : tdK K d = some y) : dfaOk y.next y.ends = true := detQK_ok hK h
end Go.Proofs.Ytalbofnhcpjilaa
