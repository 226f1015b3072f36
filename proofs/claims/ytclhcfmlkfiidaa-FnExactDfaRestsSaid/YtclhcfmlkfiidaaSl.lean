/-
  The walk over the program's small.
  Conditions: the automaton's numbers are in bounds; the arguments read as such data.
-/
import Derived.Test.YtclhcfmlkfiidaaMn
namespace Go.Proofs.Ytclhcfmlkfiidaa
open Go.RowKit

theorem detQK_some {K : Nat} {n : NfaD} (h : (metS n K).length ≤ K) : detQK K n = some (numDfa (nxS n) (enS n) (metS n K)) := if_pos h
theorem detQK_none {K : Nat} {n : NfaD} (h : ¬ (metS n K).length ≤ K) : detQK K n = none := if_neg h
set_option maxRecDepth 100000 in
set_option maxHeartbeats 4000000 in
theorem implSmall_any (n : NfaD) (m K : Nat) (hK : K = 40) (D : DfaD) (fb : Bool) (hD : ((detQK K n).map minD).getD zeD = D) (hfb : ((detQK K n).map minD).isSome = fb) (v1 v2 v3 : Value) (w : World) (hdo : DetOk n m) (h1 : Moves 0 w v1 n.moves) (h2 : Ints 0 w v2 n.firsts) (h3 : Ints 0 w v3 n.ends) :
    Calls Try.prog 65 #[.agg #[.int .i64 n.states, v1, v2, v3]] w fun e w' => RTt D fb w.heap.size e w' ∧ Below w.heap.size w w' := by
  have hS0 := ((St.start w).alloc _ rfl #[.int .i64 n.states, v1, v2, v3] 67).alloc (w.heap.size + 1) (by simp) #[.slice none 0 0, .slice none 0 0] 32
  have hdet := fun (W : World) (hb : Below w.heap.size w W) => determinize_any n K hK v1 v2 v3 W (mvIn_40 hdo.mv hdo.m40) (by have := hdo.ml; omega) (fun s hs => by have := hdo.f s hs; have := hdo.m40; omega) (by have := hdo.fl; omega) (fun s hs => by have := hdo.e s hs; have := hdo.m40; omega) (h1.below hb) (h2.below hb) (h3.below hb)
  have Hdet := Lib.hid hdet
  have HhS0 := Lib.hid hS0; clear hS0
  have HhD := Lib.hid hD; clear hD
  have Hhfb := Lib.hid hfb; clear hfb
  clear hdet h1 h2 h3 hdo
  go_enter Try.func65, Try.ntmps65
  have e0 := HhS0.out.cell (v := .int .i64 n.states) 0 0 rfl rfl
  have e1 := HhS0.out.cell (v := v1) 0 1 rfl rfl
  have e2 := HhS0.out.cell (v := v2) 0 2 rfl rfl
  have e3 := HhS0.out.cell (v := v3) 0 3 rfl rfl
  go_wp2_with fail
  refine (Hdet.out _ HhS0.out.bel).mono ?_
  rintro e w3 ⟨hr, hb3⟩
  unfold RDet at hr
  by_cases hle : (metS n K).length ≤ K
  · rw [if_pos hle] at hr
    obtain ⟨an, cn, ae, ce, rfl, hown⟩ := hr
    have htd := detQK_some hle
    obtain ⟨X, hX⟩ : ∃ X, X = numDfa (nxS n) (enS n) (metS n K) := ⟨_, rfl⟩
    have hl1 : X.next.length = (metS n K).length := by rw [hX]; exact numDfa_len _ _ _
    have hl2 : X.ends.length = (metS n K).length := by rw [hX]; simp [numDfa]
    rw [← hX] at hown htd
    have hD := HhD.out
    have hfb := Hhfb.out
    rw [htd] at hD hfb
    have hD : minD X = D := hD
    have hfb : true = fb := hfb
    subst hD
    subst hfb
    obtain ⟨L, hL⟩ : ∃ L, L = (metS n K).length := ⟨_, rfl⟩
    rw [← hL] at hown hl1 hl2 hle
    rw [← hL]
    have hL40 : (L : Int) ≤ 40 := by omega
    have hXo : dfaOk X.next X.ends = true := detQK_ok hK (n := n) htd
    have hS4 := (HhS0.out.call hb3).alloc _ rfl #[.slice an L cn, .slice ae L ce] 32
    have hDR : DfaR 0 (w3.alloc (.cells #[.slice an L cn, .slice ae L ce] 32)) (.agg #[.slice an L cn, .slice ae L ce]) X := (hown.r.mono (Nat.zero_le _)).below ((Below.refl _ _).alloc (Nat.le_refl _) _)
    have d0 := hS4.cell (v := .slice an L cn) 2 0 rfl rfl
    have d1 := hS4.cell (v := .slice ae L ce) 2 1 rfl rfl
    have HS4 := Lib.hid hS4
    have HDR := Lib.hid hDR
    have Hhl1 := Lib.hid hl1; clear hl1
    have Hhl2 := Lib.hid hl2; clear hl2
    have Hhtd := Lib.hid htd; clear htd
    have HhXo := Lib.hid hXo; clear hXo
    have HhX := Lib.hid hX; clear hX
    have HhL := Lib.hid hL; clear hL
    clear hown hb3 hle hS4 hDR e0 e1 e2 e3
    go_wp2_with fail
    refine (implMin_any X _ _ HhXo.out HDR.out).mono ?_
    rintro e w5 ⟨a1, c1, a2, c2, rfl, hown, hb5⟩
    obtain ⟨M, hM⟩ : ∃ M, M = minD X := ⟨_, rfl⟩
    rw [← hM] at hown
    rw [← hM]
    have hS5 := HS4.out.call hb5
    have f0 := hS5.fr 1 0 rfl
    have f1 := hS5.fr 1 1 rfl
    have k0 := hS5.cell (v := .slice none 0 0) 1 0 rfl rfl
    have k1 := hS5.cell (v := .slice none 0 0) 1 1 rfl rfl
    have hDM := DMem.of hown HS4.out.size
    have hb0 := hS5.box 1 rfl
    have HS5 := Lib.hid hS5
    have HDM := Lib.hid hDM
    have Hhb0 := Lib.hid hb0; clear hb0
    have HhM := Lib.hid hM; clear hM
    clear hS5 hown hb5 hDM d0 d1
    go_wp2
    have hq := (HS5.out.set 1 rfl 0 (.slice a1 M.next.length c1)).set 1 rfl 1 (.slice a2 M.ends.length c2)
    have q0 := hq.cell (v := .slice a1 M.next.length c1) 1 0 rfl rfl
    have q1 := hq.cell (v := .slice a2 M.ends.length c2) 1 1 rfl rfl
    have hm := (HDM.out.set Hhb0.out 0 (.slice a1 M.next.length c1)).set (Hhb0.out.set 0 _) 1 (.slice a2 M.ends.length c2)
    refine bodyPost_ret (v := .tuple #[.agg #[.slice a1 M.next.length c1, .slice a2 M.ends.length c2], .bool true]) (by simp [results, Try.results65, go_sem, q0, q1]) rfl ⟨?_, hq.bel⟩
    rw [← HhM.out]
    exact ⟨a1, c1, a2, c2, rfl, _, _, rfl, hm.1, hm.2⟩
  · rw [if_neg hle] at hr
    subst hr
    have hD := HhD.out
    have hfb := Hhfb.out
    rw [detQK_none hle] at hD hfb
    have hD : zeD = D := hD
    have hfb : false = fb := hfb
    subst hD
    subst hfb
    have hS4 := (HhS0.out.call hb3).alloc _ rfl #[.slice none 0 0, .slice none 0 0] 32
    have f0 := hS4.fr 1 0 rfl
    have f1 := hS4.fr 1 1 rfl
    have k0 := hS4.cell (v := .slice none 0 0) 1 0 rfl rfl
    have k1 := hS4.cell (v := .slice none 0 0) 1 1 rfl rfl
    have HS4 := Lib.hid hS4
    clear hb3 hle hS4 e0 e1 e2 e3
    go_wp2
    have hq := (HS4.out.set 1 rfl 0 (.slice none 0 0)).set 1 rfl 1 (.slice none 0 0)
    have q0 := hq.cell (v := .slice none 0 0) 1 0 rfl rfl
    have q1 := hq.cell (v := .slice none 0 0) 1 1 rfl rfl
    refine bodyPost_ret (v := .tuple #[.agg #[.slice none 0 0, .slice none 0 0], .bool false]) (by simp [results, Try.results65, go_sem, q0, q1]) rfl ⟨?_, hq.bel⟩
    exact ⟨none, 0, none, 0, rfl, zeD_own _ _ _ _ _⟩
end Go.Proofs.Ytclhcfmlkfiidaa
