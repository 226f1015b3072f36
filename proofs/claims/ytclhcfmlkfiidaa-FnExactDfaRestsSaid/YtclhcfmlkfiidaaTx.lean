/-
  The walk over the program's TurnTwice.
  Condition: the automaton reads as such.
-/
import Derived.Test.YtclhcfmlkfiidaaTt
namespace Go.Proofs.Ytclhcfmlkfiidaa
open Go.RowKit

def zeD : DfaD := ⟨[], []⟩
theorem zeD_own (w : World) (B tS tI tB : Nat) : DfaO tS tI tB B w.heap.size w (.agg #[.slice none 0 0, .slice none 0 0]) zeD :=
  ⟨_, _, rfl, ⟨[], own_of_row ⟨by simp [zeD], Or.inl ⟨rfl, rfl⟩⟩, fun i hi => absurd hi (by simp [zeD]), fun i j k _ hj => absurd hj (by simp [zeD])⟩, own_of_row ⟨by simp [zeD], Or.inl ⟨rfl, rfl⟩⟩⟩
/-- An automaton and a truth value, the automaton the call's own. -/
def RTt (D : DfaD) (fb : Bool) (B : Nat) (e : Ending) (w' : World) : Prop := ∃ a1 c1 a2 c2, e = .returned (.tuple #[.agg #[.slice a1 D.next.length c1, .slice a2 D.ends.length c2], .bool fb]) ∧ DfaO 44 3 4 B w'.heap.size w' (.agg #[.slice a1 D.next.length c1, .slice a2 D.ends.length c2]) D
def RTtr (D : DfaD) (fb : Bool) (e : Ending) (w' : World) : Prop := ∃ a1 c1 a2 c2, e = .returned (.tuple #[.agg #[.slice a1 D.next.length c1, .slice a2 D.ends.length c2], .bool fb]) ∧ DfaR 0 w' (.agg #[.slice a1 D.next.length c1, .slice a2 D.ends.length c2]) D
def itK (K : Nat) (d : DfaD) : Nat → Option DfaD
  | 0 => some d
  | j + 1 => (itK K d j).bind (tdK K)
theorem ttK_it {K : Nat} {d : DfaD} (hd : dfaOk d.next d.ends = true) : ttK K d = itK K d 2 := by
  unfold ttK
  rw [if_pos hd]
  rfl
theorem itK_none {K : Nat} {d E : DfaD} {j : Nat} (hj : j < 2) (h : itK K d j = some E) (hn : tdK K E = none) : itK K d 2 = none := by
  obtain rfl | rfl : j = 0 ∨ j = 1 := by omega
  · have h : some d = some E := h
    simp only [Option.some.injEq] at h
    subst h
    show ((some d).bind (tdK K)).bind (tdK K) = none
    simp [hn]
  · show (itK K d 1).bind (tdK K) = none
    rw [h]
    exact hn
theorem tdK_some {K : Nat} {E : DfaD} (hle : (metS (turnN (nfaOf E)) K).length ≤ K) : tdK K E = some (numDfa (nxS (turnN (nfaOf E))) (enS (turnN (nfaOf E))) (metS (turnN (nfaOf E)) K)) := by
  unfold tdK detQK
  rw [if_pos hle]
theorem tdK_none {K : Nat} {E : DfaD} (hle : ¬ (metS (turnN (nfaOf E)) K).length ≤ K) : tdK K E = none := by
  unfold tdK detQK
  rw [if_neg hle]

set_option maxRecDepth 100000 in
set_option maxHeartbeats 4000000 in
theorem implTtK_any (K : Nat) (hK : K = 40) (d D : DfaD) (fb : Bool) (hD : (ttK K d).getD zeD = D) (hfb : (ttK K d).isSome = fb) (v : Value) (w : World) (h : DfaR 0 w v d) :
    Calls Try.prog 21 #[v] w fun e w' => RTt D fb w.heap.size e w' ∧ Below w.heap.size w w' := by
  have H := Lib.hid h
  obtain ⟨v1, v2, rfl, -, -⟩ := h
  have hS0 := ((St.start w).alloc _ rfl #[v1, v2] 32).alloc (w.heap.size + 1) (by simp) #[.slice none 0 0, .slice none 0 0] 32
  cases hok : dfaOk d.next d.ends
  · have hn : ttK K d = none := by
      unfold ttK
      rw [hok]
      rfl
    rw [hn] at hD hfb
    subst hD
    subst hfb
    have Hhok := Lib.hid hok; clear hok
    have HhS0 := Lib.hid hS0; clear hS0
    go_enter Try.func21, Try.ntmps21
    go_wp2_with fail
    refine (implDfaValid_any d _ _ (H.out.below HhS0.out.bel) _ Hhok.out).mono ?_
    rintro e w1 ⟨rfl, hb1⟩
    have hS1 := HhS0.out.call hb1
    have f0 := hS1.fr 1 0 rfl
    have f1 := hS1.fr 1 1 rfl
    have k0 := hS1.cell (v := .slice none 0 0) 1 0 rfl rfl
    have k1 := hS1.cell (v := .slice none 0 0) 1 1 rfl rfl
    have HhS1 := Lib.hid hS1; clear hS1
    clear hb1
    go_wp2
    have hq := (HhS1.out.set 1 rfl 0 (.slice none 0 0)).set 1 rfl 1 (.slice none 0 0)
    have q0 := hq.cell (v := .slice none 0 0) 1 0 rfl rfl
    have q1 := hq.cell (v := .slice none 0 0) 1 1 rfl rfl
    refine bodyPost_ret (v := .tuple #[.agg #[.slice none 0 0, .slice none 0 0], .bool false]) (by simp [results, Try.results21, go_sem, q0, q1]) rfl ⟨?_, hq.bel⟩
    exact ⟨none, 0, none, 0, rfl, zeD_own _ _ _ _ _⟩
  · rw [ttK_it hok] at hD hfb
    have Hhok := Lib.hid hok; clear hok
    have HhS0 := Lib.hid hS0; clear hS0
    have HhD := Lib.hid hD; clear hD
    have Hhfb := Lib.hid hfb; clear hfb
    go_enter Try.func21, Try.ntmps21
    go_wp2_with fail
    refine (implDfaValid_any d _ _ (H.out.below HhS0.out.bel) _ Hhok.out).mono ?_
    rintro e w1 ⟨rfl, hb1⟩
    have hS1 := HhS0.out.call hb1
    have hR1 := H.out.below hS1.bel
    have HhS1 := Lib.hid hS1; clear hS1
    have HhR1 := Lib.hid hR1; clear hR1
    clear hb1
    go_wp2
    go_loopw [10] (fun i wr => ∃ (j : Nat) (E : DfaD) (u1 u2 : Value), i = .int .i64 j ∧ j ≤ 2 ∧ itK K d j = some E ∧ dfaOk E.next E.ends = true ∧ DfaR 0 wr (.agg #[u1, u2]) E ∧
        (0 < j → DMem w.heap.size wr E u1 u2 ∧ ∃ a1 c1 a2 c2, u1 = .slice a1 E.next.length c1 ∧ u2 = .slice a2 E.ends.length c2) ∧
        St w wr [Ent.box w.heap.size #[u1, u2] 32, Ent.box (w.heap.size + 1) #[.slice none 0 0, .slice none 0 0] 32])
      (fun i _ => 2 - (intOf i).toNat)
    case atStart => exact ⟨0, d, v1, v2, rfl, by omega, rfl, Hhok.out, HhR1.out, fun h => absurd h (by omega), HhS1.out⟩
    case round =>
      obtain ⟨j, E, u1, u2, rfl, hj, hit, hE, hR, hM, hS⟩ := hrel
      by_cases hlt : j < 2
      · have hlt2 : (j : Int) < 2 := by omega
        have hdo := nfaOf_det hE
        have hto := turnN_det hdo
        have e0 := hS.cell (v := u1) 0 0 rfl rfl
        have e1 := hS.cell (v := u2) 0 1 rfl rfl
        have Hhit := Lib.hid hit; clear hit
        have HhE := Lib.hid hE; clear hE
        have HhR := Lib.hid hR; clear hR
        have HhS := Lib.hid hS; clear hS
        have Hhdo := Lib.hid hdo; clear hdo
        have Hhto := Lib.hid hto; clear hto
        clear hM
        go_wp2_with fail
        refine (implNfa_any E _ _ HhE.out HhR.out).mono ?_
        rintro e w1 ⟨a1, c1, a2, c2, a3, c3, rfl, hS'⟩
        have hS2 := HhS.out.cat hS'
        have HhS2 := Lib.hid hS2; clear hS2
        clear hS' e0 e1
        go_wp2_with fail
        refine (implTurn_any (nfaOf E) _ _ _ _ (by have := Hhdo.out.ml; omega) (by have := Hhdo.out.fl; omega) (by have := Hhdo.out.el; omega) (HhS2.out.moves 2 rfl) (HhS2.out.intsR 3 rfl) (HhS2.out.intsR 4 rfl)).mono ?_
        rintro e w2 ⟨b1, d1, b2, d2, b3, d3, rfl, hS'⟩
        have hS3 := HhS2.out.cat hS'
        have HhS3 := Lib.hid hS3; clear hS3
        clear hS'
        go_wp2_with fail
        refine (determinize_any (turnN (nfaOf E)) K hK _ _ _ _ (mvIn_40 Hhto.out.mv Hhto.out.m40) (by have := Hhto.out.ml; omega) (fun s hs => by have := Hhto.out.f s hs; have := Hhto.out.m40; omega) (by have := Hhto.out.fl; omega) (fun s hs => by have := Hhto.out.e s hs; have := Hhto.out.m40; omega) (HhS3.out.moves 5 rfl) (HhS3.out.intsR 6 rfl) (HhS3.out.intsR 7 rfl)).mono ?_
        rintro e w3 ⟨hr, hb3⟩
        unfold RDet at hr
        by_cases hle : (metS (turnN (nfaOf E)) K).length ≤ K
        · rw [if_pos hle] at hr
          obtain ⟨an, cn, ae, ce, rfl, hown⟩ := hr
          have htd := tdK_some hle
          obtain ⟨X, hX⟩ : ∃ X, X = numDfa (nxS (turnN (nfaOf E))) (enS (turnN (nfaOf E))) (metS (turnN (nfaOf E)) K) := ⟨_, rfl⟩
          have hl1 : X.next.length = (metS (turnN (nfaOf E)) K).length := by rw [hX]; exact numDfa_len _ _ _
          have hl2 : X.ends.length = (metS (turnN (nfaOf E)) K).length := by rw [hX]; simp [numDfa]
          rw [← hX] at hown htd
          obtain ⟨L, hL⟩ : ∃ L, L = (metS (turnN (nfaOf E)) K).length := ⟨_, rfl⟩
          rw [← hL] at hown hl1 hl2 hle
          rw [← hL]
          have hL40 : (L : Int) ≤ 40 := by omega
          have hXo : dfaOk X.next X.ends = true := detQK_ok hK (n := turnN (nfaOf E)) htd
          have hS4 := (HhS3.out.call hb3).alloc _ rfl #[.slice an L cn, .slice ae L ce] 32
          have f0 := hS4.fr 0 0 rfl
          have f1 := hS4.fr 0 1 rfl
          have k0 := hS4.cell (v := u1) 0 0 rfl rfl
          have k1 := hS4.cell (v := u2) 0 1 rfl rfl
          have d0 := hS4.cell (v := .slice an L cn) 8 0 rfl rfl
          have d1 := hS4.cell (v := .slice ae L ce) 8 1 rfl rfl
          have hDM := (DMem.of hown HhS3.out.size).alloc (.cells #[.slice an L cn, .slice ae L ce] 32)
          have hb0 := hS4.box 0 rfl
          have HhS4 := Lib.hid hS4; clear hS4
          have HhDM := Lib.hid hDM; clear hDM
          have Hhl1 := Lib.hid hl1; clear hl1
          have Hhl2 := Lib.hid hl2; clear hl2
          have Hhb0 := Lib.hid hb0; clear hb0
          have Hhtd := Lib.hid htd; clear htd
          have HhXo := Lib.hid hXo; clear hXo
          have HhX := Lib.hid hX; clear hX
          have HhL := Lib.hid hL; clear hL
          clear hown hb3 hle
          go_wp2
          go_roundw
          case rel =>
            have hq := (HhS4.out.set 0 rfl 0 (.slice an L cn)).set 0 rfl 1 (.slice ae L ce)
            have hm := (HhDM.out.set Hhb0.out 0 (.slice an L cn)).set (Hhb0.out.set 0 _) 1 (.slice ae L ce)
            refine ⟨j + 1, X, .slice an L cn, .slice ae L ce, by go_num, by omega, ?_, HhXo.out, ?_, fun _ => ⟨hm, an, cn, ae, ce, by rw [Hhl1.out], by rw [Hhl2.out]⟩, hq.pick [0, 1] (by decide)⟩
            · show (itK K d j).bind (tdK K) = some X
              rw [Hhit.out]
              exact Hhtd.out
            · exact DfaR.mono (DfaO.r ⟨_, _, rfl, hm.1, hm.2⟩) (Nat.zero_le _)
          case measure => simp [intOf]; omega
        · rw [if_neg hle] at hr
          subst hr
          have hn := itK_none hlt Hhit.out (tdK_none hle)
          have hD := HhD.out
          have hfb := Hhfb.out
          rw [hn] at hD hfb
          subst hD
          subst hfb
          have hS4 := (HhS3.out.call hb3).alloc _ rfl #[.slice none 0 0, .slice none 0 0] 32
          have f0 := hS4.fr 1 0 rfl
          have f1 := hS4.fr 1 1 rfl
          have k0 := hS4.cell (v := .slice none 0 0) 1 0 rfl rfl
          have k1 := hS4.cell (v := .slice none 0 0) 1 1 rfl rfl
          have HhS4 := Lib.hid hS4; clear hS4
          have Hhn := Lib.hid hn; clear hn
          clear hb3 hle
          go_wp2
          have hq := (HhS4.out.set 1 rfl 0 (.slice none 0 0)).set 1 rfl 1 (.slice none 0 0)
          have q0 := hq.cell (v := .slice none 0 0) 1 0 rfl rfl
          have q1 := hq.cell (v := .slice none 0 0) 1 1 rfl rfl
          refine bodyPost_ret (v := .tuple #[.agg #[.slice none 0 0, .slice none 0 0], .bool false]) (by simp [results, Try.results21, go_sem, q0, q1]) rfl ⟨?_, hq.bel⟩
          exact ⟨none, 0, none, 0, rfl, zeD_own _ _ _ _ _⟩
      · obtain rfl : j = 2 := by omega
        obtain ⟨hDM, a1, c1, a2, c2, rfl, rfl⟩ := hM (by omega)
        have hD := HhD.out
        have hfb := Hhfb.out
        rw [hit] at hD hfb
        have hD : E = D := hD
        have hfb : true = fb := hfb
        subst hD
        subst hfb
        have f0 := hS.fr 1 0 rfl
        have f1 := hS.fr 1 1 rfl
        have k0 := hS.cell (v := .slice none 0 0) 1 0 rfl rfl
        have k1 := hS.cell (v := .slice none 0 0) 1 1 rfl rfl
        have d0 := hS.cell (v := .slice a1 E.next.length c1) 0 0 rfl rfl
        have d1 := hS.cell (v := .slice a2 E.ends.length c2) 0 1 rfl rfl
        have hb0 := hS.box 1 rfl
        have HhS := Lib.hid hS; clear hS
        have HhDM := Lib.hid hDM; clear hDM
        have Hhit := Lib.hid hit; clear hit
        have Hhb0 := Lib.hid hb0; clear hb0
        clear hM hR hE
        go_wp2
        have hq := (HhS.out.set 1 rfl 0 (.slice a1 E.next.length c1)).set 1 rfl 1 (.slice a2 E.ends.length c2)
        have q0 := hq.cell (v := .slice a1 E.next.length c1) 1 0 rfl rfl
        have q1 := hq.cell (v := .slice a2 E.ends.length c2) 1 1 rfl rfl
        have hm := (HhDM.out.set Hhb0.out 0 (.slice a1 E.next.length c1)).set (Hhb0.out.set 0 _) 1 (.slice a2 E.ends.length c2)
        refine bodyPost_ret (v := .tuple #[.agg #[.slice a1 E.next.length c1, .slice a2 E.ends.length c2], .bool true]) (by simp [results, Try.results21, go_sem, q0, q1]) rfl ⟨?_, hq.bel⟩
        exact ⟨a1, c1, a2, c2, rfl, _, _, rfl, hm.1, hm.2⟩
end Go.Proofs.Ytclhcfmlkfiidaa
