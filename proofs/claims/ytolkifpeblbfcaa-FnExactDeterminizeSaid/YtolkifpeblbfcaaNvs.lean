/-
  The walk over the reference's check of automata with choices: NfaValid.
  Conditions: the automaton reads as such.
-/
import Derived.Test.YtolkifpeblbfcaaNvi
import Derived.Test.YtolkifpeblbfcaaCtx
import Derived.Test.YtolkifpeblbfcaaFwp
namespace Go.Proofs.Ytolkifpeblbfcaa
open Go.RowKit

/-- A move is in order, its states at most S1. -/
def mvOkW (S1 : Int) (x : Int × Int × Int) : Bool := inB x.1 0 S1 && inB x.2.2 0 S1 && inB x.2.1 (-1) 2
theorem nfaOk_bad {n : NfaD} {S1 : Int} (hS : 0 ≤ n.states ∧ n.states ≤ 40 → S1 = n.states - 1) {k : Nat} (hk : k < n.moves.length) (h : mvOkW S1 (n.moves.getD k (0, 0, 0)) = false) : nfaOk n = false := by
  unfold nfaOk
  by_cases hin : 0 ≤ n.states ∧ n.states ≤ 40
  · have hb : n.moves.all (mvOk n.states) = false := by
      rw [List.all_eq_false]
      refine ⟨_, memD (d := (0, 0, 0)) hk, ?_⟩
      rw [hS hin] at h
      simpa [mvOk, mvOkW] using h
    rw [hb]
    simp
  · have : inB n.states 0 40 = false := by
      unfold inB
      simp
      omega
    rw [this]
    simp
theorem nfaOk_moves {n : NfaD} {S1 : Int} (hS : S1 = n.states - 1) (h : (List.range n.moves.length).all (fun k => mvOkW S1 (n.moves.getD k (0, 0, 0))) = true) : n.moves.all (mvOk n.states) = true := by
  rw [List.all_eq_true] at h ⊢
  intro x hx
  obtain ⟨k, hk, e⟩ := List.getElem_of_mem hx
  have := h k (List.mem_range.2 hk)
  rw [hS] at this
  simpa [mvOk, mvOkW, hk, e] using this

set_option maxRecDepth 100000 in
set_option maxHeartbeats 4000000 in
theorem specNfaValid_any (n : NfaD) (v : Value) (w : World) (h : NfaR 0 w v n) (r : Bool) (hr : nfaOk n = r) :
    Calls Try.prog 56 #[v] w fun e w' => e = .returned (.bool r) ∧ Below w.heap.size w w' := by
  obtain ⟨v1, v2, v3, rfl, g1, g2, g3, g4, g5⟩ := h
  obtain ⟨a1, c1, rfl, hc1, hm1, hr1⟩ := g1.form
  obtain ⟨S1, hS1⟩ : ∃ S1, IntKind.i64.wrap (n.states - 1) = S1 := ⟨_, rfl⟩
  have hS1' : 0 ≤ n.states ∧ n.states ≤ 40 → S1 = n.states - 1 := fun h => by rw [← hS1]; exact IntWalk.i64_in _ (by omega)
  have hbad := fun k => nfaOk_bad (n := n) (k := k) hS1'
  obtain ⟨ms, hms⟩ : ∃ ms, ms = n.moves := ⟨_, rfl⟩
  rw [← hms] at hc1 hr1 hbad
  rw [← hms]
  have hS0 := (St.start w).alloc _ rfl #[.int .i64 n.states, .slice a1 ms.length c1, v2, v3] 46
  have G2 := Lib.hid g2
  have G3 := Lib.hid g3
  have hml : ms.length ≤ 9223372036854775807 := by omega
  have Hhr1 := Lib.hid hr1; clear hr1
  have Hhr := Lib.hid hr; clear hr
  have Hhbad := Lib.hid hbad; clear hbad
  have Hhms := Lib.hid hms; clear hms
  have HhS1' := Lib.hid hS1'; clear hS1'
  have HhS0 := Lib.hid hS0; clear hS0
  clear g1 g2 g3
  go_enter Try.func56, Try.ntmps56
  go_wp2
  go_loopw [2, 3] (fun r i wr => ∃ k : Nat, k ≤ ms.length ∧ i = .int .i64 k ∧ (List.range k).all (fun k => mvOkW S1 (ms.getD k (0, 0, 0))) = true ∧ St w wr [Ent.box w.heap.size #[.int .i64 n.states, .slice a1 ms.length c1, v2, v3] 46])
    (fun _ i _ => ms.length - (intOf i).toNat)
  case atStart => exact ⟨0, Nat.zero_le _, rfl, rfl, HhS0.out⟩
  case round =>
    obtain ⟨k, hk, rfl, hall, hS⟩ := hrel
    have e0 := hS.cell (v := .int .i64 n.states) 0 0 rfl rfl
    have e1 := hS.cell (v := .slice a1 ms.length c1) 0 1 rfl rfl
    have Hhall := Lib.hid hall; clear hall
    by_cases hlt : k < ms.length
    · obtain ⟨b1, o1, rfl, -, hbl, hcs⟩ := Hhr1.out (by omega)
      obtain ⟨p1, p2, p3⟩ := hcs k hlt
      replace p1 := (bcell hS.bel b1 _ hbl).trans p1
      replace p2 := (bcell hS.bel b1 _ hbl).trans p2
      replace p3 := (bcell hS.bel b1 _ hbl).trans p3
      have hbk := Hhbad.out k hlt
      obtain ⟨mm, hmd⟩ : ∃ mm, mm = ms.getD k (0, 0, 0) := ⟨_, rfl⟩
      rw [← hmd] at p1 p2 p3 hbk
      obtain ⟨f, l, t⟩ := mm
      simp only at p1 p2 p3
      have hSa := hS.alloc _ rfl #[.int .i64 f, .int .i64 l, .int .i64 t] 53
      have d0 := hSa.cell (v := .int .i64 n.states) 0 0 rfl rfl
      have hkk : (k : Int) < ms.length := by omega
      have Hno := Lib.hid (fun (h : mvOkW S1 (f, l, t) = false) => (show Ending.returned (.bool false) = .returned (.bool r) from ret_bool (by rw [← Hhr.out, hbk h])))
      have Hyes := Lib.hid (fun (h : mvOkW S1 (f, l, t) = true) => (show (List.range (k + 1)).all (fun k => mvOkW S1 (ms.getD k (0, 0, 0))) = true from range_snoc Hhall.out (by rw [← hmd]; exact h)))
      have Hhmd := Lib.hid hmd; clear hmd
      have HhS := Lib.hid hS; clear hS
      have HhSa := Lib.hid hSa; clear hSa
      clear hcs hbk
      cases h1 : inB f 0 S1
      · have Hh1 := Lib.hid h1; clear h1
        go_wp2_with (go_at_call 68; (with_reducible refine (l1In_any _ _ _ _ _ Hh1.out).mono ?_); rintro e w' ⟨rfl, rfl⟩)
        go_ret
        exact ⟨Hno.out (by unfold mvOkW; rw [Hh1.out]; rfl), HhSa.out.bel⟩
      · have Hh1 := Lib.hid h1; clear h1
        cases h2 : inB t 0 S1
        · have Hh2 := Lib.hid h2; clear h2
          go_wp2_with (first | (go_at_call 68; (with_reducible refine (l1In_any _ _ _ _ _ Hh1.out).mono ?_); rintro e w' ⟨rfl, rfl⟩) | (go_at_call 68; (with_reducible refine (l1In_any _ _ _ _ _ Hh2.out).mono ?_); rintro e w' ⟨rfl, rfl⟩))
          go_ret
          exact ⟨Hno.out (by unfold mvOkW; rw [Hh1.out, Hh2.out]; rfl), HhSa.out.bel⟩
        · cases h3 : inB l (-1) 2
          all_goals
            have Hh2 := Lib.hid h2; clear h2
            have Hh3 := Lib.hid h3; clear h3
            go_wp2_with (first | (go_at_call 68; (with_reducible refine (l1In_any _ _ _ _ _ Hh1.out).mono ?_); rintro e w' ⟨rfl, rfl⟩) | (go_at_call 68; (with_reducible refine (l1In_any _ _ _ _ _ Hh2.out).mono ?_); rintro e w' ⟨rfl, rfl⟩) | (go_at_call 68; (with_reducible refine (l1In_any _ _ _ _ _ Hh3.out).mono ?_); rintro e w' ⟨rfl, rfl⟩))
          · go_ret
            exact ⟨Hno.out (by unfold mvOkW; rw [Hh1.out, Hh2.out, Hh3.out]; rfl), HhSa.out.bel⟩
          · go_roundw
            case rel => exact ⟨k + 1, by omega, by go_num, Hyes.out (by unfold mvOkW; rw [Hh1.out, Hh2.out, Hh3.out]; rfl), HhSa.out.pick [0] (by decide)⟩
            case measure => simp [intOf]; omega
    · obtain rfl : k = ms.length := by omega
      have e2 := hS.cell (v := v2) 0 2 rfl rfl
      have e3 := hS.cell (v := v3) 0 3 rfl rfl
      have hall2 := Hhall.out
      rw [Hhms.out] at hall2
      have hmo : 0 ≤ n.states ∧ n.states ≤ 40 → n.moves.all (mvOk n.states) = true := fun h => nfaOk_moves (HhS1'.out h) hall2
      have hr2 := Hhr.out
      unfold nfaOk at hr2
      rw [← Hhms.out] at hr2 hmo
      have hnk : ¬ ((ms.length : Int) < ms.length) := by omega
      cases hA : inB n.states 0 40
      · rw [hA] at hr2
        have HhA := Lib.hid hA; clear hA
        have Hhr2 := Lib.hid hr2; clear hr2
        have HhS := Lib.hid hS; clear hS
        have Hhmo := Lib.hid hmo; clear hmo
        go_wp2_with (go_at_call 68; (with_reducible refine (l1In_any _ _ _ _ _ HhA.out).mono ?_); rintro e w' ⟨rfl, rfl⟩)
        go_ret
        exact ⟨by rw [← Hhr2.out]; rfl, HhS.out.bel⟩
      · have hin : 0 ≤ n.states ∧ n.states ≤ 40 := by simpa [inB] using hA
        obtain ⟨hs0, hs1⟩ := hin
        rw [hA, hmo ⟨hs0, hs1⟩] at hr2
        have G2' := Lib.hid (G2.out.below hS.bel)
        have G3' := Lib.hid (G3.out.below hS.bel)
        have HhA := Lib.hid hA; clear hA
        have Hhmo := Lib.hid hmo; clear hmo
        have HhS := Lib.hid hS; clear hS
        by_cases hL : ms.length ≤ 400
        · have hL2 : (ms.length : Int) ≤ 400 := by omega
          rw [decide_eq_true hL] at hr2
          cases hC : stOk n.firsts n.states
          · rw [hC] at hr2
            have HhC := Lib.hid hC; clear hC
            have Hhr2 := Lib.hid hr2; clear hr2
            go_wp2_with (first | (go_at_call 68; (with_reducible refine (l1In_any _ _ _ _ _ HhA.out).mono ?_); rintro e w' ⟨rfl, rfl⟩) | (go_at_call 91; (with_reducible refine (l8Set_any n.firsts _ _ _ ⟨hs0, hs1⟩ G2'.out _ HhC.out).mono ?_); rintro e w2 ⟨rfl, hb2⟩; have Hb2 := Lib.hid hb2; clear hb2))
            go_ret
            exact ⟨by rw [← Hhr2.out]; rfl, (HhS.out.call Hb2.out).bel⟩
          · rw [hC] at hr2
            have HhC := Lib.hid hC; clear hC
            cases hD : stOk n.ends n.states
            all_goals
              rw [hD] at hr2
              have HhD := Lib.hid hD; clear hD
              have Hhr2 := Lib.hid hr2; clear hr2
              go_wp2_with (first
                | (go_at_call 68; (with_reducible refine (l1In_any _ _ _ _ _ HhA.out).mono ?_); rintro e w' ⟨rfl, rfl⟩)
                | (go_at_call 91; (with_reducible refine (l8Set_any n.firsts v2 _ _ ⟨hs0, hs1⟩ G2'.out _ HhC.out).mono ?_); rintro e w2 ⟨rfl, hb2⟩; have HS2 := Lib.hid (HhS.out.call hb2); have e0 := HS2.out.cell (v := .int .i64 n.states) 0 0 rfl rfl; have e3 := HS2.out.cell (v := v3) 0 3 rfl rfl; have G3'' := Lib.hid (G3'.out.below hb2); clear hb2)
                | (go_at_call 91; (with_reducible refine (l8Set_any n.ends v3 _ _ ⟨hs0, hs1⟩ G3''.out _ HhD.out).mono ?_); rintro e w3 ⟨rfl, hb3⟩; have Hb3 := Lib.hid hb3; clear hb3))
              go_ret
              exact ⟨by rw [← Hhr2.out]; rfl, (HS2.out.call Hb3.out).bel⟩
        · have hL2 : ¬ ((ms.length : Int) ≤ 400) := by omega
          rw [decide_eq_false hL] at hr2
          have Hhr2 := Lib.hid hr2; clear hr2
          go_wp2_with (go_at_call 68; (with_reducible refine (l1In_any _ _ _ _ _ HhA.out).mono ?_); rintro e w' ⟨rfl, rfl⟩)
          go_ret
          exact ⟨by rw [← Hhr2.out]; rfl, HhS.out.bel⟩
end Go.Proofs.Ytolkifpeblbfcaa
