/-
  The steps of an automaton with choices, as lists: impl.NfaStep, spec.NfaStep.
  Condition: the automaton and the list are readable.
-/
import Derived.Test.YthigcohfjoodlaaCv
import Derived.Test.YthigcohfjoodlaaTb
namespace Go.Proofs.Ythigcohfjoodlaa
open Go.RowKit

set_option maxRecDepth 100000 in
theorem isLetter_any (c : Int) (w : World) (r : Bool) (hr : inB c 0 2 = r) :
    Calls Try.prog 143 #[.int .i64 c] w fun e w' => e = .returned (.bool r) ∧ w = w' := by
  have Hhr := Lib.hid hr; clear hr
  go_enter Try.func143, Try.ntmps143
  go_wp2_with (go_at_call 118; refine (within_any _ _ _ _ _ Hhr.out).mono ?_; rintro e w' ⟨rfl, rfl⟩)
  go_ret
  exact ⟨rfl, rfl⟩

/-- The states to which a letter leads, as a list. -/
def stepL (n : NfaD) (L : List Int) (c : Int) : List Int := if nfaOk n = true ∧ stOk L n.states = true ∧ inB c 0 2 = true then members 40 (stV 40 n.moves (setV L) c) else []
theorem stepL_bad {n : NfaD} {L : List Int} {c : Int} (h : nfaOk n = false ∨ stOk L n.states = false ∨ inB c 0 2 = false) : stepL n L c = [] := by
  unfold stepL
  rw [if_neg]
  rintro ⟨h1, h2, h3⟩
  rcases h with h | h | h
  · rw [h] at h1; cases h1
  · rw [h] at h2; cases h2
  · rw [h] at h3; cases h3
theorem stepL_ok {n : NfaD} {L : List Int} {c : Int} (h1 : nfaOk n = true) (h2 : stOk L n.states = true) (h3 : inB c 0 2 = true) : stepL n L c = members 40 (stV 40 n.moves (setV L) c) := if_pos ⟨h1, h2, h3⟩
theorem stV_lt2 {m : Nat} {ms : List (Int × Int × Int)} (h : mvIn m ms) (v : Nat) (c : Int) : stV 40 ms v c < 2 ^ m :=
  clIt_lt h (foldl_inv _ (fun u => u < 2 ^ m) (fun _ _ hx hu => stMove_lt h hx hu) (Nat.two_pow_pos m)) 40
set_option maxRecDepth 100000 in
set_option maxHeartbeats 4000000 in
theorem implStep_any (n : NfaD) (L : List Int) (v vL : Value) (w : World) (h : NfaR 0 w v n) (hL : Ints 0 w vL L) (hLl : L.length ≤ 1000000) (F : List Int) (c : Int) (hF : stepL n L c = F) :
    Calls Try.prog 73 #[v, vL, .int .i64 c] w fun e w' => RL F w e w' := by
  have H := Lib.hid h
  have HL := Lib.hid hL
  obtain ⟨v1, v2, v3, rfl, g1, g2, g3, -, -⟩ := h
  have G1 := Lib.hid g1
  have hS0 := (St.start w).alloc _ rfl #[.int .i64 n.states, v1, v2, v3] 51
  cases hok : nfaOk n
  · rw [stepL_bad (.inl hok)] at hF
    subst hF
    have Hhok := Lib.hid hok; clear hok
    have HhS0 := Lib.hid hS0; clear hS0
    clear g1 g2 g3 hL
    go_enter Try.func73, Try.ntmps73
    go_wp2_with fail
    refine (implNfaValid_any n _ _ (H.out.below HhS0.out.bel) _ Hhok.out).mono ?_
    rintro e w1 ⟨rfl, hb1⟩
    have HS1 := Lib.hid (HhS0.out.call hb1)
    clear hb1
    go_wp2
    go_ret
    exact RL_nil (HS1.out.pick [] (by decide))
  · obtain ⟨m, hm, hm40, hmv, hml, -⟩ := nfaOk_facts hok
    have hmv40 := mvIn_40 hmv hm40
    have hs0 : 0 ≤ n.states := by omega
    have hs1 : n.states ≤ 40 := by omega
    cases hst : stOk L n.states
    · rw [stepL_bad (.inr (.inl hst))] at hF
      subst hF
      have Hhok := Lib.hid hok; clear hok
      have HhS0 := Lib.hid hS0; clear hS0
      have Hhst := Lib.hid hst; clear hst
      clear g1 g2 g3 hL hmv hmv40 hm
      go_enter Try.func73, Try.ntmps73
      go_wp2_with fail
      refine (implNfaValid_any n _ _ (H.out.below HhS0.out.bel) _ Hhok.out).mono ?_
      rintro e w1 ⟨rfl, hb1⟩
      have HS1 := Lib.hid (HhS0.out.call hb1)
      have e0 := HS1.out.cell (v := .int .i64 n.states) 0 0 rfl rfl
      clear hb1
      go_wp2_with fail
      refine (areStates_any L vL n.states _ (by omega) (HL.out.below HS1.out.bel) _ Hhst.out).mono ?_
      rintro e w2 ⟨rfl, rfl⟩
      go_wp2
      go_ret
      exact RL_nil (HS1.out.pick [] (by decide))
    · cases hlt : inB c 0 2
      · rw [stepL_bad (.inr (.inr hlt))] at hF
        subst hF
        have Hhok := Lib.hid hok; clear hok
        have HhS0 := Lib.hid hS0; clear hS0
        have Hhst := Lib.hid hst; clear hst
        have Hhlt := Lib.hid hlt; clear hlt
        clear g1 g2 g3 hL hmv hmv40 hm
        go_enter Try.func73, Try.ntmps73
        go_wp2_with fail
        refine (implNfaValid_any n _ _ (H.out.below HhS0.out.bel) _ Hhok.out).mono ?_
        rintro e w1 ⟨rfl, hb1⟩
        have HS1 := Lib.hid (HhS0.out.call hb1)
        have e0 := HS1.out.cell (v := .int .i64 n.states) 0 0 rfl rfl
        clear hb1
        go_wp2_with fail
        refine (areStates_any L vL n.states _ (by omega) (HL.out.below HS1.out.bel) _ Hhst.out).mono ?_
        rintro e w2 ⟨rfl, rfl⟩
        go_wp2_with (go_at_call 143; refine (isLetter_any _ _ _ Hhlt.out).mono ?_; rintro e w' ⟨rfl, rfl⟩)
        go_ret
        exact RL_nil (HS1.out.pick [] (by decide))
      · rw [stepL_ok hok hst hlt] at hF
        have hin : inN 40 L := fun s hs => by rw [hm] at hst; have := (stOk_facts hst).1 s hs; omega
        have hsv := setV_lt hin
        obtain ⟨X, hX⟩ : ∃ X, X = setV L := ⟨_, rfl⟩
        have hcl : stV 40 n.moves (setV L) c < 2 ^ 40 := stV_lt hmv40 _ c
        rw [← hX] at hsv hcl
        have Hhok := Lib.hid hok; clear hok
        have HhS0 := Lib.hid hS0; clear hS0
        have Hhst := Lib.hid hst; clear hst
        have Hhlt := Lib.hid hlt; clear hlt
        have Hhin := Lib.hid hin; clear hin
        have HhX := Lib.hid hX; clear hX
        have HhF := Lib.hid hF; clear hF
        have Hhsv := Lib.hid hsv; clear hsv
        have Hhcl := Lib.hid hcl; clear hcl
        have Hhmv40 := Lib.hid hmv40; clear hmv40
        clear g1 g2 g3 hL hmv hm
        go_enter Try.func73, Try.ntmps73
        go_wp2_with fail
        refine (implNfaValid_any n _ _ (H.out.below HhS0.out.bel) _ Hhok.out).mono ?_
        rintro e w1 ⟨rfl, hb1⟩
        have HS1 := Lib.hid (HhS0.out.call hb1)
        have e0 := HS1.out.cell (v := .int .i64 n.states) 0 0 rfl rfl
        clear hb1
        go_wp2_with fail
        refine (areStates_any L vL n.states _ (by omega) (HL.out.below HS1.out.bel) _ Hhst.out).mono ?_
        rintro e w2 ⟨rfl, rfl⟩
        have e1 := HS1.out.cell (v := v1) 0 1 rfl rfl
        have e2 := HS1.out.cell (v := v2) 0 2 rfl rfl
        have e3 := HS1.out.cell (v := v3) 0 3 rfl rfl
        have HL1 := Lib.hid (HL.out.below HS1.out.bel)
        have HM1 := Lib.hid (G1.out.below HS1.out.bel)
        have Hk : Hid (∀ w' : World, Below w1.drew.heap.size w1.drew w' → w'.cell? ⟨w.heap.size, 0, none⟩ = some (.int .i64 n.states) ∧ w'.cell? ⟨w.heap.size, 1, none⟩ = some v1 ∧ w'.cell? ⟨w.heap.size, 2, none⟩ = some v2 ∧ w'.cell? ⟨w.heap.size, 3, none⟩ = some v3) := Lib.hid fun w' hb => ⟨(HS1.out.drew.call hb).cell (v := .int .i64 n.states) 0 0 rfl rfl, (HS1.out.drew.call hb).cell (v := v1) 0 1 rfl rfl, (HS1.out.drew.call hb).cell (v := v2) 0 2 rfl rfl, (HS1.out.drew.call hb).cell (v := v3) 0 3 rfl rfl⟩
        go_wp2_with (go_at_call 143; refine (isLetter_any _ _ _ Hhlt.out).mono ?_; rintro e w' ⟨rfl, rfl⟩)
        go_region_held3 (fun w' => w'.cell? ⟨w.heap.size, 0, none⟩ = some (.int .i64 n.states) ∧ w'.cell? ⟨w.heap.size, 1, none⟩ = some v1 ∧ w'.cell? ⟨w.heap.size, 2, none⟩ = some v2 ∧ w'.cell? ⟨w.heap.size, 3, none⟩ = some v3)
          (first | go_keep | exact Hk.out _ hq0 | exact Hk.out _ hq1 | exact Hk.out _ hq2)
          (first
            | (go_at_call 142; (with_reducible refine (setOf_any L _ _ Hhin.out hLl (HL1.out.below (Below.refl _ _).drew)).mono ?_); rintro e u0 ⟨rfl, hq0⟩; rw [← HhX.out])
            | (go_at_call 144; (with_reducible refine (nfaStep_any n X c v1 v2 v3 _ Hhmv40.out (by omega) Hhsv.out ((HM1.out.below (Below.refl _ _).drew).below hq0)).mono ?_); rintro e u1 ⟨rfl, hr1⟩; have hq1 := hq0.trans (hr1.mono hq0.size))
            | (go_at_call 136; (with_reducible refine (setList_any _ Hhcl.out _).mono ?_); rintro e u2 ⟨⟨a9, c9, rfl, hr9⟩, hr2⟩; have hq2 := hq1.trans (hr2.mono hq1.size)))
        have HSf := Lib.hid ((((HS1.out.drew.call hq1).made hr2 hr9.1).pick [1] (by decide)))
        clear hq0 hq1 hq2 hr1 hr2 hr9
        go_wp2
        go_ret
        rw [← HhF.out, ← HhX.out]
        exact ⟨a9, c9, rfl, HSf.out⟩
end Go.Proofs.Ythigcohfjoodlaa
