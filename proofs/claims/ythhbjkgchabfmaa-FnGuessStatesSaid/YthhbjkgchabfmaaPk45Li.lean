/-
  The walks over the program's GuessCount, GuessStates and LearnDfa.
  Conditions: the automaton reads as such; J is the number of the guess that does not differ.
-/
import Derived.Test.YthhbjkgchabfmaaPk28Li
namespace Go.Proofs.Ythhbjkgchabfmaa
open Go.RowKit
set_option maxHeartbeats 1600000 in
theorem implGuessCount_any (d : DfaD) (J : Nat) (hJ : lastG d J) (r : Int) (hr : (if dfaOk d.next d.ends = true then (J : Int) + 1 else -1) = r) (v : Value) (w : World) (h : DfaR 0 w v d) :
    Calls Try.prog 51 #[v] w fun e w' => e = .returned (.int .i64 r) ∧ Below w.heap.size w w' := by
  have HD := Lib.hid h
  obtain ⟨v1, v2, rfl, -, -⟩ := h
  have hS := (St.start w).alloc _ rfl #[v1, v2] 26
  have HhS := Lib.hid hS; clear hS
  have HhJ := Lib.hid hJ; clear hJ
  cases hok : dfaOk d.next d.ends
  · rw [hok, if_neg (by simp)] at hr
    have Hhok := Lib.hid hok; clear hok
    have Hhr := Lib.hid hr; clear hr
    go_enter Try.func51, Try.ntmps51
    go_wp2_with fail
    refine (implDfaValid_any d _ _ (HD.out.below HhS.out.bel) _ Hhok.out).mono ?_
    rintro e w1 ⟨rfl, hb⟩
    have hS1 := HhS.out.call hb
    have HhS1 := Lib.hid hS1; clear hS1
    clear hb
    go_wp2
    go_ret
    exact ⟨ret_int Hhr.out, HhS1.out.bel⟩
  · rw [hok, if_pos rfl] at hr
    obtain ⟨hj1, hj2⟩ := HhJ.out hok
    have Hhok := Lib.hid hok; clear hok
    have Hhr := Lib.hid hr; clear hr
    have Hhj1 := Lib.hid hj1; clear hj1
    have Hhj2 := Lib.hid hj2; clear hj2
    go_enter Try.func51, Try.ntmps51
    go_wp2_with fail
    refine (implDfaValid_any d _ _ (HD.out.below HhS.out.bel) _ Hhok.out).mono ?_
    rintro e w1 ⟨rfl, hb⟩
    have hS1 := HhS.out.call hb
    have e0 := hS1.cell (v := v1) 0 0 rfl rfl
    have e1 := hS1.cell (v := v2) 0 1 rfl rfl
    have HhS1 := Lib.hid hS1; clear hS1
    clear hb
    go_wp2_with fail
    refine (learn_any d J _ _ Hhok.out Hhj1.out Hhj2.out (HD.out.below HhS1.out.bel)).mono ?_
    rintro e w2 ⟨a, c, vals, X, rfl, hG, hS2⟩
    have hS3 := HhS1.out.call hS2.bel
    have HhS3 := Lib.hid hS3; clear hS3
    clear hS2 hG e0 e1
    go_wp2
    go_ret
    exact ⟨ret_int (by rw [← Hhr.out]), HhS3.out.bel⟩
end Go.Proofs.Ythhbjkgchabfmaa
