/-
  The walks over TurnNfa, of the program and of the reference, and over the program's TurnWord.
  Conditions: the automaton is readable, the text is one of bytes.
-/
import Derived.Test.YtolkifpeblbfcaaTu
import Derived.Test.YtolkifpeblbfcaaTz
import Derived.Test.YtolkifpeblbfcaaWr
namespace Go.Proofs.Ytolkifpeblbfcaa
open Go.RowKit

/-- The turned automaton, if it is in order. -/
def turnL (n : NfaD) : NfaD := if nfaOk n = true then turnN n else zeN
theorem turnL_bad {n : NfaD} (h : nfaOk n = false) : turnL n = zeN := by unfold turnL; rw [h]; rfl
theorem turnL_ok {n : NfaD} (h : nfaOk n = true) : turnL n = turnN n := if_pos h

set_option maxRecDepth 100000 in
set_option maxHeartbeats 4000000 in
theorem implTurnNfa_any (n : NfaD) (v : Value) (w : World) (h : NfaR 0 w v n) :
    Calls Try.prog 54 #[v] w fun e w' => RNfaS (turnL n) w e w' := by
  have H := Lib.hid h
  obtain ⟨v1, v2, v3, rfl, g1, g2, g3, -, -⟩ := h
  have G1 := Lib.hid g1
  have G2 := Lib.hid g2
  have G3 := Lib.hid g3
  have hS0 := ((St.start w).alloc _ rfl #[.int .i64 n.states, v1, v2, v3] 46).alloc (w.heap.size + 1) (by simp) #[.int .i64 0, .slice none 0 0, .slice none 0 0, .slice none 0 0] 46
  have HhS0 := Lib.hid hS0; clear hS0
  clear g1 g2 g3
  cases hok : nfaOk n
  · rw [turnL_bad hok]
    have Hhok := Lib.hid hok; clear hok
    go_enter Try.func54, Try.ntmps54
    go_wp2_with fail
    refine (implNfaValid_any n _ _ (H.out.below HhS0.out.bel) _ Hhok.out).mono ?_
    rintro e w1 ⟨rfl, hb1⟩
    have HS1 := Lib.hid (HhS0.out.call hb1)
    clear hb1
    have k0 := HS1.out.cell (v := .int .i64 0) 1 0 rfl rfl
    have k1 := HS1.out.cell (v := .slice none 0 0) 1 1 rfl rfl
    have k2 := HS1.out.cell (v := .slice none 0 0) 1 2 rfl rfl
    have k3 := HS1.out.cell (v := .slice none 0 0) 1 3 rfl rfl
    have f0 := HS1.out.fr 1 0 rfl
    have f1 := HS1.out.fr 1 1 rfl
    have f2 := HS1.out.fr 1 2 rfl
    have f3 := HS1.out.fr 1 3 rfl
    have HS2 := Lib.hid ((((HS1.out.set 1 rfl 0 (.int .i64 0)).set 1 rfl 1 (.slice none 0 0)).set 1 rfl 2 (.slice none 0 0)).set 1 rfl 3 (.slice none 0 0))
    have q0 := HS2.out.cell (v := .int .i64 0) 1 0 rfl rfl
    have q1 := HS2.out.cell (v := .slice none 0 0) 1 1 rfl rfl
    have q2 := HS2.out.cell (v := .slice none 0 0) 1 2 rfl rfl
    have q3 := HS2.out.cell (v := .slice none 0 0) 1 3 rfl rfl
    go_wp2
    refine bodyPost_ret (v := .agg #[.int .i64 0, .slice none 0 0, .slice none 0 0, .slice none 0 0]) (by simp [results, Try.results54, go_sem, q0, q1, q2, q3]) rfl ?_
    exact ⟨none, 0, none, 0, none, 0, rfl, (((HS2.out.pick [] (by decide)).nilRow 53 3).nilRow 3 1).nilRow 3 1⟩
  · rw [turnL_ok hok]
    obtain ⟨m, -, hm40, -, hml, -, hfl, -, hel⟩ := nfaOk_facts hok
    obtain ⟨T, hT⟩ : ∃ T, turnN n = T := ⟨_, rfl⟩
    rw [hT]
    have Htn := Lib.hid (fun (u : World) (hu : Below w.heap.size w u) => implTurn_any n v1 v2 v3 u (by omega) (by omega) (by omega) (G1.out.below hu) (G2.out.below hu) (G3.out.below hu))
    rw [hT] at Htn
    have Hhok := Lib.hid hok; clear hok
    have HhT := Lib.hid hT; clear hT
    go_enter Try.func54, Try.ntmps54
    go_wp2_with fail
    refine (implNfaValid_any n _ _ (H.out.below HhS0.out.bel) _ Hhok.out).mono ?_
    rintro e w1 ⟨rfl, hb1⟩
    have HS1 := Lib.hid (HhS0.out.call hb1)
    clear hb1
    have e0 := HS1.out.cell (v := .int .i64 n.states) 0 0 rfl rfl
    have e1 := HS1.out.cell (v := v1) 0 1 rfl rfl
    have e2 := HS1.out.cell (v := v2) 0 2 rfl rfl
    have e3 := HS1.out.cell (v := v3) 0 3 rfl rfl
    go_wp2_with fail
    refine (Htn.out _ HS1.out.bel).mono ?_
    rintro e w2 ⟨a1, c1, a2, c2, a3, c3, rfl, hS'⟩
    have HS2 := Lib.hid (HS1.out.cat hS')
    clear hS' e0 e1 e2 e3
    have k0 := HS2.out.cell (v := .int .i64 0) 1 0 rfl rfl
    have k1 := HS2.out.cell (v := .slice none 0 0) 1 1 rfl rfl
    have k2 := HS2.out.cell (v := .slice none 0 0) 1 2 rfl rfl
    have k3 := HS2.out.cell (v := .slice none 0 0) 1 3 rfl rfl
    have f0 := HS2.out.fr 1 0 rfl
    have f1 := HS2.out.fr 1 1 rfl
    have f2 := HS2.out.fr 1 2 rfl
    have f3 := HS2.out.fr 1 3 rfl
    have HS3 := Lib.hid ((((HS2.out.set 1 rfl 0 (.int .i64 T.states)).set 1 rfl 1 (.slice a1 T.moves.length c1)).set 1 rfl 2 (.slice a2 T.firsts.length c2)).set 1 rfl 3 (.slice a3 T.ends.length c3))
    have q0 := HS3.out.cell (v := .int .i64 T.states) 1 0 rfl rfl
    have q1 := HS3.out.cell (v := .slice a1 T.moves.length c1) 1 1 rfl rfl
    have q2 := HS3.out.cell (v := .slice a2 T.firsts.length c2) 1 2 rfl rfl
    have q3 := HS3.out.cell (v := .slice a3 T.ends.length c3) 1 3 rfl rfl
    go_wp2
    refine bodyPost_ret (v := .agg #[.int .i64 T.states, .slice a1 T.moves.length c1, .slice a2 T.firsts.length c2, .slice a3 T.ends.length c3]) (by simp [results, Try.results54, go_sem, q0, q1, q2, q3]) rfl ?_
    exact ⟨a1, c1, a2, c2, a3, c3, rfl, HS3.out.pick [2, 3, 4] (by decide)⟩
set_option maxRecDepth 100000 in
set_option maxHeartbeats 4000000 in
theorem specTurnNfa_any (n : NfaD) (v : Value) (w : World) (h : NfaR 0 w v n) :
    Calls Try.prog 55 #[v] w fun e w' => RNfaS (turnL n) w e w' := by
  have H := Lib.hid h
  obtain ⟨v1, v2, v3, rfl, g1, g2, g3, -, -⟩ := h
  have G1 := Lib.hid g1
  have G2 := Lib.hid g2
  have G3 := Lib.hid g3
  have hS0 := ((St.start w).alloc _ rfl #[.int .i64 n.states, v1, v2, v3] 46).alloc (w.heap.size + 1) (by simp) #[.int .i64 0, .slice none 0 0, .slice none 0 0, .slice none 0 0] 46
  have HhS0 := Lib.hid hS0; clear hS0
  clear g1 g2 g3
  cases hok : nfaOk n
  · rw [turnL_bad hok]
    have Hhok := Lib.hid hok; clear hok
    go_enter Try.func55, Try.ntmps55
    go_wp2_with fail
    refine (specNfaValid_any n _ _ (H.out.below HhS0.out.bel) _ Hhok.out).mono ?_
    rintro e w1 ⟨rfl, hb1⟩
    have HS1 := Lib.hid (HhS0.out.call hb1)
    clear hb1
    have k0 := HS1.out.cell (v := .int .i64 0) 1 0 rfl rfl
    have k1 := HS1.out.cell (v := .slice none 0 0) 1 1 rfl rfl
    have k2 := HS1.out.cell (v := .slice none 0 0) 1 2 rfl rfl
    have k3 := HS1.out.cell (v := .slice none 0 0) 1 3 rfl rfl
    have f0 := HS1.out.fr 1 0 rfl
    have f1 := HS1.out.fr 1 1 rfl
    have f2 := HS1.out.fr 1 2 rfl
    have f3 := HS1.out.fr 1 3 rfl
    have HS2 := Lib.hid ((((HS1.out.set 1 rfl 0 (.int .i64 0)).set 1 rfl 1 (.slice none 0 0)).set 1 rfl 2 (.slice none 0 0)).set 1 rfl 3 (.slice none 0 0))
    have q0 := HS2.out.cell (v := .int .i64 0) 1 0 rfl rfl
    have q1 := HS2.out.cell (v := .slice none 0 0) 1 1 rfl rfl
    have q2 := HS2.out.cell (v := .slice none 0 0) 1 2 rfl rfl
    have q3 := HS2.out.cell (v := .slice none 0 0) 1 3 rfl rfl
    go_wp2
    refine bodyPost_ret (v := .agg #[.int .i64 0, .slice none 0 0, .slice none 0 0, .slice none 0 0]) (by simp [results, Try.results55, go_sem, q0, q1, q2, q3]) rfl ?_
    exact ⟨none, 0, none, 0, none, 0, rfl, (((HS2.out.pick [] (by decide)).nilRow 53 3).nilRow 3 1).nilRow 3 1⟩
  · rw [turnL_ok hok]
    obtain ⟨m, -, hm40, -, hml, -, hfl, -, hel⟩ := nfaOk_facts hok
    obtain ⟨T, hT⟩ : ∃ T, turnN n = T := ⟨_, rfl⟩
    rw [hT]
    have Htn := Lib.hid (fun (u : World) (hu : Below w.heap.size w u) => l10Turn_any n v1 v2 v3 u (by omega) (by omega) (by omega) (G1.out.below hu) (G2.out.below hu) (G3.out.below hu))
    rw [hT] at Htn
    have Hhok := Lib.hid hok; clear hok
    have HhT := Lib.hid hT; clear hT
    go_enter Try.func55, Try.ntmps55
    go_wp2_with fail
    refine (specNfaValid_any n _ _ (H.out.below HhS0.out.bel) _ Hhok.out).mono ?_
    rintro e w1 ⟨rfl, hb1⟩
    have HS1 := Lib.hid (HhS0.out.call hb1)
    clear hb1
    have e0 := HS1.out.cell (v := .int .i64 n.states) 0 0 rfl rfl
    have e1 := HS1.out.cell (v := v1) 0 1 rfl rfl
    have e2 := HS1.out.cell (v := v2) 0 2 rfl rfl
    have e3 := HS1.out.cell (v := v3) 0 3 rfl rfl
    go_wp2_with fail
    refine (Htn.out _ HS1.out.bel).mono ?_
    rintro e w2 ⟨a1, c1, a2, c2, a3, c3, rfl, hS'⟩
    have HS2 := Lib.hid (HS1.out.cat hS')
    clear hS' e0 e1 e2 e3
    have k0 := HS2.out.cell (v := .int .i64 0) 1 0 rfl rfl
    have k1 := HS2.out.cell (v := .slice none 0 0) 1 1 rfl rfl
    have k2 := HS2.out.cell (v := .slice none 0 0) 1 2 rfl rfl
    have k3 := HS2.out.cell (v := .slice none 0 0) 1 3 rfl rfl
    have f0 := HS2.out.fr 1 0 rfl
    have f1 := HS2.out.fr 1 1 rfl
    have f2 := HS2.out.fr 1 2 rfl
    have f3 := HS2.out.fr 1 3 rfl
    have HS3 := Lib.hid ((((HS2.out.set 1 rfl 0 (.int .i64 T.states)).set 1 rfl 1 (.slice a1 T.moves.length c1)).set 1 rfl 2 (.slice a2 T.firsts.length c2)).set 1 rfl 3 (.slice a3 T.ends.length c3))
    have q0 := HS3.out.cell (v := .int .i64 T.states) 1 0 rfl rfl
    have q1 := HS3.out.cell (v := .slice a1 T.moves.length c1) 1 1 rfl rfl
    have q2 := HS3.out.cell (v := .slice a2 T.firsts.length c2) 1 2 rfl rfl
    have q3 := HS3.out.cell (v := .slice a3 T.ends.length c3) 1 3 rfl rfl
    go_wp2
    refine bodyPost_ret (v := .agg #[.int .i64 T.states, .slice a1 T.moves.length c1, .slice a2 T.firsts.length c2, .slice a3 T.ends.length c3]) (by simp [results, Try.results55, go_sem, q0, q1, q2, q3]) rfl ?_
    exact ⟨a1, c1, a2, c2, a3, c3, rfl, HS3.out.pick [2, 3, 4] (by decide)⟩
theorem cut_one (s : List Nat) (k : Nat) (hk : k < s.length) : ∀ w' : World, (Instr.slice 9 (.string (txB s)) (some (.int .i64 (k : Int))) (some (.int .i64 ((k : Int) + 1))) none).run Try.prog w' = .ok (.string (txB [s.getD k 0])) w' := fun w' => by
  have e : (txB s).extract k (k + 1) = txB [s.getD k 0] := by
    apply ByteArray.ext
    simp only [txB, ByteArray.data_extract, List.extract_toArray, List.extract_eq_take_drop]
    rw [List.drop_eq_getElem_cons (by simpa using hk), show k + 1 - k = 1 by omega]
    simp [hk]
  rw [run_slice_string w' 9 (txB s) .i64 .i64 k ((k : Int) + 1) Try.underlying9 (by omega) (by omega) (by rw [txB_size]; omega), show ((k : Int) + 1).toNat = k + 1 by omega, Int.toNat_natCast, e]
set_option maxRecDepth 100000 in
set_option maxHeartbeats 4000000 in
theorem turnWord_any (l : List Nat) (w : World) (ht : isT l) (hwd : wdOk l = true) :
    Calls Try.prog 57 #[.string (txB l)] w fun e w' => e = .returned (.string (txB l.reverse)) ∧ w = w' := by
  have hl8 := (wdOk_iff.1 hwd).2
  have hsz := txB_size l
  have Hht := Lib.hid ht; clear ht
  have Hhwd := Lib.hid hwd; clear hwd
  go_enter Try.func57, Try.ntmps57
  go_wp2_with (go_at_call 100; refine (implWordValid_any l _ Hht.out (by omega) _ Hhwd.out).mono ?_; rintro e w' ⟨rfl, rfl⟩)
  go_loopw [3, 10] (fun vo i wr => ∃ k : Nat, i = .int .i64 k ∧ vo = .string (txB (l.take k).reverse) ∧ k ≤ l.length ∧ w = wr) (fun _ i _ => l.length - (intOf i).toNat)
  case atStart => exact ⟨0, rfl, rfl, Nat.zero_le _, rfl⟩
  case round =>
    obtain ⟨k, rfl, rfl, hk, rfl⟩ := hrel
    by_cases hlt : k < l.length
    · have hkI : (k : Int) < l.length := by omega
      have hcut := cut_one l k hlt
      obtain ⟨b, hb⟩ : ∃ b, b = l.getD k 0 := ⟨_, rfl⟩
      have htk : (l.take (k + 1)).reverse = b :: (l.take k).reverse := by
        rw [List.take_succ_eq_append_getElem hlt, List.reverse_append, hb]
        simp [hlt]
      obtain ⟨R, hR⟩ : ∃ R, R = (l.take k).reverse := ⟨_, rfl⟩
      have hRl : R.length ≤ 8 := by rw [hR, List.length_reverse, List.length_take]; omega
      rw [← hb] at hcut
      rw [← hR] at htk
      rw [← hR]
      obtain ⟨hadd, hnlt⟩ := add_tx [b] (txB R) (by simp) (by rw [txB_size]; omega)
      have hcat : txB [b] ++ txB R = txB (b :: R) := by rw [txB_append]; rfl
      rw [hcat] at hadd
      have Hhcat := Lib.hid hcat; clear hcat
      have Hhb := Lib.hid hb; clear hb
      have Hhtk := Lib.hid htk; clear htk
      have HhR := Lib.hid hR; clear hR
      go_wp2
      go_roundw
      case rel => exact ⟨k + 1, by go_num, by rw [Hhtk.out], by omega, trivial⟩
      case measure => simp [intOf]; omega
    · obtain rfl : k = l.length := by omega
      rw [List.take_length]
      go_wp2
      go_ret
      exact ⟨rfl, rfl⟩
end Go.Proofs.Ytolkifpeblbfcaa
