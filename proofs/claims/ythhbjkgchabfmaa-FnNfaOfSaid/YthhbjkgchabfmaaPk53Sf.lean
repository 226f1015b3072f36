/-
  The walks over the checks of automata with choices: the program's and the reference's.
  Conditions: the arguments read as such data; the number of states handed to the check of a list is from 0 to 40.
  The walks over the program's and the reference's validity of an automaton with choices.
  Conditions: the automaton reads as such.
  The walk over the reference's check of automata with choices: NfaValid.
  Conditions: the automaton reads as such.
  The walk over the reference's automaton of sets of states: l9Dfa.
  Conditions: there are m states, at most 40; moves, first and last states lie below; the automaton reads as such.
  The walks over Determinize, of the program and of the reference.
  Conditions: the automaton reads as such.
  The walks over the draws of one automaton.
  Condition: the argument reads as bytes.
  Automata with choices that lie in the call's own blocks, as readable ones.
  No condition.
  The language of a determinized automaton, plain; the walk over the program's DfaAccepts at texts.
  Conditions: the automaton is readable.
  The walk over the reference's NfaAccepts, and over DrawNfaAccepts.
  Conditions: the automaton is readable, the word is a text of bytes.
  The walks over the program's DfaTrim and over its DfaAccepts at any text.
  Conditions: the automaton is valid and readable.
  impl.NfaOf, walked.
  Conditions: the argument reads as an automaton, and that is a valid one.
  NfaOf of the program and of the reference, for every automaton.
  Condition: the argument reads as an automaton.
  The walk over the laws' comparison of two automata with choices, where both are the same.
  Conditions: both arguments are readable.
-/
import Derived.Test.YthhbjkgchabfmaaPk17Jg
import Derived.Test.YthhbjkgchabfmaaPk34Nu
import Derived.Test.YthhbjkgchabfmaaPk38Si
namespace Go.Proofs.Ythhbjkgchabfmaa
open Go.RowKit


theorem stOk_bad {l : List Int} {n : Int} {k : Nat} (hk : k < l.length) (h : okAt l n k = false) : stOk l n = false := by
  unfold stOk
  rw [List.all_eq_false]
  exact ⟨k, List.mem_range.2 hk, by rw [h]; simp⟩

set_option maxRecDepth 100000 in
set_option maxHeartbeats 1600000 in
theorem areStates_any (xs : List Int) (v : Value) (n : Int) (w : World) (hn : 0 ≤ n ∧ n ≤ 40) (h : Ints 0 w v xs) (r : Bool) (hr : stOk xs n = r) :
    Calls Try.prog 69 #[v, .int .i64 n] w fun e w' => e = .returned (.bool r) ∧ w = w' := by
  obtain ⟨a1, c1, rfl, hc1, hm1, hr1⟩ := h.form
  obtain ⟨hn0, hn1⟩ := hn
  clear h
  have Hhr := Lib.hid hr; clear hr
  go_enter Try.func69, Try.ntmps69
  go_wp2
  go_loop [4, 9] (fun r i => ∃ k : Nat, k ≤ xs.length ∧ i = .int .i64 k ∧ (List.range k).all (okAt xs n) = true) (fun _ i => xs.length - (intOf i).toNat)
  case atStart => exact ⟨0, Nat.zero_le _, rfl, rfl⟩
  case round =>
    obtain ⟨k, hk, rfl, hall⟩ := hrel
    have Hhall := Lib.hid hall; clear hall
    by_cases hlt : k < xs.length
    · obtain ⟨b1, o1, rfl, hB1, hbl1, hcs1⟩ := hr1 (by omega)
      have hx1 := hcs1 k hlt
      obtain ⟨x, hxx⟩ : ∃ x, x = xs.getD k 0 := ⟨_, rfl⟩
      rw [← hxx] at hx1
      cases hin : inB x 0 (n - 1)
      · have Hhin := Lib.hid hin; clear hin
        have Hhxx := Lib.hid hxx; clear hxx
        clear hcs1 hr1
        go_wp2_with (go_at_call 68; refine (within_any _ _ _ _ _ Hhin.out).mono ?_; rintro e w' ⟨rfl, rfl⟩)
        go_ret
        exact ⟨by rw [← Hhr.out, stOk_bad hlt (by unfold okAt; rw [← Hhxx.out, Hhin.out]; rfl)]; rfl, rfl⟩
      · have Hhin := Lib.hid hin; clear hin
        cases k with
        | zero =>
          have Hhxx := Lib.hid hxx; clear hxx
          simp only [Nat.add_zero] at hx1
          clear hcs1 hr1
          go_wp2_with (go_at_call 68; refine (within_any _ _ _ _ _ Hhin.out).mono ?_; rintro e w' ⟨rfl, rfl⟩)
          go_round
          case rel => exact ⟨1, by omega, by go_num, range_snoc Hhall.out (by unfold okAt; rw [← Hhxx.out, Hhin.out]; rfl)⟩
          case measure => simp [intOf]; omega
        | succ j =>
          have hx0 := hcs1 j (by omega)
          obtain ⟨y, hyy⟩ : ∃ y, y = xs.getD j 0 := ⟨_, rfl⟩
          rw [← hyy] at hx0
          have Hhxx := Lib.hid hxx; clear hxx
          have Hhyy := Lib.hid hyy; clear hyy
          clear hcs1 hr1
          have hjl : (j : Int) < xs.length := by omega
          by_cases hyx : y < x
          · go_wp2_with (go_at_call 68; refine (within_any _ _ _ _ _ Hhin.out).mono ?_; rintro e w' ⟨rfl, rfl⟩)
            go_round
            case rel => exact ⟨j + 1 + 1, by omega, by go_num, range_snoc Hhall.out (by unfold okAt; rw [Nat.add_sub_cancel, ← Hhxx.out, ← Hhyy.out, Hhin.out, decide_eq_true hyx]; simp)⟩
            case measure => simp [intOf]; omega
          · go_wp2_with (go_at_call 68; refine (within_any _ _ _ _ _ Hhin.out).mono ?_; rintro e w' ⟨rfl, rfl⟩)
            go_ret
            exact ⟨by rw [← Hhr.out, stOk_bad hlt (by unfold okAt; rw [Nat.add_sub_cancel, ← Hhxx.out, ← Hhyy.out, Hhin.out, decide_eq_false (show ¬ y < x by omega)]; simp)]; rfl, rfl⟩
    · clear hr1
      obtain rfl : k = xs.length := by omega
      go_wp2
      go_ret
      exact ⟨by rw [← Hhr.out, stOk, Hhall.out]; rfl, rfl⟩


def badM (n : Int) (m : Int × Int × Int) : Bool := !mvOk n m
set_option maxRecDepth 100000 in
set_option maxHeartbeats 1600000 in
theorem nfaValid1_any (x : Int × Int × Int) (n : Int) (b : Nat) (w : World) (hn : 0 ≤ n ∧ n ≤ 40) (hb : b < w.heap.size) (hc : w.cell? ⟨b, 0, none⟩ = some (.int .i64 n)) (r : Bool) (hr : badM n x = r) :
    Calls Try.prog 71 #[.agg #[.int .i64 x.1, .int .i64 x.2.1, .int .i64 x.2.2], .pointer (some ⟨b, 0, none⟩)] w fun e w' => e = .returned (.bool r) ∧ ∃ o, w' = w.alloc o := by
  obtain ⟨x1, x2, x3⟩ := x
  obtain ⟨hn0, hn1⟩ := hn
  have Hhr := Lib.hid hr; clear hr
  cases h1 : inB x1 0 (n - 1)
  · have Hh1 := Lib.hid h1; clear h1
    go_enter Try.func71, Try.ntmps71
    go_wp2_with (go_at_call 68; (with_reducible refine (within_any _ _ _ _ _ Hh1.out).mono ?_); rintro e w' ⟨rfl, rfl⟩)
    go_ret
    exact ⟨by rw [← Hhr.out, badM, mvOk, Hh1.out]; rfl, _, rfl⟩
  · cases h2 : inB x3 0 (n - 1)
    · have Hh1 := Lib.hid h1; clear h1
      have Hh2 := Lib.hid h2; clear h2
      go_enter Try.func71, Try.ntmps71
      go_wp2_with (first | (go_at_call 68; (with_reducible refine (within_any _ _ _ _ _ Hh1.out).mono ?_); rintro e w' ⟨rfl, rfl⟩) | (go_at_call 68; (with_reducible refine (within_any _ _ _ _ _ Hh2.out).mono ?_); rintro e w' ⟨rfl, rfl⟩))
      go_ret
      exact ⟨by rw [← Hhr.out, badM, mvOk, Hh1.out, Hh2.out]; rfl, _, rfl⟩
    · cases h3 : inB x2 (-1) 2
      all_goals
        have Hh1 := Lib.hid h1; clear h1
        have Hh2 := Lib.hid h2; clear h2
        have Hh3 := Lib.hid h3; clear h3
        go_enter Try.func71, Try.ntmps71
        go_wp2_with (first | (go_at_call 68; (with_reducible refine (within_any _ _ _ _ _ Hh1.out).mono ?_); rintro e w' ⟨rfl, rfl⟩) | (go_at_call 68; (with_reducible refine (within_any _ _ _ _ _ Hh2.out).mono ?_); rintro e w' ⟨rfl, rfl⟩) | (go_at_call 68; (with_reducible refine (within_any _ _ _ _ _ Hh3.out).mono ?_); rintro e w' ⟨rfl, rfl⟩))
        go_ret
        exact ⟨by rw [← Hhr.out, badM, mvOk, Hh1.out, Hh2.out, Hh3.out]; rfl, _, rfl⟩

set_option maxRecDepth 100000 in
set_option maxHeartbeats 1600000 in
theorem indexFuncNv_any (xs : List (Int × Int × Int)) (v : Value) (n : Int) (b : Nat) (w : World) (hn : 0 ≤ n ∧ n ≤ 40) (hbb : b < w.heap.size) (hc : w.cell? ⟨b, 0, none⟩ = some (.int .i64 n)) (h1 : Moves 0 w v xs) :
    Calls Try.prog 110 #[v, .func (.func 71) #[] #[.pointer (some ⟨b, 0, none⟩)]] w fun e w' => e = .returned (.int .i64 (firstIdx (badM n) xs)) ∧ Below w.heap.size w w' := by
  obtain ⟨a1, c1, rfl, hc1, hm1, hr1⟩ := h1.form
  clear h1
  go_enter Try.func110, Try.ntmps110
  go_wp2
  go_loopw [4, 8] (fun r i wr => ∃ k : Nat, k ≤ xs.length ∧ i = .int .i64 k ∧ (xs.take k).any (badM n) = false ∧ Below w.heap.size w wr) (fun _ i _ => xs.length - (intOf i).toNat)
  case atStart => exact ⟨0, Nat.zero_le _, rfl, rfl, Below.refl _ _⟩
  case round =>
    obtain ⟨k, hk, rfl, htk, hb⟩ := hrel
    have Hhtk := Lib.hid htk; clear htk
    have hc' := (bcell hb b 0 hbb).trans hc
    have hbb' : b < wr.heap.size := Nat.lt_of_lt_of_le hbb hb.size
    have Hc' := Lib.hid hc'
    clear hc'
    by_cases hlt : k < xs.length
    · obtain ⟨b1, o1, rfl, hB1, hbl1, hcs1⟩ := hr1 (by omega)
      have hx1 := (bcell hb b1 (o1 + k * 3) hbl1).trans (hcs1 k hlt).1
      have hx2 := (bcell hb b1 (o1 + k * 3 + 1) hbl1).trans (hcs1 k hlt).2.1
      have hx3 := (bcell hb b1 (o1 + k * 3 + 2) hbl1).trans (hcs1 k hlt).2.2
      have hsz := hb.size
      obtain ⟨x, hxx⟩ : ∃ x, x = xs.getD k (0, 0, 0) := ⟨_, rfl⟩
      rw [← hxx] at hx1 hx2 hx3
      have Hhxx := Lib.hid hxx; clear hxx
      have Hhb := Lib.hid hb; clear hb
      clear hcs1 hr1
      cases hbd : badM n x
      · have Hhbd := Lib.hid hbd; clear hbd
        go_wp2_with (go_at_call 71; refine (nfaValid1_any x n b _ hn hbb' Hc'.out _ Hhbd.out).mono ?_; rintro e w' ⟨rfl, o, rfl⟩)
        go_roundw
        case rel => exact ⟨k + 1, by omega, by go_num, any_snoc (d := (0, 0, 0)) hlt Hhtk.out (by rw [← Hhxx.out]; exact Hhbd.out), Hhb.out.alloc hsz _⟩
        case measure => simp [intOf]; omega
      · have Hhbd := Lib.hid hbd; clear hbd
        go_wp2_with (go_at_call 71; refine (nfaValid1_any x n b _ hn hbb' Hc'.out _ Hhbd.out).mono ?_; rintro e w' ⟨rfl, o, rfl⟩)
        go_ret
        exact ⟨ret_int (by rw [firstIdx_hit (d := (0, 0, 0)) hlt Hhtk.out (by rw [← Hhxx.out]; exact Hhbd.out)]), Hhb.out.alloc hsz _⟩
    · clear hr1
      have Hhb := Lib.hid hb; clear hb
      go_wp2
      go_ret
      exact ⟨ret_int (by rw [firstIdx_miss (by omega) Hhtk.out]), Hhb.out⟩
set_option maxHeartbeats 800000 in
theorem containsFuncNv_any (xs : List (Int × Int × Int)) (v : Value) (n : Int) (b : Nat) (w : World) (hn : 0 ≤ n ∧ n ≤ 40) (hbb : b < w.heap.size) (hc : w.cell? ⟨b, 0, none⟩ = some (.int .i64 n)) (h1 : Moves 0 w v xs) (r : Bool) (hr : xs.any (badM n) = r) :
    Calls Try.prog 70 #[v, .func (.func 71) #[] #[.pointer (some ⟨b, 0, none⟩)]] w fun e w' => e = .returned (.bool r) ∧ Below w.heap.size w w' := by
  obtain ⟨a1, c1, hv, -⟩ := h1.form
  have H1 := Lib.hid h1
  subst hv
  clear h1
  have Hhr := Lib.hid hr; clear hr
  go_enter Try.func70, Try.ntmps70
  go_wp2_with (go_at_call 110; refine (indexFuncNv_any xs _ n b _ hn hbb hc H1.out).mono ?_; rintro e w' ⟨rfl, hb'⟩; have Hb' := Lib.hid hb'; clear hb')
  go_ret
  exact ⟨ret_bool (by rw [← Hhr.out, firstIdx_any]), Hb'.out⟩
end Go.Proofs.Ythhbjkgchabfmaa
namespace Go.Proofs.Ythhbjkgchabfmaa
open Go.RowKit

theorem moves_bad {n : Int} {ms : List (Int × Int × Int)} : ms.any (badM n) = !ms.all (mvOk n) := by
  induction ms with
  | nil => rfl
  | cons m ms ih => rw [List.any_cons, List.all_cons, ih]; simp [badM]
set_option maxRecDepth 100000 in
set_option maxHeartbeats 3200000 in
theorem implNfaValid_any (d : NfaD) (v : Value) (w : World) (h : NfaR 0 w v d) (r : Bool) (hr : nfaOk d = r) :
    Calls Try.prog 22 #[v] w fun e w' => e = .returned (.bool r) ∧ Below w.heap.size w w' := by
  obtain ⟨states, moves, firsts, ends⟩ := d
  obtain ⟨v1, v2, v3, rfl, h1, h2, h3, hb1, hb2⟩ := h
  simp only at h1 h2 h3 hb1 hb2
  unfold nfaOk at hr
  simp only at hr
  have H1 := Lib.hid h1
  have H2 := Lib.hid h2
  have H3 := Lib.hid h3
  obtain ⟨a1, c1, rfl, hc1, hm1, -⟩ := h1.form
  clear h1 h2 h3
  obtain ⟨W, hW⟩ : ∃ W, W = w.alloc (.cells #[.int .i64 states, .slice a1 moves.length c1, v2, v3] 31) := ⟨_, rfl⟩
  have hB : Below w.heap.size w W := by rw [hW]; exact (Below.refl _ _).alloc (Nat.le_refl _) _
  have x0 : Bx W w.heap.size #[.int .i64 states, .slice a1 moves.length c1, v2, v3] 31 := by rw [hW]; exact Bx.new w _ _
  have hlt := x0.lt
  have d0 := x0.cell 0
  have d1 := x0.cell 1
  have d2 := x0.cell 2
  have d3 := x0.cell 3
  simp only [List.getElem?_toArray, List.getElem?_cons_zero, List.getElem?_cons_succ] at d0 d1 d2 d3
  have HhW := Lib.hid hW; clear hW
  have HhB := Lib.hid hB; clear hB
  have Hx0 := Lib.hid x0; clear x0
  go_enter Try.func22, Try.ntmps22
  cases hA : inB states 0 40
  · rw [hA] at hr
    have HhA := Lib.hid hA; clear hA
    have Hhr := Lib.hid hr; clear hr
    go_wp2_with fail
    rw [← HhW.out]
    go_wp2_with (go_at_call 68; refine (within_any _ _ _ _ _ HhA.out).mono ?_; rintro e w' ⟨rfl, rfl⟩)
    go_ret
    exact ⟨by rw [← Hhr.out]; rfl, HhB.out⟩
  · have hin : 0 ≤ states ∧ states ≤ 40 := by simpa [inB] using hA
    obtain ⟨hs0, hs1⟩ := hin
    rw [hA] at hr
    have HhA := Lib.hid hA; clear hA
    by_cases hL : moves.length ≤ 400
    · have hL1 : decide ((moves.length : Int) > 400) = false := by simp; omega
      rw [decide_eq_true hL] at hr
      cases hC : stOk firsts states
      · rw [hC] at hr
        have HhC := Lib.hid hC; clear hC
        have Hhr := Lib.hid hr; clear hr
        go_wp2_with fail
        rw [← HhW.out]
        go_wp2_with (first | (go_at_call 68; refine (within_any _ _ _ _ _ HhA.out).mono ?_; rintro e w' ⟨rfl, rfl⟩) | (go_at_call 69; (with_reducible refine (areStates_any firsts _ _ _ ⟨hs0, hs1⟩ (H2.out.below HhB.out) _ HhC.out).mono ?_); rintro e w' ⟨rfl, rfl⟩))
        go_ret
        exact ⟨by rw [← Hhr.out]; rfl, HhB.out⟩
      · rw [hC] at hr
        have HhC := Lib.hid hC; clear hC
        cases hD : stOk ends states
        · rw [hD] at hr
          have HhD := Lib.hid hD; clear hD
          have Hhr := Lib.hid hr; clear hr
          go_wp2_with fail
          rw [← HhW.out]
          go_wp2_with (first | (go_at_call 68; refine (within_any _ _ _ _ _ HhA.out).mono ?_; rintro e w' ⟨rfl, rfl⟩) | (go_at_call 69; (with_reducible refine (areStates_any firsts v2 _ _ ⟨hs0, hs1⟩ (H2.out.below HhB.out) _ HhC.out).mono ?_); rintro e w' ⟨rfl, rfl⟩) | (go_at_call 69; (with_reducible refine (areStates_any ends v3 _ _ ⟨hs0, hs1⟩ (H3.out.below HhB.out) _ HhD.out).mono ?_); rintro e w' ⟨rfl, rfl⟩))
          go_ret
          exact ⟨by rw [← Hhr.out]; rfl, HhB.out⟩
        · rw [hD] at hr
          have HhD := Lib.hid hD; clear hD
          cases hE : moves.any (badM states)
          all_goals
            have hE' := hE
            rw [moves_bad] at hE'
            have HhE := Lib.hid hE; clear hE
            have HhE' := Lib.hid hE'; clear hE'
            have Hhr := Lib.hid hr; clear hr
            go_wp2_with fail
            rw [← HhW.out]
            go_wp2_with (first | (go_at_call 68; refine (within_any _ _ _ _ _ HhA.out).mono ?_; rintro e w' ⟨rfl, rfl⟩) | (go_at_call 69; (with_reducible refine (areStates_any firsts v2 _ _ ⟨hs0, hs1⟩ (H2.out.below HhB.out) _ HhC.out).mono ?_); rintro e w' ⟨rfl, rfl⟩) | (go_at_call 69; (with_reducible refine (areStates_any ends v3 _ _ ⟨hs0, hs1⟩ (H3.out.below HhB.out) _ HhD.out).mono ?_); rintro e w' ⟨rfl, rfl⟩) | (go_at_call 70; refine (containsFuncNv_any moves _ states w.heap.size _ ⟨hs0, hs1⟩ hlt d0 (H1.out.below HhB.out) _ HhE.out).mono ?_; rintro e w' ⟨rfl, hb'⟩; have Hb' := Lib.hid hb'; clear hb'))
            go_ret
            exact ⟨by rw [← Hhr.out]; simpa using HhE'.out, HhB.out.trans (Hb'.out.mono HhB.out.size)⟩
    · have hL1 : decide ((moves.length : Int) > 400) = true := by simp; omega
      rw [decide_eq_false hL] at hr
      have Hhr := Lib.hid hr; clear hr
      go_wp2_with fail
      rw [← HhW.out]
      go_wp2_with (go_at_call 68; refine (within_any _ _ _ _ _ HhA.out).mono ?_; rintro e w' ⟨rfl, rfl⟩)
      go_ret
      exact ⟨by rw [← Hhr.out]; rfl, HhB.out⟩
end Go.Proofs.Ythhbjkgchabfmaa
namespace Go.Proofs.Ythhbjkgchabfmaa
open Go.RowKit


end Go.Proofs.Ythhbjkgchabfmaa

namespace Go.Proofs.Ythhbjkgchabfmaa
open Go.RowKit Go.Maps

end Go.Proofs.Ythhbjkgchabfmaa
namespace Go.Proofs.Ythhbjkgchabfmaa
open Go.RowKit Go.Maps

def forty : Nat := 40
def det (n : NfaD) : Option DfaD := detK forty n

/-- An automaton and a truth value, of the call's own or to be read. -/
def RDfaB (D : DfaD) (fb : Bool) (B : Nat) (e : Ending) (w' : World) : Prop := ∃ a1 c1 a2 c2, e = .returned (.tuple #[.agg #[.slice a1 D.next.length c1, .slice a2 D.ends.length c2], .bool fb]) ∧ DfaO 29 3 4 B w'.heap.size w' (.agg #[.slice a1 D.next.length c1, .slice a2 D.ends.length c2]) D

set_option maxRecDepth 100000 in
set_option maxHeartbeats 4000000 in
theorem implDetK_any (K : Nat) (hK : K = 40) (n : NfaD) (D : DfaD) (fb : Bool) (hD : (detK K n).getD zeroD = D) (hfb : (detK K n).isSome = fb) (v : Value) (w : World) (h : NfaR 0 w v n) :
    Calls Try.prog 21 #[v] w fun e w' => RDfaB D fb w.heap.size e w' ∧ Below w.heap.size w w' := by
  have H := Lib.hid h
  obtain ⟨v1, v2, v3, rfl, g1, g2, g3, -, -⟩ := h
  have hS0 := ((St.start w).alloc _ rfl #[.int .i64 n.states, v1, v2, v3] 31).alloc (w.heap.size + 1) (by simp) #[.slice none 0 0, .slice none 0 0] 26
  cases hok : nfaOk n
  · have hn : detK K n = none := by
      unfold detK
      rw [if_neg]
      rintro ⟨h1, -⟩
      rw [hok] at h1
      cases h1
    rw [hn] at hD hfb
    subst hD
    subst hfb
    have Hhok := Lib.hid hok; clear hok
    have HhS0 := Lib.hid hS0; clear hS0
    clear g1 g2 g3
    go_enter Try.func21, Try.ntmps21
    go_wp2_with fail
    refine (implNfaValid_any n _ _ (H.out.below HhS0.out.bel) _ Hhok.out).mono ?_
    rintro e w1 ⟨rfl, hb1⟩
    have hS1 := HhS0.out.call hb1
    have f0 := hS1.fr 1 0 rfl
    have f1 := hS1.fr 1 1 rfl
    have k0 := hS1.cell (v := .slice none 0 0) 1 0 rfl rfl
    have k1 := hS1.cell (v := .slice none 0 0) 1 1 rfl rfl
    have HhS1 := Lib.hid hS1; clear hS1
    clear hb1
    go_wp2
    have hq := (HhS1.out.set 1 rfl 0 (.slice none 0 0)).set 1 rfl 1 (.slice none 0 0)
    have q0 := hq.cell (v := .slice none 0 0) 1 0 rfl rfl
    have q1 := hq.cell (v := .slice none 0 0) 1 1 rfl rfl
    refine bodyPost_ret (v := .tuple #[.agg #[.slice none 0 0, .slice none 0 0], .bool false]) (by simp [results, Try.results21, go_sem, q0, q1]) rfl ⟨?_, hq.bel⟩
    exact ⟨none, 0, none, 0, rfl, zeroD_own _ _ _ _ _⟩
  · obtain ⟨m, hm, hm40, hmv, hml, hf, hfl, he, hel⟩ := nfaOk_facts hok
    have hmv40 := mvIn_40 hmv hm40
    have hf40 : inN 40 n.firsts := fun s hs => by have := hf s hs; omega
    have he40 : inN 40 n.ends := fun s hs => by have := he s hs; omega
    have hdet := fun (w' : World) (hb : Below w.heap.size w w') => determinize_any n K hK v1 v2 v3 w' hmv40 (by omega) hf40 (by omega) he40 (g1.below hb) (g2.below hb) (g3.below hb)
    have Hhok := Lib.hid hok; clear hok
    have HhS0 := Lib.hid hS0; clear hS0
    have Hdet := Lib.hid hdet
    clear g1 g2 g3 hdet hm
    go_enter Try.func21, Try.ntmps21
    go_wp2_with fail
    refine (implNfaValid_any n _ _ (H.out.below HhS0.out.bel) _ Hhok.out).mono ?_
    rintro e w1 ⟨rfl, hb1⟩
    have hS1 := HhS0.out.call hb1
    have e0 := hS1.cell (v := .int .i64 n.states) 0 0 rfl rfl
    have e1 := hS1.cell (v := v1) 0 1 rfl rfl
    have e2 := hS1.cell (v := v2) 0 2 rfl rfl
    have e3 := hS1.cell (v := v3) 0 3 rfl rfl
    have HhS1 := Lib.hid hS1; clear hS1
    clear hb1
    go_wp2_with fail
    refine (Hdet.out _ HhS1.out.bel).mono ?_
    rintro e w2 ⟨hr, hb2⟩
    unfold RDet at hr
    by_cases hle : (metS n K).length ≤ K
    · rw [if_pos hle] at hr
      obtain ⟨an, cn, ae, ce, rfl, hown⟩ := hr
      have hn : detK K n = some (numDfa (nxS n) (enS n) (metS n K)) := by
        unfold detK
        rw [if_pos ⟨Hhok.out, hle⟩]
      rw [hn] at hD hfb
      obtain ⟨L, hL⟩ : ∃ L, L = (metS n K).length := ⟨_, rfl⟩
      have hl1 : D.next.length = L := by rw [← hD, hL]; exact numDfa_len _ _ _
      have hl2 : D.ends.length = L := by rw [← hD, hL]; simp [numDfa]
      rw [show numDfa (nxS n) (enS n) (metS n K) = D from hD] at hown
      rw [← hL] at hown
      rw [← hL]
      have hL40 : (L : Int) ≤ 40 := by omega
      have hfb' : fb = true := hfb.symm
      subst hfb'
      have hS2 := (HhS1.out.call hb2).alloc _ rfl #[.slice an L cn, .slice ae L ce] 26
      have f0 := hS2.fr 1 0 rfl
      have f1 := hS2.fr 1 1 rfl
      have k0 := hS2.cell (v := .slice none 0 0) 1 0 rfl rfl
      have k1 := hS2.cell (v := .slice none 0 0) 1 1 rfl rfl
      have d0 := hS2.cell (v := .slice an L cn) 2 0 rfl rfl
      have d1 := hS2.cell (v := .slice ae L ce) 2 1 rfl rfl
      have hDM := DMem.of hown HhS1.out.size
      have hD2 := (hDM.alloc (.cells #[.slice an L cn, .slice ae L ce] 26))
      have hb0 := hS2.box 1 rfl
      have HhS2 := Lib.hid hS2; clear hS2
      have HhD2 := Lib.hid hD2; clear hD2
      have Hhl1 := Lib.hid hl1; clear hl1
      have Hhl2 := Lib.hid hl2; clear hl2
      have Hhb0 := Lib.hid hb0; clear hb0
      clear hown hDM hb2 hL hD hfb hn
      go_wp2
      have hq := (HhS2.out.set 1 rfl 0 (.slice an L cn)).set 1 rfl 1 (.slice ae L ce)
      have q0 := hq.cell (v := .slice an L cn) 1 0 rfl rfl
      have q1 := hq.cell (v := .slice ae L ce) 1 1 rfl rfl
      refine bodyPost_ret (v := .tuple #[.agg #[.slice an L cn, .slice ae L ce], .bool true]) (by simp [results, Try.results21, go_sem, q0, q1]) rfl ⟨?_, hq.bel⟩
      have hm := (HhD2.out.set Hhb0.out 0 (.slice an L cn)).set (Hhb0.out.set 0 _) 1 (.slice ae L ce)
      refine ⟨an, cn, ae, ce, by rw [Hhl1.out, Hhl2.out], ?_⟩
      rw [Hhl1.out, Hhl2.out]
      exact ⟨_, _, rfl, hm.1, hm.2⟩
    · rw [if_neg hle] at hr
      subst hr
      have hn : detK K n = none := by
        unfold detK
        rw [if_neg]
        rintro ⟨-, h2⟩
        exact hle h2
      rw [hn] at hD hfb
      subst hD
      subst hfb
      have hS2 := (HhS1.out.call hb2).alloc _ rfl #[.slice none 0 0, .slice none 0 0] 26
      have f0 := hS2.fr 1 0 rfl
      have f1 := hS2.fr 1 1 rfl
      have k0 := hS2.cell (v := .slice none 0 0) 1 0 rfl rfl
      have k1 := hS2.cell (v := .slice none 0 0) 1 1 rfl rfl
      have d0 := hS2.cell (v := .slice none 0 0) 2 0 rfl rfl
      have d1 := hS2.cell (v := .slice none 0 0) 2 1 rfl rfl
      have HhS2 := Lib.hid hS2; clear hS2
      clear hb2
      go_wp2
      have hq := (HhS2.out.set 1 rfl 0 (.slice none 0 0)).set 1 rfl 1 (.slice none 0 0)
      have q0 := hq.cell (v := .slice none 0 0) 1 0 rfl rfl
      have q1 := hq.cell (v := .slice none 0 0) 1 1 rfl rfl
      refine bodyPost_ret (v := .tuple #[.agg #[.slice none 0 0, .slice none 0 0], .bool false]) (by simp [results, Try.results21, go_sem, q0, q1]) rfl ⟨?_, hq.bel⟩
      exact ⟨none, 0, none, 0, rfl, zeroD_own _ _ _ _ _⟩

theorem implDet_any (n : NfaD) (D : DfaD) (fb : Bool) (hD : (det n).getD zeroD = D) (hfb : (det n).isSome = fb) (v : Value) (w : World) (h : NfaR 0 w v n) :
    Calls Try.prog 21 #[v] w fun e w' => RDfaB D fb w.heap.size e w' ∧ Below w.heap.size w w' := implDetK_any forty rfl n D fb hD hfb v w h
end Go.Proofs.Ythhbjkgchabfmaa

namespace Go.Proofs.Ythhbjkgchabfmaa
open Go.RowKit

set_option maxRecDepth 100000 in
set_option maxHeartbeats 4000000 in
theorem drawNfaOfD_any (bs : List Nat) (v : Value) (w : World) (hb : Bytes 0 w v bs) (hlen : bs.length ≤ 100000000) :
    Calls Try.prog 15 #[v] w fun e w' => RDraw w e w' := by
  have hS0 := (St.start w).alloc _ rfl #[.slice none 0 0, .slice none 0 0] 26
  have Hb := Lib.hid hb
  have HhS0 := Lib.hid hS0; clear hS0
  clear hb
  go_enter Try.func15, Try.ntmps15
  go_wp2_with fail
  refine (openJ_any bs v _ (Hb.out.below HhS0.out.bel) hlen).mono ?_
  rintro e w1 ⟨vb, bs', hl', hB, rfl, hS'⟩
  obtain ⟨b, hbb⟩ : ∃ b, b = (w.alloc (.cells #[.slice none 0 0, .slice none 0 0] 26)).heap.size := ⟨_, rfl⟩
  rw [← hbb] at hS'
  rw [← hbb]
  have hB1 := hB w Hb.out
  have HB := Lib.hid hB1
  have HS1 := Lib.hid ((HhS0.out.cat hS').pick [1, 0] (by decide))
  have Hhbb := Lib.hid hbb; clear hbb
  clear hS' hB hB1
  go_wp2_with fail
  refine (l20Dfa_any bs' vb b 0 12 w w1 _ HB.out hl' (by omega) (by omega) HS1.out).mono ?_
  rintro e w2 ⟨D, pn, a1, a2, c1, c2, vs, E, hpn, hsm, rfl, hh, hS2⟩
  have HS := Lib.hid hS2
  clear hS2
  have f0 := HS.out.fr 1 0 rfl
  have k0 := HS.out.cell (v := .slice none 0 0) 1 0 rfl rfl
  have f1 := HS.out.fr 1 1 rfl
  have k1 := HS.out.cell (v := .slice none 0 0) 1 1 rfl rfl
  have HS3 := Lib.hid ((HS.out.set 1 rfl 0 (.slice a1 D.next.length c1)).set 1 rfl 1 (.slice a2 D.ends.length c2))
  have q0 := HS3.out.cell (v := .slice a1 D.next.length c1) 1 0 rfl rfl
  have q1 := HS3.out.cell (v := .slice a2 D.ends.length c2) 1 1 rfl rfl
  go_wp2
  refine bodyPost_ret (v := .agg #[.slice a1 D.next.length c1, .slice a2 D.ends.length c2]) (by simp [results, Try.results15, go_sem, q0, q1]) rfl ?_
  exact ⟨D, a1, a2, c1, c2, hsm, rfl, hh.r HS3.out 2 rfl, HS3.out.bel⟩
end Go.Proofs.Ythhbjkgchabfmaa

namespace Go.Proofs.Ythhbjkgchabfmaa
open Go.RowKit

theorem nfaR_rows {w0 w : World} {L : List Ent} {n : NfaD} {a1 a2 a3 : Option Addr} {c1 c2 c3 : Nat} (hS : St w0 w L) (i j k : Nat) {t1 t2 t3 : Nat}
    (h1 : L[i]? = some (Ent.row t1 3 (.slice a1 n.moves.length c1) n.moves.length (n.moves.flatMap moveCells))) (h2 : L[j]? = some (Ent.row t2 1 (.slice a2 n.firsts.length c2) n.firsts.length (intCells n.firsts))) (h3 : L[k]? = some (Ent.row t3 1 (.slice a3 n.ends.length c3) n.ends.length (intCells n.ends)))
    (hb1 : -9223372036854775808 ≤ n.states) (hb2 : n.states ≤ 9223372036854775807) : NfaR 0 w (.agg #[.int .i64 n.states, .slice a1 n.moves.length c1, .slice a2 n.firsts.length c2, .slice a3 n.ends.length c3]) n :=
  ⟨_, _, _, rfl, moves_of_row (hS.row i h1), ints_of_row' (hS.row j h2), ints_of_row' (hS.row k h3), hb1, hb2⟩

end Go.Proofs.Ythhbjkgchabfmaa
namespace Go.Proofs.Ythhbjkgchabfmaa
open Go.RowKit

end Go.Proofs.Ythhbjkgchabfmaa
namespace Go.Proofs.Ythhbjkgchabfmaa
open Go.RowKit

end Go.Proofs.Ythhbjkgchabfmaa

namespace Go.Proofs.Ythhbjkgchabfmaa
open Go.RowKit

/-- Rows of the call's own, as a readable automaton. -/
theorem dfaR_rows {w0 w : World} {L : List Ent} {D : DfaD} {a1 a2 : Option Addr} {c1 c2 : Nat} {vs : List Value} (hS : St w0 w L) (i j : Nat) {ts ti tb : Nat}
    (h1 : L[i]? = some (Ent.rows ts ti (.slice a1 D.next.length c1) vs (D.next.map intCells))) (h2 : L[j]? = some (Ent.row tb 1 (.slice a2 D.ends.length c2) D.ends.length (boolCells D.ends))) :
    DfaR 0 w (.agg #[.slice a1 D.next.length c1, .slice a2 D.ends.length c2]) D := by
  have hO : DfaO ts ti tb w0.heap.size w.heap.size w (.agg #[.slice a1 D.next.length c1, .slice a2 D.ends.length c2]) D := by
    refine ⟨_, _, rfl, hS.intSS i h1, ?_⟩
    exact own_of_row (hS.row j h2)
  exact hO.r.mono (Nat.zero_le _)
end Go.Proofs.Ythhbjkgchabfmaa

namespace Go.Proofs.Ythhbjkgchabfmaa
open Go.RowKit

set_option maxRecDepth 100000 in
set_option maxHeartbeats 4000000 in
theorem nfaOfI_any (d : DfaD) (v : Value) (w : World) (hd : dfaOk d.next d.ends = true) (h : DfaR 0 w v d) :
    Calls Try.prog 16 #[v] w fun e w' => RNfaS (nfaOf d) w e w' := by
  have H := Lib.hid h
  obtain ⟨v1, v2, rfl, g1, g2⟩ := h
  have hS0 := ((St.start w).alloc _ rfl #[v1, v2] 26).alloc (w.heap.size + 1) (by simp) #[.int .i64 0, .slice none 0 0, .slice none 0 0, .slice none 0 0] 31
  have e0 := hS0.cell (v := v1) 0 0 rfl rfl
  have e1 := hS0.cell (v := v2) 0 1 rfl rfl
  have hno := fun (u : World) (hu : Below w.heap.size w u) => implNfa_any d (.agg #[v1, v2]) u hd (H.out.below hu)
  obtain ⟨N, hN⟩ : ∃ N, nfaOf d = N := ⟨_, rfl⟩
  rw [hN] at hno
  rw [hN]
  have Hno := Lib.hid hno
  have Hhd := Lib.hid hd; clear hd
  have HhN := Lib.hid hN; clear hN
  have HhS0 := Lib.hid hS0; clear hS0
  clear g1 g2 hno
  go_enter Try.func16, Try.ntmps16
  go_wp2_with fail
  refine (implDfaValid_any d _ _ (H.out.below HhS0.out.bel) _ Hhd.out).mono ?_
  rintro e w1 ⟨rfl, hb1⟩
  have HS1 := Lib.hid (HhS0.out.call hb1)
  clear hb1 e0 e1
  have e0 := HS1.out.cell (v := v1) 0 0 rfl rfl
  have e1 := HS1.out.cell (v := v2) 0 1 rfl rfl
  go_wp2_with fail
  refine (Hno.out _ HS1.out.bel).mono ?_
  rintro e w2 ⟨a1, c1, a2, c2, a3, c3, rfl, hS'⟩
  have HS2 := Lib.hid (HS1.out.cat hS')
  clear hS' e0 e1
  have f0 := HS2.out.fr 1 0 rfl
  have k0 := HS2.out.cell (v := .int .i64 0) 1 0 rfl rfl
  have f1 := HS2.out.fr 1 1 rfl
  have k1 := HS2.out.cell (v := .slice none 0 0) 1 1 rfl rfl
  have f2 := HS2.out.fr 1 2 rfl
  have k2 := HS2.out.cell (v := .slice none 0 0) 1 2 rfl rfl
  have f3 := HS2.out.fr 1 3 rfl
  have k3 := HS2.out.cell (v := .slice none 0 0) 1 3 rfl rfl
  have HS3 := Lib.hid ((((HS2.out.set 1 rfl 0 (.int .i64 N.states)).set 1 rfl 1 (.slice a1 N.moves.length c1)).set 1 rfl 2 (.slice a2 N.firsts.length c2)).set 1 rfl 3 (.slice a3 N.ends.length c3))
  have q0 := HS3.out.cell (v := .int .i64 N.states) 1 0 rfl rfl
  have q1 := HS3.out.cell (v := .slice a1 N.moves.length c1) 1 1 rfl rfl
  have q2 := HS3.out.cell (v := .slice a2 N.firsts.length c2) 1 2 rfl rfl
  have q3 := HS3.out.cell (v := .slice a3 N.ends.length c3) 1 3 rfl rfl
  go_wp2
  refine bodyPost_ret (v := .agg #[.int .i64 N.states, .slice a1 N.moves.length c1, .slice a2 N.firsts.length c2, .slice a3 N.ends.length c3]) (by simp [results, Try.results16, go_sem, q0, q1, q2, q3]) rfl ?_
  exact ⟨a1, c1, a2, c2, a3, c3, rfl, HS3.out.pick [2, 3, 4] (by decide)⟩
end Go.Proofs.Ythhbjkgchabfmaa

namespace Go.Proofs.Ythhbjkgchabfmaa
open Go.RowKit

/-- The automaton with choices, or none. -/
def nfaQ (d : DfaD) : NfaD := if dfaOk d.next d.ends = true then nfaOf d else ⟨0, [], [], []⟩
set_option maxRecDepth 100000 in
set_option maxHeartbeats 4000000 in
theorem implNfaOfQ_any (d : DfaD) (N : NfaD) (hN : nfaQ d = N) (v : Value) (w : World) (h : DfaR 0 w v d) :
    Calls Try.prog 16 #[v] w fun e w' => RNfaS N w e w' := by
  cases hok : dfaOk d.next d.ends
  case true =>
    rw [nfaQ, if_pos hok] at hN
    subst hN
    exact nfaOfI_any d v w hok h
  obtain rfl : N = ⟨0, [], [], []⟩ := by rw [← hN, nfaQ, if_neg (by rw [hok]; simp)]
  have H := Lib.hid h
  obtain ⟨v1, v2, rfl, g1, g2⟩ := h
  have hS0 := ((St.start w).alloc _ rfl #[v1, v2] 26).alloc (w.heap.size + 1) (by simp) #[.int .i64 0, .slice none 0 0, .slice none 0 0, .slice none 0 0] 31
  have e0 := hS0.cell (v := v1) 0 0 rfl rfl
  have e1 := hS0.cell (v := v2) 0 1 rfl rfl
  have HhS0 := Lib.hid hS0; clear hS0
  have Hhok := Lib.hid hok; clear hok
  clear g1 g2 hN
  go_enter Try.func16, Try.ntmps16
  go_wp2_with fail
  refine (implDfaValid_any d _ _ (H.out.below HhS0.out.bel) _ Hhok.out).mono ?_
  rintro e w1 ⟨rfl, hb1⟩
  have HS1 := Lib.hid (HhS0.out.call hb1)
  clear hb1 e0 e1
  have f0 := HS1.out.fr 1 0 rfl
  have k0 := HS1.out.cell (v := .int .i64 0) 1 0 rfl rfl
  have f1 := HS1.out.fr 1 1 rfl
  have k1 := HS1.out.cell (v := .slice none 0 0) 1 1 rfl rfl
  have f2 := HS1.out.fr 1 2 rfl
  have k2 := HS1.out.cell (v := .slice none 0 0) 1 2 rfl rfl
  have f3 := HS1.out.fr 1 3 rfl
  have k3 := HS1.out.cell (v := .slice none 0 0) 1 3 rfl rfl
  have HS3 := Lib.hid ((((HS1.out.set 1 rfl 0 (.int .i64 0)).set 1 rfl 1 (.slice none 0 0)).set 1 rfl 2 (.slice none 0 0)).set 1 rfl 3 (.slice none 0 0))
  have q0 := HS3.out.cell (v := .int .i64 0) 1 0 rfl rfl
  have q1 := HS3.out.cell (v := .slice none 0 0) 1 1 rfl rfl
  have q2 := HS3.out.cell (v := .slice none 0 0) 1 2 rfl rfl
  have q3 := HS3.out.cell (v := .slice none 0 0) 1 3 rfl rfl
  go_wp2
  refine bodyPost_ret (v := .agg #[.int .i64 0, .slice none 0 0, .slice none 0 0, .slice none 0 0]) (by simp [results, Try.results16, go_sem, q0, q1, q2, q3]) rfl ?_
  exact ⟨none, 0, none, 0, none, 0, rfl, (((HS3.out.pick [] (by decide)).nilRow _ 3).nilRow _ 1).nilRow _ 1⟩
set_option maxRecDepth 100000 in
set_option maxHeartbeats 4000000 in
theorem specNfaOfQ_any (d : DfaD) (N : NfaD) (hN : nfaQ d = N) (v : Value) (w : World) (h : DfaR 0 w v d) :
    Calls Try.prog 18 #[v] w fun e w' => RNfaS N w e w' := by
  cases hok : dfaOk d.next d.ends
  case true =>
    rw [nfaQ, if_pos hok] at hN
    subst hN
    exact specNfaOf_any d v w hok h
  obtain rfl : N = ⟨0, [], [], []⟩ := by rw [← hN, nfaQ, if_neg (by rw [hok]; simp)]
  have H := Lib.hid h
  obtain ⟨v1, v2, rfl, g1, g2⟩ := h
  have hS0 := ((St.start w).alloc _ rfl #[v1, v2] 26).alloc (w.heap.size + 1) (by simp) #[.int .i64 0, .slice none 0 0, .slice none 0 0, .slice none 0 0] 31
  have e0 := hS0.cell (v := v1) 0 0 rfl rfl
  have e1 := hS0.cell (v := v2) 0 1 rfl rfl
  have HhS0 := Lib.hid hS0; clear hS0
  have Hhok := Lib.hid hok; clear hok
  clear g1 g2 hN
  go_enter Try.func18, Try.ntmps18
  go_wp2_with fail
  refine (specDfaValidD2_any d _ _ (H.out.below HhS0.out.bel) _ Hhok.out).mono ?_
  rintro e w1 ⟨rfl, hb1⟩
  have HS1 := Lib.hid (HhS0.out.call hb1)
  clear hb1 e0 e1
  have f0 := HS1.out.fr 1 0 rfl
  have k0 := HS1.out.cell (v := .int .i64 0) 1 0 rfl rfl
  have f1 := HS1.out.fr 1 1 rfl
  have k1 := HS1.out.cell (v := .slice none 0 0) 1 1 rfl rfl
  have f2 := HS1.out.fr 1 2 rfl
  have k2 := HS1.out.cell (v := .slice none 0 0) 1 2 rfl rfl
  have f3 := HS1.out.fr 1 3 rfl
  have k3 := HS1.out.cell (v := .slice none 0 0) 1 3 rfl rfl
  have HS3 := Lib.hid ((((HS1.out.set 1 rfl 0 (.int .i64 0)).set 1 rfl 1 (.slice none 0 0)).set 1 rfl 2 (.slice none 0 0)).set 1 rfl 3 (.slice none 0 0))
  have q0 := HS3.out.cell (v := .int .i64 0) 1 0 rfl rfl
  have q1 := HS3.out.cell (v := .slice none 0 0) 1 1 rfl rfl
  have q2 := HS3.out.cell (v := .slice none 0 0) 1 2 rfl rfl
  have q3 := HS3.out.cell (v := .slice none 0 0) 1 3 rfl rfl
  go_wp2
  refine bodyPost_ret (v := .agg #[.int .i64 0, .slice none 0 0, .slice none 0 0, .slice none 0 0]) (by simp [results, Try.results18, go_sem, q0, q1, q2, q3]) rfl ?_
  exact ⟨none, 0, none, 0, none, 0, rfl, (((HS3.out.pick [] (by decide)).nilRow _ 3).nilRow _ 1).nilRow _ 1⟩
end Go.Proofs.Ythhbjkgchabfmaa

namespace Go.Proofs.Ythhbjkgchabfmaa
open Go.RowKit

theorem Try.plainMove : Try.prog.underlying 68 = some (.struct (Try.prog.fieldsOf 68)) := by kernel_rfl
theorem Try.moveFields : (Try.prog.fieldsOf 68).toList.map (fun f => (f.name == "_", f.type, f.offset)) = [(false, 3, 0), (false, 3, 1), (false, 3, 2)] := by kernel_rfl
theorem Try.guardMove : Try.prog.eqGuardType Try.prog.depth 68 = false := by kernel_rfl
theorem Try.heldMove : Try.prog.stoodInHeld 68 = false := by kernel_rfl
/-- '==' between two structs of three ints. -/
theorem eqFields3 {P : Program} {ti : TypeId} {fs : List Field} (d : Nat) (x1 x2 x3 y1 y2 y3 : Int) (w : World) (hi : P.underlying ti = some (.int .i64))
    (hf : fs.map (fun f => (f.name == "_", f.type, f.offset)) = [(false, ti, 0), (false, ti, 1), (false, ti, 2)]) :
    (Op.eqFields (d + 1) #[.int .i64 x1, .int .i64 x2, .int .i64 x3] #[.int .i64 y1, .int .i64 y2, .int .i64 y3] fs).run P w = .ok (x1 == y1 && (x2 == y2 && x3 == y3)) w := by
  obtain ⟨f, g, h, rfl⟩ : ∃ f g h, fs = [f, g, h] := by
    have hl : fs.length = 3 := by simpa using congrArg List.length hf
    match fs with
    | [] => simp at hl
    | [_] => simp at hl
    | [_, _] => simp at hl
    | [f, g, h] => exact ⟨f, g, h, rfl⟩
    | _ :: _ :: _ :: _ :: _ => simp at hl
  simp only [List.map_cons, List.map_nil, List.cons.injEq, Prod.mk.injEq, and_true] at hf
  obtain ⟨⟨f1, f2, f3⟩, ⟨g1, g2, g3⟩, h1, h2, h3⟩ := hf
  have f1' : f.name ≠ "_" := by simpa using f1
  have g1' : g.name ≠ "_" := by simpa using g1
  have h1' : h.name ≠ "_" := by simpa using h1
  simp only [Op.eqFields, f1', g1', h1', f2, f3, g2, g3, h2, h3, ne_eq, not_false_eq_true, if_true]
  cases e1 : x1 == y1 <;> cases e2 : x2 == y2 <;> cases e3 : x3 == y3 <;> simp [go_sem, hi, e1, e2, e3, part, isAgg, run_underlying hi]
@[go_sem high] theorem Try.neqMove (x1 x2 x3 : Int) (w : World) : (binOp .neq 68 (.agg #[.int .i64 x1, .int .i64 x2, .int .i64 x3]) (.agg #[.int .i64 x1, .int .i64 x2, .int .i64 x3])).run Try.prog w = .ok (.bool false) w := by
  rw [run_neq_struct, show (10000 : Nat) = 9998 + 1 + 1 from rfl, run_equalIn_struct w _ _ _ _ Try.plainMove Try.heldMove, eqFields3 (ti := 3) _ _ _ _ _ _ _ _ Try.underlying3 Try.moveFields]
  simp
@[go_sem high] theorem Try.neqMoveGuard (x y : Operand) (xs ys : Array Value) (w : World) : (eqGuard .neq 68 x y (.agg xs) (.agg ys)).run Try.prog w = .ok () w := run_eqGuard_agg _ _ _ _ _ _ _ Try.guardMove

set_option maxRecDepth 100000 in
set_option maxHeartbeats 4000000 in
theorem sameNfa_any (n : NfaD) (a b : Value) (w : World) (h1 : NfaR 0 w a n) (h2 : NfaR 0 w b n) :
    Calls Try.prog 17 #[a, b] w fun e w' => e = .returned (.bool true) ∧ Below w.heap.size w w' := by
  obtain ⟨v1, v2, v3, rfl, g1, g2, g3, hs0, hs1⟩ := h1
  obtain ⟨u1, u2, u3, rfl, k1, k2, k3, -, -⟩ := h2
  obtain ⟨a1, c1, rfl, hc1, hm1, hr1⟩ := g1.form
  obtain ⟨b1, d1, rfl, hd1, hn1, hq1⟩ := k1.form
  obtain ⟨ns, hns⟩ : ∃ ns, ns = n.states := ⟨_, rfl⟩
  rw [← hns]
  have G2 := Lib.hid g2
  have G3 := Lib.hid g3
  have K2 := Lib.hid k2
  have K3 := Lib.hid k3
  have hS0 := ((St.start w).alloc _ rfl #[.int .i64 ns, .slice a1 n.moves.length c1, v2, v3] 31).alloc (w.heap.size + 1) (by simp) #[.int .i64 ns, .slice b1 n.moves.length d1, u2, u3] 31
  have e0 := hS0.cell (v := .int .i64 ns) 0 0 rfl rfl
  have e1 := hS0.cell (v := .slice a1 n.moves.length c1) 0 1 rfl rfl
  have f0 := hS0.cell (v := .int .i64 ns) 1 0 rfl rfl
  have f1 := hS0.cell (v := .slice b1 n.moves.length d1) 1 1 rfl rfl
  have hne : (ns != ns) = false := by simp
  have hne2 : ((n.moves.length : Int) != n.moves.length) = false := by simp
  have HhS0 := Lib.hid hS0; clear hS0
  have Hhns := Lib.hid hns; clear hns
  have Hhr1 := Lib.hid hr1; clear hr1
  have Hhq1 := Lib.hid hq1; clear hq1
  clear g1 g2 g3 k1 k2 k3
  go_enter Try.func17, Try.ntmps17
  go_wp2
  go_loopw [5] (fun i wr => ∃ k : Nat, i = .int .i64 k ∧ k ≤ n.moves.length ∧ St w wr [Ent.box w.heap.size #[.int .i64 ns, .slice a1 n.moves.length c1, v2, v3] 31, Ent.box (w.heap.size + 1) #[.int .i64 ns, .slice b1 n.moves.length d1, u2, u3] 31]) (fun i _ => n.moves.length - (intOf i).toNat)
  case atStart => exact ⟨0, rfl, Nat.zero_le _, HhS0.out⟩
  case round =>
    obtain ⟨k, rfl, hk, hS⟩ := hrel
    clear e0 e1 f0 f1
    by_cases hlt : k < n.moves.length
    · have hkI : (k : Int) < n.moves.length := by omega
      obtain ⟨x1, y1, rfl, -, hbl1, hcs1⟩ := Hhr1.out (by omega)
      obtain ⟨x2, y2, rfl, -, hbl2, hcs2⟩ := Hhq1.out (by omega)
      obtain ⟨p1, p2, p3⟩ := hcs1 k hlt
      obtain ⟨q1, q2, q3⟩ := hcs2 k hlt
      replace p1 := (bcell hS.bel x1 _ hbl1).trans p1
      replace p2 := (bcell hS.bel x1 _ hbl1).trans p2
      replace p3 := (bcell hS.bel x1 _ hbl1).trans p3
      replace q1 := (bcell hS.bel x2 _ hbl2).trans q1
      replace q2 := (bcell hS.bel x2 _ hbl2).trans q2
      replace q3 := (bcell hS.bel x2 _ hbl2).trans q3
      have e1 := hS.cell (v := .slice (some ⟨x1, y1, none⟩) n.moves.length c1) 0 1 rfl rfl
      have f1 := hS.cell (v := .slice (some ⟨x2, y2, none⟩) n.moves.length d1) 1 1 rfl rfl
      obtain ⟨x, hx⟩ : ∃ x, n.moves.getD k (0, 0, 0) = x := ⟨_, rfl⟩
      rw [hx] at p1 p2 p3 q1 q2 q3
      obtain ⟨f, l, t⟩ := x
      simp only at p1 p2 p3 q1 q2 q3
      have Hhx := Lib.hid hx; clear hx
      have HhS := Lib.hid hS; clear hS
      clear hcs1 hcs2
      go_wp2_with fail
      go_quiet (fail)
      go_wp2
      go_roundw
      case rel => exact ⟨k + 1, by go_num, by omega, HhS.out.drewN nq⟩
      case measure => simp [intOf]; omega
    · obtain rfl : k = n.moves.length := by omega
      have e1 := hS.cell (v := .slice a1 n.moves.length c1) 0 1 rfl rfl
      have e2 := hS.cell (v := v2) 0 2 rfl rfl
      have e3 := hS.cell (v := v3) 0 3 rfl rfl
      have f2 := hS.cell (v := u2) 1 2 rfl rfl
      have f3 := hS.cell (v := u3) 1 3 rfl rfl
      have HS := Lib.hid hS
      clear hS
      go_wp2_with fail
      refine (sameInts_any n.firsts n.firsts _ _ _ (G2.out.below HS.out.bel) (K2.out.below HS.out.bel) true (by simp)).mono ?_
      rintro e w4 ⟨rfl, hb4⟩
      have HS4 := Lib.hid (HS.out.call hb4)
      clear hb4 e2 e3 f2 f3
      have e3 := HS4.out.cell (v := v3) 0 3 rfl rfl
      have f3 := HS4.out.cell (v := u3) 1 3 rfl rfl
      go_wp2_with fail
      refine (sameInts_any n.ends n.ends _ _ _ (G3.out.below HS4.out.bel) (K3.out.below HS4.out.bel) true (by simp)).mono ?_
      rintro e w5 ⟨rfl, hb5⟩
      have HS5 := Lib.hid (HS4.out.call hb5)
      clear hb5
      go_wp2
      go_ret
      exact ⟨rfl, HS5.out.bel⟩
end Go.Proofs.Ythhbjkgchabfmaa
