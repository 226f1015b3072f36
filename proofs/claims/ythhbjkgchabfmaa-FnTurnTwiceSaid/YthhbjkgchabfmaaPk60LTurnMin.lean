/-
  The walk over the program's TurnTwice.
  Condition: the automaton reads as such.
  The walk over the reference's TurnTwice.
  Condition: the automaton reads as such.
  The walks over the draws of one automaton.
  Condition: the argument reads as bytes.
  The walk over the law FnTurnTwice.
  Condition: the argument reads as bytes.
-/
import Derived.Test.YthhbjkgchabfmaaPk17Jg
import Derived.Test.YthhbjkgchabfmaaPk22Sd
import Derived.Test.YthhbjkgchabfmaaPk30Jv
import Derived.Test.YthhbjkgchabfmaaPk46Nu
import Derived.Test.YthhbjkgchabfmaaPk58Dm
import Derived.Test.YthhbjkgchabfmaaPk59Tu
namespace Go.Proofs.Ythhbjkgchabfmaa
open Go.RowKit

def RTtr (D : DfaD) (fb : Bool) (e : Ending) (w' : World) : Prop := ∃ a1 c1 a2 c2, e = .returned (.tuple #[.agg #[.slice a1 D.next.length c1, .slice a2 D.ends.length c2], .bool fb]) ∧ DfaR 0 w' (.agg #[.slice a1 D.next.length c1, .slice a2 D.ends.length c2]) D

end Go.Proofs.Ythhbjkgchabfmaa

namespace Go.Proofs.Ythhbjkgchabfmaa
open Go.RowKit

theorem dfaR_lens {B : Nat} {w : World} {a1 a2 : Option Addr} {l1 c1 l2 c2 : Nat} {D : DfaD} (h : DfaR B w (.agg #[.slice a1 l1 c1, .slice a2 l2 c2]) D) : l1 = D.next.length ∧ l2 = D.ends.length := by
  obtain ⟨q1, q2, hq, hd1, hd2⟩ := h
  simp only [Value.agg.injEq] at hq
  have e1 := congrArg (fun (l : Array Value) => l[0]?) hq
  have e2 := congrArg (fun (l : Array Value) => l[1]?) hq
  simp at e1 e2
  subst e1
  subst e2
  obtain ⟨_, _, h1, -⟩ := hd1.form
  obtain ⟨_, _, h2, -⟩ := hd2.form
  simp only [Value.slice.injEq] at h1 h2
  exact ⟨h1.2.1, h2.2.1⟩
/-- What the reference's l9Dfa says of an automaton turned round. -/
theorem l9Turn_any (K : Nat) (hK : K = 40) (E : DfaD) (v1 v2 v3 : Value) (w : World) (hE : dfaOk E.next E.ends = true) (h1 : Moves 0 w v1 (turnN (nfaOf E)).moves) (h2 : Ints 0 w v2 (turnN (nfaOf E)).firsts) (h3 : Ints 0 w v3 (turnN (nfaOf E)).ends) :
    Calls Try.prog 75 #[.agg #[.int .i64 (turnN (nfaOf E)).states, v1, v2, v3]] w fun e w' => (match tdK K E with
      | some X => ∃ a1 c1 a2 c2, e = .returned (.tuple #[.agg #[.slice a1 X.next.length c1, .slice a2 X.ends.length c2], .bool true]) ∧ DfaR w.heap.size w' (.agg #[.slice a1 X.next.length c1, .slice a2 X.ends.length c2]) X ∧ dfaOk X.next X.ends = true
      | none => e = .returned (.tuple #[.agg #[.slice none 0 0, .slice none 0 0], .bool false])) ∧ Below w.heap.size w w' := by
  have hto := turnN_det (nfaOf_det hE)
  refine (l9Dfa_any E.next.length K hK (turnN (nfaOf E)).moves (turnN (nfaOf E)).firsts (turnN (nfaOf E)).ends v1 v2 v3 w hto.m40 hto.mv (by have := hto.ml; omega) hto.f (by have := hto.fl; omega) hto.e (by have := hto.el; omega) h1 h2 h3).mono ?_
  rintro e w' ⟨hr, hb⟩
  have hr : RDetS (turnN (nfaOf E)) K w.heap.size e w' := hr
  unfold RDetS at hr
  refine ⟨?_, hb⟩
  by_cases hle : (metS (turnN (nfaOf E)) K).length ≤ K
  · rw [if_pos hle] at hr
    have htd := tdK_some hle
    rw [htd]
    obtain ⟨an, ln, cn, ae, le, ce, rfl, hown⟩ := hr
    obtain ⟨rfl, rfl⟩ := dfaR_lens hown
    exact ⟨an, cn, ae, ce, rfl, hown, detQK_ok hK (n := turnN (nfaOf E)) htd⟩
  · rw [if_neg hle] at hr
    rw [tdK_none hle]
    exact hr

set_option maxRecDepth 100000 in
set_option maxHeartbeats 4000000 in
theorem specTtK_any (K : Nat) (hK : K = 40) (d D : DfaD) (fb : Bool) (hD : (ttK K d).getD zeD = D) (hfb : (ttK K d).isSome = fb) (v : Value) (w : World) (h : DfaR 0 w v d) :
    Calls Try.prog 27 #[v] w fun e w' => RTtr D fb e w' ∧ Below w.heap.size w w' := by
  have H := Lib.hid h
  obtain ⟨v1, v2, rfl, -, -⟩ := h
  have hS0 := ((St.start w).alloc _ rfl #[v1, v2] 26).alloc (w.heap.size + 1) (by simp) #[.slice none 0 0, .slice none 0 0] 26
  have hze : ∀ w' : World, DfaR 0 w' (.agg #[.slice none 0 0, .slice none 0 0]) zeD := fun w' => (zeD_own w' 0 0 0 0).r
  have Hze := Lib.hid hze
  clear hze
  cases hok : dfaOk d.next d.ends
  · have hn : ttK K d = none := by
      unfold ttK
      rw [hok]
      rfl
    rw [hn] at hD hfb
    subst hD
    subst hfb
    have Hhok := Lib.hid hok; clear hok
    have HhS0 := Lib.hid hS0; clear hS0
    go_enter Try.func27, Try.ntmps27
    go_wp2_with fail
    refine (specDfaValidD2_any d _ _ (H.out.below HhS0.out.bel) _ Hhok.out).mono ?_
    rintro e w1 ⟨rfl, hb1⟩
    have hS1 := HhS0.out.call hb1
    clear hb1
    have f0 := hS1.fr 1 0 rfl
    have f1 := hS1.fr 1 1 rfl
    have k0 := hS1.cell (v := .slice none 0 0) 1 0 rfl rfl
    have k1 := hS1.cell (v := .slice none 0 0) 1 1 rfl rfl
    have HZ := Lib.hid hS1
    clear hS1
    go_wp2
    have hq := (HZ.out.set 1 rfl 0 (.slice none 0 0)).set 1 rfl 1 (.slice none 0 0)
    have q0 := hq.cell (v := .slice none 0 0) 1 0 rfl rfl
    have q1 := hq.cell (v := .slice none 0 0) 1 1 rfl rfl
    refine bodyPost_ret (v := .tuple #[.agg #[.slice none 0 0, .slice none 0 0], .bool false]) (by simp [results, Try.results27, go_sem, q0, q1]) rfl ⟨?_, hq.bel⟩
    exact ⟨none, 0, none, 0, rfl, Hze.out _⟩
  · rw [ttK_it hok] at hD hfb
    have Hhok := Lib.hid hok; clear hok
    have HhS0 := Lib.hid hS0; clear hS0
    have HhD := Lib.hid hD; clear hD
    have Hhfb := Lib.hid hfb; clear hfb
    go_enter Try.func27, Try.ntmps27
    go_wp2_with fail
    refine (specDfaValidD2_any d _ _ (H.out.below HhS0.out.bel) _ Hhok.out).mono ?_
    rintro e w1 ⟨rfl, hb1⟩
    have hS1 := HhS0.out.call hb1
    have e0 := hS1.cell (v := v1) 0 0 rfl rfl
    have e1 := hS1.cell (v := v2) 0 1 rfl rfl
    have HhS1 := Lib.hid hS1; clear hS1
    clear hb1
    go_wp2_with fail
    refine (specNfaOf_any d _ _ Hhok.out (H.out.below HhS1.out.bel)).mono ?_
    rintro e w1a ⟨a1, c1, a2, c2, a3, c3, rfl, hS'⟩
    have hS2 := HhS1.out.cat hS'
    have HS2a := Lib.hid hS2
    clear hS' hS2
    go_wp2_with fail
    refine (l10Turn_any (nfaOf d) _ _ _ _ (by have := (nfaOf_det Hhok.out).ml; omega) (by have := (nfaOf_det Hhok.out).fl; omega) (by have := (nfaOf_det Hhok.out).el; omega) (HS2a.out.moves 2 rfl) (HS2a.out.intsR 3 rfl) (HS2a.out.intsR 4 rfl)).mono ?_
    rintro e w2a ⟨b1, d1, b2, d2, b3, d3, rfl, hS'⟩
    have hS3 := HS2a.out.cat hS'
    have HS3a := Lib.hid hS3
    clear hS' hS3
    go_wp2_with fail
    refine (l9Turn_any K hK d _ _ _ _ Hhok.out (HS3a.out.moves 5 rfl) (HS3a.out.intsR 6 rfl) (HS3a.out.intsR 7 rfl)).mono ?_
    rintro e w3a ⟨hr, hb3⟩
    clear e0 e1
    cases htd : tdK K d with
    | none =>
      rw [htd] at hr
      have hr : e = .returned (.tuple #[.agg #[.slice none 0 0, .slice none 0 0], .bool false]) := hr
      subst hr
      have hn : itK K d 2 = none := itK_none (j := 0) (by omega) rfl htd
      have hD := HhD.out
      have hfb := Hhfb.out
      rw [hn] at hD hfb
      subst hD
      subst hfb
      have hS4 := (HS3a.out.call hb3).alloc _ rfl #[.slice none 0 0, .slice none 0 0] 26
      have Hhn := Lib.hid hn; clear hn
      have Hhtd := Lib.hid htd; clear htd
      clear hb3
      have f0 := hS4.fr 1 0 rfl
      have f1 := hS4.fr 1 1 rfl
      have k0 := hS4.cell (v := .slice none 0 0) 1 0 rfl rfl
      have k1 := hS4.cell (v := .slice none 0 0) 1 1 rfl rfl
      have HZ := Lib.hid hS4
      clear hS4
      go_wp2
      have hq := (HZ.out.set 1 rfl 0 (.slice none 0 0)).set 1 rfl 1 (.slice none 0 0)
      have q0 := hq.cell (v := .slice none 0 0) 1 0 rfl rfl
      have q1 := hq.cell (v := .slice none 0 0) 1 1 rfl rfl
      refine bodyPost_ret (v := .tuple #[.agg #[.slice none 0 0, .slice none 0 0], .bool false]) (by simp [results, Try.results27, go_sem, q0, q1]) rfl ⟨?_, hq.bel⟩
      exact ⟨none, 0, none, 0, rfl, Hze.out _⟩
    | some X =>
      rw [htd] at hr
      obtain ⟨an, cn, ae, ce, rfl, hown, hXo⟩ := hr
      have hS4 := (HS3a.out.call hb3).alloc _ rfl #[.slice an X.next.length cn, .slice ae X.ends.length ce] 26
      have hRX := (hown.mono (Nat.zero_le _)).below ((Below.refl w3a.heap.size w3a).alloc (Nat.le_refl _) (.cells #[.slice an X.next.length cn, .slice ae X.ends.length ce] 26))
      have e0 := hS4.cell (v := .slice an X.next.length cn) 8 0 rfl rfl
      have e1 := hS4.cell (v := .slice ae X.ends.length ce) 8 1 rfl rfl
      have HhS4 := Lib.hid hS4; clear hS4
      have HhRX := Lib.hid hRX; clear hRX
      have HhXo := Lib.hid hXo; clear hXo
      have Hhtd := Lib.hid htd; clear htd
      clear hb3 hown
      go_wp2_with fail
      refine (specNfaOf_any X _ _ HhXo.out (HhRX.out)).mono ?_
      rintro e w1b ⟨a1, c1, a2, c2, a3, c3, rfl, hS'⟩
      have hS2 := HhS4.out.cat hS'
      have HS2b := Lib.hid hS2
      clear hS' hS2
      go_wp2_with fail
      refine (l10Turn_any (nfaOf X) _ _ _ _ (by have := (nfaOf_det HhXo.out).ml; omega) (by have := (nfaOf_det HhXo.out).fl; omega) (by have := (nfaOf_det HhXo.out).el; omega) (HS2b.out.moves 9 rfl) (HS2b.out.intsR 10 rfl) (HS2b.out.intsR 11 rfl)).mono ?_
      rintro e w2b ⟨b1, d1, b2, d2, b3, d3, rfl, hS'⟩
      have hS3 := HS2b.out.cat hS'
      have HS3b := Lib.hid hS3
      clear hS' hS3
      go_wp2_with fail
      refine (l9Turn_any K hK X _ _ _ _ HhXo.out (HS3b.out.moves 12 rfl) (HS3b.out.intsR 13 rfl) (HS3b.out.intsR 14 rfl)).mono ?_
      rintro e w3b ⟨hr, hb3⟩
      have hit : itK K d 2 = tdK K X := by
        show ((some d).bind (tdK K)).bind (tdK K) = _
        rw [Option.bind_some, Hhtd.out, Option.bind_some]
      have hD := HhD.out
      have hfb := Hhfb.out
      rw [hit] at hD hfb
      have hS5 := HS3b.out.call hb3
      have f0 := hS5.fr 1 0 rfl
      have f1 := hS5.fr 1 1 rfl
      have k0 := hS5.cell (v := .slice none 0 0) 1 0 rfl rfl
      have k1 := hS5.cell (v := .slice none 0 0) 1 1 rfl rfl
      have hB1 := (HS3b.out.boxlt 1 rfl).2
      have HhS5 := Lib.hid hS5; clear hS5
      have Hhit := Lib.hid hit; clear hit
      clear hb3 e0 e1
      cases htx : tdK K X with
      | none =>
        rw [htx] at hr hD hfb
        have hr : e = .returned (.tuple #[.agg #[.slice none 0 0, .slice none 0 0], .bool false]) := hr
        subst hr
        subst hD
        subst hfb
        have Hhtx := Lib.hid htx; clear htx
        go_wp2
        have hq := (HhS5.out.set 1 rfl 0 (.slice none 0 0)).set 1 rfl 1 (.slice none 0 0)
        have q0 := hq.cell (v := .slice none 0 0) 1 0 rfl rfl
        have q1 := hq.cell (v := .slice none 0 0) 1 1 rfl rfl
        refine bodyPost_ret (v := .tuple #[.agg #[.slice none 0 0, .slice none 0 0], .bool false]) (by simp [results, Try.results27, go_sem, q0, q1]) rfl ⟨?_, hq.bel⟩
        exact ⟨none, 0, none, 0, rfl, Hze.out _⟩
      | some Y =>
        rw [htx] at hr hD hfb
        obtain ⟨an', cn', ae', ce', rfl, hown, -⟩ := hr
        have hD : Y = D := hD
        have hfb : true = fb := hfb
        subst hD
        subst hfb
        have HO := Lib.hid hown
        have Hhtx := Lib.hid htx; clear htx
        clear hown
        go_wp2
        have hq := (HhS5.out.set 1 rfl 0 (.slice an' Y.next.length cn')).set 1 rfl 1 (.slice ae' Y.ends.length ce')
        have q0 := hq.cell (v := .slice an' Y.next.length cn') 1 0 rfl rfl
        have q1 := hq.cell (v := .slice ae' Y.ends.length ce') 1 1 rfl rfl
        refine bodyPost_ret (v := .tuple #[.agg #[.slice an' Y.next.length cn', .slice ae' Y.ends.length ce'], .bool true]) (by simp [results, Try.results27, go_sem, q0, q1]) rfl ⟨?_, hq.bel⟩
        exact ⟨an', cn', ae', ce', rfl, ((HO.out.far hB1 0 _).far hB1 1 _).mono (Nat.zero_le _)⟩

theorem specTt_any (d D : DfaD) (fb : Bool) (hD : (tt d).getD zeD = D) (hfb : (tt d).isSome = fb) (v : Value) (w : World) (h : DfaR 0 w v d) :
    Calls Try.prog 27 #[v] w fun e w' => RTtr D fb e w' ∧ Below w.heap.size w w' := specTtK_any forty' rfl d D fb hD hfb v w h
end Go.Proofs.Ythhbjkgchabfmaa

namespace Go.Proofs.Ythhbjkgchabfmaa
open Go.RowKit

set_option maxRecDepth 100000 in
set_option maxHeartbeats 4000000 in
theorem drawTurnTwiceD_any (bs : List Nat) (v : Value) (w : World) (hb : Bytes 0 w v bs) (hlen : bs.length ≤ 100000000) :
    Calls Try.prog 25 #[v] w fun e w' => RDraw w e w' := by
  have hS0 := (St.start w).alloc _ rfl #[.slice none 0 0, .slice none 0 0] 26
  have Hb := Lib.hid hb
  have HhS0 := Lib.hid hS0; clear hS0
  clear hb
  go_enter Try.func25, Try.ntmps25
  go_wp2_with fail
  refine (openJ_any bs v _ (Hb.out.below HhS0.out.bel) hlen).mono ?_
  rintro e w1 ⟨vb, bs', hl', hB, rfl, hS'⟩
  obtain ⟨b, hbb⟩ : ∃ b, b = (w.alloc (.cells #[.slice none 0 0, .slice none 0 0] 26)).heap.size := ⟨_, rfl⟩
  rw [← hbb] at hS'
  rw [← hbb]
  have hB1 := hB w Hb.out
  have HB := Lib.hid hB1
  have HS1 := Lib.hid ((HhS0.out.cat hS').pick [1, 0] (by decide))
  have Hhbb := Lib.hid hbb; clear hbb
  clear hS' hB hB1
  go_wp2_with fail
  refine (l20Dfa_any bs' vb b 0 12 w w1 _ HB.out hl' (by omega) (by omega) HS1.out).mono ?_
  rintro e w2 ⟨D, pn, a1, a2, c1, c2, vs, E, hpn, hsm, rfl, hh, hS2⟩
  have HS := Lib.hid hS2
  clear hS2
  have f0 := HS.out.fr 1 0 rfl
  have k0 := HS.out.cell (v := .slice none 0 0) 1 0 rfl rfl
  have f1 := HS.out.fr 1 1 rfl
  have k1 := HS.out.cell (v := .slice none 0 0) 1 1 rfl rfl
  have HS3 := Lib.hid ((HS.out.set 1 rfl 0 (.slice a1 D.next.length c1)).set 1 rfl 1 (.slice a2 D.ends.length c2))
  have q0 := HS3.out.cell (v := .slice a1 D.next.length c1) 1 0 rfl rfl
  have q1 := HS3.out.cell (v := .slice a2 D.ends.length c2) 1 1 rfl rfl
  go_wp2
  refine bodyPost_ret (v := .agg #[.slice a1 D.next.length c1, .slice a2 D.ends.length c2]) (by simp [results, Try.results25, go_sem, q0, q1]) rfl ?_
  exact ⟨D, a1, a2, c1, c2, hsm, rfl, hh.r HS3.out 2 rfl, HS3.out.bel⟩
end Go.Proofs.Ythhbjkgchabfmaa

namespace Go.Proofs.Ythhbjkgchabfmaa
open Go.RowKit

theorem tt_yes {d X : DfaD} (hX : (tt d).getD zeD = X) (hfb : (tt d).isSome = true) : minQ d = X := by
  cases h : tt d with
  | none => rw [h] at hfb; cases hfb
  | some x =>
    rw [h] at hX
    obtain rfl : x = X := hX
    have hd : dfaOk d.next d.ends = true := Classical.byContradiction fun hn => by
      have : ttK forty' d = none := by unfold ttK; rw [if_neg hn]
      rw [show tt d = ttK forty' d from rfl, this] at h
      cases h
    unfold minQ
    rw [if_pos hd]
    exact (tt_min (K := forty') rfl h).symm
theorem tt_no {d X : DfaD} (hX : (tt d).getD zeD = X) (hfb : (tt d).isSome = false) : X.next.length = 0 := by
  cases h : tt d with
  | none => rw [← hX, h]; rfl
  | some x => rw [h] at hfb; cases hfb
set_option maxRecDepth 100000 in
set_option maxHeartbeats 16000000 in
theorem turnMin_walk (bs : List Nat) (v : Value) (w : World) (hb : Bytes 0 w v bs) :
    Calls Try.prog 4 #[v] w fun e w' => e = .returned (.bool true) ∧ Below w.heap.size w w' := by
  have HB := Lib.hid hb
  obtain ⟨av, cv, rfl, hcv1, hcv2, -⟩ := hb.form
  clear hb
  by_cases hlen : 1048576 < bs.length
  · have hl2 : (1048576 : Int) < bs.length := by omega
    go_enter Try.func4, Try.ntmps4
    go_wp2
    go_ret
    exact ⟨rfl, Below.refl _ _⟩
  have hl2 : ¬ (1048576 : Int) < bs.length := by omega
  go_enter Try.func4, Try.ntmps4
  go_wp2_with fail
  refine (drawTurnTwiceD_any bs _ _ HB.out (by omega)).mono ?_
  rintro e w1 ⟨d, a1, a2, c1, c2, hsm, rfl, hd, hb1⟩
  have HS1 := Lib.hid (((St.start w).call hb1).alloc _ rfl #[.slice a1 d.next.length c1, .slice a2 d.ends.length c2] 26)
  have HR := Lib.hid (hd.below ((Below.refl w1.heap.size w1).alloc (Nat.le_refl _) (.cells #[.slice a1 d.next.length c1, .slice a2 d.ends.length c2] 26)))
  clear hb1 hd
  obtain ⟨X, hX⟩ : ∃ X, (tt d).getD zeD = X := ⟨_, rfl⟩
  cases hfb : (tt d).isSome
  · have hz := tt_no hX hfb
    have hz0 : ((X.next.length : Int) == 0) = true := by rw [hz]; rfl
    have Hhz := Lib.hid hz; clear hz
    have HhX := Lib.hid hX; clear hX
    have Hhfb := Lib.hid hfb; clear hfb
    have e0 := HS1.out.cell (v := .slice a1 d.next.length c1) 0 0 rfl rfl
    have e1 := HS1.out.cell (v := .slice a2 d.ends.length c2) 0 1 rfl rfl
    go_wp2_with fail
    refine (implTt_any d X _ HhX.out Hhfb.out _ _ HR.out).mono ?_
    rintro e w2 ⟨⟨x1, y1, x2, y2, rfl, hx⟩, hb⟩
    have HS2 := Lib.hid ((HS1.out.call hb).alloc _ rfl #[.slice x1 X.next.length y1, .slice x2 X.ends.length y2] 26)
    have HX := Lib.hid (((hx.r).mono (Nat.zero_le _)).below ((Below.refl w2.heap.size w2).alloc (Nat.le_refl _) (.cells #[.slice x1 X.next.length y1, .slice x2 X.ends.length y2] 26)))
    have HR2 := Lib.hid ((HR.out.below hb).below ((Below.refl w2.heap.size w2).alloc (Nat.le_refl _) (.cells #[.slice x1 X.next.length y1, .slice x2 X.ends.length y2] 26)))
    clear HR hb hx e0 e1
    have HR := HR2
    have e0 := HS2.out.cell (v := .slice a1 d.next.length c1) 0 0 rfl rfl
    have e1 := HS2.out.cell (v := .slice a2 d.ends.length c2) 0 1 rfl rfl
    go_wp2_with fail
    refine (specTt_any d X _ HhX.out Hhfb.out _ _ HR.out).mono ?_
    rintro e w3 ⟨⟨z1, u1, z2, u2, rfl, hx⟩, hb⟩
    have HS3 := Lib.hid ((HS2.out.call hb).alloc _ rfl #[.slice z1 X.next.length u1, .slice z2 X.ends.length u2] 26)
    have HY := Lib.hid (hx.below ((Below.refl w3.heap.size w3).alloc (Nat.le_refl _) (.cells #[.slice z1 X.next.length u1, .slice z2 X.ends.length u2] 26)))
    have HX3 := Lib.hid ((HX.out.below hb).below ((Below.refl w3.heap.size w3).alloc (Nat.le_refl _) (.cells #[.slice z1 X.next.length u1, .slice z2 X.ends.length u2] 26)))
    have HR3 := Lib.hid ((HR.out.below hb).below ((Below.refl w3.heap.size w3).alloc (Nat.le_refl _) (.cells #[.slice z1 X.next.length u1, .slice z2 X.ends.length u2] 26)))
    clear HR hb hx e0 e1
    have e0 := HS3.out.cell (v := .slice x1 X.next.length y1) 1 0 rfl rfl
    have e1 := HS3.out.cell (v := .slice x2 X.ends.length y2) 1 1 rfl rfl
    have f0 := HS3.out.cell (v := .slice z1 X.next.length u1) 2 0 rfl rfl
    have f1 := HS3.out.cell (v := .slice z2 X.ends.length u2) 2 1 rfl rfl
    go_wp2_with fail
    refine (sameDfa_any X _ _ _ HX3.out HY.out).mono ?_
    rintro e w4 ⟨rfl, hb⟩
    have HS4 := Lib.hid (HS3.out.call hb)
    have HX4 := Lib.hid (HX3.out.below hb)
    have HR4 := Lib.hid (HR3.out.below hb)
    clear hb e0 e1 f0 f1
    have D0 := Lib.hid (HS4.out.cell (v := .slice a1 d.next.length c1) 0 0 rfl rfl)
    have C0 := Lib.hid (HS4.out.cell (v := .slice x1 X.next.length y1) 1 0 rfl rfl)
    have D1 := Lib.hid (HS4.out.cell (v := .slice a2 d.ends.length c2) 0 1 rfl rfl)
    have C1 := Lib.hid (HS4.out.cell (v := .slice x2 X.ends.length y2) 1 1 rfl rfl)
    have HltD := Lib.hid (HS4.out.boxlt 0 rfl).2
    have HltC := Lib.hid (HS4.out.boxlt 1 rfl).2
    go_wp2
    refine wp_region_any (by kernel_rfl) ?_
    refine wpAny_invA (fun A listed a w' => ∃ (l0 l1 l2 l3 l4 l5 l6 l7 l8 l9 l10 l11 l12 l13 l14 l15 l16 l17 l18 l19 l20 : Bool) , listed = #[l0, l1, l2, l3, l4, l5, l6, l7, l8, l9, l10, l11, l12, l13, l14, l15, l16, l17, l18, l19, l20] ∧
        a = ⟨((((((((((((((A.tmps.setIfInBounds 32 (if l0 = true then .bool false else A.tmps.getD 32 undef)).setIfInBounds 33 (if l1 = true then .bool true else A.tmps.getD 33 undef)).setIfInBounds 34 (if l2 = true then .bool true else A.tmps.getD 34 undef)).setIfInBounds 35 (if l3 = true then .pointer (some ⟨w2.heap.size, 0, none⟩) else A.tmps.getD 35 undef)).setIfInBounds 36 (if l4 = true then .slice x1 X.next.length y1 else A.tmps.getD 36 undef)).setIfInBounds 37 (if l5 = true then .int .i64 (X.next.length : Int) else A.tmps.getD 37 undef)).setIfInBounds 38 (if l6 = true then .bool true else A.tmps.getD 38 undef)).setIfInBounds 39 (if l7 = true then .bool true else A.tmps.getD 39 undef)).setIfInBounds 40 (if l8 = true then .bool true else A.tmps.getD 40 undef)).setIfInBounds 41 (if l9 = true then .bool true else A.tmps.getD 41 undef)).setIfInBounds 42 (if l10 = true then .bool true else A.tmps.getD 42 undef)).setIfInBounds 43 (if l11 = true then .bool true else A.tmps.getD 43 undef)).setIfInBounds 51 (if l19 = true then .bool true else A.tmps.getD 51 undef)).setIfInBounds 2 (.bool l20)), A.defers⟩ ∧
        St w4 w' []) ?_ ?_ ?_
    · rintro listed a w' ⟨l0, l1, l2, l3, l4, l5, l6, l7, l8, l9, l10, l11, l12, l13, l14, l15, l16, l17, l18, l19, l20, rfl, rfl, hS⟩ i hi
      obtain ⟨hun, o, ho, hall⟩ := mem_ready.1 hi
      have hlt := (Array.getElem?_eq_some_iff.1 ho).1
      refine wpOp_step ho (fun K hK => ?_)
      clear hi
      have HS := Lib.hid hS
      clear hS
      simp only [List.setIfInBounds_toArray, List.set_cons_zero, List.set_cons_succ, Array.getD_eq_getD_getElem?, List.getElem?_toArray, List.getElem?_cons_zero, List.getElem?_cons_succ, Option.getD_some]
      obtain h | h | h | h | h | h | h | h | h | h | h | h | h | h | h | h | h | h | h | h | h : i = 0 ∨ i = 1 ∨ i = 2 ∨ i = 3 ∨ i = 4 ∨ i = 5 ∨ i = 6 ∨ i = 7 ∨ i = 8 ∨ i = 9 ∨ i = 10 ∨ i = 11 ∨ i = 12 ∨ i = 13 ∨ i = 14 ∨ i = 15 ∨ i = 16 ∨ i = 17 ∨ i = 18 ∨ i = 19 ∨ i = 20 := by simp at hlt; omega
      all_goals subst h
      all_goals simp only [List.getElem?_toArray, List.getElem?_cons_zero, List.getElem?_cons_succ, Option.some.injEq] at ho
      all_goals subst ho
      all_goals simp [Region.binds] at hun hall
      · subst hun
        go_simp
        exact hK _ _ ⟨true, l1, l2, l3, l4, l5, l6, l7, l8, l9, l10, l11, l12, l13, l14, l15, l16, l17, l18, l19, l20, rfl, (by simp only [↓reduceIte, List.setIfInBounds_toArray, List.set_cons_zero, List.set_cons_succ, Array.getD_eq_getD_getElem?, List.getElem?_toArray, List.getElem?_cons_zero, List.getElem?_cons_succ, Option.getD_some]), HS.out⟩
      · obtain rfl := hall
        subst hun
        go_simp
        exact hK _ _ ⟨true, true, l2, l3, l4, l5, l6, l7, l8, l9, l10, l11, l12, l13, l14, l15, l16, l17, l18, l19, l20, rfl, (by simp only [↓reduceIte, List.setIfInBounds_toArray, List.set_cons_zero, List.set_cons_succ, Array.getD_eq_getD_getElem?, List.getElem?_toArray, List.getElem?_cons_zero, List.getElem?_cons_succ, Option.getD_some]), HS.out⟩
      · obtain rfl := hall
        subst hun
        go_simp
        exact hK _ _ ⟨l0, true, true, l3, l4, l5, l6, l7, l8, l9, l10, l11, l12, l13, l14, l15, l16, l17, l18, l19, l20, rfl, (by simp only [↓reduceIte, List.setIfInBounds_toArray, List.set_cons_zero, List.set_cons_succ, Array.getD_eq_getD_getElem?, List.getElem?_toArray, List.getElem?_cons_zero, List.getElem?_cons_succ, Option.getD_some]), HS.out⟩
      · obtain rfl := hall
        subst hun
        go_simp
        exact hK _ _ ⟨l0, l1, true, true, l4, l5, l6, l7, l8, l9, l10, l11, l12, l13, l14, l15, l16, l17, l18, l19, l20, rfl, (by simp only [↓reduceIte, List.setIfInBounds_toArray, List.set_cons_zero, List.set_cons_succ, Array.getD_eq_getD_getElem?, List.getElem?_toArray, List.getElem?_cons_zero, List.getElem?_cons_succ, Option.getD_some]), HS.out⟩
      · obtain ⟨rfl, rfl⟩ := hall
        subst hun
        have e0 := (bcell HS.out.bel (w2.heap.size) 0 HltC.out).trans C0.out
        go_simp
        exact hK _ _ ⟨l0, l1, true, true, true, l5, l6, l7, l8, l9, l10, l11, l12, l13, l14, l15, l16, l17, l18, l19, l20, rfl, (by simp only [↓reduceIte, List.setIfInBounds_toArray, List.set_cons_zero, List.set_cons_succ, Array.getD_eq_getD_getElem?, List.getElem?_toArray, List.getElem?_cons_zero, List.getElem?_cons_succ, Option.getD_some]), HS.out⟩
      · obtain ⟨rfl, rfl⟩ := hall
        subst hun
        go_simp
        exact hK _ _ ⟨l0, l1, true, l3, true, true, l6, l7, l8, l9, l10, l11, l12, l13, l14, l15, l16, l17, l18, l19, l20, rfl, (by simp only [↓reduceIte, List.setIfInBounds_toArray, List.set_cons_zero, List.set_cons_succ, Array.getD_eq_getD_getElem?, List.getElem?_toArray, List.getElem?_cons_zero, List.getElem?_cons_succ, Option.getD_some]), HS.out⟩
      · obtain ⟨rfl, rfl⟩ := hall
        subst hun
        go_simp
        exact hK _ _ ⟨l0, l1, true, l3, l4, true, true, l7, l8, l9, l10, l11, l12, l13, l14, l15, l16, l17, l18, l19, l20, rfl, (by simp only [↓reduceIte, List.setIfInBounds_toArray, List.set_cons_zero, List.set_cons_succ, Array.getD_eq_getD_getElem?, List.getElem?_toArray, List.getElem?_cons_zero, List.getElem?_cons_succ, Option.getD_some]), HS.out⟩
      · obtain ⟨rfl, rfl⟩ := hall
        subst hun
        go_simp
        exact hK _ _ ⟨l0, l1, true, l3, l4, l5, true, true, l8, l9, l10, l11, l12, l13, l14, l15, l16, l17, l18, l19, l20, rfl, (by simp only [↓reduceIte, List.setIfInBounds_toArray, List.set_cons_zero, List.set_cons_succ, Array.getD_eq_getD_getElem?, List.getElem?_toArray, List.getElem?_cons_zero, List.getElem?_cons_succ, Option.getD_some]), HS.out⟩
      · obtain ⟨rfl, rfl⟩ := hall
        subst hun
        go_simp
        exact hK _ _ ⟨l0, l1, true, l3, l4, l5, l6, true, true, l9, l10, l11, l12, l13, l14, l15, l16, l17, l18, l19, l20, rfl, (by simp only [↓reduceIte, List.setIfInBounds_toArray, List.set_cons_zero, List.set_cons_succ, Array.getD_eq_getD_getElem?, List.getElem?_toArray, List.getElem?_cons_zero, List.getElem?_cons_succ, Option.getD_some]), HS.out⟩
      · obtain rfl := hall
        subst hun
        go_simp
        go_at_call 20
        refine (alive_any _).mono ?_
        rintro e u1 ⟨rfl, rfl⟩
        go_simp
        exact hK _ _ ⟨l0, l1, l2, l3, l4, l5, l6, l7, true, true, l10, l11, l12, l13, l14, l15, l16, l17, l18, l19, l20, rfl, (by simp only [↓reduceIte, List.setIfInBounds_toArray, List.set_cons_zero, List.set_cons_succ, Array.getD_eq_getD_getElem?, List.getElem?_toArray, List.getElem?_cons_zero, List.getElem?_cons_succ, Option.getD_some]), HS.out⟩
      · obtain ⟨rfl, rfl⟩ := hall
        subst hun
        go_simp
        exact hK _ _ ⟨l0, l1, l2, l3, l4, l5, l6, l7, true, true, true, l11, l12, l13, l14, l15, l16, l17, l18, l19, l20, rfl, (by simp only [↓reduceIte, List.setIfInBounds_toArray, List.set_cons_zero, List.set_cons_succ, Array.getD_eq_getD_getElem?, List.getElem?_toArray, List.getElem?_cons_zero, List.getElem?_cons_succ, Option.getD_some]), HS.out⟩
      · obtain ⟨rfl, rfl⟩ := hall
        subst hun
        go_simp
        exact hK _ _ ⟨l0, l1, l2, l3, l4, l5, l6, l7, l8, true, true, true, l12, l13, l14, l15, l16, l17, l18, l19, l20, rfl, (by simp only [↓reduceIte, List.setIfInBounds_toArray, List.set_cons_zero, List.set_cons_succ, Array.getD_eq_getD_getElem?, List.getElem?_toArray, List.getElem?_cons_zero, List.getElem?_cons_succ, Option.getD_some]), HS.out⟩
      · obtain rfl := hall
        subst hun
        go_simp
        exact hK _ _ ⟨l0, l1, l2, l3, l4, l5, l6, l7, l8, l9, l10, true, true, l13, l14, l15, l16, l17, l18, l19, l20, rfl, (by simp only [↓reduceIte, List.setIfInBounds_toArray, List.set_cons_zero, List.set_cons_succ, Array.getD_eq_getD_getElem?, List.getElem?_toArray, List.getElem?_cons_zero, List.getElem?_cons_succ, Option.getD_some]), HS.out⟩
      · obtain ⟨rfl, rfl⟩ := hall
        subst hun
        go_simp
        exact hK _ _ ⟨l0, l1, l2, l3, l4, l5, l6, l7, l8, l9, l10, true, true, true, l14, l15, l16, l17, l18, l19, l20, rfl, (by simp only [↓reduceIte, List.setIfInBounds_toArray, List.set_cons_zero, List.set_cons_succ, Array.getD_eq_getD_getElem?, List.getElem?_toArray, List.getElem?_cons_zero, List.getElem?_cons_succ, Option.getD_some]), HS.out⟩
      · obtain rfl := hall
        subst hun
        go_simp
        exact hK _ _ ⟨l0, l1, l2, l3, l4, l5, l6, l7, l8, l9, l10, l11, l12, true, true, l15, l16, l17, l18, l19, l20, rfl, (by simp only [List.setIfInBounds_toArray, List.set_cons_zero, List.set_cons_succ, Array.getD_eq_getD_getElem?, List.getElem?_toArray, List.getElem?_cons_zero, List.getElem?_cons_succ, Option.getD_some]), HS.out⟩
      · obtain rfl := hall
        subst hun
        go_simp
        exact hK _ _ ⟨l0, l1, l2, l3, l4, l5, l6, l7, l8, l9, l10, l11, l12, true, l14, true, l16, l17, l18, l19, l20, rfl, (by simp only [List.setIfInBounds_toArray, List.set_cons_zero, List.set_cons_succ, Array.getD_eq_getD_getElem?, List.getElem?_toArray, List.getElem?_cons_zero, List.getElem?_cons_succ, Option.getD_some]), HS.out⟩
      · obtain ⟨rfl, rfl⟩ := hall
        subst hun
        go_simp
        exact hK _ _ ⟨l0, l1, l2, l3, l4, l5, l6, l7, l8, l9, l10, l11, l12, true, l14, true, true, l17, l18, l19, l20, rfl, (by simp only [List.setIfInBounds_toArray, List.set_cons_zero, List.set_cons_succ, Array.getD_eq_getD_getElem?, List.getElem?_toArray, List.getElem?_cons_zero, List.getElem?_cons_succ, Option.getD_some]), HS.out⟩
      · obtain ⟨rfl, rfl, rfl⟩ := hall
        subst hun
        go_simp
        exact hK _ _ ⟨l0, l1, l2, l3, l4, l5, l6, l7, l8, l9, l10, l11, l12, true, true, l15, true, true, l18, l19, l20, rfl, (by simp only [List.setIfInBounds_toArray, List.set_cons_zero, List.set_cons_succ, Array.getD_eq_getD_getElem?, List.getElem?_toArray, List.getElem?_cons_zero, List.getElem?_cons_succ, Option.getD_some]), HS.out⟩
      · obtain ⟨rfl, rfl, rfl⟩ := hall
        subst hun
        go_simp
        exact hK _ _ ⟨l0, l1, l2, l3, l4, l5, l6, l7, l8, l9, l10, true, l12, true, l14, l15, l16, true, true, l19, l20, rfl, (by simp only [↓reduceIte, List.setIfInBounds_toArray, List.set_cons_zero, List.set_cons_succ, Array.getD_eq_getD_getElem?, List.getElem?_toArray, List.getElem?_cons_zero, List.getElem?_cons_succ, Option.getD_some]), HS.out⟩
      · obtain ⟨rfl, rfl⟩ := hall
        subst hun
        go_simp
        exact hK _ _ ⟨l0, l1, l2, l3, l4, l5, l6, l7, l8, l9, l10, true, l12, l13, l14, l15, l16, l17, true, true, l20, rfl, (by simp only [↓reduceIte, List.setIfInBounds_toArray, List.set_cons_zero, List.set_cons_succ, Array.getD_eq_getD_getElem?, List.getElem?_toArray, List.getElem?_cons_zero, List.getElem?_cons_succ, Option.getD_some]), HS.out⟩
      · obtain ⟨rfl, rfl, rfl, rfl, rfl, rfl, rfl, rfl, rfl, rfl, rfl, rfl, rfl, rfl, rfl, rfl, rfl, rfl, rfl, -, rfl, -⟩ := hall
        subst hun
        go_simp
        exact hK _ _ ⟨true, true, true, true, true, true, true, true, true, true, true, true, true, true, true, true, true, true, true, true, true, rfl, (by simp only [↓reduceIte, List.setIfInBounds_toArray, List.set_cons_zero, List.set_cons_succ]), HS.out⟩
    · rintro listed a w' ⟨l0, l1, l2, l3, l4, l5, l6, l7, l8, l9, l10, l11, l12, l13, l14, l15, l16, l17, l18, l19, l20, rfl, rfl, hS⟩ hr
      have hall := ready_nilM (by kernel_rfl) rfl hr
      obtain rfl : l0 = true := by simpa using hall 0 (by simp)
      obtain rfl : l1 = true := by simpa using hall 1 (by simp)
      obtain rfl : l2 = true := by simpa using hall 2 (by simp)
      obtain rfl : l3 = true := by simpa using hall 3 (by simp)
      obtain rfl : l4 = true := by simpa using hall 4 (by simp)
      obtain rfl : l5 = true := by simpa using hall 5 (by simp)
      obtain rfl : l6 = true := by simpa using hall 6 (by simp)
      obtain rfl : l7 = true := by simpa using hall 7 (by simp)
      obtain rfl : l8 = true := by simpa using hall 8 (by simp)
      obtain rfl : l9 = true := by simpa using hall 9 (by simp)
      obtain rfl : l10 = true := by simpa using hall 10 (by simp)
      obtain rfl : l11 = true := by simpa using hall 11 (by simp)
      obtain rfl : l12 = true := by simpa using hall 12 (by simp)
      obtain rfl : l13 = true := by simpa using hall 13 (by simp)
      obtain rfl : l14 = true := by simpa using hall 14 (by simp)
      obtain rfl : l15 = true := by simpa using hall 15 (by simp)
      obtain rfl : l16 = true := by simpa using hall 16 (by simp)
      obtain rfl : l17 = true := by simpa using hall 17 (by simp)
      obtain rfl : l18 = true := by simpa using hall 18 (by simp)
      obtain rfl : l19 = true := by simpa using hall 19 (by simp)
      obtain rfl : l20 = true := by simpa using hall 20 (by simp)
      clear hall hr 
      simp only [↓reduceIte] at hS ⊢
      simp only [List.setIfInBounds_toArray, List.set_cons_zero, List.set_cons_succ]
      have HSf := Lib.hid hS
      clear hS
      go_wp2
      go_ret
      exact ⟨rfl, HS4.out.bel.trans (HSf.out.bel.mono HS4.out.bel.size)⟩
    · refine ⟨false, false, false, false, false, false, false, false, false, false, false, false, false, false, false, false, false, false, false, false, false, rfl, (by simp only [↓reduceIte, Bool.false_eq_true, List.setIfInBounds_toArray, List.set_cons_zero, List.set_cons_succ, Array.getD_eq_getD_getElem?, List.getElem?_toArray, List.getElem?_cons_zero, List.getElem?_cons_succ, Option.getD_some]), ?_⟩
      exact (St.start w4).drew.pick [] (by decide)
  · have hM := tt_yes hX hfb
    have HhM := Lib.hid hM; clear hM
    have HhX := Lib.hid hX; clear hX
    have Hhfb := Lib.hid hfb; clear hfb
    have e0 := HS1.out.cell (v := .slice a1 d.next.length c1) 0 0 rfl rfl
    have e1 := HS1.out.cell (v := .slice a2 d.ends.length c2) 0 1 rfl rfl
    go_wp2_with fail
    refine (implTt_any d X _ HhX.out Hhfb.out _ _ HR.out).mono ?_
    rintro e w2 ⟨⟨x1, y1, x2, y2, rfl, hx⟩, hb⟩
    have HS2 := Lib.hid ((HS1.out.call hb).alloc _ rfl #[.slice x1 X.next.length y1, .slice x2 X.ends.length y2] 26)
    have HX := Lib.hid (((hx.r).mono (Nat.zero_le _)).below ((Below.refl w2.heap.size w2).alloc (Nat.le_refl _) (.cells #[.slice x1 X.next.length y1, .slice x2 X.ends.length y2] 26)))
    have HR2 := Lib.hid ((HR.out.below hb).below ((Below.refl w2.heap.size w2).alloc (Nat.le_refl _) (.cells #[.slice x1 X.next.length y1, .slice x2 X.ends.length y2] 26)))
    clear HR hb hx e0 e1
    have HR := HR2
    have e0 := HS2.out.cell (v := .slice a1 d.next.length c1) 0 0 rfl rfl
    have e1 := HS2.out.cell (v := .slice a2 d.ends.length c2) 0 1 rfl rfl
    go_wp2_with fail
    refine (specTt_any d X _ HhX.out Hhfb.out _ _ HR.out).mono ?_
    rintro e w3 ⟨⟨z1, u1, z2, u2, rfl, hx⟩, hb⟩
    have HS3 := Lib.hid ((HS2.out.call hb).alloc _ rfl #[.slice z1 X.next.length u1, .slice z2 X.ends.length u2] 26)
    have HY := Lib.hid (hx.below ((Below.refl w3.heap.size w3).alloc (Nat.le_refl _) (.cells #[.slice z1 X.next.length u1, .slice z2 X.ends.length u2] 26)))
    have HX3 := Lib.hid ((HX.out.below hb).below ((Below.refl w3.heap.size w3).alloc (Nat.le_refl _) (.cells #[.slice z1 X.next.length u1, .slice z2 X.ends.length u2] 26)))
    have HR3 := Lib.hid ((HR.out.below hb).below ((Below.refl w3.heap.size w3).alloc (Nat.le_refl _) (.cells #[.slice z1 X.next.length u1, .slice z2 X.ends.length u2] 26)))
    clear HR hb hx e0 e1
    have e0 := HS3.out.cell (v := .slice x1 X.next.length y1) 1 0 rfl rfl
    have e1 := HS3.out.cell (v := .slice x2 X.ends.length y2) 1 1 rfl rfl
    have f0 := HS3.out.cell (v := .slice z1 X.next.length u1) 2 0 rfl rfl
    have f1 := HS3.out.cell (v := .slice z2 X.ends.length u2) 2 1 rfl rfl
    go_wp2_with fail
    refine (sameDfa_any X _ _ _ HX3.out HY.out).mono ?_
    rintro e w4 ⟨rfl, hb⟩
    have HS4 := Lib.hid (HS3.out.call hb)
    have HX4 := Lib.hid (HX3.out.below hb)
    have HR4 := Lib.hid (HR3.out.below hb)
    clear hb e0 e1 f0 f1
    have D0 := Lib.hid (HS4.out.cell (v := .slice a1 d.next.length c1) 0 0 rfl rfl)
    have C0 := Lib.hid (HS4.out.cell (v := .slice x1 X.next.length y1) 1 0 rfl rfl)
    have D1 := Lib.hid (HS4.out.cell (v := .slice a2 d.ends.length c2) 0 1 rfl rfl)
    have C1 := Lib.hid (HS4.out.cell (v := .slice x2 X.ends.length y2) 1 1 rfl rfl)
    have HltD := Lib.hid (HS4.out.boxlt 0 rfl).2
    have HltC := Lib.hid (HS4.out.boxlt 1 rfl).2
    go_wp2
    refine wp_region_any (by kernel_rfl) ?_
    refine wpAny_invA (fun A listed a w' => ∃ (l0 l1 l2 l3 l4 l5 l6 l7 l8 l9 l10 l11 l12 l13 l14 l15 l16 l17 l18 l19 l20 : Bool) (ax1 : Option Addr) (cx1 : Nat) (ax2 : Option Addr) (cx2 : Nat) (vb : Nat) (vh : Nat), listed = #[l0, l1, l2, l3, l4, l5, l6, l7, l8, l9, l10, l11, l12, l13, l14, l15, l16, l17, l18, l19, l20] ∧
        a = ⟨((((((((((((((((A.tmps.setIfInBounds 32 (if l0 = true then .bool true else A.tmps.getD 32 undef)).setIfInBounds 33 (if l1 = true then .bool false else A.tmps.getD 33 undef)).setIfInBounds 34 (if l2 = true then .bool false else A.tmps.getD 34 undef)).setIfInBounds 39 (if l7 = true then .bool false else A.tmps.getD 39 undef)).setIfInBounds 40 (if l8 = true then .bool false else A.tmps.getD 40 undef)).setIfInBounds 42 (if l10 = true then .bool false else A.tmps.getD 42 undef)).setIfInBounds 43 (if l11 = true then .bool false else A.tmps.getD 43 undef)).setIfInBounds 44 (if l12 = true then .bool true else A.tmps.getD 44 undef)).setIfInBounds 45 (if l13 = true then .bool true else A.tmps.getD 45 undef)).setIfInBounds 46 (if l14 = true then .agg #[.slice x1 X.next.length y1, .slice x2 X.ends.length y2] else A.tmps.getD 46 undef)).setIfInBounds 47 (if l15 = true then .agg #[.slice a1 d.next.length c1, .slice a2 d.ends.length c2] else A.tmps.getD 47 undef)).setIfInBounds 48 (if l16 = true then .agg #[.slice ax1 X.next.length cx1, .slice ax2 X.ends.length cx2] else A.tmps.getD 48 undef)).setIfInBounds 49 (if l17 = true then .bool true else A.tmps.getD 49 undef)).setIfInBounds 50 (if l18 = true then .bool true else A.tmps.getD 50 undef)).setIfInBounds 51 (if l19 = true then .bool true else A.tmps.getD 51 undef)).setIfInBounds 2 (.bool l20)), A.defers⟩ ∧
        St w4 w' [(if l16 = true then DfaV vb vh (.slice ax1 X.next.length cx1) (.slice ax2 X.ends.length cx2) X else Ent.nil)]) ?_ ?_ ?_
    · rintro listed a w' ⟨l0, l1, l2, l3, l4, l5, l6, l7, l8, l9, l10, l11, l12, l13, l14, l15, l16, l17, l18, l19, l20, ax1, cx1, ax2, cx2, vb, vh, rfl, rfl, hS⟩ i hi
      obtain ⟨hun, o, ho, hall⟩ := mem_ready.1 hi
      have hlt := (Array.getElem?_eq_some_iff.1 ho).1
      refine wpOp_step ho (fun K hK => ?_)
      clear hi
      have HS := Lib.hid hS
      clear hS
      simp only [List.setIfInBounds_toArray, List.set_cons_zero, List.set_cons_succ, Array.getD_eq_getD_getElem?, List.getElem?_toArray, List.getElem?_cons_zero, List.getElem?_cons_succ, Option.getD_some]
      obtain h | h | h | h | h | h | h | h | h | h | h | h | h | h | h | h | h | h | h | h | h : i = 0 ∨ i = 1 ∨ i = 2 ∨ i = 3 ∨ i = 4 ∨ i = 5 ∨ i = 6 ∨ i = 7 ∨ i = 8 ∨ i = 9 ∨ i = 10 ∨ i = 11 ∨ i = 12 ∨ i = 13 ∨ i = 14 ∨ i = 15 ∨ i = 16 ∨ i = 17 ∨ i = 18 ∨ i = 19 ∨ i = 20 := by simp at hlt; omega
      all_goals subst h
      all_goals simp only [List.getElem?_toArray, List.getElem?_cons_zero, List.getElem?_cons_succ, Option.some.injEq] at ho
      all_goals subst ho
      all_goals simp [Region.binds] at hun hall
      · subst hun
        go_simp
        exact hK _ _ ⟨true, l1, l2, l3, l4, l5, l6, l7, l8, l9, l10, l11, l12, l13, l14, l15, l16, l17, l18, l19, l20, ax1, cx1, ax2, cx2, vb, vh, rfl, (by simp only [↓reduceIte, List.setIfInBounds_toArray, List.set_cons_zero, List.set_cons_succ, Array.getD_eq_getD_getElem?, List.getElem?_toArray, List.getElem?_cons_zero, List.getElem?_cons_succ, Option.getD_some]), HS.out⟩
      · obtain rfl := hall
        subst hun
        go_simp
        exact hK _ _ ⟨true, true, l2, l3, l4, l5, l6, l7, l8, l9, l10, l11, l12, l13, l14, l15, l16, l17, l18, l19, l20, ax1, cx1, ax2, cx2, vb, vh, rfl, (by simp only [↓reduceIte, List.setIfInBounds_toArray, List.set_cons_zero, List.set_cons_succ, Array.getD_eq_getD_getElem?, List.getElem?_toArray, List.getElem?_cons_zero, List.getElem?_cons_succ, Option.getD_some]), HS.out⟩
      · obtain rfl := hall
        subst hun
        go_simp
        exact hK _ _ ⟨l0, true, true, l3, l4, l5, l6, l7, l8, l9, l10, l11, l12, l13, l14, l15, l16, l17, l18, l19, l20, ax1, cx1, ax2, cx2, vb, vh, rfl, (by simp only [↓reduceIte, List.setIfInBounds_toArray, List.set_cons_zero, List.set_cons_succ, Array.getD_eq_getD_getElem?, List.getElem?_toArray, List.getElem?_cons_zero, List.getElem?_cons_succ, Option.getD_some]), HS.out⟩
      · obtain rfl := hall
        subst hun
        go_simp
        exact hK _ _ ⟨l0, l1, true, true, l4, l5, l6, l7, l8, l9, l10, l11, l12, l13, l14, l15, l16, l17, l18, l19, l20, ax1, cx1, ax2, cx2, vb, vh, rfl, (by simp only [↓reduceIte, List.setIfInBounds_toArray, List.set_cons_zero, List.set_cons_succ, Array.getD_eq_getD_getElem?, List.getElem?_toArray, List.getElem?_cons_zero, List.getElem?_cons_succ, Option.getD_some]), HS.out⟩
      · obtain ⟨rfl, rfl⟩ := hall
        subst hun
        go_simp
        exact hK _ _ ⟨l0, l1, true, true, true, l5, l6, l7, l8, l9, l10, l11, l12, l13, l14, l15, l16, l17, l18, l19, l20, ax1, cx1, ax2, cx2, vb, vh, rfl, (by simp only [↓reduceIte, List.setIfInBounds_toArray, List.set_cons_zero, List.set_cons_succ, Array.getD_eq_getD_getElem?, List.getElem?_toArray, List.getElem?_cons_zero, List.getElem?_cons_succ, Option.getD_some]), HS.out⟩
      · obtain ⟨rfl, rfl⟩ := hall
        subst hun
        go_simp
        exact hK _ _ ⟨l0, l1, true, l3, true, true, l6, l7, l8, l9, l10, l11, l12, l13, l14, l15, l16, l17, l18, l19, l20, ax1, cx1, ax2, cx2, vb, vh, rfl, (by simp only [↓reduceIte, List.setIfInBounds_toArray, List.set_cons_zero, List.set_cons_succ, Array.getD_eq_getD_getElem?, List.getElem?_toArray, List.getElem?_cons_zero, List.getElem?_cons_succ, Option.getD_some]), HS.out⟩
      · obtain ⟨rfl, rfl⟩ := hall
        subst hun
        go_simp
        exact hK _ _ ⟨l0, l1, true, l3, l4, true, true, l7, l8, l9, l10, l11, l12, l13, l14, l15, l16, l17, l18, l19, l20, ax1, cx1, ax2, cx2, vb, vh, rfl, (by simp only [↓reduceIte, List.setIfInBounds_toArray, List.set_cons_zero, List.set_cons_succ, Array.getD_eq_getD_getElem?, List.getElem?_toArray, List.getElem?_cons_zero, List.getElem?_cons_succ, Option.getD_some]), HS.out⟩
      · obtain ⟨rfl, rfl⟩ := hall
        subst hun
        go_simp
        exact hK _ _ ⟨l0, l1, true, l3, l4, l5, true, true, l8, l9, l10, l11, l12, l13, l14, l15, l16, l17, l18, l19, l20, ax1, cx1, ax2, cx2, vb, vh, rfl, (by simp only [↓reduceIte, List.setIfInBounds_toArray, List.set_cons_zero, List.set_cons_succ, Array.getD_eq_getD_getElem?, List.getElem?_toArray, List.getElem?_cons_zero, List.getElem?_cons_succ, Option.getD_some]), HS.out⟩
      · obtain ⟨rfl, rfl⟩ := hall
        subst hun
        go_simp
        exact hK _ _ ⟨l0, l1, true, l3, l4, l5, l6, true, true, l9, l10, l11, l12, l13, l14, l15, l16, l17, l18, l19, l20, ax1, cx1, ax2, cx2, vb, vh, rfl, (by simp only [↓reduceIte, List.setIfInBounds_toArray, List.set_cons_zero, List.set_cons_succ, Array.getD_eq_getD_getElem?, List.getElem?_toArray, List.getElem?_cons_zero, List.getElem?_cons_succ, Option.getD_some]), HS.out⟩
      · obtain rfl := hall
        subst hun
        go_simp
        exact hK _ _ ⟨l0, l1, l2, l3, l4, l5, l6, l7, true, true, l10, l11, l12, l13, l14, l15, l16, l17, l18, l19, l20, ax1, cx1, ax2, cx2, vb, vh, rfl, (by simp only [↓reduceIte, List.setIfInBounds_toArray, List.set_cons_zero, List.set_cons_succ, Array.getD_eq_getD_getElem?, List.getElem?_toArray, List.getElem?_cons_zero, List.getElem?_cons_succ, Option.getD_some]), HS.out⟩
      · obtain ⟨rfl, rfl⟩ := hall
        subst hun
        go_simp
        exact hK _ _ ⟨l0, l1, l2, l3, l4, l5, l6, l7, true, true, true, l11, l12, l13, l14, l15, l16, l17, l18, l19, l20, ax1, cx1, ax2, cx2, vb, vh, rfl, (by simp only [↓reduceIte, List.setIfInBounds_toArray, List.set_cons_zero, List.set_cons_succ, Array.getD_eq_getD_getElem?, List.getElem?_toArray, List.getElem?_cons_zero, List.getElem?_cons_succ, Option.getD_some]), HS.out⟩
      · obtain ⟨rfl, rfl⟩ := hall
        subst hun
        go_simp
        exact hK _ _ ⟨l0, l1, l2, l3, l4, l5, l6, l7, l8, true, true, true, l12, l13, l14, l15, l16, l17, l18, l19, l20, ax1, cx1, ax2, cx2, vb, vh, rfl, (by simp only [↓reduceIte, List.setIfInBounds_toArray, List.set_cons_zero, List.set_cons_succ, Array.getD_eq_getD_getElem?, List.getElem?_toArray, List.getElem?_cons_zero, List.getElem?_cons_succ, Option.getD_some]), HS.out⟩
      · obtain rfl := hall
        subst hun
        go_simp
        exact hK _ _ ⟨l0, l1, l2, l3, l4, l5, l6, l7, l8, l9, l10, true, true, l13, l14, l15, l16, l17, l18, l19, l20, ax1, cx1, ax2, cx2, vb, vh, rfl, (by simp only [↓reduceIte, List.setIfInBounds_toArray, List.set_cons_zero, List.set_cons_succ, Array.getD_eq_getD_getElem?, List.getElem?_toArray, List.getElem?_cons_zero, List.getElem?_cons_succ, Option.getD_some]), HS.out⟩
      · obtain ⟨rfl, rfl⟩ := hall
        subst hun
        go_simp
        exact hK _ _ ⟨l0, l1, l2, l3, l4, l5, l6, l7, l8, l9, l10, true, true, true, l14, l15, l16, l17, l18, l19, l20, ax1, cx1, ax2, cx2, vb, vh, rfl, (by simp only [↓reduceIte, List.setIfInBounds_toArray, List.set_cons_zero, List.set_cons_succ, Array.getD_eq_getD_getElem?, List.getElem?_toArray, List.getElem?_cons_zero, List.getElem?_cons_succ, Option.getD_some]), HS.out⟩
      · obtain rfl := hall
        subst hun
        have e0 := (bcell HS.out.bel (w2.heap.size) 0 HltC.out).trans C0.out
        have e1 := (bcell HS.out.bel (w2.heap.size) 1 HltC.out).trans C1.out
        go_simp
        exact hK _ _ ⟨l0, l1, l2, l3, l4, l5, l6, l7, l8, l9, l10, l11, l12, true, true, l15, l16, l17, l18, l19, l20, ax1, cx1, ax2, cx2, vb, vh, rfl, (by simp only [↓reduceIte, List.setIfInBounds_toArray, List.set_cons_zero, List.set_cons_succ, Array.getD_eq_getD_getElem?, List.getElem?_toArray, List.getElem?_cons_zero, List.getElem?_cons_succ, Option.getD_some]), HS.out⟩
      · obtain rfl := hall
        subst hun
        have e0 := (bcell HS.out.bel (w1.heap.size) 0 HltD.out).trans D0.out
        have e1 := (bcell HS.out.bel (w1.heap.size) 1 HltD.out).trans D1.out
        go_simp
        exact hK _ _ ⟨l0, l1, l2, l3, l4, l5, l6, l7, l8, l9, l10, l11, l12, true, l14, true, l16, l17, l18, l19, l20, ax1, cx1, ax2, cx2, vb, vh, rfl, (by simp only [↓reduceIte, List.setIfInBounds_toArray, List.set_cons_zero, List.set_cons_succ, Array.getD_eq_getD_getElem?, List.getElem?_toArray, List.getElem?_cons_zero, List.getElem?_cons_succ, Option.getD_some]), HS.out⟩
      · obtain ⟨rfl, rfl⟩ := hall
        subst hun
        go_simp
        go_at_call 28
        refine (implMinimize_any d X HhM.out _ _ (HR4.out.below HS.out.bel)).mono ?_
        rintro e u1 ⟨z1, z2, z3, z4, rfl, hr, hb⟩
        have hS2 := (HS.out.dfaV hb hr).pick [1] (by decide)
        have HhS2 := Lib.hid hS2; clear hS2
        go_simp
        exact hK _ _ ⟨l0, l1, l2, l3, l4, l5, l6, l7, l8, l9, l10, l11, l12, true, l14, true, true, l17, l18, l19, l20, z1, z2, z3, z4, w'.heap.size, u1.heap.size, rfl, (by simp only [↓reduceIte, List.setIfInBounds_toArray, List.set_cons_zero, List.set_cons_succ, Array.getD_eq_getD_getElem?, List.getElem?_toArray, List.getElem?_cons_zero, List.getElem?_cons_succ, Option.getD_some]), HhS2.out⟩
      · obtain ⟨rfl, rfl, rfl⟩ := hall
        subst hun
        go_simp
        go_at_call 23
        refine (sameDfa_any X _ _ _ (HX4.out.below HS.out.bel) (HS.out.dfaVr 0 rfl)).mono ?_
        rintro e u1 ⟨rfl, hb⟩
        have hS2 := HS.out.call hb
        have HhS2 := Lib.hid hS2; clear hS2
        go_simp
        exact hK _ _ ⟨l0, l1, l2, l3, l4, l5, l6, l7, l8, l9, l10, l11, l12, true, true, l15, true, true, l18, l19, l20, ax1, cx1, ax2, cx2, vb, vh, rfl, (by simp only [↓reduceIte, List.setIfInBounds_toArray, List.set_cons_zero, List.set_cons_succ, Array.getD_eq_getD_getElem?, List.getElem?_toArray, List.getElem?_cons_zero, List.getElem?_cons_succ, Option.getD_some]), HhS2.out⟩
      · obtain ⟨rfl, rfl, rfl⟩ := hall
        subst hun
        go_simp
        exact hK _ _ ⟨l0, l1, l2, l3, l4, l5, l6, l7, l8, l9, l10, true, l12, true, l14, l15, l16, true, true, l19, l20, ax1, cx1, ax2, cx2, vb, vh, rfl, (by simp only [↓reduceIte, List.setIfInBounds_toArray, List.set_cons_zero, List.set_cons_succ, Array.getD_eq_getD_getElem?, List.getElem?_toArray, List.getElem?_cons_zero, List.getElem?_cons_succ, Option.getD_some]), HS.out⟩
      · obtain ⟨rfl, rfl⟩ := hall
        subst hun
        go_simp
        exact hK _ _ ⟨l0, l1, l2, l3, l4, l5, l6, l7, l8, l9, l10, true, l12, l13, l14, l15, l16, l17, true, true, l20, ax1, cx1, ax2, cx2, vb, vh, rfl, (by simp only [↓reduceIte, List.setIfInBounds_toArray, List.set_cons_zero, List.set_cons_succ, Array.getD_eq_getD_getElem?, List.getElem?_toArray, List.getElem?_cons_zero, List.getElem?_cons_succ, Option.getD_some]), HS.out⟩
      · obtain ⟨rfl, rfl, rfl, rfl, rfl, rfl, rfl, rfl, rfl, rfl, rfl, rfl, rfl, rfl, rfl, rfl, rfl, rfl, rfl, -, rfl, -⟩ := hall
        subst hun
        go_simp
        exact hK _ _ ⟨true, true, true, true, true, true, true, true, true, true, true, true, true, true, true, true, true, true, true, true, true, ax1, cx1, ax2, cx2, vb, vh, rfl, (by simp only [↓reduceIte, List.setIfInBounds_toArray, List.set_cons_zero, List.set_cons_succ]), HS.out⟩
    · rintro listed a w' ⟨l0, l1, l2, l3, l4, l5, l6, l7, l8, l9, l10, l11, l12, l13, l14, l15, l16, l17, l18, l19, l20, ax1, cx1, ax2, cx2, vb, vh, rfl, rfl, hS⟩ hr
      have hall := ready_nilM (by kernel_rfl) rfl hr
      obtain rfl : l0 = true := by simpa using hall 0 (by simp)
      obtain rfl : l1 = true := by simpa using hall 1 (by simp)
      obtain rfl : l2 = true := by simpa using hall 2 (by simp)
      obtain rfl : l3 = true := by simpa using hall 3 (by simp)
      obtain rfl : l4 = true := by simpa using hall 4 (by simp)
      obtain rfl : l5 = true := by simpa using hall 5 (by simp)
      obtain rfl : l6 = true := by simpa using hall 6 (by simp)
      obtain rfl : l7 = true := by simpa using hall 7 (by simp)
      obtain rfl : l8 = true := by simpa using hall 8 (by simp)
      obtain rfl : l9 = true := by simpa using hall 9 (by simp)
      obtain rfl : l10 = true := by simpa using hall 10 (by simp)
      obtain rfl : l11 = true := by simpa using hall 11 (by simp)
      obtain rfl : l12 = true := by simpa using hall 12 (by simp)
      obtain rfl : l13 = true := by simpa using hall 13 (by simp)
      obtain rfl : l14 = true := by simpa using hall 14 (by simp)
      obtain rfl : l15 = true := by simpa using hall 15 (by simp)
      obtain rfl : l16 = true := by simpa using hall 16 (by simp)
      obtain rfl : l17 = true := by simpa using hall 17 (by simp)
      obtain rfl : l18 = true := by simpa using hall 18 (by simp)
      obtain rfl : l19 = true := by simpa using hall 19 (by simp)
      obtain rfl : l20 = true := by simpa using hall 20 (by simp)
      clear hall hr 
      simp only [↓reduceIte] at hS ⊢
      simp only [List.setIfInBounds_toArray, List.set_cons_zero, List.set_cons_succ]
      have HSf := Lib.hid hS
      clear hS
      go_wp2
      go_ret
      exact ⟨rfl, HS4.out.bel.trans (HSf.out.bel.mono HS4.out.bel.size)⟩
    · refine ⟨false, false, false, false, false, false, false, false, false, false, false, false, false, false, false, false, false, false, false, false, false, none, 0, none, 0, 0, 0, rfl, (by simp only [↓reduceIte, Bool.false_eq_true, List.setIfInBounds_toArray, List.set_cons_zero, List.set_cons_succ, Array.getD_eq_getD_getElem?, List.getElem?_toArray, List.getElem?_cons_zero, List.getElem?_cons_succ, Option.getD_some]), ?_⟩
      exact (St.start w4).drew.pick [0] (by decide)
end Go.Proofs.Ythhbjkgchabfmaa
