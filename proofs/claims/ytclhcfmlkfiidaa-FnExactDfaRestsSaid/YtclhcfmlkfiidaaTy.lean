/-
  The walk over the reference's TurnTwice.
  Condition: the automaton reads as such.
-/
import Derived.Test.YtclhcfmlkfiidaaTx
namespace Go.Proofs.Ytclhcfmlkfiidaa
open Go.RowKit

theorem dfaR_lens {B : Nat} {w : World} {a1 a2 : Option Addr} {l1 c1 l2 c2 : Nat} {D : DfaD} (h : DfaR B w (.agg #[.slice a1 l1 c1, .slice a2 l2 c2]) D) : l1 = D.next.length ∧ l2 = D.ends.length := by
  obtain ⟨q1, q2, hq, hd1, hd2⟩ := h
  simp only [Value.agg.injEq] at hq
  have e1 := congrArg (fun (l : Array Value) => l[0]?) hq
  have e2 := congrArg (fun (l : Array Value) => l[1]?) hq
  simp at e1 e2
  subst e1
  subst e2
  obtain ⟨_, _, h1, -⟩ := hd1.form
  obtain ⟨_, _, h2, -⟩ := hd2.form
  simp only [Value.slice.injEq] at h1 h2
  exact ⟨h1.2.1, h2.2.1⟩
theorem specDfaValidD2_any (d : DfaD) (v : Value) (w : World) (h : DfaR 0 w v d) (r : Bool) (hr : dfaOk d.next d.ends = r) :
    Calls Try.prog 50 #[v] w fun e w' => e = .returned (.bool r) ∧ Below w.heap.size w w' := by
  obtain ⟨v1, v2, rfl, q1, q2⟩ := h
  exact specDfaValid_any d.next d.ends v1 v2 w q1 q2 r hr
/-- What the reference's l9Dfa says of an automaton turned round. -/
theorem l9Turn_any (K : Nat) (hK : K = 40) (E : DfaD) (v1 v2 v3 : Value) (w : World) (hE : dfaOk E.next E.ends = true) (h1 : Moves 0 w v1 (turnN (nfaOf E)).moves) (h2 : Ints 0 w v2 (turnN (nfaOf E)).firsts) (h3 : Ints 0 w v3 (turnN (nfaOf E)).ends) :
    Calls Try.prog 51 #[.agg #[.int .i64 (turnN (nfaOf E)).states, v1, v2, v3]] w fun e w' => (match tdK K E with
      | some X => ∃ a1 c1 a2 c2, e = .returned (.tuple #[.agg #[.slice a1 X.next.length c1, .slice a2 X.ends.length c2], .bool true]) ∧ DfaR w.heap.size w' (.agg #[.slice a1 X.next.length c1, .slice a2 X.ends.length c2]) X ∧ dfaOk X.next X.ends = true
      | none => e = .returned (.tuple #[.agg #[.slice none 0 0, .slice none 0 0], .bool false])) ∧ Below w.heap.size w w' := by
  have hto := turnN_det (nfaOf_det hE)
  refine (l9Dfa_any E.next.length K hK (turnN (nfaOf E)).moves (turnN (nfaOf E)).firsts (turnN (nfaOf E)).ends v1 v2 v3 w hto.m40 hto.mv (by have := hto.ml; omega) hto.f (by have := hto.fl; omega) hto.e (by have := hto.el; omega) h1 h2 h3).mono ?_
  rintro e w' ⟨hr, hb⟩
  have hr : RDetS (turnN (nfaOf E)) K w.heap.size e w' := hr
  unfold RDetS at hr
  refine ⟨?_, hb⟩
  by_cases hle : (metS (turnN (nfaOf E)) K).length ≤ K
  · rw [if_pos hle] at hr
    have htd := tdK_some hle
    rw [htd]
    obtain ⟨an, ln, cn, ae, le, ce, rfl, hown⟩ := hr
    obtain ⟨rfl, rfl⟩ := dfaR_lens hown
    exact ⟨an, cn, ae, ce, rfl, hown, detQK_ok hK (n := turnN (nfaOf E)) htd⟩
  · rw [if_neg hle] at hr
    rw [tdK_none hle]
    exact hr

set_option maxRecDepth 100000 in
set_option maxHeartbeats 4000000 in
theorem specTtK_any (K : Nat) (hK : K = 40) (d D : DfaD) (fb : Bool) (hD : (ttK K d).getD zeD = D) (hfb : (ttK K d).isSome = fb) (v : Value) (w : World) (h : DfaR 0 w v d) :
    Calls Try.prog 20 #[v] w fun e w' => RTtr D fb e w' ∧ Below w.heap.size w w' := by
  have H := Lib.hid h
  obtain ⟨v1, v2, rfl, -, -⟩ := h
  have hS0 := ((St.start w).alloc _ rfl #[v1, v2] 32).alloc (w.heap.size + 1) (by simp) #[.slice none 0 0, .slice none 0 0] 32
  have hze : ∀ w' : World, DfaR 0 w' (.agg #[.slice none 0 0, .slice none 0 0]) zeD := fun w' => (zeD_own w' 0 0 0 0).r
  have Hze := Lib.hid hze
  clear hze
  cases hok : dfaOk d.next d.ends
  · have hn : ttK K d = none := by
      unfold ttK
      rw [hok]
      rfl
    rw [hn] at hD hfb
    subst hD
    subst hfb
    have Hhok := Lib.hid hok; clear hok
    have HhS0 := Lib.hid hS0; clear hS0
    go_enter Try.func20, Try.ntmps20
    go_wp2_with fail
    refine (specDfaValidD2_any d _ _ (H.out.below HhS0.out.bel) _ Hhok.out).mono ?_
    rintro e w1 ⟨rfl, hb1⟩
    have hS1 := HhS0.out.call hb1
    clear hb1
    have f0 := hS1.fr 1 0 rfl
    have f1 := hS1.fr 1 1 rfl
    have k0 := hS1.cell (v := .slice none 0 0) 1 0 rfl rfl
    have k1 := hS1.cell (v := .slice none 0 0) 1 1 rfl rfl
    have HZ := Lib.hid hS1
    clear hS1
    go_wp2
    have hq := (HZ.out.set 1 rfl 0 (.slice none 0 0)).set 1 rfl 1 (.slice none 0 0)
    have q0 := hq.cell (v := .slice none 0 0) 1 0 rfl rfl
    have q1 := hq.cell (v := .slice none 0 0) 1 1 rfl rfl
    refine bodyPost_ret (v := .tuple #[.agg #[.slice none 0 0, .slice none 0 0], .bool false]) (by simp [results, Try.results20, go_sem, q0, q1]) rfl ⟨?_, hq.bel⟩
    exact ⟨none, 0, none, 0, rfl, Hze.out _⟩
  · rw [ttK_it hok] at hD hfb
    have Hhok := Lib.hid hok; clear hok
    have HhS0 := Lib.hid hS0; clear hS0
    have HhD := Lib.hid hD; clear hD
    have Hhfb := Lib.hid hfb; clear hfb
    go_enter Try.func20, Try.ntmps20
    go_wp2_with fail
    refine (specDfaValidD2_any d _ _ (H.out.below HhS0.out.bel) _ Hhok.out).mono ?_
    rintro e w1 ⟨rfl, hb1⟩
    have hS1 := HhS0.out.call hb1
    have e0 := hS1.cell (v := v1) 0 0 rfl rfl
    have e1 := hS1.cell (v := v2) 0 1 rfl rfl
    have HhS1 := Lib.hid hS1; clear hS1
    clear hb1
    go_wp2_with fail
    refine (specNfaOf_any d _ _ Hhok.out (H.out.below HhS1.out.bel)).mono ?_
    rintro e w1a ⟨a1, c1, a2, c2, a3, c3, rfl, hS'⟩
    have hS2 := HhS1.out.cat hS'
    have HS2a := Lib.hid hS2
    clear hS' hS2
    go_wp2_with fail
    refine (l10Turn_any (nfaOf d) _ _ _ _ (by have := (nfaOf_det Hhok.out).ml; omega) (by have := (nfaOf_det Hhok.out).fl; omega) (by have := (nfaOf_det Hhok.out).el; omega) (HS2a.out.moves 2 rfl) (HS2a.out.intsR 3 rfl) (HS2a.out.intsR 4 rfl)).mono ?_
    rintro e w2a ⟨b1, d1, b2, d2, b3, d3, rfl, hS'⟩
    have hS3 := HS2a.out.cat hS'
    have HS3a := Lib.hid hS3
    clear hS' hS3
    go_wp2_with fail
    refine (l9Turn_any K hK d _ _ _ _ Hhok.out (HS3a.out.moves 5 rfl) (HS3a.out.intsR 6 rfl) (HS3a.out.intsR 7 rfl)).mono ?_
    rintro e w3a ⟨hr, hb3⟩
    clear e0 e1
    cases htd : tdK K d with
    | none =>
      rw [htd] at hr
      have hr : e = .returned (.tuple #[.agg #[.slice none 0 0, .slice none 0 0], .bool false]) := hr
      subst hr
      have hn : itK K d 2 = none := itK_none (j := 0) (by omega) rfl htd
      have hD := HhD.out
      have hfb := Hhfb.out
      rw [hn] at hD hfb
      subst hD
      subst hfb
      have hS4 := (HS3a.out.call hb3).alloc _ rfl #[.slice none 0 0, .slice none 0 0] 32
      have Hhn := Lib.hid hn; clear hn
      have Hhtd := Lib.hid htd; clear htd
      clear hb3
      have f0 := hS4.fr 1 0 rfl
      have f1 := hS4.fr 1 1 rfl
      have k0 := hS4.cell (v := .slice none 0 0) 1 0 rfl rfl
      have k1 := hS4.cell (v := .slice none 0 0) 1 1 rfl rfl
      have HZ := Lib.hid hS4
      clear hS4
      go_wp2
      have hq := (HZ.out.set 1 rfl 0 (.slice none 0 0)).set 1 rfl 1 (.slice none 0 0)
      have q0 := hq.cell (v := .slice none 0 0) 1 0 rfl rfl
      have q1 := hq.cell (v := .slice none 0 0) 1 1 rfl rfl
      refine bodyPost_ret (v := .tuple #[.agg #[.slice none 0 0, .slice none 0 0], .bool false]) (by simp [results, Try.results20, go_sem, q0, q1]) rfl ⟨?_, hq.bel⟩
      exact ⟨none, 0, none, 0, rfl, Hze.out _⟩
    | some X =>
      rw [htd] at hr
      obtain ⟨an, cn, ae, ce, rfl, hown, hXo⟩ := hr
      have hS4 := (HS3a.out.call hb3).alloc _ rfl #[.slice an X.next.length cn, .slice ae X.ends.length ce] 32
      have hRX := (hown.mono (Nat.zero_le _)).below ((Below.refl w3a.heap.size w3a).alloc (Nat.le_refl _) (.cells #[.slice an X.next.length cn, .slice ae X.ends.length ce] 32))
      have e0 := hS4.cell (v := .slice an X.next.length cn) 8 0 rfl rfl
      have e1 := hS4.cell (v := .slice ae X.ends.length ce) 8 1 rfl rfl
      have HhS4 := Lib.hid hS4; clear hS4
      have HhRX := Lib.hid hRX; clear hRX
      have HhXo := Lib.hid hXo; clear hXo
      have Hhtd := Lib.hid htd; clear htd
      clear hb3 hown
      go_wp2_with fail
      refine (specNfaOf_any X _ _ HhXo.out (HhRX.out)).mono ?_
      rintro e w1b ⟨a1, c1, a2, c2, a3, c3, rfl, hS'⟩
      have hS2 := HhS4.out.cat hS'
      have HS2b := Lib.hid hS2
      clear hS' hS2
      go_wp2_with fail
      refine (l10Turn_any (nfaOf X) _ _ _ _ (by have := (nfaOf_det HhXo.out).ml; omega) (by have := (nfaOf_det HhXo.out).fl; omega) (by have := (nfaOf_det HhXo.out).el; omega) (HS2b.out.moves 9 rfl) (HS2b.out.intsR 10 rfl) (HS2b.out.intsR 11 rfl)).mono ?_
      rintro e w2b ⟨b1, d1, b2, d2, b3, d3, rfl, hS'⟩
      have hS3 := HS2b.out.cat hS'
      have HS3b := Lib.hid hS3
      clear hS' hS3
      go_wp2_with fail
      refine (l9Turn_any K hK X _ _ _ _ HhXo.out (HS3b.out.moves 12 rfl) (HS3b.out.intsR 13 rfl) (HS3b.out.intsR 14 rfl)).mono ?_
      rintro e w3b ⟨hr, hb3⟩
      have hit : itK K d 2 = tdK K X := by
        show ((some d).bind (tdK K)).bind (tdK K) = _
        rw [Option.bind_some, Hhtd.out, Option.bind_some]
      have hD := HhD.out
      have hfb := Hhfb.out
      rw [hit] at hD hfb
      have hS5 := HS3b.out.call hb3
      have f0 := hS5.fr 1 0 rfl
      have f1 := hS5.fr 1 1 rfl
      have k0 := hS5.cell (v := .slice none 0 0) 1 0 rfl rfl
      have k1 := hS5.cell (v := .slice none 0 0) 1 1 rfl rfl
      have hB1 := (HS3b.out.boxlt 1 rfl).2
      have HhS5 := Lib.hid hS5; clear hS5
      have Hhit := Lib.hid hit; clear hit
      clear hb3 e0 e1
      cases htx : tdK K X with
      | none =>
        rw [htx] at hr hD hfb
        have hr : e = .returned (.tuple #[.agg #[.slice none 0 0, .slice none 0 0], .bool false]) := hr
        subst hr
        subst hD
        subst hfb
        have Hhtx := Lib.hid htx; clear htx
        go_wp2
        have hq := (HhS5.out.set 1 rfl 0 (.slice none 0 0)).set 1 rfl 1 (.slice none 0 0)
        have q0 := hq.cell (v := .slice none 0 0) 1 0 rfl rfl
        have q1 := hq.cell (v := .slice none 0 0) 1 1 rfl rfl
        refine bodyPost_ret (v := .tuple #[.agg #[.slice none 0 0, .slice none 0 0], .bool false]) (by simp [results, Try.results20, go_sem, q0, q1]) rfl ⟨?_, hq.bel⟩
        exact ⟨none, 0, none, 0, rfl, Hze.out _⟩
      | some Y =>
        rw [htx] at hr hD hfb
        obtain ⟨an', cn', ae', ce', rfl, hown, -⟩ := hr
        have hD : Y = D := hD
        have hfb : true = fb := hfb
        subst hD
        subst hfb
        have HO := Lib.hid hown
        have Hhtx := Lib.hid htx; clear htx
        clear hown
        go_wp2
        have hq := (HhS5.out.set 1 rfl 0 (.slice an' Y.next.length cn')).set 1 rfl 1 (.slice ae' Y.ends.length ce')
        have q0 := hq.cell (v := .slice an' Y.next.length cn') 1 0 rfl rfl
        have q1 := hq.cell (v := .slice ae' Y.ends.length ce') 1 1 rfl rfl
        refine bodyPost_ret (v := .tuple #[.agg #[.slice an' Y.next.length cn', .slice ae' Y.ends.length ce'], .bool true]) (by simp [results, Try.results20, go_sem, q0, q1]) rfl ⟨?_, hq.bel⟩
        exact ⟨an', cn', ae', ce', rfl, ((HO.out.far hB1 0 _).far hB1 1 _).mono (Nat.zero_le _)⟩

/-- The two contracts at the bound itself. -/
def forty' : Nat := 40
def tt (d : DfaD) : Option DfaD := ttK forty' d
theorem implTt_any (d D : DfaD) (fb : Bool) (hD : (tt d).getD zeD = D) (hfb : (tt d).isSome = fb) (v : Value) (w : World) (h : DfaR 0 w v d) :
    Calls Try.prog 21 #[v] w fun e w' => RTt D fb w.heap.size e w' ∧ Below w.heap.size w w' := implTtK_any forty' rfl d D fb hD hfb v w h
theorem specTt_any (d D : DfaD) (fb : Bool) (hD : (tt d).getD zeD = D) (hfb : (tt d).isSome = fb) (v : Value) (w : World) (h : DfaR 0 w v d) :
    Calls Try.prog 20 #[v] w fun e w' => RTtr D fb e w' ∧ Below w.heap.size w w' := specTtK_any forty' rfl d D fb hD hfb v w h
theorem ttK_ok {K : Nat} (hK : K = 40) {d X : DfaD} (h : ttK K d = some X) : dfaOk X.next X.ends = true := by
  unfold ttK at h
  split at h
  · obtain ⟨E, -, hE⟩ := Option.bind_eq_some_iff.1 h
    exact detQK_ok hK (n := turnN (nfaOf E)) hE
  · cases h
theorem sum_rows3' {xss : List (List Int)} (h : ∀ x ∈ xss, x.length = 3) : (xss.map List.length).sum = 3 * xss.length := by
  induction xss with
  | nil => rfl
  | cons x l ih =>
    have h1 := h x (by simp)
    have h2 := ih fun y hy => h y (by simp [hy])
    simp only [List.map_cons, List.sum_cons, List.length_cons] at h2 ⊢
    omega
theorem tt_small (d : DfaD) : ((tt d).getD zeD).next.length ≤ 40 ∧ (((tt d).getD zeD).next.map List.length).sum ≤ 120 ∧ ((tt d).getD zeD).ends.length ≤ 40 := by
  cases h : tt d with
  | none => exact ⟨Nat.zero_le _, Nat.zero_le _, Nat.zero_le _⟩
  | some X =>
    have hok := ttK_ok (K := forty') rfl h
    have h1 := dfaOk_len hok
    have h2 := sum_rows3' (xss := X.next) fun x hx => by
      obtain ⟨i, hi, e⟩ := List.getElem_of_mem hx
      have := (dfaOk_row hok hi).1
      rw [getD_at hi, e] at this
      exact this
    simp only [Option.getD_some]
    omega
end Go.Proofs.Ytclhcfmlkfiidaa
