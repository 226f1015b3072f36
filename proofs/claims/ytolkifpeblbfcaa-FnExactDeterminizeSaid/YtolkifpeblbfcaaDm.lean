/-
  The walks over Determinize, of the program and of the reference.
  Conditions: the automaton reads as such.
-/
import Derived.Test.YtolkifpeblbfcaaS11
import Derived.Test.YtolkifpeblbfcaaNvs
import Derived.Test.YtolkifpeblbfcaaMk
namespace Go.Proofs.Ytolkifpeblbfcaa
open Go.RowKit Go.Maps

theorem stOk_at {l : List Int} {m : Int} (h : stOk l m = true) {j : Nat} (hj : j < l.length) : (0 ≤ l.getD j 0 ∧ l.getD j 0 ≤ m - 1) ∧ (0 < j → l.getD (j - 1) 0 < l.getD j 0) := by
  unfold stOk at h
  rw [List.all_eq_true] at h
  have h1 := h j (List.mem_range.2 hj)
  unfold okAt at h1
  rw [Bool.and_eq_true, Bool.or_eq_true] at h1
  obtain ⟨h1, h2⟩ := h1
  refine ⟨by simpa [inB] using h1, fun h0 => ?_⟩
  rcases h2 with h2 | h2
  · have := of_decide_eq_true h2
    omega
  · exact of_decide_eq_true h2
theorem stOk_ge {l : List Int} {m : Int} (h : stOk l m = true) : ∀ j, j < l.length → (j : Int) ≤ l.getD j 0
  | 0, hj => (stOk_at h hj).1.1
  | j + 1, hj => by
    have h1 := stOk_ge h j (by omega)
    have h2 := (stOk_at h hj).2 (by omega)
    rw [Nat.add_sub_cancel] at h2
    omega
theorem stOk_facts {l : List Int} {m : Nat} (h : stOk l (m : Int) = true) : inN m l ∧ l.length ≤ m := by
  refine ⟨fun s hs => ?_, ?_⟩
  · obtain ⟨j, hj, e⟩ := List.getElem_of_mem hs
    have := (stOk_at h hj).1
    rw [getD_at hj, e] at this
    omega
  · rcases Nat.eq_zero_or_pos l.length with h0 | h0
    · omega
    · have h1 := stOk_ge h (l.length - 1) (by omega)
      have h2 := (stOk_at h (j := l.length - 1) (by omega)).1.2
      omega
theorem nfaOk_facts {n : NfaD} (h : nfaOk n = true) : ∃ m : Nat, n.states = (m : Int) ∧ m ≤ 40 ∧ mvIn m n.moves ∧ n.moves.length ≤ 400 ∧ inN m n.firsts ∧ n.firsts.length ≤ 40 ∧ inN m n.ends ∧ n.ends.length ≤ 40 := by
  unfold nfaOk at h
  simp only [Bool.and_eq_true] at h
  obtain ⟨⟨⟨⟨h1, h2⟩, h3⟩, h4⟩, h5⟩ := h
  have h1 : 0 ≤ n.states ∧ n.states ≤ 40 := by simpa [inB] using h1
  obtain ⟨m, hm⟩ := Int.eq_ofNat_of_zero_le h1.1
  rw [hm] at h3 h4 h5
  have f3 := stOk_facts h3
  have f4 := stOk_facts h4
  refine ⟨m, hm, by omega, fun x hx => ?_, of_decide_eq_true h2, f3.1, by omega, f4.1, by omega⟩
  rw [List.all_eq_true] at h5
  have := h5 x hx
  unfold mvOk at this
  simp only [Bool.and_eq_true, inB, decide_eq_true_eq] at this
  omega
def detK (K : Nat) (n : NfaD) : Option DfaD := if nfaOk n = true ∧ (metS n K).length ≤ K then some (numDfa (nxS n) (enS n) (metS n K)) else none
def zeroD : DfaD := ⟨[], []⟩
def forty : Nat := 40
def det (n : NfaD) : Option DfaD := detK forty n
theorem numDfa_sum {α : Type} [DecidableEq α] (nx : α → Nat → α) (en : α → Bool) (F : List α) : sumLen (numDfa nx en F).next = 3 * F.length := by
  have key : ∀ L : List α, sumLen (L.map (numRow nx F)) = 3 * L.length := by
    intro L
    induction L with
    | nil => rfl
    | cons x L ih =>
      have hn : (numRow nx F x).length = 3 := by simp [numRow]
      simp only [List.map_cons, sumLen, List.sum_cons, List.length_cons] at ih ⊢
      rw [hn, ih]
      omega
  exact key F
theorem detK_small {K : Nat} (hK : K = 40) (n : NfaD) : ((detK K n).getD zeroD).next.length ≤ 40 ∧ sumLen ((detK K n).getD zeroD).next ≤ 120 ∧ ((detK K n).getD zeroD).ends.length ≤ 40 := by
  unfold detK
  split
  · rename_i h
    simp only [Option.getD_some]
    rw [numDfa_sum, numDfa_len]
    have : (numDfa (nxS n) (enS n) (metS n K)).ends.length = (metS n K).length := by simp [numDfa]
    omega
  · simp [zeroD, sumLen]
theorem det_small (n : NfaD) : ((det n).getD zeroD).next.length ≤ 40 ∧ sumLen ((det n).getD zeroD).next ≤ 120 ∧ ((det n).getD zeroD).ends.length ≤ 40 := detK_small rfl n

/-- An automaton and a truth value, of the call's own or to be read. -/
def RDfaB (D : DfaD) (fb : Bool) (B : Nat) (e : Ending) (w' : World) : Prop := ∃ a1 c1 a2 c2, e = .returned (.tuple #[.agg #[.slice a1 D.next.length c1, .slice a2 D.ends.length c2], .bool fb]) ∧ DfaO 44 3 4 B w'.heap.size w' (.agg #[.slice a1 D.next.length c1, .slice a2 D.ends.length c2]) D
def RDfaBr (D : DfaD) (fb : Bool) (e : Ending) (w' : World) : Prop := ∃ a1 c1 a2 c2, e = .returned (.tuple #[.agg #[.slice a1 D.next.length c1, .slice a2 D.ends.length c2], .bool fb]) ∧ DfaR 0 w' (.agg #[.slice a1 D.next.length c1, .slice a2 D.ends.length c2]) D
theorem ownsRow_nil (w : World) (B e size : Nat) : w.ownsRow B e size (.slice none 0 0) 0 [] := ⟨by simp, Or.inl ⟨rfl, rfl⟩⟩
theorem zeroD_own (w : World) (B tS tI tB : Nat) : DfaO tS tI tB B w.heap.size w (.agg #[.slice none 0 0, .slice none 0 0]) zeroD :=
  ⟨_, _, rfl, ⟨[], own_of_row (ownsRow_nil w B tS 1), fun i hi => absurd hi (by simp [zeroD]), fun i j k _ hj => absurd hj (by simp [zeroD])⟩, own_of_row (ownsRow_nil w B tB 1)⟩

set_option maxRecDepth 100000 in
set_option maxHeartbeats 4000000 in
theorem implDetK_any (K : Nat) (hK : K = 40) (n : NfaD) (D : DfaD) (fb : Bool) (hD : (detK K n).getD zeroD = D) (hfb : (detK K n).isSome = fb) (v : Value) (w : World) (h : NfaR 0 w v n) :
    Calls Try.prog 44 #[v] w fun e w' => RDfaB D fb w.heap.size e w' ∧ Below w.heap.size w w' := by
  have H := Lib.hid h
  obtain ⟨v1, v2, v3, rfl, g1, g2, g3, -, -⟩ := h
  have hS0 := ((St.start w).alloc _ rfl #[.int .i64 n.states, v1, v2, v3] 46).alloc (w.heap.size + 1) (by simp) #[.slice none 0 0, .slice none 0 0] 30
  cases hok : nfaOk n
  · have hn : detK K n = none := by
      unfold detK
      rw [if_neg]
      rintro ⟨h1, -⟩
      rw [hok] at h1
      cases h1
    rw [hn] at hD hfb
    subst hD
    subst hfb
    have Hhok := Lib.hid hok; clear hok
    have HhS0 := Lib.hid hS0; clear hS0
    clear g1 g2 g3
    go_enter Try.func44, Try.ntmps44
    go_wp2_with fail
    refine (implNfaValid_any n _ _ (H.out.below HhS0.out.bel) _ Hhok.out).mono ?_
    rintro e w1 ⟨rfl, hb1⟩
    have hS1 := HhS0.out.call hb1
    have f0 := hS1.fr 1 0 rfl
    have f1 := hS1.fr 1 1 rfl
    have k0 := hS1.cell (v := .slice none 0 0) 1 0 rfl rfl
    have k1 := hS1.cell (v := .slice none 0 0) 1 1 rfl rfl
    have HhS1 := Lib.hid hS1; clear hS1
    clear hb1
    go_wp2
    have hq := (HhS1.out.set 1 rfl 0 (.slice none 0 0)).set 1 rfl 1 (.slice none 0 0)
    have q0 := hq.cell (v := .slice none 0 0) 1 0 rfl rfl
    have q1 := hq.cell (v := .slice none 0 0) 1 1 rfl rfl
    refine bodyPost_ret (v := .tuple #[.agg #[.slice none 0 0, .slice none 0 0], .bool false]) (by simp [results, Try.results44, go_sem, q0, q1]) rfl ⟨?_, hq.bel⟩
    exact ⟨none, 0, none, 0, rfl, zeroD_own _ _ _ _ _⟩
  · obtain ⟨m, hm, hm40, hmv, hml, hf, hfl, he, hel⟩ := nfaOk_facts hok
    have hmv40 := mvIn_40 hmv hm40
    have hf40 : inN 40 n.firsts := fun s hs => by have := hf s hs; omega
    have he40 : inN 40 n.ends := fun s hs => by have := he s hs; omega
    have hdet := fun (w' : World) (hb : Below w.heap.size w w') => determinize_any n K hK v1 v2 v3 w' hmv40 (by omega) hf40 (by omega) he40 (g1.below hb) (g2.below hb) (g3.below hb)
    have Hhok := Lib.hid hok; clear hok
    have HhS0 := Lib.hid hS0; clear hS0
    have Hdet := Lib.hid hdet
    clear g1 g2 g3 hdet hm
    go_enter Try.func44, Try.ntmps44
    go_wp2_with fail
    refine (implNfaValid_any n _ _ (H.out.below HhS0.out.bel) _ Hhok.out).mono ?_
    rintro e w1 ⟨rfl, hb1⟩
    have hS1 := HhS0.out.call hb1
    have e0 := hS1.cell (v := .int .i64 n.states) 0 0 rfl rfl
    have e1 := hS1.cell (v := v1) 0 1 rfl rfl
    have e2 := hS1.cell (v := v2) 0 2 rfl rfl
    have e3 := hS1.cell (v := v3) 0 3 rfl rfl
    have HhS1 := Lib.hid hS1; clear hS1
    clear hb1
    go_wp2_with fail
    refine (Hdet.out _ HhS1.out.bel).mono ?_
    rintro e w2 ⟨hr, hb2⟩
    unfold RDet at hr
    by_cases hle : (metS n K).length ≤ K
    · rw [if_pos hle] at hr
      obtain ⟨an, cn, ae, ce, rfl, hown⟩ := hr
      have hn : detK K n = some (numDfa (nxS n) (enS n) (metS n K)) := by
        unfold detK
        rw [if_pos ⟨Hhok.out, hle⟩]
      rw [hn] at hD hfb
      obtain ⟨L, hL⟩ : ∃ L, L = (metS n K).length := ⟨_, rfl⟩
      have hl1 : D.next.length = L := by rw [← hD, hL]; exact numDfa_len _ _ _
      have hl2 : D.ends.length = L := by rw [← hD, hL]; simp [numDfa]
      rw [show numDfa (nxS n) (enS n) (metS n K) = D from hD] at hown
      rw [← hL] at hown
      rw [← hL]
      have hL40 : (L : Int) ≤ 40 := by omega
      have hfb' : fb = true := hfb.symm
      subst hfb'
      have hS2 := (HhS1.out.call hb2).alloc _ rfl #[.slice an L cn, .slice ae L ce] 30
      have f0 := hS2.fr 1 0 rfl
      have f1 := hS2.fr 1 1 rfl
      have k0 := hS2.cell (v := .slice none 0 0) 1 0 rfl rfl
      have k1 := hS2.cell (v := .slice none 0 0) 1 1 rfl rfl
      have d0 := hS2.cell (v := .slice an L cn) 2 0 rfl rfl
      have d1 := hS2.cell (v := .slice ae L ce) 2 1 rfl rfl
      have hDM := DMem.of hown HhS1.out.size
      have hD2 := (hDM.alloc (.cells #[.slice an L cn, .slice ae L ce] 30))
      have hb0 := hS2.box 1 rfl
      have HhS2 := Lib.hid hS2; clear hS2
      have HhD2 := Lib.hid hD2; clear hD2
      have Hhl1 := Lib.hid hl1; clear hl1
      have Hhl2 := Lib.hid hl2; clear hl2
      have Hhb0 := Lib.hid hb0; clear hb0
      clear hown hDM hb2 hL hD hfb hn
      go_wp2
      have hq := (HhS2.out.set 1 rfl 0 (.slice an L cn)).set 1 rfl 1 (.slice ae L ce)
      have q0 := hq.cell (v := .slice an L cn) 1 0 rfl rfl
      have q1 := hq.cell (v := .slice ae L ce) 1 1 rfl rfl
      refine bodyPost_ret (v := .tuple #[.agg #[.slice an L cn, .slice ae L ce], .bool true]) (by simp [results, Try.results44, go_sem, q0, q1]) rfl ⟨?_, hq.bel⟩
      have hm := (HhD2.out.set Hhb0.out 0 (.slice an L cn)).set (Hhb0.out.set 0 _) 1 (.slice ae L ce)
      refine ⟨an, cn, ae, ce, by rw [Hhl1.out, Hhl2.out], ?_⟩
      rw [Hhl1.out, Hhl2.out]
      exact ⟨_, _, rfl, hm.1, hm.2⟩
    · rw [if_neg hle] at hr
      subst hr
      have hn : detK K n = none := by
        unfold detK
        rw [if_neg]
        rintro ⟨-, h2⟩
        exact hle h2
      rw [hn] at hD hfb
      subst hD
      subst hfb
      have hS2 := (HhS1.out.call hb2).alloc _ rfl #[.slice none 0 0, .slice none 0 0] 30
      have f0 := hS2.fr 1 0 rfl
      have f1 := hS2.fr 1 1 rfl
      have k0 := hS2.cell (v := .slice none 0 0) 1 0 rfl rfl
      have k1 := hS2.cell (v := .slice none 0 0) 1 1 rfl rfl
      have d0 := hS2.cell (v := .slice none 0 0) 2 0 rfl rfl
      have d1 := hS2.cell (v := .slice none 0 0) 2 1 rfl rfl
      have HhS2 := Lib.hid hS2; clear hS2
      clear hb2
      go_wp2
      have hq := (HhS2.out.set 1 rfl 0 (.slice none 0 0)).set 1 rfl 1 (.slice none 0 0)
      have q0 := hq.cell (v := .slice none 0 0) 1 0 rfl rfl
      have q1 := hq.cell (v := .slice none 0 0) 1 1 rfl rfl
      refine bodyPost_ret (v := .tuple #[.agg #[.slice none 0 0, .slice none 0 0], .bool false]) (by simp [results, Try.results44, go_sem, q0, q1]) rfl ⟨?_, hq.bel⟩
      exact ⟨none, 0, none, 0, rfl, zeroD_own _ _ _ _ _⟩

set_option maxRecDepth 100000 in
set_option maxHeartbeats 4000000 in
theorem specDetK_any (K : Nat) (hK : K = 40) (n : NfaD) (D : DfaD) (fb : Bool) (hD : (detK K n).getD zeroD = D) (hfb : (detK K n).isSome = fb) (v : Value) (w : World) (h : NfaR 0 w v n) :
    Calls Try.prog 42 #[v] w fun e w' => RDfaBr D fb e w' ∧ Below w.heap.size w w' := by
  have H := Lib.hid h
  obtain ⟨v1, v2, v3, rfl, g1, g2, g3, -, -⟩ := h
  have hS0 := ((St.start w).alloc _ rfl #[.int .i64 n.states, v1, v2, v3] 46).alloc (w.heap.size + 1) (by simp) #[.slice none 0 0, .slice none 0 0] 30
  cases hok : nfaOk n
  · have hn : detK K n = none := by
      unfold detK
      rw [if_neg]
      rintro ⟨h1, -⟩
      rw [hok] at h1
      cases h1
    rw [hn] at hD hfb
    subst hD
    subst hfb
    have Hhok := Lib.hid hok; clear hok
    have HhS0 := Lib.hid hS0; clear hS0
    clear g1 g2 g3
    go_enter Try.func42, Try.ntmps42
    go_wp2_with fail
    refine (specNfaValid_any n _ _ (H.out.below HhS0.out.bel) _ Hhok.out).mono ?_
    rintro e w1 ⟨rfl, hb1⟩
    have hS1 := HhS0.out.call hb1
    have f0 := hS1.fr 1 0 rfl
    have f1 := hS1.fr 1 1 rfl
    have k0 := hS1.cell (v := .slice none 0 0) 1 0 rfl rfl
    have k1 := hS1.cell (v := .slice none 0 0) 1 1 rfl rfl
    have HhS1 := Lib.hid hS1; clear hS1
    clear hb1
    go_wp2
    have hq := (HhS1.out.set 1 rfl 0 (.slice none 0 0)).set 1 rfl 1 (.slice none 0 0)
    have q0 := hq.cell (v := .slice none 0 0) 1 0 rfl rfl
    have q1 := hq.cell (v := .slice none 0 0) 1 1 rfl rfl
    refine bodyPost_ret (v := .tuple #[.agg #[.slice none 0 0, .slice none 0 0], .bool false]) (by simp [results, Try.results42, go_sem, q0, q1]) rfl ⟨?_, hq.bel⟩
    exact ⟨none, 0, none, 0, rfl, (zeroD_own _ 0 0 0 0).r⟩
  · obtain ⟨m, hm, hm40, hmv, hml, hf, hfl, he, hel⟩ := nfaOk_facts hok
    have hnn : n = ⟨(m : Int), n.moves, n.firsts, n.ends⟩ := by rw [← hm]
    have hdet := fun (w' : World) (hb : Below w.heap.size w w') => l9Dfa_any m K hK n.moves n.firsts n.ends v1 v2 v3 w' hm40 hmv (by omega) hf (by omega) he (by omega) (g1.below hb) (g2.below hb) (g3.below hb)
    rw [← hnn, ← hm] at hdet
    have Hhok := Lib.hid hok; clear hok
    have HhS0 := Lib.hid hS0; clear hS0
    have Hdet := Lib.hid hdet
    clear g1 g2 g3 hdet hm hnn
    go_enter Try.func42, Try.ntmps42
    go_wp2_with fail
    refine (specNfaValid_any n _ _ (H.out.below HhS0.out.bel) _ Hhok.out).mono ?_
    rintro e w1 ⟨rfl, hb1⟩
    have hS1 := HhS0.out.call hb1
    have e0 := hS1.cell (v := .int .i64 n.states) 0 0 rfl rfl
    have e1 := hS1.cell (v := v1) 0 1 rfl rfl
    have e2 := hS1.cell (v := v2) 0 2 rfl rfl
    have e3 := hS1.cell (v := v3) 0 3 rfl rfl
    have HhS1 := Lib.hid hS1; clear hS1
    clear hb1
    go_wp2_with fail
    refine (Hdet.out _ HhS1.out.bel).mono ?_
    rintro e w2 ⟨hr, hb2⟩
    unfold RDetS at hr
    by_cases hle : (metS n K).length ≤ K
    · rw [if_pos hle] at hr
      obtain ⟨an, ln, cn, ae, le, ce, rfl, hown⟩ := hr
      have hn : detK K n = some (numDfa (nxS n) (enS n) (metS n K)) := by
        unfold detK
        rw [if_pos ⟨Hhok.out, hle⟩]
      rw [hn] at hD hfb
      rw [show numDfa (nxS n) (enS n) (metS n K) = D from hD] at hown
      have hln : ln = D.next.length ∧ le = D.ends.length := by
        obtain ⟨q1, q2, hq, hd1, hd2⟩ := hown
        simp only [Value.agg.injEq] at hq
        have e1 := congrArg (fun (l : Array Value) => l[0]?) hq
        have e2 := congrArg (fun (l : Array Value) => l[1]?) hq
        simp at e1 e2
        subst e1
        subst e2
        obtain ⟨_, _, h1, -⟩ := hd1.form
        obtain ⟨_, _, h2, -⟩ := hd2.form
        simp only [Value.slice.injEq] at h1 h2
        exact ⟨h1.2.1, h2.2.1⟩
      obtain ⟨rfl, rfl⟩ := hln
      have hfb' : fb = true := hfb.symm
      subst hfb'
      have hS2 := HhS1.out.call hb2
      have f0 := hS2.fr 1 0 rfl
      have f1 := hS2.fr 1 1 rfl
      have k0 := hS2.cell (v := .slice none 0 0) 1 0 rfl rfl
      have k1 := hS2.cell (v := .slice none 0 0) 1 1 rfl rfl
      have HhS2 := Lib.hid hS2; clear hS2
      have HO := Lib.hid hown
      have hB1 := (HhS1.out.boxlt 1 rfl).2
      clear hown hb2 hD hfb hn
      go_wp2
      have hq := (HhS2.out.set 1 rfl 0 (.slice an D.next.length cn)).set 1 rfl 1 (.slice ae D.ends.length ce)
      have q0 := hq.cell (v := .slice an D.next.length cn) 1 0 rfl rfl
      have q1 := hq.cell (v := .slice ae D.ends.length ce) 1 1 rfl rfl
      refine bodyPost_ret (v := .tuple #[.agg #[.slice an D.next.length cn, .slice ae D.ends.length ce], .bool true]) (by simp [results, Try.results42, go_sem, q0, q1]) rfl ⟨?_, hq.bel⟩
      exact ⟨an, cn, ae, ce, rfl, ((HO.out.far hB1 0 _).far hB1 1 _).mono (Nat.zero_le _)⟩
    · rw [if_neg hle] at hr
      subst hr
      have hn : detK K n = none := by
        unfold detK
        rw [if_neg]
        rintro ⟨-, h2⟩
        exact hle h2
      rw [hn] at hD hfb
      subst hD
      subst hfb
      have hS2 := HhS1.out.call hb2
      have f0 := hS2.fr 1 0 rfl
      have f1 := hS2.fr 1 1 rfl
      have k0 := hS2.cell (v := .slice none 0 0) 1 0 rfl rfl
      have k1 := hS2.cell (v := .slice none 0 0) 1 1 rfl rfl
      have HhS2 := Lib.hid hS2; clear hS2
      clear hb2
      go_wp2
      have hq := (HhS2.out.set 1 rfl 0 (.slice none 0 0)).set 1 rfl 1 (.slice none 0 0)
      have q0 := hq.cell (v := .slice none 0 0) 1 0 rfl rfl
      have q1 := hq.cell (v := .slice none 0 0) 1 1 rfl rfl
      refine bodyPost_ret (v := .tuple #[.agg #[.slice none 0 0, .slice none 0 0], .bool false]) (by simp [results, Try.results42, go_sem, q0, q1]) rfl ⟨?_, hq.bel⟩
      exact ⟨none, 0, none, 0, rfl, (zeroD_own _ 0 0 0 0).r⟩
theorem implDet_any (n : NfaD) (D : DfaD) (fb : Bool) (hD : (det n).getD zeroD = D) (hfb : (det n).isSome = fb) (v : Value) (w : World) (h : NfaR 0 w v n) :
    Calls Try.prog 44 #[v] w fun e w' => RDfaB D fb w.heap.size e w' ∧ Below w.heap.size w w' := implDetK_any forty rfl n D fb hD hfb v w h
theorem specDet_any (n : NfaD) (D : DfaD) (fb : Bool) (hD : (det n).getD zeroD = D) (hfb : (det n).isSome = fb) (v : Value) (w : World) (h : NfaR 0 w v n) :
    Calls Try.prog 42 #[v] w fun e w' => RDfaBr D fb e w' ∧ Below w.heap.size w w' := specDetK_any forty rfl n D fb hD hfb v w h
end Go.Proofs.Ytolkifpeblbfcaa
