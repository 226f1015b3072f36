/-
  An automaton that a call hands back, as one thing in memory; the walks over Minimize, of the program and of the reference.
  Condition: the automaton is valid and reads as such.
  Runs of a numbered automaton, plain: it accepts what the numbered things accept.
  No condition: this text speaks of no program.
  Smallest automata, plain: states of one class are those with the same words behind them; two automata with the same language have the same smallest automaton.
  No condition: this text speaks of no program.
-/
import Derived.Test.YthhbjkgchabfmaaPk20Mn
namespace Go.Proofs.Ythhbjkgchabfmaa
open Go.RowKit

/-- What reads as an automaton and lies in the blocks from B up to H. -/
def DfaV (B H : Nat) (v1 v2 : Value) (D : DfaD) : Ent := ⟨fun k => B ≤ k ∧ k < H, fun u => ∃ w : World, w.heap.size = H ∧ DfaR B w (.agg #[v1, v2]) D ∧ ∀ k, B ≤ k → k < H → u.heap[k]? = w.heap[k]?,
  fun _ _ ⟨w, h1, h2, h3⟩ hk => ⟨w, h1, h2, fun k p q => (hk k ⟨p, q⟩).trans (h3 k p q)⟩⟩
theorem St.dfaV {w0 w w' : World} {L : List Ent} (h : St w0 w L) (hb : Below w.heap.size w w') {v1 v2 : Value} {D : DfaD} (hr : DfaR w.heap.size w' (.agg #[v1, v2]) D) : St w0 w' (L ++ [DfaV w.heap.size w'.heap.size v1 v2 D]) :=
  h.add hb _ ⟨w', rfl, hr, fun _ _ _ => rfl⟩ fun _ hk => hk
/-- An automaton as a function's result, to be read. -/
def RDs (D : DfaD) (w : World) (e : Ending) (w' : World) : Prop := ∃ a1 c1 a2 c2, e = .returned (.agg #[.slice a1 D.next.length c1, .slice a2 D.ends.length c2]) ∧ DfaR w.heap.size w' (.agg #[.slice a1 D.next.length c1, .slice a2 D.ends.length c2]) D ∧ Below w.heap.size w w'
/-- The smallest automaton, or none. -/
def minQ (d : DfaD) : DfaD := if dfaOk d.next d.ends = true then minD d else ⟨[], []⟩
theorem nil_r (w : World) (B : Nat) : DfaR B w (.agg #[.slice none 0 0, .slice none 0 0]) ⟨[], []⟩ := (zeroD_own w B 0 0 0).r
set_option maxRecDepth 100000 in
set_option maxHeartbeats 4000000 in
theorem implMinimize_any (d : DfaD) (D : DfaD) (hD : minQ d = D) (v : Value) (w : World) (h : DfaR 0 w v d) :
    Calls Try.prog 28 #[v] w fun e w' => RDs D w e w' := by
  have H := Lib.hid h
  obtain ⟨v1, v2, rfl, g1, g2⟩ := h
  have hS0 := ((St.start w).alloc _ rfl #[v1, v2] 26).alloc (w.heap.size + 1) (by simp) #[.slice none 0 0, .slice none 0 0] 26
  have e0 := hS0.cell (v := v1) 0 0 rfl rfl
  have e1 := hS0.cell (v := v2) 0 1 rfl rfl
  have HhS0 := Lib.hid hS0; clear hS0
  clear g1 g2
  cases hok : dfaOk d.next d.ends
  · have hz : D = ⟨[], []⟩ := by rw [← hD]; unfold minQ; rw [if_neg (by rw [hok]; simp)]
    subst hz
    have Hhok := Lib.hid hok; clear hok
    clear hD
    go_enter Try.func28, Try.ntmps28
    go_wp2_with fail
    refine (implDfaValid_any d _ _ (H.out.below HhS0.out.bel) _ Hhok.out).mono ?_
    rintro e w1 ⟨rfl, hb1⟩
    have HS1 := Lib.hid (HhS0.out.call hb1)
    clear hb1 e0 e1
    have f0 := HS1.out.fr 1 0 rfl
    have f1 := HS1.out.fr 1 1 rfl
    have k0 := HS1.out.cell (v := .slice none 0 0) 1 0 rfl rfl
    have k1 := HS1.out.cell (v := .slice none 0 0) 1 1 rfl rfl
    go_wp2
    have hq := (HS1.out.set 1 rfl 0 (.slice none 0 0)).set 1 rfl 1 (.slice none 0 0)
    have q0 := hq.cell (v := .slice none 0 0) 1 0 rfl rfl
    have q1 := hq.cell (v := .slice none 0 0) 1 1 rfl rfl
    refine bodyPost_ret (v := .agg #[.slice none 0 0, .slice none 0 0]) (by simp [results, Try.results28, go_sem, q0, q1]) rfl ?_
    exact ⟨none, 0, none, 0, rfl, nil_r _ _, hq.bel⟩
  · have hz : minD d = D := by rw [← hD]; unfold minQ; rw [if_pos hok]
    have Hhok := Lib.hid hok; clear hok
    have Hz := Lib.hid hz
    clear hD hz
    go_enter Try.func28, Try.ntmps28
    go_wp2_with fail
    refine (implDfaValid_any d _ _ (H.out.below HhS0.out.bel) _ Hhok.out).mono ?_
    rintro e w1 ⟨rfl, hb1⟩
    have HS1 := Lib.hid (HhS0.out.call hb1)
    clear hb1 e0 e1
    have e0 := HS1.out.cell (v := v1) 0 0 rfl rfl
    have e1 := HS1.out.cell (v := v2) 0 1 rfl rfl
    go_wp2_with fail
    refine (implMin_any d _ _ Hhok.out (H.out.below HS1.out.bel)).mono ?_
    rintro e w2 ⟨a1, c1, a2, c2, rfl, hdo, hb2⟩
    rw [Hz.out] at hdo
    rw [Hz.out]
    have HS2 := Lib.hid (HS1.out.call hb2)
    have HDr := Lib.hid hdo.r
    have hB1 := (HS1.out.boxlt 1 rfl).2
    have hsz := HS1.out.size
    clear hb2 hdo e0 e1
    have f0 := HS2.out.fr 1 0 rfl
    have f1 := HS2.out.fr 1 1 rfl
    have k0 := HS2.out.cell (v := .slice none 0 0) 1 0 rfl rfl
    have k1 := HS2.out.cell (v := .slice none 0 0) 1 1 rfl rfl
    go_wp2
    have hq := (HS2.out.set 1 rfl 0 (.slice a1 D.next.length c1)).set 1 rfl 1 (.slice a2 D.ends.length c2)
    have q0 := hq.cell (v := .slice a1 D.next.length c1) 1 0 rfl rfl
    have q1 := hq.cell (v := .slice a2 D.ends.length c2) 1 1 rfl rfl
    refine bodyPost_ret (v := .agg #[.slice a1 D.next.length c1, .slice a2 D.ends.length c2]) (by simp [results, Try.results28, go_sem, q0, q1]) rfl ?_
    exact ⟨a1, c1, a2, c2, rfl, ((HDr.out.far hB1 0 _).far hB1 1 _).mono hsz, hq.bel⟩
end Go.Proofs.Ythhbjkgchabfmaa

namespace Go.Proofs.Ythhbjkgchabfmaa
open Go.RowKit

section
variable {α : Type} [DecidableEq α] {nx : α → Nat → α} {a : α} {en : α → Bool} {K : Nat}
theorem placeOf_at {F : List α} {x : α} (h : x ∈ F) (d : α) : F.getD (placeOf F x) d = x := by
  have h1 := placeOf_lt h
  rw [getD_at h1]
  exact List.getElem_idxOf h1
theorem run_num (hK : (bat nx a K).met.length ≤ K) : ∀ (w : List Nat), isW w → ∀ x ∈ (bat nx a K).met, w.foldl nx x ∈ (bat nx a K).met ∧ runD (numDfa nx en (bat nx a K).met) (placeOf (bat nx a K).met x : Nat) w = (placeOf (bat nx a K).met (w.foldl nx x) : Nat)
  | [], _, x, hx => ⟨hx, rfl⟩
  | c :: w, hw, x, hx => by
    have hc : c < 3 := hw c (by simp)
    have hx2 := bat_closed hK hx hc
    have h1 := placeOf_lt hx
    obtain ⟨h2, h3⟩ := run_num hK w (fun b hb => hw b (by simp [hb])) (nx x c) hx2
    refine ⟨h2, ?_⟩
    unfold runD at *
    rw [List.foldl_cons, List.foldl_cons, ← h3, dnx_num (a := a) (by omega) (by omega) hc]
    unfold numNext
    rw [Int.toNat_natCast, placeOf_at hx]
theorem accD_num (hK : (bat nx a K).met.length ≤ K) {w : List Nat} (hw : isW w) : accD (numDfa nx en (bat nx a K).met) w = en (w.foldl nx a) := by
  have h0 := bat_mem_first (nx := nx) (a := a) K
  obtain ⟨h1, h2⟩ := run_num (en := en) hK w hw a h0
  have h3 : placeOf (bat nx a K).met a = 0 := by
    have hp := bat_pos (nx := nx) (a := a) K
    have hf := bat_first (nx := nx) (a := a) K
    have hn := (bat_good (nx := nx) (a := a) K).1
    rw [getD_at hp] at hf
    have := List.Nodup.idxOf_getElem hn 0 hp
    rw [hf] at this
    exact this
  rw [h3] at h2
  unfold accD
  rw [show ((0 : Nat) : Int) = 0 from rfl] at h2
  rw [h2, den_num (placeOf_lt h1)]
  congr 1
  exact List.getElem_idxOf _
end
end Go.Proofs.Ythhbjkgchabfmaa

namespace Go.Proofs.Ythhbjkgchabfmaa
open Go.RowKit

theorem runD_cons (d : DfaD) (s : Int) (c : Nat) (w : List Nat) : runD d s (c :: w) = runD d (dnx d s c) w := rfl
theorem isW_cons {c : Nat} {w : List Nat} (h : isW (c :: w)) : c < 3 ∧ isW w := ⟨h c (by simp), fun b hb => h b (by simp [hb])⟩
theorem clD_lt {d : DfaD} {s : Nat} (hs : s < d.next.length) : clD d s < d.next.length := by have := (clD_le (d := d) s hs).1; omega
theorem metM_facts {d : DfaD} (hf : fine d) (K : Nat) : (∀ x ∈ (bat (nxM d) ((clD d 0 : Nat) : Int) K).met, ∃ s : Nat, x = (s : Int) ∧ s < d.next.length ∧ clD d s = s) ∧ (bat (nxM d) ((clD d 0 : Nat) : Int) K).met.length ≤ d.next.length := by
  have hl : 1 ≤ d.next.length := hf.1
  have h1 : ∀ x ∈ (bat (nxM d) ((clD d 0 : Nat) : Int) K).met, ∃ s : Nat, x = (s : Int) ∧ s < d.next.length ∧ clD d s = s := by
    refine bat_all (Q := fun x => ∃ s : Nat, x = (s : Int) ∧ s < d.next.length ∧ clD d s = s) ?_ (fun x c hc hx => ?_) K
    · exact ⟨clD d 0, rfl, clD_lt (by omega), (clD_le 0 (by omega)).2⟩
    · obtain ⟨s, rfl, hs, -⟩ := hx
      have h2 := (nxD_lt hf hs hc).1
      exact ⟨clD d (nxD d s c), by simp [nxM], clD_lt h2, (clD_le _ h2).2⟩
  refine ⟨h1, ?_⟩
  have h2 := nodup_le (bat_good (nx := nxM d) (a := ((clD d 0 : Nat) : Int)) K).1 (m := upInts d.next.length) (fun x hx => by
    obtain ⟨s, rfl, hs, -⟩ := h1 x hx
    rw [mem_upInts]
    exact hs)
  rw [upInts_len] at h2
  exact h2
end Go.Proofs.Ythhbjkgchabfmaa
