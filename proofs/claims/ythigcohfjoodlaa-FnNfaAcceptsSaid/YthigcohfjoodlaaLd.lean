/-
  The language of a determinized automaton, plain; the walk over the program's DfaAccepts at texts.
  Conditions: the automaton is readable.
-/
import Derived.Test.YthigcohfjoodlaaDm
import Derived.Test.YthigcohfjoodlaaWs
import Derived.Test.YthigcohfjoodlaaTz
namespace Go.Proofs.Ythigcohfjoodlaa
open Go.RowKit

section
variable {α : Type} [DecidableEq α] {nx : α → Nat → α} {a : α} {en : α → Bool} {K : Nat}
theorem placeOf_at {F : List α} {x : α} (h : x ∈ F) (d : α) : F.getD (placeOf F x) d = x := by
  have h1 := placeOf_lt h
  rw [getD_at h1]
  exact List.getElem_idxOf h1
theorem run_num (hK : (bat nx a K).met.length ≤ K) : ∀ (w : List Nat), isW w → ∀ x ∈ (bat nx a K).met, w.foldl nx x ∈ (bat nx a K).met ∧ runD (numDfa nx en (bat nx a K).met) (placeOf (bat nx a K).met x : Nat) w = (placeOf (bat nx a K).met (w.foldl nx x) : Nat)
  | [], _, x, hx => ⟨hx, rfl⟩
  | c :: w, hw, x, hx => by
    have hc : c < 3 := hw c (by simp)
    have hx2 := bat_closed hK hx hc
    have h1 := placeOf_lt hx
    obtain ⟨h2, h3⟩ := run_num hK w (fun b hb => hw b (by simp [hb])) (nx x c) hx2
    refine ⟨h2, ?_⟩
    unfold runD at *
    rw [List.foldl_cons, List.foldl_cons, ← h3, dnx_num (a := a) (by omega) (by omega) hc]
    unfold numNext
    rw [Int.toNat_natCast, placeOf_at hx]
theorem accD_num (hK : (bat nx a K).met.length ≤ K) {w : List Nat} (hw : isW w) : accD (numDfa nx en (bat nx a K).met) w = en (w.foldl nx a) := by
  have h0 := bat_mem_first (nx := nx) (a := a) K
  obtain ⟨h1, h2⟩ := run_num (en := en) hK w hw a h0
  have h3 : placeOf (bat nx a K).met a = 0 := by
    have hp := bat_pos (nx := nx) (a := a) K
    have hf := bat_first (nx := nx) (a := a) K
    have hn := (bat_good (nx := nx) (a := a) K).1
    rw [getD_at hp] at hf
    have := List.Nodup.idxOf_getElem hn 0 hp
    rw [hf] at this
    exact this
  rw [h3] at h2
  unfold accD
  rw [show ((0 : Nat) : Int) = 0 from rfl] at h2
  rw [h2, den_num (placeOf_lt h1)]
  congr 1
  exact List.getElem_idxOf _
end

theorem lets_isW {l : List Nat} (h : wdOk l = true) : isW (lets l) := fun c hc => by
  obtain ⟨b, hb, rfl⟩ := List.mem_map.1 hc
  have := (wdOk_iff.1 h).1 b hb
  omega
theorem txB_lets {l : List Nat} (h : wdOk l = true) : txB l = wdB (lets l) := by
  unfold txB wdB lets
  rw [List.map_map]
  congr 2
  apply List.map_congr_left
  intro b hb
  have := (wdOk_iff.1 h).1 b hb
  show UInt8.ofNat b = UInt8.ofNat (97 + (b - 97))
  congr 1
  omega
theorem det_okK {K : Nat} {n : NfaD} {D : DfaD} (h : detK K n = some D) : nfaOk n = true ∧ (metS n K).length ≤ K ∧ D = numDfa (nxS n) (enS n) (metS n K) := by
  unfold detK at h
  split at h
  · rename_i h1
    exact ⟨h1.1, h1.2, (Option.some.inj h).symm⟩
  · cases h
theorem foldl_nxS {n : NfaD} : ∀ (w : List Nat) (v : Nat), w.foldl (nxS n) (((v : Nat) : Int), 0) = (((w.foldl (fun v (c : Nat) => stV 40 n.moves v (c : Int)) v : Nat) : Int), 0)
  | [], _ => rfl
  | c :: w, v => by
    rw [List.foldl_cons, List.foldl_cons, ← foldl_nxS w]
    rfl
/-- The determinized automaton accepts the same words. -/
theorem det_accK {K : Nat} {n : NfaD} {D : DfaD} (h : detK K n = some D) {w : List Nat} (hw : isW w) : accD D w = accS n w := by
  obtain ⟨-, h2, rfl⟩ := det_okK h
  rw [accD_num h2 hw, foldl_nxS]
  rfl
/-- What DfaAccepts answers. -/
def accDT (d : DfaD) (l : List Nat) : Bool := dfaOk d.next d.ends && wdOk l && accD d (lets l)
set_option maxRecDepth 100000 in
set_option maxHeartbeats 4000000 in
theorem dfaAccepts_any (d : DfaD) (l : List Nat) (v : Value) (w : World) (ht : isT l) (hll : l.length ≤ 1000) (h : DfaR 0 w v d) (hd : dfaOk d.next d.ends = true) (hwd : wdOk l = true) :
    Calls Try.prog 39 #[v, .string (txB l)] w fun e w' => e = .returned (.bool (accD d (lets l))) ∧ Below w.heap.size w w' := by
  have H := Lib.hid h
  obtain ⟨v1, v2, rfl, g1, g2⟩ := h
  have hS0 := (St.start w).alloc _ rfl #[v1, v2] 30
  have e0 := hS0.cell (v := v1) 0 0 rfl rfl
  have e1 := hS0.cell (v := v2) 0 1 rfl rfl
  obtain ⟨q, hq⟩ : ∃ q, accD d (lets l) = q := ⟨_, rfl⟩
  have hacc := fun (u : World) (hu : Below w.heap.size w u) => accepts_any d (lets l) (.agg #[v1, v2]) u hd (lets_isW hwd) (by unfold lets; rw [List.length_map]; omega) (H.out.below hu)
  rw [← txB_lets hwd, hq] at hacc
  rw [hq]
  have Hacc := Lib.hid hacc
  have Hht := Lib.hid ht; clear ht
  have HhS0 := Lib.hid hS0; clear hS0
  have Hhd := Lib.hid hd; clear hd
  have Hhwd := Lib.hid hwd; clear hwd
  have Hhq := Lib.hid hq; clear hq
  clear g1 g2 hacc
  go_enter Try.func39, Try.ntmps39
  go_wp2_with fail
  refine (implDfaValid_any d _ _ (H.out.below HhS0.out.bel) _ Hhd.out).mono ?_
  rintro e w1 ⟨rfl, hb1⟩
  have HS1 := Lib.hid (HhS0.out.call hb1)
  clear hb1 e0 e1
  have e0 := HS1.out.cell (v := v1) 0 0 rfl rfl
  have e1 := HS1.out.cell (v := v2) 0 1 rfl rfl
  go_wp2_with (go_at_call 104; refine (implWordValid_any l _ Hht.out (by omega) _ Hhwd.out).mono ?_; rintro e w' ⟨rfl, rfl⟩)
  refine (Hacc.out _ HS1.out.bel).mono ?_
  rintro e w2 ⟨rfl, hb2⟩
  go_wp2
  go_ret
  exact ⟨rfl, (HS1.out.call hb2).bel⟩
end Go.Proofs.Ythigcohfjoodlaa
