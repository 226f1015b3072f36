/-
  The walks over the program's CheckPairs and over the function behind it.
  Conditions: the arguments read as automata and as a list of pairs; for the function behind it, the automata are valid.
-/
import Derived.Test.YthhbjkgchabfmaaPk23Lh
namespace Go.Proofs.Ythhbjkgchabfmaa
open Go.RowKit Go.Maps
theorem zeroBool (w : World) : (zeroValue 4).run Try.prog w = .ok (.bool false) w := by kernel_rfl
def Among (w : World) (B : Nat) (K : List (Int × Int)) : Prop :=
  ∃ L, MapL Try.prog 56 pairEnc w B L ∧ (∀ p, p ∈ L.map (·.1) ↔ p ∈ K) ∧ ∀ p v, look p L = some v → v = .bool true
theorem Among.below {w w' : World} {B : Nat} {K : List (Int × Int)} (h : Among w B K) (hb : Below w.heap.size w w') : Among w' B K := by
  obtain ⟨L, h1, h2⟩ := h
  exact ⟨L, h1.below hb, h2⟩
theorem Among.look {w : World} {B : Nat} {K : List (Int × Int)} (h : Among w B K) (p : Int × Int) (h1 : fitI p.1) (h2 : fitI p.2) (r : Bool) (hr : decide (p ∈ K) = r) :
    (Instr.lookup 134 (.map (some B)) (.agg #[.int .i64 p.1, .int .i64 p.2]) false).run Try.prog w = .ok (.bool r) w := by
  obtain ⟨L, hL, hK, hv⟩ := h
  obtain ⟨l, hl⟩ := Try.keyOfPair p h1 h2
  have h := hL.lookup Try.lawPair pairEnc_inj Try.underlying134 (zeroBool w) hl
  have e : (Go.Proofs.Ythhbjkgchabfmaa.look p L).getD (.bool false) = .bool r := by
    subst hr
    by_cases hp : p ∈ K
    · have : (Go.Proofs.Ythhbjkgchabfmaa.look p L).isSome = true := look_isSome.2 ((hK p).2 hp)
      obtain ⟨v, hv'⟩ := Option.isSome_iff_exists.1 this
      rw [hv', hv p v hv', decide_eq_true hp]
      rfl
    · have : Go.Proofs.Ythhbjkgchabfmaa.look p L = none := by
        cases hc : Go.Proofs.Ythhbjkgchabfmaa.look p L with
        | none => rfl
        | some v =>
          have : (Go.Proofs.Ythhbjkgchabfmaa.look p L).isSome = true := by rw [hc]; rfl
          exact absurd ((hK p).1 (look_isSome.1 this)) hp
      rw [this, decide_eq_false hp]
      rfl
  rw [e] at h
  exact h
theorem Among.lt {w : World} {B : Nat} {K : List (Int × Int)} (h : Among w B K) : B < w.heap.size := by
  obtain ⟨L, h1, h2⟩ := h
  exact h1.lt
end Go.Proofs.Ythhbjkgchabfmaa
namespace Go.Proofs.Ythhbjkgchabfmaa
open Go.RowKit
theorem hitK_none {K : Nat} {a b : DfaD} (h : hitK K a b = none) : ∀ p ∈ metP a b K, den a p.1 = den b p.2 := fun p hp => by
  have hg := (bat_good (nx := stepP a b) (a := ((0, 0) : Int × Int)) K).2.1
  obtain ⟨j, hj, rfl⟩ := List.mem_iff_getElem.1 hp
  unfold hitK firstHit at h
  rw [Option.map_eq_none_iff, List.find?_eq_none] at h
  have hj' : j < (bat (stepP a b) (0, 0) K).met.length := hj
  have hz : j < ((bat (stepP a b) (0, 0) K).met.zip (bat (stepP a b) (0, 0) K).words).length := by
    rw [List.length_zip, hg]
    omega
  have h1 := h _ (List.getElem_mem hz)
  rw [List.getElem_zip] at h1
  have h2 : endsF (fun x y => x != y) a b (metP a b K)[j] = false := by simpa using h1
  unfold endsF at h2
  simpa [den] using h2
theorem metP_zero (a b : DfaD) (K : Nat) : ((0, 0) : Int × Int) ∈ metP a b K := bat_mem_first K
theorem met_run {a b : DfaD} {S : List (Int × Int)} (hc : ∀ p ∈ S, ∀ c, c < 3 → stepP a b p c ∈ S) : ∀ (w : List Nat), isW w → ∀ p ∈ S, (runD a p.1 w, runD b p.2 w) ∈ S
  | [], _, p, hp => hp
  | c :: w, hw, p, hp => by
    obtain ⟨h1, h2⟩ := isW_cons hw
    have := met_run hc w h2 (stepP a b p c) (hc p hp c h1)
    exact this
theorem same_of {a b : DfaD} {S : List (Int × Int)} (hc : ∀ p ∈ S, ∀ c, c < 3 → stepP a b p c ∈ S) (h0 : ((0, 0) : Int × Int) ∈ S) (he : ∀ p ∈ S, den a p.1 = den b p.2) {w : List Nat} (hw : isW w) : accD a w = accD b w :=
  he _ (met_run hc w hw (0, 0) h0)
theorem most_le {a b : DfaD} (ha : dfaOk a.next a.ends = true) (hb : dfaOk b.next b.ends = true) {K : Nat} (hK : 1600 ≤ K) : (metP a b K).length ≤ K := Nat.le_trans (metP_len ha hb K) hK
theorem metP_closed {a b : DfaD} (ha : dfaOk a.next a.ends = true) (hb : dfaOk b.next b.ends = true) {K : Nat} (hK : 1600 ≤ K) : ∀ p ∈ metP a b K, ∀ c, c < 3 → stepP a b p c ∈ metP a b K := fun _ hp _ hc => bat_closed (most_le ha hb hK) hp hc
theorem hitK_iff {a b : DfaD} (ha : dfaOk a.next a.ends = true) (hb : dfaOk b.next b.ends = true) {K : Nat} (hK : 1600 ≤ K) : hitK K a b = none ↔ ∀ w, isW w → accD a w = accD b w := by
  constructor
  · intro h w hw
    exact same_of (metP_closed ha hb hK) (metP_zero a b K) (hitK_none h) hw
  · intro h
    cases hh : hitK K a b with
    | none => rfl
    | some w =>
      obtain ⟨h1, h2⟩ := hit_says hh
      exact absurd (h w h1) h2
theorem mostP_ge : 1600 ≤ mostP := Nat.le_refl _
end Go.Proofs.Ythhbjkgchabfmaa
