/-
  A region that draws its order, by an invariant: one step for each operation in the place of one way for each order.
  No condition: this text speaks of no program.
-/
import Derived.Test.YtclhcfmlkfiidaaNs
import Derived.RegionTactic
import Derived.Deep.RegionLaw
namespace Go.Proofs.Ytclhcfmlkfiidaa
open Go.RowKit

theorem offL {x p q : Bool} (h : x = true → p = true ∧ q = true) (hp : p = false) : x = false := by
  cases x with
  | false => rfl
  | true => rw [hp] at h; exact absurd (h rfl).1 (by decide)
theorem offR {x p q : Bool} (h : x = true → p = true ∧ q = true) (hq : q = false) : x = false := by
  cases x with
  | false => rfl
  | true => rw [hq] at h; exact absurd (h rfl).2 (by decide)

section
variable {P : Program} {ops : Array Oper} {Q : Exit → Act → World → Prop} {md : Region.Mode}
/-- How many operations have not come up. -/
def unl (n : Nat) (listed : Array Bool) : Nat := ((List.range n).filter fun i => !listed.getD i true).length
theorem unl_le (n : Nat) (listed : Array Bool) : unl n listed ≤ n := by
  unfold unl
  have := List.length_filter_le (fun i => !listed.getD i true) (List.range n)
  simpa using this
theorem unl_set {n i : Nat} {listed : Array Bool} (hi : i < n) (h : listed.getD i true = false) : unl n (listed.setIfInBounds i true) < unl n listed := by
  refine filter_lt (a := i) ?_ (by simp only [h]; rfl) (List.mem_range.2 hi) fun x _ hx => ?_
  · simp only [Bool.not_eq_false']
    rcases Nat.lt_or_ge i listed.size with h1 | h1
    · simp [h1]
    · simp [Array.getElem?_eq_none h1] at h
  · by_cases hxi : i = x
    · subst hxi
      simp only [h]
      rfl
    · simpa [hxi] using hx
theorem wpAny_inv (Inv : Array Bool → Act → World → Prop) (hstep : ∀ listed a w, Inv listed a w → ∀ i ∈ Region.ready md ops listed, wpOp P ops Q i (Inv (listed.setIfInBounds i true)) a w)
    (hdone : ∀ listed a w, Inv listed a w → Region.ready md ops listed = [] → Q .normal a w) : ∀ (fuel : Nat) (listed : Array Bool) (a : Act) (w : World), unl ops.size listed ≤ fuel → Inv listed a w → wpAny P md ops Q fuel listed a w
  | 0, listed, a, w, hf, h => by
    have hr : Region.ready md ops listed = [] := by
      refine List.eq_nil_iff_forall_not_mem.2 fun i hi => ?_
      obtain ⟨hun, o, ho, -⟩ := mem_ready.1 hi
      have := unl_set (n := ops.size) (Array.getElem?_eq_some_iff.1 ho).1 hun
      omega
    exact ⟨hr, hdone _ _ _ h hr⟩
  | fuel + 1, listed, a, w, hf, h => ⟨fun h0 => hdone _ _ _ h h0, fun i hi => wpOp_mono (fun a' w' h' => wpAny_inv Inv hstep hdone fuel _ a' w' (by
      obtain ⟨hun, o, ho, -⟩ := mem_ready.1 hi
      have := unl_set (n := ops.size) (Array.getElem?_eq_some_iff.1 ho).1 hun
      omega) h') (hstep _ _ _ h i hi)⟩
/-- The same, where the invariant speaks of the frame as it was at the start. -/
theorem wpAny_invA (Inv : Act → Array Bool → Act → World → Prop) {a : Act} {w : World} (hstep : ∀ listed b w, Inv a listed b w → ∀ i ∈ Region.ready md ops listed, wpOp P ops Q i (Inv a (listed.setIfInBounds i true)) b w)
    (hdone : ∀ listed b w, Inv a listed b w → Region.ready md ops listed = [] → Q .normal b w) (h0 : Inv a (Array.replicate ops.size false) a w) : wpAny P md ops Q ops.size (Array.replicate ops.size false) a w :=
  wpAny_inv (Inv a) hstep hdone _ _ _ _ (unl_le _ _) h0
/-- Every operation waits for earlier ones alone. -/
def depsDown (ops : Array Oper) : Bool := (List.range ops.size).all fun i => match ops[i]? with
  | some o => o.after.all fun e => decide (e.on < i)
  | none => true
theorem ready_nil {listed : Array Bool} (hd : depsDown ops = true) (hs : listed.size = ops.size) (hr : Region.ready md ops listed = []) : ∀ i, i < ops.size → listed.getD i true = true := by
  intro i
  induction i using Nat.strongRecOn with
  | ind i ih =>
    intro hi
    cases h : listed.getD i true with
    | true => rfl
    | false =>
      exfalso
      have hmem : i ∈ Region.ready md ops listed := by
        refine mem_ready.2 ⟨h, ops[i], by simp [hi], fun e he _ => ?_⟩
        simp only [depsDown, List.all_eq_true, List.mem_range] at hd
        have h1 := hd i hi
        simp only [Array.getElem?_eq_getElem hi] at h1
        have h2 : e.on < i := by
          have := (Array.all_eq_true_iff_forall_mem.1 h1) e he
          simpa using this
        have h3 := ih e.on h2 (by omega)
        have h4 : e.on < listed.size := by omega
        simpa [h4] using h3
      rw [hr] at hmem
      cases hmem
end
end Go.Proofs.Ytclhcfmlkfiidaa
