/-
  Automata with choices, plain: sets of states as numbers (bit s: state s is in), closing, steps.
  No condition: this text speaks of no program.
  A region that draws its order, by an invariant: one step for each operation in the place of one way for each order.
  No condition: this text speaks of no program.
  When nothing is ready, everything is listed: regions with late stores.
  No condition.
-/
import Derived.Test.YtfgpkadhegdffaaPk02Ivp
namespace Go.Proofs.Ytfgpkadhegdffaa
open Go.RowKit
def adj (v s : Nat) : Nat := v ||| 2 ^ s
theorem has_adj (v s t : Nat) : (adj v s).testBit t = (v.testBit t || decide (s = t)) := by
  unfold adj
  rw [Nat.testBit_or, Nat.testBit_two_pow]
theorem adj_lt {v s n : Nat} (hv : v < 2 ^ n) (hs : s < n) : adj v s < 2 ^ n := Nat.or_lt_two_pow hv (Nat.pow_lt_pow_right (by omega) hs)
def flags (n v : Nat) : List Bool := (List.range n).map v.testBit
def setV (l : List Int) : Nat := l.foldl (fun v s => adj v s.toNat) 0
theorem foldl_snoc {α β : Type} (f : β → α → β) (b : β) {l : List α} {k : Nat} (hk : k < l.length) (d : α) : (l.take (k + 1)).foldl f b = f ((l.take k).foldl f b) (l.getD k d) := by
  rw [List.take_succ_eq_append_getElem hk, List.foldl_append]
  simp [hk]
theorem foldl_inv {α β : Type} (f : β → α → β) (Q : β → Prop) {l : List α} (hf : ∀ b, ∀ x ∈ l, Q b → Q (f b x)) : ∀ {b : β}, Q b → Q (l.foldl f b) := by
  induction l with
  | nil => intro b h; exact h
  | cons x l ih => intro b h; exact ih (fun b y hy => hf b y (by simp [hy])) (hf b x (by simp) h)
theorem foldl_take_inv {α β : Type} (f : β → α → β) (Q : β → Prop) {l : List α} (hf : ∀ b, ∀ x ∈ l, Q b → Q (f b x)) {b : β} (h : Q b) (k : Nat) : Q ((l.take k).foldl f b) :=
  foldl_inv f Q (fun b x hx => hf b x (List.mem_of_mem_take hx)) h
def inN (n : Nat) (l : List Int) : Prop := ∀ s ∈ l, 0 ≤ s ∧ s < (n : Int)
theorem setV_lt {n : Nat} {l : List Int} (h : inN n l) : setV l < 2 ^ n :=
  foldl_inv _ (fun v => v < 2 ^ n) (fun v s hs hv => adj_lt hv (by have := h s hs; omega)) (Nat.two_pow_pos n)
def mvIn (n : Nat) (ms : List (Int × Int × Int)) : Prop := ∀ m ∈ ms, (0 ≤ m.1 ∧ m.1 < (n : Int)) ∧ (0 ≤ m.2.2 ∧ m.2.2 < (n : Int))
def clMove (v : Nat) (m : Int × Int × Int) : Nat := if (decide (m.2.1 = -1) && v.testBit m.1.toNat && !v.testBit m.2.2.toNat) = true then adj v m.2.2.toNat else v
def clPass (ms : List (Int × Int × Int)) (v : Nat) : Nat := ms.foldl clMove v
def clIt (ms : List (Int × Int × Int)) (v : Nat) : Nat → Nat
  | 0 => v
  | k + 1 => clPass ms (clIt ms v k)
def clV (n : Nat) (ms : List (Int × Int × Int)) (v : Nat) : Nat := clIt ms v n
def stMove (v : Nat) (c : Int) (u : Nat) (m : Int × Int × Int) : Nat := if (decide (m.2.1 = c) && v.testBit m.1.toNat) = true then adj u m.2.2.toNat else u
def stV (n : Nat) (ms : List (Int × Int × Int)) (v : Nat) (c : Int) : Nat := clV n ms (ms.foldl (stMove v c) 0)
theorem clMove_lt {n : Nat} {ms : List (Int × Int × Int)} (h : mvIn n ms) {m : Int × Int × Int} (hm : m ∈ ms) {v : Nat} (hv : v < 2 ^ n) : clMove v m < 2 ^ n := by
  unfold clMove
  split
  · exact adj_lt hv (by have := (h m hm).2; omega)
  · exact hv
theorem clPass_lt {n : Nat} {ms : List (Int × Int × Int)} (h : mvIn n ms) {v : Nat} (hv : v < 2 ^ n) : clPass ms v < 2 ^ n := foldl_inv _ (fun v => v < 2 ^ n) (fun _ _ hm hv => clMove_lt h hm hv) hv
theorem clIt_lt {n : Nat} {ms : List (Int × Int × Int)} (h : mvIn n ms) {v : Nat} (hv : v < 2 ^ n) : ∀ k, clIt ms v k < 2 ^ n
  | 0 => hv
  | k + 1 => clPass_lt h (clIt_lt h hv k)
theorem stMove_lt {n : Nat} {ms : List (Int × Int × Int)} (h : mvIn n ms) {m : Int × Int × Int} (hm : m ∈ ms) {v u : Nat} {c : Int} (hu : u < 2 ^ n) : stMove v c u m < 2 ^ n := by
  unfold stMove
  split
  · exact adj_lt hu (by have := (h m hm).2; omega)
  · exact hu
theorem stV_lt {n : Nat} {ms : List (Int × Int × Int)} (h : mvIn n ms) (v : Nat) (c : Int) : stV n ms v c < 2 ^ n :=
  clIt_lt h (foldl_inv _ (fun v => v < 2 ^ n) (fun _ _ hm hv => stMove_lt h hm hv) (Nat.two_pow_pos n)) n
def clr (n v : Nat) : Nat := ((List.range n).filter fun i => !v.testBit i).length
theorem filter_le {α : Type} {p q : α → Bool} : ∀ {l : List α}, (∀ x ∈ l, p x = true → q x = true) → (l.filter p).length ≤ (l.filter q).length
  | [], _ => by simp
  | x :: l, h => by
    have ih := filter_le (l := l) fun y hy => h y (by simp [hy])
    have hx := h x (by simp)
    simp only [List.filter_cons]
    by_cases hp : p x = true
    · rw [if_pos hp, if_pos (hx hp)]; simp; omega
    · rw [if_neg hp]
      split <;> simp <;> omega
theorem filter_lt {α : Type} {p q : α → Bool} {a : α} (hp : p a = false) (hq : q a = true) : ∀ {l : List α}, a ∈ l → (∀ x ∈ l, p x = true → q x = true) → (l.filter p).length < (l.filter q).length
  | [], h, _ => by simp at h
  | x :: l, ha, h => by
    have hle := filter_le (l := l) fun y hy => h y (by simp [hy])
    simp only [List.filter_cons]
    by_cases hx : a = x
    · subst hx
      rw [if_neg (by simp [hp]), if_pos hq]
      simp; omega
    · have ih := filter_lt hp hq (l := l) (by simpa [hx] using ha) fun y hy => h y (by simp [hy])
      have hxx := h x (by simp)
      by_cases hpx : p x = true
      · rw [if_pos hpx, if_pos (hxx hpx)]; simp; omega
      · rw [if_neg hpx]
        split <;> simp <;> omega
theorem clr_le (n v : Nat) : clr n v ≤ n := by
  have := List.length_filter_le (fun i => !v.testBit i) (List.range n)
  simpa [clr] using this
theorem clr_adj {n v s : Nat} (hs : s < n) (h : v.testBit s = false) : clr n (adj v s) < clr n v := by
  unfold clr
  refine filter_lt (a := s) (by simp [has_adj]) (by simp [h]) (by simpa using hs) fun x _ hx => ?_
  rw [has_adj] at hx
  simp at hx ⊢
  exact hx.1
theorem clMove_clr {n : Nat} {m : Int × Int × Int} (hm : 0 ≤ m.2.2 ∧ m.2.2 < (n : Int)) (v : Nat) : clMove v m = v ∨ clr n (clMove v m) < clr n v := by
  unfold clMove
  split
  · rename_i h
    simp only [Bool.and_eq_true, Bool.not_eq_true'] at h
    exact .inr (clr_adj (by omega) h.2)
  · exact .inl rfl
theorem clFold_clr {n : Nat} : ∀ {ms : List (Int × Int × Int)}, (∀ m ∈ ms, 0 ≤ m.2.2 ∧ m.2.2 < (n : Int)) → ∀ v, ms.foldl clMove v = v ∨ clr n (ms.foldl clMove v) < clr n v
  | [], _, v => .inl rfl
  | m :: ms, h, v => by
    have h1 := clMove_clr (h m (by simp)) v
    have h2 := clFold_clr (ms := ms) (fun m hm => h m (by simp [hm])) (clMove v m)
    simp only [List.foldl_cons]
    rcases h1 with h1 | h1
    · rw [h1] at h2 ⊢; exact h2
    · rcases h2 with h2 | h2
      · rw [h2]; exact .inr h1
      · exact .inr (Nat.lt_trans h2 h1)
theorem clIt_stay {ms : List (Int × Int × Int)} {v j : Nat} (h : clIt ms v (j + 1) = clIt ms v j) : ∀ k, j ≤ k → clIt ms v k = clIt ms v j
  | 0, hk => by obtain rfl : j = 0 := by omega
                rfl
  | k + 1, hk => by
    by_cases e : j = k + 1
    · subst e; rfl
    · have ih := clIt_stay h k (by omega)
      show clPass ms (clIt ms v k) = _
      rw [ih]
      exact h
theorem clIt_drop {n : Nat} {ms : List (Int × Int × Int)} (h : mvIn n ms) (v : Nat) : ∀ k, clIt ms v (k + 1) = clIt ms v k ∨ clr n (clIt ms v (k + 1)) + (k + 1) ≤ clr n v
  | 0 => by
    rcases clFold_clr (n := n) (ms := ms) (fun m hm => (h m hm).2) v with e | e
    · exact .inl e
    · exact .inr (by show clr n (clPass ms v) + 1 ≤ _; exact e)
  | k + 1 => by
    rcases clIt_drop h v k with e | e
    · left
      have := clIt_stay e (k + 1 + 1) (by omega)
      rw [this, e]
    · rcases clFold_clr (n := n) (ms := ms) (fun m hm => (h m hm).2) (clIt ms v (k + 1)) with e2 | e2
      · exact .inl e2
      · right
        have : clr n (clIt ms v (k + 1 + 1)) < clr n (clIt ms v (k + 1)) := e2
        omega
theorem clV_of {n : Nat} {ms : List (Int × Int × Int)} (h : mvIn n ms) {v j : Nat} (hj : clIt ms v (j + 1) = clIt ms v j) : clV n ms v = clIt ms v j := by
  unfold clV
  by_cases hjn : j ≤ n
  · exact clIt_stay hj n hjn
  · rcases clIt_drop h v n with e | e
    · exact (clIt_stay e j (by omega)).symm
    · have := clr_le n v
      omega
theorem clIt_moved {n : Nat} {ms : List (Int × Int × Int)} (h : mvIn n ms) {v k : Nat} (hk : clIt ms v (k + 1) ≠ clIt ms v k) : k < n := by
  rcases clIt_drop h v k with e | e
  · exact absurd e hk
  · have := clr_le n v
    omega
theorem clFold_ne {n : Nat} {ms : List (Int × Int × Int)} (h : mvIn n ms) {v : Nat} {k : Nat} (hk : k < ms.length) (hne : clMove ((ms.take k).foldl clMove v) (ms.getD k (0, 0, 0)) ≠ (ms.take k).foldl clMove v) : (ms.take (k + 1)).foldl clMove v ≠ v := by
  have h1 := clFold_clr (n := n) (ms := ms.take k) (fun m hm => (h m (List.mem_of_mem_take hm)).2) v
  have hmem : ms.getD k (0, 0, 0) ∈ ms := by
    rw [List.getD_eq_getElem?_getD, List.getElem?_eq_getElem hk]
    simp
  have h2 := clMove_clr (n := n) (h _ hmem).2 ((ms.take k).foldl clMove v)
  rw [foldl_snoc clMove v hk (0, 0, 0)]
  intro e
  rcases h2 with h2 | h2
  · exact hne h2
  · rw [e] at h2
    rcases h1 with h1 | h1
    · rw [h1] at h2; omega
    · omega
theorem clFold_ne_keep {n : Nat} {ms : List (Int × Int × Int)} (h : mvIn n ms) {v : Nat} {k : Nat} (hk : k < ms.length) (hne : (ms.take k).foldl clMove v ≠ v) : (ms.take (k + 1)).foldl clMove v ≠ v := by
  have h1 := clFold_clr (n := n) (ms := ms.take k) (fun m hm => (h m (List.mem_of_mem_take hm)).2) v
  have hmem : ms.getD k (0, 0, 0) ∈ ms := by
    rw [List.getD_eq_getElem?_getD, List.getElem?_eq_getElem hk]
    simp
  have h2 := clMove_clr (n := n) (h _ hmem).2 ((ms.take k).foldl clMove v)
  rw [foldl_snoc clMove v hk (0, 0, 0)]
  rcases h1 with h1 | h1
  · exact absurd h1 hne
  · rcases h2 with h2 | h2
    · rw [h2]; exact hne
    · intro e
      rw [e] at h2
      omega
end Go.Proofs.Ytfgpkadhegdffaa
namespace Go.Proofs.Ytfgpkadhegdffaa
open Go.RowKit
theorem offL {x p q : Bool} (h : x = true → p = true ∧ q = true) (hp : p = false) : x = false := by
  cases x with
  | false => rfl
  | true => rw [hp] at h; exact absurd (h rfl).1 (by decide)
theorem offR {x p q : Bool} (h : x = true → p = true ∧ q = true) (hq : q = false) : x = false := by
  cases x with
  | false => rfl
  | true => rw [hq] at h; exact absurd (h rfl).2 (by decide)
section
variable {P : Program} {ops : Array Oper} {Q : Exit → Act → World → Prop} {md : Region.Mode}
def unl (n : Nat) (listed : Array Bool) : Nat := ((List.range n).filter fun i => !listed.getD i true).length
theorem unl_le (n : Nat) (listed : Array Bool) : unl n listed ≤ n := by
  unfold unl
  have := List.length_filter_le (fun i => !listed.getD i true) (List.range n)
  simpa using this
theorem unl_set {n i : Nat} {listed : Array Bool} (hi : i < n) (h : listed.getD i true = false) : unl n (listed.setIfInBounds i true) < unl n listed := by
  refine filter_lt (a := i) ?_ (by simp only [h]; rfl) (List.mem_range.2 hi) fun x _ hx => ?_
  · simp only [Bool.not_eq_false']
    rcases Nat.lt_or_ge i listed.size with h1 | h1
    · simp [h1]
    · simp [Array.getElem?_eq_none h1] at h
  · by_cases hxi : i = x
    · subst hxi
      simp only [h]
      rfl
    · simpa [hxi] using hx
theorem wpAny_inv (Inv : Array Bool → Act → World → Prop) (hstep : ∀ listed a w, Inv listed a w → ∀ i ∈ Region.ready md ops listed, wpOp P ops Q i (Inv (listed.setIfInBounds i true)) a w)
    (hdone : ∀ listed a w, Inv listed a w → Region.ready md ops listed = [] → Q .normal a w) : ∀ (fuel : Nat) (listed : Array Bool) (a : Act) (w : World), unl ops.size listed ≤ fuel → Inv listed a w → wpAny P md ops Q fuel listed a w
  | 0, listed, a, w, hf, h => by
    have hr : Region.ready md ops listed = [] := by
      refine List.eq_nil_iff_forall_not_mem.2 fun i hi => ?_
      obtain ⟨hun, o, ho, -⟩ := mem_ready.1 hi
      have := unl_set (n := ops.size) (Array.getElem?_eq_some_iff.1 ho).1 hun
      omega
    exact ⟨hr, hdone _ _ _ h hr⟩
  | fuel + 1, listed, a, w, hf, h => ⟨fun h0 => hdone _ _ _ h h0, fun i hi => wpOp_mono (fun a' w' h' => wpAny_inv Inv hstep hdone fuel _ a' w' (by
      obtain ⟨hun, o, ho, -⟩ := mem_ready.1 hi
      have := unl_set (n := ops.size) (Array.getElem?_eq_some_iff.1 ho).1 hun
      omega) h') (hstep _ _ _ h i hi)⟩
theorem wpAny_invA (Inv : Act → Array Bool → Act → World → Prop) {a : Act} {w : World} (hstep : ∀ listed b w, Inv a listed b w → ∀ i ∈ Region.ready md ops listed, wpOp P ops Q i (Inv a (listed.setIfInBounds i true)) b w)
    (hdone : ∀ listed b w, Inv a listed b w → Region.ready md ops listed = [] → Q .normal b w) (h0 : Inv a (Array.replicate ops.size false) a w) : wpAny P md ops Q ops.size (Array.replicate ops.size false) a w :=
  wpAny_inv (Inv a) hstep hdone _ _ _ _ (unl_le _ _) h0
def depsDown (ops : Array Oper) : Bool := (List.range ops.size).all fun i => match ops[i]? with
  | some o => o.after.all fun e => decide (e.on < i)
  | none => true
theorem ready_nil {listed : Array Bool} (hd : depsDown ops = true) (hs : listed.size = ops.size) (hr : Region.ready md ops listed = []) : ∀ i, i < ops.size → listed.getD i true = true := by
  intro i
  induction i using Nat.strongRecOn with
  | ind i ih =>
    intro hi
    cases h : listed.getD i true with
    | true => rfl
    | false =>
      exfalso
      have hmem : i ∈ Region.ready md ops listed := by
        refine mem_ready.2 ⟨h, ops[i], by simp [hi], fun e he _ => ?_⟩
        simp only [depsDown, List.all_eq_true, List.mem_range] at hd
        have h1 := hd i hi
        simp only [Array.getElem?_eq_getElem hi] at h1
        have h2 : e.on < i := by
          have := (Array.all_eq_true_iff_forall_mem.1 h1) e he
          simpa using this
        have h3 := ih e.on h2 (by omega)
        have h4 : e.on < listed.size := by omega
        simpa [h4] using h3
      rw [hr] at hmem
      cases hmem
end
end Go.Proofs.Ytfgpkadhegdffaa
namespace Go.Proofs.Ytfgpkadhegdffaa
open Go.RowKit
section
variable {ops : Array Oper} {md : Region.Mode}
def depsDownM (md : Region.Mode) (ops : Array Oper) : Bool := (List.range ops.size).all fun i => match ops[i]? with
  | some o => o.after.all fun e => !Region.binds md e || decide (e.on < i)
  | none => true
theorem ready_nilM {listed : Array Bool} (hd : depsDownM md ops = true) (hs : listed.size = ops.size) (hr : Region.ready md ops listed = []) : ∀ i, i < ops.size → listed.getD i true = true := by
  intro i
  induction i using Nat.strongRecOn with
  | ind i ih =>
    intro hi
    cases h : listed.getD i true with
    | true => rfl
    | false =>
      exfalso
      have hmem : i ∈ Region.ready md ops listed := by
        refine mem_ready.2 ⟨h, ops[i], by simp [hi], fun e he hbd => ?_⟩
        simp only [depsDownM, List.all_eq_true, List.mem_range] at hd
        have h1 := hd i hi
        simp only [Array.getElem?_eq_getElem hi] at h1
        have h2 : e.on < i := by
          have := (Array.all_eq_true_iff_forall_mem.1 h1) e he
          rw [hbd] at this
          simpa using this
        have h3 := ih e.on h2 (by omega)
        have h4 : e.on < listed.size := by omega
        simpa [h4] using h3
      rw [hr] at hmem
      cases hmem
end
end Go.Proofs.Ytfgpkadhegdffaa
namespace Go.Proofs.Ytfgpkadhegdffaa
section
variable (n : Nat) (nx : Nat → Nat → Nat)
def sameAt (cl : Nat → Nat) (t s : Nat) : Bool := decide (cl t = cl s) && (List.range 3).all fun c => decide (cl (nx t c) = cl (nx s c))
theorem sameAt_iff {cl : Nat → Nat} {t s : Nat} : sameAt nx cl t s = true ↔ cl t = cl s ∧ ∀ c, c < 3 → cl (nx t c) = cl (nx s c) := by
  simp [sameAt]
theorem sameAt_refl (cl : Nat → Nat) (s : Nat) : sameAt nx cl s s = true := (sameAt_iff nx).2 ⟨rfl, fun _ _ => rfl⟩
theorem sameAt_symm {cl : Nat → Nat} {t s : Nat} (h : sameAt nx cl t s = true) : sameAt nx cl s t = true := by
  obtain ⟨h1, h2⟩ := (sameAt_iff nx).1 h
  exact (sameAt_iff nx).2 ⟨h1.symm, fun c hc => (h2 c hc).symm⟩
theorem sameAt_trans {cl : Nat → Nat} {t s r : Nat} (h : sameAt nx cl t s = true) (h' : sameAt nx cl s r = true) : sameAt nx cl t r = true := by
  obtain ⟨h1, h2⟩ := (sameAt_iff nx).1 h
  obtain ⟨h3, h4⟩ := (sameAt_iff nx).1 h'
  exact (sameAt_iff nx).2 ⟨h1.trans h3, fun c hc => (h2 c hc).trans (h4 c hc)⟩
def leastN (p : Nat → Bool) : Nat → Nat
  | 0 => 0
  | k + 1 => if p (leastN p k) && decide (leastN p k < k) then leastN p k else if p k then k else k + 1
end
theorem least_spec (p : Nat → Bool) : ∀ k, (leastN p k < k ∧ p (leastN p k) = true ∧ ∀ j, j < leastN p k → p j = false) ∨ (leastN p k = k ∧ ∀ j, j < k → p j = false)
  | 0 => Or.inr ⟨rfl, fun j hj => absurd hj (by omega)⟩
  | k + 1 => by
    rcases least_spec p k with ⟨h1, h2, h3⟩ | ⟨h1, h2⟩
    · left
      have e : leastN p (k + 1) = leastN p k := by simp [leastN, h1, h2]
      rw [e]
      exact ⟨by omega, h2, h3⟩
    · by_cases hp : p k = true
      · left
        have e : leastN p (k + 1) = k := by simp [leastN, h1, hp]
        rw [e]
        exact ⟨by omega, hp, h2⟩
      · right
        have e : leastN p (k + 1) = k + 1 := by simp [leastN, h1, hp]
        refine ⟨e, fun j hj => ?_⟩
        by_cases hjk : j = k
        · subst hjk; simpa using hp
        · exact h2 j (by omega)
theorem least_of {p : Nat → Bool} {k s : Nat} (hs : s < k) (hp : p s = true) : leastN p k ≤ s ∧ p (leastN p k) = true ∧ ∀ j, j < leastN p k → p j = false := by
  rcases least_spec p k with ⟨h1, h2, h3⟩ | ⟨h1, h2⟩
  · refine ⟨?_, h2, h3⟩
    rcases Nat.lt_or_ge s (leastN p k) with h | h
    · rw [h3 s h] at hp; cases hp
    · exact h
  · rw [h2 s hs] at hp; cases hp
section
variable {n : Nat} {nx : Nat → Nat → Nat}
structure GoodC (n : Nat) (cl : Nat → Nat) : Prop where
  le : ∀ s, s < n → cl s ≤ s
  id : ∀ s, s < n → cl (cl s) = cl s
def refineC (n : Nat) (nx : Nat → Nat → Nat) (cl : Nat → Nat) (s : Nat) : Nat := leastN (fun t => sameAt nx cl t s) n
theorem refine_facts {cl : Nat → Nat} {s : Nat} (hs : s < n) : refineC n nx cl s ≤ s ∧ sameAt nx cl (refineC n nx cl s) s = true ∧ ∀ j, j < refineC n nx cl s → sameAt nx cl j s = false :=
  least_of hs (sameAt_refl nx cl s)
theorem refine_eq {cl : Nat → Nat} {s t : Nat} (hs : s < n) (ht : t < n) : refineC n nx cl s = refineC n nx cl t ↔ sameAt nx cl s t = true := by
  obtain ⟨a1, a2, a3⟩ := refine_facts (nx := nx) (cl := cl) hs
  obtain ⟨b1, b2, b3⟩ := refine_facts (nx := nx) (cl := cl) ht
  constructor
  · intro h
    rw [h] at a2
    exact sameAt_trans nx (sameAt_symm nx a2) b2
  · intro h
    have h1 : ¬ refineC n nx cl s < refineC n nx cl t := fun hlt => by
      have := b3 _ hlt
      rw [sameAt_trans nx a2 h] at this
      cases this
    have h2 : ¬ refineC n nx cl t < refineC n nx cl s := fun hlt => by
      have := a3 _ hlt
      rw [sameAt_trans nx b2 (sameAt_symm nx h)] at this
      cases this
    omega
theorem refine_good {cl : Nat → Nat} : GoodC n (refineC n nx cl) := by
  refine ⟨fun s hs => (refine_facts hs).1, fun s hs => ?_⟩
  obtain ⟨a1, a2, a3⟩ := refine_facts (nx := nx) (cl := cl) hs
  exact (refine_eq (by omega) hs).2 a2
theorem refine_rep {cl : Nat → Nat} (hg : GoodC n cl) {s : Nat} (hs : s < n) (h : cl s = s) : refineC n nx cl s = s := by
  obtain ⟨a1, a2, a3⟩ := refine_facts (nx := nx) (cl := cl) hs
  have e := ((sameAt_iff nx).1 a2).1
  have := hg.le (refineC n nx cl s) (by omega)
  omega
def reps (n : Nat) (cl : Nat → Nat) : Nat := ((List.range n).filter fun s => decide (cl s = s)).length
theorem refine_more {cl : Nat → Nat} (hg : GoodC n cl) {s : Nat} (hs : s < n) (hne : refineC n nx cl s ≠ cl s) : reps n cl < reps n (refineC n nx cl) := by
  obtain ⟨a1, a2, a3⟩ := refine_facts (nx := nx) (cl := cl) hs
  have e := ((sameAt_iff nx).1 a2).1
  have hr : refineC n nx cl s < n := by omega
  refine filter_lt (a := refineC n nx cl s) ?_ ?_ (List.mem_range.2 hr) fun x hx h => ?_
  · have : cl (refineC n nx cl s) ≠ refineC n nx cl s := by rw [e]; exact fun h => hne h.symm
    simpa using this
  · simpa using refine_good.id s hs
  · simp only [decide_eq_true_eq] at h ⊢
    exact refine_rep hg (List.mem_range.1 hx) h
theorem reps_le (n : Nat) (cl : Nat → Nat) : reps n cl ≤ n := by
  have := List.length_filter_le (fun s => decide (cl s = s)) (List.range n)
  simpa [reps] using this
def clAt (n : Nat) (nx : Nat → Nat → Nat) (en : Nat → Bool) : Nat → Nat → Nat
  | 0 => fun s => leastN (fun t => en t == en s) n
  | i + 1 => refineC n nx (clAt n nx en i)
theorem cl0_facts {en : Nat → Bool} {s : Nat} (hs : s < n) : clAt n nx en 0 s ≤ s ∧ en (clAt n nx en 0 s) = en s ∧ ∀ j, j < clAt n nx en 0 s → en j ≠ en s := by
  obtain ⟨a, b, c⟩ := least_of (p := fun t => en t == en s) hs (by simp)
  have b' : en (leastN (fun t => en t == en s) n) = en s := by simpa using b
  exact ⟨a, b', fun j hj => by simpa using c j hj⟩
theorem cl0_eq {en : Nat → Bool} {s t : Nat} (hs : s < n) (ht : t < n) : clAt n nx en 0 s = clAt n nx en 0 t ↔ en s = en t := by
  obtain ⟨a1, a2, a3⟩ := cl0_facts (nx := nx) (en := en) hs
  obtain ⟨b1, b2, b3⟩ := cl0_facts (nx := nx) (en := en) ht
  constructor
  · intro h; rw [← a2, ← b2, h]
  · intro h
    have h1 : ¬ clAt n nx en 0 s < clAt n nx en 0 t := fun hlt => b3 _ hlt (a2.trans h)
    have h2 : ¬ clAt n nx en 0 t < clAt n nx en 0 s := fun hlt => a3 _ hlt (b2.trans h.symm)
    omega
theorem clAt_good (en : Nat → Bool) : ∀ i, GoodC n (clAt n nx en i)
  | 0 => ⟨fun s hs => (cl0_facts hs).1, fun s hs => by
    obtain ⟨a1, a2, a3⟩ := cl0_facts (nx := nx) (en := en) hs
    exact (cl0_eq (by omega) hs).2 a2⟩
  | _ + 1 => refine_good
def stays (n : Nat) (nx : Nat → Nat → Nat) (en : Nat → Bool) (i : Nat) : Prop := ∀ s, s < n → clAt n nx en (i + 1) s = clAt n nx en i s
theorem stays_ex (en : Nat → Bool) : ∃ i, i ≤ n ∧ stays n nx en i ∧ ∀ j, j < i → ¬ stays n nx en j := by
  have key : ∀ k, (∀ j, j < k → ¬ stays n nx en j) → k ≤ reps n (clAt n nx en k) := by
    intro k
    induction k with
    | zero => intro _; exact Nat.zero_le _
    | succ k ih =>
      intro h
      have h1 := ih fun j hj => h j (by omega)
      have h2 := h k (by omega)
      have h3 : ∃ s, s < n ∧ clAt n nx en (k + 1) s ≠ clAt n nx en k s := Classical.byContradiction fun hn => h2 fun s hs => Classical.byContradiction fun hne => hn ⟨s, hs, hne⟩
      obtain ⟨s, hs, hne⟩ := h3
      have := refine_more (nx := nx) (clAt_good (nx := nx) en k) hs hne
      show k + 1 ≤ reps n (refineC n nx (clAt n nx en k))
      omega
  have hex : ∃ i, i ≤ n ∧ stays n nx en i := Classical.byContradiction fun hn => by
    have := key (n + 1) fun j hj hs => hn ⟨j, by omega, hs⟩
    have := reps_le n (clAt n nx en (n + 1))
    omega
  obtain ⟨i, hi, hs⟩ := hex
  have key2 : ∀ k, (∃ j, j < k ∧ stays n nx en j) → ∃ i, i < k ∧ stays n nx en i ∧ ∀ j, j < i → ¬ stays n nx en j := by
    intro k
    induction k with
    | zero => rintro ⟨j, hj, -⟩; omega
    | succ k ih =>
      rintro ⟨j, hj, hs⟩
      by_cases h : ∃ j, j < k ∧ stays n nx en j
      · obtain ⟨i, h1, h2⟩ := ih h
        exact ⟨i, by omega, h2⟩
      · have : j = k := Classical.byContradiction fun hne => h ⟨j, by omega, hs⟩
        subst this
        exact ⟨j, by omega, hs, fun i hi hs' => h ⟨i, hi, hs'⟩⟩
  obtain ⟨i', h1, h2⟩ := key2 (n + 1) ⟨i, by omega, hs⟩
  exact ⟨i', by omega, h2⟩
theorem leastN_congr {p q : Nat → Bool} : ∀ {k : Nat}, (∀ t, t < k → p t = q t) → leastN p k = leastN q k
  | 0, _ => rfl
  | k + 1, h => by
    have ih := leastN_congr (k := k) fun t ht => h t (by omega)
    have hk := h k (by omega)
    unfold leastN
    rw [← ih, ← hk]
    by_cases hl : leastN p k < k
    · rw [h _ (by omega)]
    · simp [hl]
theorem refine_congr (hnx : ∀ s c, s < n → c < 3 → nx s c < n) {cl cl' : Nat → Nat} (h : ∀ s, s < n → cl s = cl' s) {s : Nat} (hs : s < n) : refineC n nx cl s = refineC n nx cl' s := by
  unfold refineC
  refine leastN_congr fun t ht => ?_
  rw [Bool.eq_iff_iff, sameAt_iff, sameAt_iff, h t ht, h s hs]
  constructor
  · rintro ⟨h1, h2⟩
    exact ⟨h1, fun c hc => by rw [← h _ (hnx t c ht hc), ← h _ (hnx s c hs hc)]; exact h2 c hc⟩
  · rintro ⟨h1, h2⟩
    exact ⟨h1, fun c hc => by rw [h _ (hnx t c ht hc), h _ (hnx s c hs hc)]; exact h2 c hc⟩
theorem stays_all (hnx : ∀ s c, s < n → c < 3 → nx s c < n) {en : Nat → Bool} {i : Nat} (h : stays n nx en i) : ∀ j, i ≤ j → ∀ s, s < n → clAt n nx en j s = clAt n nx en i s := by
  intro j
  induction j with
  | zero =>
    intro hj s _
    obtain rfl : i = 0 := by omega
    rfl
  | succ j ih =>
    intro hj s hs
    by_cases hij : i = j + 1
    · subst hij; rfl
    · have e : clAt n nx en (j + 1) s = refineC n nx (clAt n nx en j) s := rfl
      rw [e, refine_congr hnx (ih (by omega)) hs]
      exact h s hs
def clEnd (n : Nat) (nx : Nat → Nat → Nat) (en : Nat → Bool) : Nat → Nat := clAt n nx en n
theorem clEnd_at (hnx : ∀ s c, s < n → c < 3 → nx s c < n) {en : Nat → Bool} {i : Nat} (hi : i ≤ n) (h : stays n nx en i) {s : Nat} (hs : s < n) : clEnd n nx en s = clAt n nx en i s := stays_all hnx h n hi s hs
theorem clEnd_stays (hnx : ∀ s c, s < n → c < 3 → nx s c < n) (en : Nat → Bool) : stays n nx en n := by
  obtain ⟨i, hi, hs, -⟩ := stays_ex (n := n) (nx := nx) en
  intro s hsn
  rw [stays_all hnx hs (n + 1) (by omega) s hsn, stays_all hnx hs n hi s hsn]
theorem clEnd_eq (hnx : ∀ s c, s < n → c < 3 → nx s c < n) {en : Nat → Bool} {s t : Nat} (hs : s < n) (ht : t < n) : clEnd n nx en s = clEnd n nx en t → ∀ c, c < 3 → clEnd n nx en (nx s c) = clEnd n nx en (nx t c) := by
  intro h
  have h1 := clEnd_stays hnx en
  have h2 : refineC n nx (clEnd n nx en) s = refineC n nx (clEnd n nx en) t := by
    have a := h1 s hs
    have b := h1 t ht
    exact a.trans (h.trans b.symm)
  exact ((sameAt_iff nx).1 ((refine_eq hs ht).1 h2)).2
theorem clAt_ends {en : Nat → Bool} : ∀ (i : Nat) {s t : Nat}, s < n → t < n → clAt n nx en i s = clAt n nx en i t → en s = en t
  | 0, _, _, hs, ht, h => (cl0_eq hs ht).1 h
  | i + 1, _, _, hs, ht, h => clAt_ends i hs ht ((sameAt_iff nx).1 ((refine_eq hs ht).1 h)).1
theorem clEnd_ends {en : Nat → Bool} {s t : Nat} (hs : s < n) (ht : t < n) (h : clEnd n nx en s = clEnd n nx en t) : en s = en t := clAt_ends n hs ht h
end
end Go.Proofs.Ytfgpkadhegdffaa
namespace Go.Proofs.Ytfgpkadhegdffaa
open Go.RowKit
def nxD (d : DfaD) (s c : Nat) : Nat := ((d.next.getD s []).getD c 0).toNat
def enD (d : DfaD) (s : Nat) : Bool := d.ends.getD s false
def trimD (d : DfaD) : DfaD := numDfa (dnx d) (den d) (bat (dnx d) 0 d.next.length).met
theorem nxD_lt {d : DfaD} (hd : fine d) {s c : Nat} (hs : s < d.next.length) (hc : c < 3) : nxD d s c < d.next.length ∧ dnx d (s : Int) c = ((nxD d s c : Nat) : Int) := by
  obtain ⟨-, -, -, h⟩ := hd
  obtain ⟨-, h2⟩ := h s hs
  obtain ⟨a, b⟩ := h2 c hc
  unfold nxD dnx
  rw [Int.toNat_natCast]
  omega
theorem met_facts {d : DfaD} (hd : fine d) (K : Nat) : (∀ x ∈ (bat (dnx d) 0 K).met, 0 ≤ x ∧ x < (d.next.length : Int)) ∧ (bat (dnx d) 0 K).met.length ≤ d.next.length := by
  have h1 : ∀ x ∈ (bat (dnx d) 0 K).met, 0 ≤ x ∧ x < (d.next.length : Int) := by
    refine bat_all (Q := fun x => 0 ≤ x ∧ x < (d.next.length : Int)) ⟨by omega, by have := hd.1; omega⟩ (fun x c hc hx => ?_) K
    obtain ⟨s, rfl⟩ := Int.eq_ofNat_of_zero_le hx.1
    obtain ⟨a, b⟩ := nxD_lt hd (s := s) (by omega) hc
    rw [b]
    omega
  refine ⟨h1, ?_⟩
  have := nodup_le (bat_good (nx := dnx d) (a := 0) K).1 (m := upInts d.next.length) fun x hx => by
    obtain ⟨a, b⟩ := h1 x hx
    obtain ⟨s, rfl⟩ := Int.eq_ofNat_of_zero_le a
    exact mem_upInts.2 (by omega)
  rwa [upInts_len] at this
theorem fine_of {d : DfaD} (h : dfaOk d.next d.ends = true) : fine d := by
  have := dfaOk_len h
  exact ⟨by omega, by omega, by omega, fun i hi => dfaOk_row h hi⟩
theorem trim_num {α : Type} [DecidableEq α] {nx : α → Nat → α} {a : α} {en : α → Bool} {K : Nat} (hK : (bat nx a K).met.length ≤ K) : trimD (numDfa nx en (bat nx a K).met) = numDfa nx en (bat nx a K).met := by
  unfold trimD
  rw [numDfa_len]
  obtain ⟨m, hm⟩ : ∃ m, m = (bat nx a K).met.length := ⟨_, rfl⟩
  have hle : (bat nx a m).met.length ≤ m := by
    have := (bat_le (nx := nx) (a := a) (show m ≤ K by omega)).1.length_le
    omega
  have hd : bat nx a K = bat nx a m := bat_done hle (by omega)
  have hp := bat_pos (nx := nx) (a := a) K
  have hpl : ∀ (s : Int) c, c < 3 → 0 ≤ s ∧ s < m → placeOf (bat nx a K).met (nx ((bat nx a K).met.getD s.toNat a) c) < m := fun s c hc hs => by
    rw [hm]
    exact placeOf_lt (bat_closed hK (memD (d := a) (show s.toNat < (bat nx a K).met.length by omega)) hc)
  have hlt : ∀ (s : Int) c, c < 3 → 0 ≤ s ∧ s < m → 0 ≤ numNext nx a (bat nx a K).met s c ∧ numNext nx a (bat nx a K).met s c < m := fun s c hc hs => by
    have := hpl s c hc hs
    unfold numNext
    omega
  have e1 : bat (numNext nx a (bat nx a K).met) 0 m = bat (dnx (numDfa nx en (bat nx a K).met)) 0 m :=
    bat_congr (Q := fun s => 0 ≤ s ∧ s < (m : Int)) (by omega) (fun s c hc hs => hlt s c hc hs) (fun s c hc hs => (dnx_num (by omega) (by omega) hc).symm) m
  have hmet : (bat (dnx (numDfa nx en (bat nx a K).met)) 0 (bat nx a K).met.length).met = upInts (bat nx a K).met.length := by
    rw [← hm, ← e1, num_sim nx a K m (by omega), ← hd, hm]
  rw [hmet]
  have hr : (upInts (bat nx a K).met.length).map (numRow (dnx (numDfa nx en (bat nx a K).met)) (upInts (bat nx a K).met.length)) = (bat nx a K).met.map (numRow nx (bat nx a K).met) := by
    refine List.ext_getElem (by simp [upInts]) fun i h1 h2 => ?_
    have hi : i < (bat nx a K).met.length := by simpa using h2
    have hu : (upInts (bat nx a K).met.length)[i]'(by simpa using h1) = (i : Int) := by simp [upInts]
    simp only [List.getElem_map]
    rw [hu]
    unfold numRow
    refine List.map_congr_left fun c hc => ?_
    have hc3 : c < 3 := List.mem_range.1 hc
    rw [dnx_num (a := a) (by omega) (by omega) hc3]
    unfold numNext
    have hp2 := hpl (i : Int) c hc3 (by omega)
    have e2 : (bat nx a K).met.getD (i : Int).toNat a = (bat nx a K).met[i] := by simp [hi]
    rw [e2] at hp2 ⊢
    congr 1
    obtain ⟨q, hq⟩ : ∃ q, placeOf (bat nx a K).met (nx ((bat nx a K).met[i]) c) = q := ⟨_, rfl⟩
    rw [hq] at hp2 ⊢
    have e3 := upInts_getD (n := (bat nx a K).met.length) (k := q) (by omega)
    have e4 := idx_getD (l := upInts (bat nx a K).met.length) (k := q) (by rw [upInts_len]; omega) (List.Pairwise.map _ (fun _ _ h e => h (Int.ofNat.inj e)) List.nodup_range) (0 : Int)
    rw [e3] at e4
    exact e4
  have he : (upInts (bat nx a K).met.length).map (den (numDfa nx en (bat nx a K).met)) = (bat nx a K).met.map en := by
    refine List.ext_getElem (by simp [upInts]) fun i h1 h2 => ?_
    have hi : i < (bat nx a K).met.length := by simpa using h2
    have hu : (upInts (bat nx a K).met.length)[i]'(by simpa using h1) = (i : Int) := by simp [upInts]
    simp only [List.getElem_map]
    rw [hu]
    exact den_num hi
  exact congr (congrArg DfaD.mk hr) he
section
variable {α β : Type} [DecidableEq α] [DecidableEq β] {nx : α → Nat → α} {nx' : β → Nat → β} {a : α} {f : α → β} {Q : α → Prop}
theorem brow_mapQ (hv : ∀ x c, c < 3 → Q x → Q (nx x c)) (hf : ∀ x y, Q x → Q y → f x = f y → x = y) (hn : ∀ x c, c < 3 → Q x → f (nx x c) = nx' (f x) c) {x : α} (hx : Q x) (wd : List Nat) {s : Bs α} (hs : ∀ y ∈ s.met, Q y) :
    ∀ n, n ≤ 3 → brow nx' (f x) wd ⟨s.met.map f, s.words⟩ n = ⟨(brow nx x wd s n).met.map f, (brow nx x wd s n).words⟩ ∧ ∀ y ∈ (brow nx x wd s n).met, Q y
  | 0, _ => ⟨rfl, hs⟩
  | n + 1, hn3 => by
    obtain ⟨h1, h2⟩ := brow_mapQ hv hf hn hx wd hs n (by omega)
    have hq := hv x n (by omega) hx
    have hm : nx' (f x) n ∈ (brow nx x wd s n).met.map f ↔ nx x n ∈ (brow nx x wd s n).met := by
      rw [← hn x n (by omega) hx]
      constructor
      · intro h
        obtain ⟨y, hy, e⟩ := List.mem_map.1 h
        rw [← hf _ _ (h2 y hy) hq e]
        exact hy
      · exact fun h => List.mem_map.2 ⟨_, h, rfl⟩
    have e : brow nx' (f x) wd ⟨s.met.map f, s.words⟩ (n + 1) = bvisit nx' (f x) wd (brow nx' (f x) wd ⟨s.met.map f, s.words⟩ n) n := rfl
    have e2 : brow nx x wd s (n + 1) = bvisit nx x wd (brow nx x wd s n) n := rfl
    rw [e, e2, h1]
    unfold bvisit
    by_cases h : nx x n ∈ (brow nx x wd s n).met
    · rw [if_pos h, if_pos (hm.2 h)]
      exact ⟨rfl, h2⟩
    · rw [if_neg h, if_neg (fun h2 => h (hm.1 h2))]
      refine ⟨by simp [hn x n (by omega) hx], fun y hy => ?_⟩
      simp only [List.mem_append, List.mem_singleton] at hy
      rcases hy with hy | rfl
      · exact h2 y hy
      · exact hq
theorem bat_mapQ (h0 : Q a) (hv : ∀ x c, c < 3 → Q x → Q (nx x c)) (hf : ∀ x y, Q x → Q y → f x = f y → x = y) (hn : ∀ x c, c < 3 → Q x → f (nx x c) = nx' (f x) c) : ∀ k, bat nx' (f a) k = ⟨(bat nx a k).met.map f, (bat nx a k).words⟩
  | 0 => rfl
  | k + 1 => by
    have ih := bat_mapQ h0 hv hf hn k
    have hl : (bat nx' (f a) k).met.length = (bat nx a k).met.length := by rw [ih]; simp
    by_cases h : k < (bat nx a k).met.length
    · rw [bat_succ h, bat_succ (by rw [hl]; exact h)]
      unfold bpart
      rw [ih]
      have hx : ((bat nx a k).met.map f).getD k (f a) = f ((bat nx a k).met.getD k a) := by simp [h]
      simp only [hx]
      exact (brow_mapQ hv hf hn (bat_all h0 hv k _ (memD h)) _ (bat_all h0 hv k) 3 (by omega)).1
    · rw [bat_stay (by omega), bat_stay (by omega), ih]
theorem placeOf_map {L : List α} {x : α} (hf : ∀ y ∈ L, f y = f x → y = x) : placeOf (L.map f) (f x) = placeOf L x := by
  unfold placeOf
  induction L with
  | nil => rfl
  | cons y l ih =>
    have h1 := hf y (by simp)
    have h2 := ih fun z hz => hf z (by simp [hz])
    simp only [List.map_cons, List.idxOf_cons]
    by_cases h : y = x
    · subst h; simp
    · have : f y ≠ f x := fun e => h (h1 e)
      have e1 : (f y == f x) = false := by simpa using this
      have e2 : (y == x) = false := by simpa using h
      rw [e1, e2]
      simp [h2]
theorem numDfa_mapQ {en : α → Bool} {en' : β → Bool} {K : Nat} (h0 : Q a) (hv : ∀ x c, c < 3 → Q x → Q (nx x c)) (hf : ∀ x y, Q x → Q y → f x = f y → x = y) (hn : ∀ x c, c < 3 → Q x → f (nx x c) = nx' (f x) c) (he : ∀ x, Q x → en' (f x) = en x) :
    numDfa nx' en' (bat nx' (f a) K).met = numDfa nx en (bat nx a K).met := by
  have hm := congrArg Bs.met (bat_mapQ h0 hv hf hn K)
  simp only at hm
  have hq := bat_all h0 hv K
  rw [hm]
  unfold numDfa
  have e1 : ((bat nx a K).met.map f).map (numRow nx' ((bat nx a K).met.map f)) = (bat nx a K).met.map (numRow nx (bat nx a K).met) := by
    rw [List.map_map]
    refine List.map_congr_left fun x hx => ?_
    unfold numRow
    refine List.map_congr_left fun c hc => ?_
    have hc3 : c < 3 := List.mem_range.1 hc
    rw [← hn x c hc3 (hq x hx), placeOf_map fun y hy e => hf _ _ (hq y hy) (hv x c hc3 (hq x hx)) e]
  have e2 : ((bat nx a K).met.map f).map en' = (bat nx a K).met.map en := by
    rw [List.map_map]
    exact List.map_congr_left fun x hx => he x (hq x hx)
  rw [e1, e2]
end
theorem clAt_sim {n m : Nat} {nx nx' : Nat → Nat → Nat} {en en' : Nat → Bool} (φ : Nat → Nat) (hφ : ∀ i, i < m → φ i < n) (hst : ∀ i c, i < m → c < 3 → nx' i c < m ∧ φ (nx' i c) = nx (φ i) c) (hen : ∀ i, i < m → en' i = en (φ i)) :
    ∀ (r : Nat) {i j : Nat}, i < m → j < m → (clAt m nx' en' r i = clAt m nx' en' r j ↔ clAt n nx en r (φ i) = clAt n nx en r (φ j))
  | 0, i, j, hi, hj => by
    rw [cl0_eq hi hj, cl0_eq (hφ i hi) (hφ j hj), hen i hi, hen j hj]
  | r + 1, i, j, hi, hj => by
    have ih := fun {i j : Nat} (hi : i < m) (hj : j < m) => clAt_sim φ hφ hst hen r hi hj
    show refineC m nx' (clAt m nx' en' r) i = refineC m nx' (clAt m nx' en' r) j ↔ refineC n nx (clAt n nx en r) (φ i) = refineC n nx (clAt n nx en r) (φ j)
    rw [refine_eq hi hj, refine_eq (hφ i hi) (hφ j hj), sameAt_iff, sameAt_iff, ih hi hj]
    constructor
    · rintro ⟨h1, h2⟩
      refine ⟨h1, fun c hc => ?_⟩
      have h := (ih (hst i c hi hc).1 (hst j c hj hc).1).1 (h2 c hc)
      rwa [(hst i c hi hc).2, (hst j c hj hc).2] at h
    · rintro ⟨h1, h2⟩
      refine ⟨h1, fun c hc => (ih (hst i c hi hc).1 (hst j c hj hc).1).2 ?_⟩
      rw [(hst i c hi hc).2, (hst j c hj hc).2]
      exact h2 c hc
theorem clEnd_sim {n m : Nat} {nx nx' : Nat → Nat → Nat} {en en' : Nat → Bool} (φ : Nat → Nat) (hmn : m ≤ n) (hφ : ∀ i, i < m → φ i < n) (hst : ∀ i c, i < m → c < 3 → nx' i c < m ∧ φ (nx' i c) = nx (φ i) c) (hen : ∀ i, i < m → en' i = en (φ i)) {i j : Nat} (hi : i < m) (hj : j < m) :
    clEnd m nx' en' i = clEnd m nx' en' j ↔ clEnd n nx en (φ i) = clEnd n nx en (φ j) := by
  have hin : ∀ s c, s < m → c < 3 → nx' s c < m := fun s c hs hc => (hst s c hs hc).1
  have hs := clEnd_stays hin en'
  have e1 := stays_all hin hs n hmn i hi
  have e2 := stays_all hin hs n hmn j hj
  show clAt m nx' en' m i = clAt m nx' en' m j ↔ _
  rw [← e1, ← e2]
  exact clAt_sim φ hφ hst hen n hi hj
def clD (d : DfaD) (s : Nat) : Nat := clEnd d.next.length (nxD d) (enD d) s
def nxM (d : DfaD) (s : Int) (c : Nat) : Int := (clD d (nxD d s.toNat c) : Nat)
def minD (d : DfaD) : DfaD := numDfa (nxM d) (den d) (bat (nxM d) ((clD d 0 : Nat) : Int) d.next.length).met
def foldD (x : DfaD) : DfaD := ⟨(List.range x.next.length).map fun k => (List.range 3).map fun c => ((clD x (nxD x k c) : Nat) : Int), x.ends⟩
def smallD (d : DfaD) : DfaD := trimD (foldD (trimD d))
theorem clD_le {d : DfaD} (s : Nat) (hs : s < d.next.length) : clD d s ≤ s ∧ clD d (clD d s) = clD d s := by
  have h := clAt_good (n := d.next.length) (nx := nxD d) (enD d) d.next.length
  exact ⟨h.le s hs, h.id s hs⟩
def phiD (d : DfaD) (i : Nat) : Nat := ((bat (dnx d) 0 d.next.length).met.getD i 0).toNat
theorem trim_facts {d : DfaD} (hd : fine d) : fine (trimD d) ∧ (trimD d).next.length ≤ d.next.length ∧ (∀ i, i < (trimD d).next.length → phiD d i < d.next.length) ∧
    (∀ i c, i < (trimD d).next.length → c < 3 → nxD (trimD d) i c < (trimD d).next.length ∧ phiD d (nxD (trimD d) i c) = nxD d (phiD d i) c) ∧ (∀ i, i < (trimD d).next.length → enD (trimD d) i = enD d (phiD d i)) ∧ phiD d 0 = 0 := by
  obtain ⟨h1, h2⟩ := met_facts hd d.next.length
  have hf := fine_num (nx := dnx d) (a := (0 : Int)) (en := den d) h2 (by have := hd.2.1; omega)
  have hl : (trimD d).next.length = (bat (dnx d) 0 d.next.length).met.length := numDfa_len _ _ _
  have hphi : ∀ i, i < (bat (dnx d) 0 d.next.length).met.length → (bat (dnx d) 0 d.next.length).met.getD i 0 = ((phiD d i : Nat) : Int) ∧ phiD d i < d.next.length := fun i hi => by
    obtain ⟨a, b⟩ := h1 _ (memD (d := 0) hi)
    unfold phiD
    omega
  refine ⟨hf, by rw [hl]; exact h2, fun i hi => (hphi i (by rw [← hl]; exact hi)).2, fun i c hi hc => ?_, fun i hi => ?_, ?_⟩
  · have hi' : i < (bat (dnx d) 0 d.next.length).met.length := by rw [← hl]; exact hi
    refine ⟨(nxD_lt hf hi hc).1, ?_⟩
    obtain ⟨p1, p2⟩ := hphi i hi'
    have hn : nxD (trimD d) i c = placeOf (bat (dnx d) 0 d.next.length).met (dnx d ((bat (dnx d) 0 d.next.length).met.getD i 0) c) := by
      unfold nxD trimD
      rw [numDfa_row (a := (0 : Int)) hi', numRow_at hc, Int.toNat_natCast]
    have hm := bat_closed (nx := dnx d) (a := (0 : Int)) h2 (memD (d := 0) hi') hc
    rw [hn]
    unfold phiD
    rw [getD_idx hm, p1, (nxD_lt hd p2 hc).2, Int.toNat_natCast]
    rfl
  · have hi' : i < (bat (dnx d) 0 d.next.length).met.length := by rw [← hl]; exact hi
    unfold enD trimD phiD
    simp [numDfa, hi', den]
  · unfold phiD
    rw [bat_first]
    rfl
theorem fold_facts {x : DfaD} (hx : fine x) : fine (foldD x) ∧ (foldD x).next.length = x.next.length ∧ ∀ k c, k < x.next.length → c < 3 → dnx (foldD x) (k : Int) c = ((clD x (nxD x k c) : Nat) : Int) := by
  have hl : (foldD x).next.length = x.next.length := by simp [foldD]
  have hr : ∀ k, k < x.next.length → (foldD x).next.getD k [] = (List.range 3).map fun c => ((clD x (nxD x k c) : Nat) : Int) := fun k hk => by simp [foldD, hk]
  have hc : ∀ k c, k < x.next.length → c < 3 → ((foldD x).next.getD k []).getD c 0 = ((clD x (nxD x k c) : Nat) : Int) := fun k c hk hc => by rw [hr k hk]; simp [hc]
  refine ⟨⟨by rw [hl]; exact hx.1, by rw [hl]; exact hx.2.1, by rw [hl]; exact hx.2.2.1, fun i hi => ?_⟩, hl, fun k c hk h3 => ?_⟩
  · rw [hl] at hi
    refine ⟨by rw [hr i hi]; simp, fun c h3 => ?_⟩
    rw [hc i c hi h3, hl]
    have h1 := (nxD_lt hx hi h3).1
    have h2 := (clD_le (nxD x i c) h1).1
    omega
  · unfold dnx
    rw [Int.toNat_natCast]
    exact hc k c hk h3
theorem small_min {d : DfaD} (hd : fine d) : smallD d = minD d := by
  obtain ⟨hx, hmn, hφ, hst, hen, hφ0⟩ := trim_facts hd
  obtain ⟨x, hxe⟩ : ∃ x, x = trimD d := ⟨_, rfl⟩
  unfold smallD
  rw [← hxe] at hx hmn hφ hst hen ⊢
  obtain ⟨hff, hfl, hfn⟩ := fold_facts hx
  have hm0 : 0 < x.next.length := hx.1
  have hsim := fun {i j : Nat} (hi : i < x.next.length) (hj : j < x.next.length) => clEnd_sim (n := d.next.length) (m := x.next.length) (nx := nxD d) (nx' := nxD x) (en := enD d) (en' := enD x) (phiD d) hmn hφ hst hen hi hj
  have hdin : ∀ s c, s < d.next.length → c < 3 → nxD d s c < d.next.length := fun s c hs hc => (nxD_lt hd hs hc).1
  have hmet := (met_facts hff x.next.length).2
  rw [hfl] at hmet
  have hbat : bat (dnx (foldD x)) 0 d.next.length = bat (dnx (foldD x)) 0 x.next.length := bat_done hmet hmn
  have key := numDfa_mapQ (nx := dnx (foldD x)) (nx' := nxM d) (a := (0 : Int)) (f := fun j : Int => ((clD d (phiD d j.toNat) : Nat) : Int)) (Q := fun j => ∃ k : Nat, j = (k : Int) ∧ k < x.next.length ∧ clD x k = k) (en := den (foldD x)) (en' := den d) (K := d.next.length)
    ⟨0, rfl, hm0, Nat.le_zero.1 (clD_le 0 hm0).1⟩ ?_ ?_ ?_ ?_
  · unfold trimD minD
    rw [hfl, ← hbat, ← key]
    have e : ((clD d (phiD d (0 : Int).toNat) : Nat) : Int) = ((clD d 0 : Nat) : Int) := by
      show ((clD d (phiD d 0) : Nat) : Int) = _
      rw [hφ0]
    simp only [e]
  · rintro j c hc ⟨k, rfl, hk, -⟩
    rw [hfn k c hk hc]
    have h1 := (nxD_lt hx hk hc).1
    obtain ⟨h2, h3⟩ := clD_le (nxD x k c) h1
    exact ⟨_, rfl, by omega, h3⟩
  · rintro j j' ⟨k, rfl, hk, hr⟩ ⟨k', rfl, hk', hr'⟩ h
    simp only [Int.toNat_natCast] at h
    have h1 : clD d (phiD d k) = clD d (phiD d k') := by omega
    have h2 : clD x k = clD x k' := (hsim hk hk').2 h1
    rw [hr, hr'] at h2
    rw [h2]
  · rintro j c hc ⟨k, rfl, hk, -⟩
    rw [hfn k c hk hc]
    obtain ⟨h1, -⟩ := nxD_lt hx hk hc
    obtain ⟨h2, h3⟩ := clD_le (nxD x k c) h1
    simp only [Int.toNat_natCast, nxM]
    have a1 : clD d (phiD d (clD x (nxD x k c))) = clD d (phiD d (nxD x k c)) := (hsim (by omega) h1).1 h3
    rw [a1, (hst k c hk hc).2]
    obtain ⟨h4, h5⟩ := clD_le (phiD d k) (hφ k hk)
    have a2 : clD d (nxD d (clD d (phiD d k)) c) = clD d (nxD d (phiD d k) c) := clEnd_eq hdin (en := enD d) (s := clD d (phiD d k)) (t := phiD d k) (by have := hφ k hk; omega) (hφ k hk) h5 c hc
    rw [a2]
  · rintro j ⟨k, rfl, hk, -⟩
    obtain ⟨h4, h5⟩ := clD_le (phiD d k) (hφ k hk)
    have a := clEnd_ends (n := d.next.length) (nx := nxD d) (en := enD d) (s := clD d (phiD d k)) (t := phiD d k) (by have := hφ k hk; omega) (hφ k hk) h5
    simp only [Int.toNat_natCast]
    show enD d (((clD d (phiD d k) : Nat) : Int).toNat) = enD x (((k : Nat) : Int).toNat)
    rw [Int.toNat_natCast, Int.toNat_natCast, a, hen k hk]
def clsL (n : Nat) (cl : Nat → Nat) : List Int := (List.range n).map fun s => (cl s : Int)
theorem clsL_len (n : Nat) (cl : Nat → Nat) : (clsL n cl).length = n := by simp [clsL]
theorem clsL_at {n s : Nat} (cl : Nat → Nat) (h : s < n) : (clsL n cl).getD s 0 = (cl s : Int) := by simp [clsL, h]
def sameR (d : DfaD) (cl : Nat → Nat) (s o : Nat) (k : Nat) : Bool := (List.range k).all fun c => decide (cl (nxD d s c) = cl (nxD d o c))
theorem sameR_succ (d : DfaD) (cl : Nat → Nat) (s o k : Nat) : sameR d cl s o (k + 1) = (sameR d cl s o k && decide (cl (nxD d s k) = cl (nxD d o k))) := by
  unfold sameR
  rw [List.range_succ, List.all_append]
  simp
theorem sameR_no {d : DfaD} {cl : Nat → Nat} {s o k : Nat} (hk : k < 3) (h : cl (nxD d s k) ≠ cl (nxD d o k)) : sameR d cl s o 3 = false := by
  cases he : sameR d cl s o 3 with
  | false => rfl
  | true =>
    have := List.all_eq_true.1 he k (List.mem_range.2 hk)
    exact absurd (by simpa using this) h
set_option maxRecDepth 100000 in
set_option maxHeartbeats 4000000 in
theorem sameRow_any (d : DfaD) (cl : Nat → Nat) (s o : Nat) (dv cv : Value) (w : World) (hd : dfaOk d.next d.ends = true) (hs : s < d.next.length) (ho : o < d.next.length) (hcl : ∀ t, t < d.next.length → cl t < d.next.length) (h : DfaR 0 w dv d) (hc : Ints 0 w cv (clsL d.next.length cl)) (r : Bool) (hr : sameR d cl s o 3 = r) :
    Calls Try.prog 110 #[dv, cv, .int .i64 s, .int .i64 o] w fun e w' => e = .returned (.bool r) ∧ Below w.heap.size w w' := by
  obtain ⟨v1, v2, rfl, q1, q2⟩ := h
  have hf := fine_of hd
  obtain ⟨L, hL⟩ : ∃ L, L = d.next.length := ⟨_, rfl⟩
  obtain ⟨hl1, hl2, -⟩ := dfaOk_len hd
  have hrow := fun (i : Nat) (hi : i < d.next.length) => (dfaOk_row hd hi).1
  have hnx := fun (i c : Nat) (hi : i < d.next.length) (h3 : c < 3) => (nxD_lt hf hi h3)
  obtain ⟨av, cvv, rfl, hc1, hc2, hr1⟩ := q1.formI
  obtain ⟨b1, o1, rfl, -, hb1, hcs1⟩ := hr1 (by omega)
  obtain ⟨ac, cc, rfl, hc3, hc4, hr2⟩ := hc.form
  rw [clsL_len] at hc3 hr2
  rw [clsL_len]
  obtain ⟨b2, o2, rfl, -, hb2, hcs2⟩ := hr2 (by omega)
  have hcell : ∀ t, t < d.next.length → w.cell? ⟨b2, o2 + t, none⟩ = some (.int .i64 (cl t : Nat)) := fun t ht => by rw [hcs2 t ht, clsL_at cl ht]
  obtain ⟨ax, cs, hks, -, -, hIs⟩ := hcs1 s hs
  obtain ⟨ao, co, hko, -, -, hIo⟩ := hcs1 o ho
  rw [hrow s hs] at hks hIs
  rw [hrow o ho] at hko hIo
  obtain ⟨_, _, hform, -, -, hrs⟩ := hIs.form
  rw [hrow s hs] at hform hrs
  simp only [Value.slice.injEq, true_and] at hform
  obtain ⟨rfl, rfl⟩ := hform
  obtain ⟨b3, o3, rfl, -, hb3, hcs3⟩ := hrs (by omega)
  obtain ⟨_, _, hform, -, -, hro⟩ := hIo.form
  rw [hrow o ho] at hform hro
  simp only [Value.slice.injEq, true_and] at hform
  obtain ⟨rfl, rfl⟩ := hform
  obtain ⟨b4, o4, rfl, -, hb4, hcs4⟩ := hro (by omega)
  have hval : ∀ i c, i < d.next.length → c < 3 → (d.next.getD i []).getD c 0 = ((nxD d i c : Nat) : Int) := fun i c hi h3 => by
    have := (hnx i c hi h3).2
    unfold dnx at this
    rwa [Int.toNat_natCast] at this
  have hS0 := (St.start w).alloc _ rfl #[.slice (some ⟨b1, o1, none⟩) d.next.length cvv, v2] 30
  have Hnx := Lib.hid hnx
  have Hval := Lib.hid hval
  have Hcell := Lib.hid hcell
  have Hks := Lib.hid hks
  have Hko := Lib.hid hko
  have Hcs3 := Lib.hid hcs3
  have Hcs4 := Lib.hid hcs4
  have Hcl := Lib.hid hcl
  rw [← hL] at hs ho hl1 hl2 hS0
  rw [← hL]
  have hsI : (s : Int) < L := by omega
  have hoI : (o : Int) < L := by omega
  have HhS0 := Lib.hid hS0; clear hS0
  have Hhr := Lib.hid hr; clear hr
  have HhL := Lib.hid hL; clear hL
  clear hnx hval hcell hks hko hcs3 hcs4 hcl hcs1 hcs2 hr1 hr2 hrs hro hIs hIo q1 q2 hc hd hrow hf
  go_enter Try.func110, Try.ntmps110
  go_wp2
  go_loopw [10] (fun i wr => ∃ k : Nat, i = .int .i64 k ∧ k ≤ 3 ∧ sameR d cl s o k = true ∧ St w wr [Ent.box w.heap.size #[.slice (some ⟨b1, o1, none⟩) L cvv, v2] 30]) (fun i _ => 3 - (intOf i).toNat)
  case atStart => exact ⟨0, rfl, by omega, rfl, HhS0.out⟩
  case round =>
    obtain ⟨k, rfl, hk, hsm, hS⟩ := hrel
    by_cases hlt : k < 3
    · have hlt2 : (k : Int) < 3 := by omega
      have hsn : s < d.next.length := by have := HhL.out; omega
      have hon : o < d.next.length := by have := HhL.out; omega
      have h1 := (Hnx.out s k hsn hlt).1
      have h2 := (Hnx.out o k hon hlt).1
      have e0 := hS.cell (v := .slice (some ⟨b1, o1, none⟩) L cvv) 0 0 rfl rfl
      have e1 := (bcell hS.bel b1 _ hb1).trans Hks.out
      have e2 := (bcell hS.bel b1 _ hb1).trans Hko.out
      have e3 := (bcell hS.bel b3 _ hb3).trans (Hcs3.out k hlt)
      have e4 := (bcell hS.bel b4 _ hb4).trans (Hcs4.out k hlt)
      rw [Hval.out s k hsn hlt] at e3
      rw [Hval.out o k hon hlt] at e4
      have e5 := (bcell hS.bel b2 _ hb2).trans (Hcell.out _ h1)
      have e6 := (bcell hS.bel b2 _ hb2).trans (Hcell.out _ h2)
      have hsucc := sameR_succ d cl s o k
      obtain ⟨p, hp⟩ : ∃ p, p = nxD d s k := ⟨_, rfl⟩
      obtain ⟨q, hq⟩ : ∃ q, q = nxD d o k := ⟨_, rfl⟩
      rw [← hp] at h1 e3 e5 hsucc
      rw [← hq] at h2 e4 e6 hsucc
      rw [hsm, Bool.true_and] at hsucc
      rw [← HhL.out] at h1 h2
      have hpI : (p : Int) < L := by omega
      have hqI : (q : Int) < L := by omega
      have Hhp := Lib.hid hp; clear hp
      have Hhq := Lib.hid hq; clear hq
      have HhS := Lib.hid hS; clear hS
      have Hhsm := Lib.hid hsm; clear hsm
      have Hhsucc := Lib.hid hsucc; clear hsucc
      clear h1 h2 hsn hon
      by_cases he : cl p = cl q
      · have heI : ((cl p : Int) != (cl q : Int)) = false := by rw [he]; simp
        have heI2 : ((cl p : Int) = (cl q : Int)) = True := by simp [he]
        have heI3 : (!((cl p : Int) == (cl q : Int))) = false := by rw [he]; simp
        have Hhe := Lib.hid he; clear he
        go_wp2
        go_quiet (fail)
        go_wp2
        go_roundw
        case rel => exact ⟨k + 1, by go_num, by omega, by rw [Hhsucc.out]; simp [Hhe.out], HhS.out.drewN _⟩
        case measure => simp [intOf]; omega
      · have heI : ((cl p : Int) != (cl q : Int)) = true := by simp; omega
        have heI2 : ((cl p : Int) = (cl q : Int)) = False := by simp; omega
        have heI3 : (!((cl p : Int) == (cl q : Int))) = true := by simp; omega
        have Hhe := Lib.hid he; clear he
        go_wp2
        go_quiet (fail)
        go_wp2
        go_ret
        have hrf : false = r := by rw [← Hhr.out]; exact (sameR_no hlt (by rw [← Hhp.out, ← Hhq.out]; exact Hhe.out)).symm
        subst hrf
        exact ⟨rfl, (HhS.out.drewN _).bel⟩
    · obtain rfl : k = 3 := by omega
      have hrt : true = r := by rw [← Hhr.out, hsm]
      subst hrt
      have HhS := Lib.hid hS; clear hS
      have Hhsm := Lib.hid hsm; clear hsm
      go_wp2
      go_ret
      exact ⟨rfl, HhS.out.bel⟩
section
variable {n : Nat} {nx : Nat → Nat → Nat}
end
theorem clsL_congr {n : Nat} {cl cl' : Nat → Nat} (h : ∀ s, s < n → cl s = cl' s) : clsL n cl = clsL n cl' := List.map_congr_left fun s hs => by rw [h s (List.mem_range.1 hs)]
theorem clsL_snoc (k : Nat) (cl : Nat → Nat) : clsL (k + 1) cl = clsL k cl ++ [(cl k : Int)] := by
  unfold clsL
  rw [List.range_succ, List.map_append]
  rfl
theorem sameAt_R (d : DfaD) (cl : Nat → Nat) (t s : Nat) : sameAt (nxD d) cl t s = (decide (cl t = cl s) && sameR d cl t s 3) := rfl
def okAt (l : List Int) (n : Int) (j : Nat) : Bool := inB (l.getD j 0) 0 (n - 1) && (decide (j = 0) || decide (l.getD (j - 1) 0 < l.getD j 0))
def stOk (l : List Int) (n : Int) : Bool := (List.range l.length).all (okAt l n)
def mvOk (n : Int) (m : Int × Int × Int) : Bool := inB m.1 0 (n - 1) && inB m.2.2 0 (n - 1) && inB m.2.1 (-1) 2
def nfaOk (n : NfaD) : Bool := inB n.states 0 40 && decide (n.moves.length ≤ 400) && stOk n.firsts n.states && stOk n.ends n.states && n.moves.all (mvOk n.states)
theorem range_snoc {p : Nat → Bool} {k : Nat} (h : (List.range k).all p = true) (hp : p k = true) : (List.range (k + 1)).all p = true := by
  rw [List.range_succ, List.all_append, h]
  simp [hp]
end Go.Proofs.Ytfgpkadhegdffaa
namespace Go.Proofs.Ytfgpkadhegdffaa
open Go.RowKit
end Go.Proofs.Ytfgpkadhegdffaa
namespace Go.Proofs.Ytfgpkadhegdffaa
open Go.RowKit
end Go.Proofs.Ytfgpkadhegdffaa
