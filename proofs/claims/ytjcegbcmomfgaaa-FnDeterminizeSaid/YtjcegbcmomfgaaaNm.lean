/-
  Automata with choices, plain: sets of states as numbers (bit s: state s is in), closing, steps.
  No condition: this text speaks of no program.
  A region that draws its order, by an invariant: one step for each operation in the place of one way for each order.
  No condition: this text speaks of no program.
  When nothing is ready, everything is listed: regions with late stores.
  No condition.
-/
import Derived.Test.YtjcegbcmomfgaaaGrow
import Derived.Test.YtjcegbcmomfgaaaFwp
import Derived.RegionTactic
import Derived.Deep.RegionLaw
namespace Go.Proofs.Ytjcegbcmomfgaaa
open Go.RowKit

/-- A set with a further state. -/
def adj (v s : Nat) : Nat := v ||| 2 ^ s
theorem has_adj (v s t : Nat) : (adj v s).testBit t = (v.testBit t || decide (s = t)) := by
  unfold adj
  rw [Nat.testBit_or, Nat.testBit_two_pow]
theorem adj_lt {v s n : Nat} (hv : v < 2 ^ n) (hs : s < n) : adj v s < 2 ^ n := Nat.or_lt_two_pow hv (Nat.pow_lt_pow_right (by omega) hs)
/-- The states of a set, below n, as truth values and as numbers. -/
def flags (n v : Nat) : List Bool := (List.range n).map v.testBit
def members (n v : Nat) : List Int := ((List.range n).filter v.testBit).map Int.ofNat
theorem flags_len (n v : Nat) : (flags n v).length = n := by simp [flags]
theorem flags_getD {n v s : Nat} (h : s < n) : (flags n v).getD s false = v.testBit s := by simp [flags, h]
theorem flags_adj {n v s : Nat} : flags n (adj v s) = (flags n v).set s true := by
  apply List.ext_getElem
  · simp [flags]
  · intro i h1 h2
    simp only [flags, List.getElem_map, List.getElem_range]
    rw [List.getElem_set, has_adj]
    by_cases h : s = i <;> simp [h]
theorem flags_zero (n : Nat) : flags n 0 = List.replicate n false := by
  apply List.ext_getElem
  · simp [flags]
  · intro i h1 h2
    simp [flags]
theorem flags_inj {n u v : Nat} (hu : u < 2 ^ n) (hv : v < 2 ^ n) (h : flags n u = flags n v) : u = v := by
  apply Nat.eq_of_testBit_eq
  intro i
  by_cases hi : i < n
  · rw [← flags_getD (v := u) hi, h, flags_getD hi]
  · rw [Nat.testBit_lt_two_pow (Nat.lt_of_lt_of_le hu (Nat.pow_le_pow_right (by omega) (by omega))), Nat.testBit_lt_two_pow (Nat.lt_of_lt_of_le hv (Nat.pow_le_pow_right (by omega) (by omega)))]
theorem members_more {n m v : Nat} (hv : v < 2 ^ n) (hm : n ≤ m) : members m v = members n v := by
  unfold members
  obtain ⟨k, rfl⟩ := Nat.le.dest hm
  congr 1
  induction k with
  | zero => rfl
  | succ k ih =>
    rw [← Nat.add_assoc, List.range_succ, List.filter_append, ih (by omega)]
    have : v.testBit (n + k) = false := Nat.testBit_lt_two_pow (Nat.lt_of_lt_of_le hv (Nat.pow_le_pow_right (by omega) (by omega)))
    simp [this]
theorem members_succ (n v : Nat) : members (n + 1) v = members n v ++ (if v.testBit n = true then [(n : Int)] else []) := by
  unfold members
  rw [List.range_succ, List.filter_append, List.map_append]
  by_cases h : v.testBit n = true <;> simp [h]

/-- The set of a list of states. -/
def setV (l : List Int) : Nat := l.foldl (fun v s => adj v s.toNat) 0
theorem foldl_snoc {α β : Type} (f : β → α → β) (b : β) {l : List α} {k : Nat} (hk : k < l.length) (d : α) : (l.take (k + 1)).foldl f b = f ((l.take k).foldl f b) (l.getD k d) := by
  rw [List.take_succ_eq_append_getElem hk, List.foldl_append]
  simp [hk]
theorem foldl_inv {α β : Type} (f : β → α → β) (Q : β → Prop) {l : List α} (hf : ∀ b, ∀ x ∈ l, Q b → Q (f b x)) : ∀ {b : β}, Q b → Q (l.foldl f b) := by
  induction l with
  | nil => intro b h; exact h
  | cons x l ih => intro b h; exact ih (fun b y hy => hf b y (by simp [hy])) (hf b x (by simp) h)
theorem foldl_take_inv {α β : Type} (f : β → α → β) (Q : β → Prop) {l : List α} (hf : ∀ b, ∀ x ∈ l, Q b → Q (f b x)) {b : β} (h : Q b) (k : Nat) : Q ((l.take k).foldl f b) :=
  foldl_inv f Q (fun b x hx => hf b x (List.mem_of_mem_take hx)) h
def inN (n : Nat) (l : List Int) : Prop := ∀ s ∈ l, 0 ≤ s ∧ s < (n : Int)
theorem setV_lt {n : Nat} {l : List Int} (h : inN n l) : setV l < 2 ^ n :=
  foldl_inv _ (fun v => v < 2 ^ n) (fun v s hs hv => adj_lt hv (by have := h s hs; omega)) (Nat.two_pow_pos n)

/-- Moves between states below n. -/
def mvIn (n : Nat) (ms : List (Int × Int × Int)) : Prop := ∀ m ∈ ms, (0 ≤ m.1 ∧ m.1 < (n : Int)) ∧ (0 ≤ m.2.2 ∧ m.2.2 < (n : Int))
/-- One move without a letter is followed; all of them once; again and again; until nothing changes. -/
def clMove (v : Nat) (m : Int × Int × Int) : Nat := if (decide (m.2.1 = -1) && v.testBit m.1.toNat && !v.testBit m.2.2.toNat) = true then adj v m.2.2.toNat else v
def clPass (ms : List (Int × Int × Int)) (v : Nat) : Nat := ms.foldl clMove v
def clIt (ms : List (Int × Int × Int)) (v : Nat) : Nat → Nat
  | 0 => v
  | k + 1 => clPass ms (clIt ms v k)
def clV (n : Nat) (ms : List (Int × Int × Int)) (v : Nat) : Nat := clIt ms v n
/-- The moves with a letter from a set. -/
def stMove (v : Nat) (c : Int) (u : Nat) (m : Int × Int × Int) : Nat := if (decide (m.2.1 = c) && v.testBit m.1.toNat) = true then adj u m.2.2.toNat else u
def stV (n : Nat) (ms : List (Int × Int × Int)) (v : Nat) (c : Int) : Nat := clV n ms (ms.foldl (stMove v c) 0)
theorem clMove_lt {n : Nat} {ms : List (Int × Int × Int)} (h : mvIn n ms) {m : Int × Int × Int} (hm : m ∈ ms) {v : Nat} (hv : v < 2 ^ n) : clMove v m < 2 ^ n := by
  unfold clMove
  split
  · exact adj_lt hv (by have := (h m hm).2; omega)
  · exact hv
theorem clPass_lt {n : Nat} {ms : List (Int × Int × Int)} (h : mvIn n ms) {v : Nat} (hv : v < 2 ^ n) : clPass ms v < 2 ^ n := foldl_inv _ (fun v => v < 2 ^ n) (fun _ _ hm hv => clMove_lt h hm hv) hv
theorem clIt_lt {n : Nat} {ms : List (Int × Int × Int)} (h : mvIn n ms) {v : Nat} (hv : v < 2 ^ n) : ∀ k, clIt ms v k < 2 ^ n
  | 0 => hv
  | k + 1 => clPass_lt h (clIt_lt h hv k)
theorem stMove_lt {n : Nat} {ms : List (Int × Int × Int)} (h : mvIn n ms) {m : Int × Int × Int} (hm : m ∈ ms) {v u : Nat} {c : Int} (hu : u < 2 ^ n) : stMove v c u m < 2 ^ n := by
  unfold stMove
  split
  · exact adj_lt hu (by have := (h m hm).2; omega)
  · exact hu
theorem stV_lt {n : Nat} {ms : List (Int × Int × Int)} (h : mvIn n ms) (v : Nat) (c : Int) : stV n ms v c < 2 ^ n :=
  clIt_lt h (foldl_inv _ (fun v => v < 2 ^ n) (fun _ _ hm hv => stMove_lt h hm hv) (Nat.two_pow_pos n)) n

/-- How many states below n are not in. -/
def clr (n v : Nat) : Nat := ((List.range n).filter fun i => !v.testBit i).length
theorem filter_le {α : Type} {p q : α → Bool} : ∀ {l : List α}, (∀ x ∈ l, p x = true → q x = true) → (l.filter p).length ≤ (l.filter q).length
  | [], _ => by simp
  | x :: l, h => by
    have ih := filter_le (l := l) fun y hy => h y (by simp [hy])
    have hx := h x (by simp)
    simp only [List.filter_cons]
    by_cases hp : p x = true
    · rw [if_pos hp, if_pos (hx hp)]; simp; omega
    · rw [if_neg hp]
      split <;> simp <;> omega
theorem filter_lt {α : Type} {p q : α → Bool} {a : α} (hp : p a = false) (hq : q a = true) : ∀ {l : List α}, a ∈ l → (∀ x ∈ l, p x = true → q x = true) → (l.filter p).length < (l.filter q).length
  | [], h, _ => by simp at h
  | x :: l, ha, h => by
    have hle := filter_le (l := l) fun y hy => h y (by simp [hy])
    simp only [List.filter_cons]
    by_cases hx : a = x
    · subst hx
      rw [if_neg (by simp [hp]), if_pos hq]
      simp; omega
    · have ih := filter_lt hp hq (l := l) (by simpa [hx] using ha) fun y hy => h y (by simp [hy])
      have hxx := h x (by simp)
      by_cases hpx : p x = true
      · rw [if_pos hpx, if_pos (hxx hpx)]; simp; omega
      · rw [if_neg hpx]
        split <;> simp <;> omega
theorem clr_le (n v : Nat) : clr n v ≤ n := by
  have := List.length_filter_le (fun i => !v.testBit i) (List.range n)
  simpa [clr] using this
theorem clr_adj {n v s : Nat} (hs : s < n) (h : v.testBit s = false) : clr n (adj v s) < clr n v := by
  unfold clr
  refine filter_lt (a := s) (by simp [has_adj]) (by simp [h]) (by simpa using hs) fun x _ hx => ?_
  rw [has_adj] at hx
  simp at hx ⊢
  exact hx.1
theorem clMove_clr {n : Nat} {m : Int × Int × Int} (hm : 0 ≤ m.2.2 ∧ m.2.2 < (n : Int)) (v : Nat) : clMove v m = v ∨ clr n (clMove v m) < clr n v := by
  unfold clMove
  split
  · rename_i h
    simp only [Bool.and_eq_true, Bool.not_eq_true'] at h
    exact .inr (clr_adj (by omega) h.2)
  · exact .inl rfl
theorem clFold_clr {n : Nat} : ∀ {ms : List (Int × Int × Int)}, (∀ m ∈ ms, 0 ≤ m.2.2 ∧ m.2.2 < (n : Int)) → ∀ v, ms.foldl clMove v = v ∨ clr n (ms.foldl clMove v) < clr n v
  | [], _, v => .inl rfl
  | m :: ms, h, v => by
    have h1 := clMove_clr (h m (by simp)) v
    have h2 := clFold_clr (ms := ms) (fun m hm => h m (by simp [hm])) (clMove v m)
    simp only [List.foldl_cons]
    rcases h1 with h1 | h1
    · rw [h1] at h2 ⊢; exact h2
    · rcases h2 with h2 | h2
      · rw [h2]; exact .inr h1
      · exact .inr (Nat.lt_trans h2 h1)
theorem clIt_stay {ms : List (Int × Int × Int)} {v j : Nat} (h : clIt ms v (j + 1) = clIt ms v j) : ∀ k, j ≤ k → clIt ms v k = clIt ms v j
  | 0, hk => by obtain rfl : j = 0 := by omega
                rfl
  | k + 1, hk => by
    by_cases e : j = k + 1
    · subst e; rfl
    · have ih := clIt_stay h k (by omega)
      show clPass ms (clIt ms v k) = _
      rw [ih]
      exact h
theorem clIt_drop {n : Nat} {ms : List (Int × Int × Int)} (h : mvIn n ms) (v : Nat) : ∀ k, clIt ms v (k + 1) = clIt ms v k ∨ clr n (clIt ms v (k + 1)) + (k + 1) ≤ clr n v
  | 0 => by
    rcases clFold_clr (n := n) (ms := ms) (fun m hm => (h m hm).2) v with e | e
    · exact .inl e
    · exact .inr (by show clr n (clPass ms v) + 1 ≤ _; exact e)
  | k + 1 => by
    rcases clIt_drop h v k with e | e
    · left
      have := clIt_stay e (k + 1 + 1) (by omega)
      rw [this, e]
    · rcases clFold_clr (n := n) (ms := ms) (fun m hm => (h m hm).2) (clIt ms v (k + 1)) with e2 | e2
      · exact .inl e2
      · right
        have : clr n (clIt ms v (k + 1 + 1)) < clr n (clIt ms v (k + 1)) := e2
        omega
/-- Whatever does not change any more is the closed set. -/
theorem clV_of {n : Nat} {ms : List (Int × Int × Int)} (h : mvIn n ms) {v j : Nat} (hj : clIt ms v (j + 1) = clIt ms v j) : clV n ms v = clIt ms v j := by
  unfold clV
  by_cases hjn : j ≤ n
  · exact clIt_stay hj n hjn
  · rcases clIt_drop h v n with e | e
    · exact (clIt_stay e j (by omega)).symm
    · have := clr_le n v
      omega
theorem clIt_moved {n : Nat} {ms : List (Int × Int × Int)} (h : mvIn n ms) {v k : Nat} (hk : clIt ms v (k + 1) ≠ clIt ms v k) : k < n := by
  rcases clIt_drop h v k with e | e
  · exact absurd e hk
  · have := clr_le n v
    omega
/-- Inside a pass: what has changed once is never again as it was. -/
theorem clFold_ne {n : Nat} {ms : List (Int × Int × Int)} (h : mvIn n ms) {v : Nat} {k : Nat} (hk : k < ms.length) (hne : clMove ((ms.take k).foldl clMove v) (ms.getD k (0, 0, 0)) ≠ (ms.take k).foldl clMove v) : (ms.take (k + 1)).foldl clMove v ≠ v := by
  have h1 := clFold_clr (n := n) (ms := ms.take k) (fun m hm => (h m (List.mem_of_mem_take hm)).2) v
  have hmem : ms.getD k (0, 0, 0) ∈ ms := by
    rw [List.getD_eq_getElem?_getD, List.getElem?_eq_getElem hk]
    simp
  have h2 := clMove_clr (n := n) (h _ hmem).2 ((ms.take k).foldl clMove v)
  rw [foldl_snoc clMove v hk (0, 0, 0)]
  intro e
  rcases h2 with h2 | h2
  · exact hne h2
  · rw [e] at h2
    rcases h1 with h1 | h1
    · rw [h1] at h2; omega
    · omega
theorem clFold_ne_keep {n : Nat} {ms : List (Int × Int × Int)} (h : mvIn n ms) {v : Nat} {k : Nat} (hk : k < ms.length) (hne : (ms.take k).foldl clMove v ≠ v) : (ms.take (k + 1)).foldl clMove v ≠ v := by
  have h1 := clFold_clr (n := n) (ms := ms.take k) (fun m hm => (h m (List.mem_of_mem_take hm)).2) v
  have hmem : ms.getD k (0, 0, 0) ∈ ms := by
    rw [List.getD_eq_getElem?_getD, List.getElem?_eq_getElem hk]
    simp
  have h2 := clMove_clr (n := n) (h _ hmem).2 ((ms.take k).foldl clMove v)
  rw [foldl_snoc clMove v hk (0, 0, 0)]
  rcases h1 with h1 | h1
  · exact absurd h1 hne
  · rcases h2 with h2 | h2
    · rw [h2]; exact hne
    · intro e
      rw [e] at h2
      omega
end Go.Proofs.Ytjcegbcmomfgaaa
namespace Go.Proofs.Ytjcegbcmomfgaaa
open Go.RowKit

theorem offL {x p q : Bool} (h : x = true → p = true ∧ q = true) (hp : p = false) : x = false := by
  cases x with
  | false => rfl
  | true => rw [hp] at h; exact absurd (h rfl).1 (by decide)
theorem offR {x p q : Bool} (h : x = true → p = true ∧ q = true) (hq : q = false) : x = false := by
  cases x with
  | false => rfl
  | true => rw [hq] at h; exact absurd (h rfl).2 (by decide)

section
variable {P : Program} {ops : Array Oper} {Q : Exit → Act → World → Prop} {md : Region.Mode}
/-- How many operations have not come up. -/
def unl (n : Nat) (listed : Array Bool) : Nat := ((List.range n).filter fun i => !listed.getD i true).length
theorem unl_le (n : Nat) (listed : Array Bool) : unl n listed ≤ n := by
  unfold unl
  have := List.length_filter_le (fun i => !listed.getD i true) (List.range n)
  simpa using this
theorem unl_set {n i : Nat} {listed : Array Bool} (hi : i < n) (h : listed.getD i true = false) : unl n (listed.setIfInBounds i true) < unl n listed := by
  refine filter_lt (a := i) ?_ (by simp only [h]; rfl) (List.mem_range.2 hi) fun x _ hx => ?_
  · simp only [Bool.not_eq_false']
    rcases Nat.lt_or_ge i listed.size with h1 | h1
    · simp [h1]
    · simp [Array.getElem?_eq_none h1] at h
  · by_cases hxi : i = x
    · subst hxi
      simp only [h]
      rfl
    · simpa [hxi] using hx
theorem wpAny_inv (Inv : Array Bool → Act → World → Prop) (hstep : ∀ listed a w, Inv listed a w → ∀ i ∈ Region.ready md ops listed, wpOp P ops Q i (Inv (listed.setIfInBounds i true)) a w)
    (hdone : ∀ listed a w, Inv listed a w → Region.ready md ops listed = [] → Q .normal a w) : ∀ (fuel : Nat) (listed : Array Bool) (a : Act) (w : World), unl ops.size listed ≤ fuel → Inv listed a w → wpAny P md ops Q fuel listed a w
  | 0, listed, a, w, hf, h => by
    have hr : Region.ready md ops listed = [] := by
      refine List.eq_nil_iff_forall_not_mem.2 fun i hi => ?_
      obtain ⟨hun, o, ho, -⟩ := mem_ready.1 hi
      have := unl_set (n := ops.size) (Array.getElem?_eq_some_iff.1 ho).1 hun
      omega
    exact ⟨hr, hdone _ _ _ h hr⟩
  | fuel + 1, listed, a, w, hf, h => ⟨fun h0 => hdone _ _ _ h h0, fun i hi => wpOp_mono (fun a' w' h' => wpAny_inv Inv hstep hdone fuel _ a' w' (by
      obtain ⟨hun, o, ho, -⟩ := mem_ready.1 hi
      have := unl_set (n := ops.size) (Array.getElem?_eq_some_iff.1 ho).1 hun
      omega) h') (hstep _ _ _ h i hi)⟩
/-- The same, where the invariant speaks of the frame as it was at the start. -/
theorem wpAny_invA (Inv : Act → Array Bool → Act → World → Prop) {a : Act} {w : World} (hstep : ∀ listed b w, Inv a listed b w → ∀ i ∈ Region.ready md ops listed, wpOp P ops Q i (Inv a (listed.setIfInBounds i true)) b w)
    (hdone : ∀ listed b w, Inv a listed b w → Region.ready md ops listed = [] → Q .normal b w) (h0 : Inv a (Array.replicate ops.size false) a w) : wpAny P md ops Q ops.size (Array.replicate ops.size false) a w :=
  wpAny_inv (Inv a) hstep hdone _ _ _ _ (unl_le _ _) h0
/-- Every operation waits for earlier ones alone. -/
def depsDown (ops : Array Oper) : Bool := (List.range ops.size).all fun i => match ops[i]? with
  | some o => o.after.all fun e => decide (e.on < i)
  | none => true
theorem ready_nil {listed : Array Bool} (hd : depsDown ops = true) (hs : listed.size = ops.size) (hr : Region.ready md ops listed = []) : ∀ i, i < ops.size → listed.getD i true = true := by
  intro i
  induction i using Nat.strongRecOn with
  | ind i ih =>
    intro hi
    cases h : listed.getD i true with
    | true => rfl
    | false =>
      exfalso
      have hmem : i ∈ Region.ready md ops listed := by
        refine mem_ready.2 ⟨h, ops[i], by simp [hi], fun e he _ => ?_⟩
        simp only [depsDown, List.all_eq_true, List.mem_range] at hd
        have h1 := hd i hi
        simp only [Array.getElem?_eq_getElem hi] at h1
        have h2 : e.on < i := by
          have := (Array.all_eq_true_iff_forall_mem.1 h1) e he
          simpa using this
        have h3 := ih e.on h2 (by omega)
        have h4 : e.on < listed.size := by omega
        simpa [h4] using h3
      rw [hr] at hmem
      cases hmem
end
end Go.Proofs.Ytjcegbcmomfgaaa
namespace Go.Proofs.Ytjcegbcmomfgaaa
open Go.RowKit

section
variable {ops : Array Oper} {md : Region.Mode}
/-- Every operation waits for earlier ones alone, by the edges that bind. -/
def depsDownM (md : Region.Mode) (ops : Array Oper) : Bool := (List.range ops.size).all fun i => match ops[i]? with
  | some o => o.after.all fun e => !Region.binds md e || decide (e.on < i)
  | none => true
theorem ready_nilM {listed : Array Bool} (hd : depsDownM md ops = true) (hs : listed.size = ops.size) (hr : Region.ready md ops listed = []) : ∀ i, i < ops.size → listed.getD i true = true := by
  intro i
  induction i using Nat.strongRecOn with
  | ind i ih =>
    intro hi
    cases h : listed.getD i true with
    | true => rfl
    | false =>
      exfalso
      have hmem : i ∈ Region.ready md ops listed := by
        refine mem_ready.2 ⟨h, ops[i], by simp [hi], fun e he hbd => ?_⟩
        simp only [depsDownM, List.all_eq_true, List.mem_range] at hd
        have h1 := hd i hi
        simp only [Array.getElem?_eq_getElem hi] at h1
        have h2 : e.on < i := by
          have := (Array.all_eq_true_iff_forall_mem.1 h1) e he
          rw [hbd] at this
          simpa using this
        have h3 := ih e.on h2 (by omega)
        have h4 : e.on < listed.size := by omega
        simpa [h4] using h3
      rw [hr] at hmem
      cases hmem
end
end Go.Proofs.Ytjcegbcmomfgaaa
