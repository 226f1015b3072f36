/-
  Automata joined, repeated, side by side; what compiling a tree of parts gives; plain.
  No condition: this text speaks of no program.
-/
import Derived.Test.YthhbjkgchabfmaaPk04Dm
import Derived.Test.YthhbjkgchabfmaaPk07Rp
import Derived.Test.YthhbjkgchabfmaaPk08Prd
namespace Go.Proofs.Ythhbjkgchabfmaa
open Go.RowKit
def shJ (n : Nat) (m : Int × Int × Int) : Int × Int × Int := (m.1 + (n : Int), m.2.1, m.2.2 + (n : Int))
def wJoin (a b : DfaD) : NfaD :=
  ⟨((a.next.length + b.next.length : Nat) : Int), mvs a a.next.length ++ (mvs b b.next.length).map (shJ a.next.length) ++ (eds a a.next.length).map (fun e => (e, -1, (a.next.length : Int))), [0], (eds b b.next.length).map (fun e => e + (a.next.length : Int))⟩
def wStar (a : DfaD) : NfaD :=
  ⟨((a.next.length + 1 : Nat) : Int), mvs a a.next.length ++ [((a.next.length : Int), -1, 0)] ++ (eds a a.next.length).map (fun e => (e, -1, (a.next.length : Int))), [(a.next.length : Int)], [(a.next.length : Int)]⟩
def detM (M K : Nat) (n : NfaD) : Option DfaD := if (metSM M n K).length ≤ K then some (numDfa (nxSM M n) (enS n) (metSM M n K)) else none
def pairK (K : Nat) (f : Bool → Bool → Bool) (a b : DfaD) : Option DfaD := if (metP a b K).length ≤ K then some (numDfa (stepP a b) (endsF f a b) (metP a b K)) else none
def noneD : DfaD := ⟨[[0, 0, 0]], [false]⟩
def oneD : DfaD := ⟨[[1, 1, 1], [1, 1, 1]], [true, false]⟩
def ltrD (c : Fin 3) : DfaD := ⟨[[2, 2, 2].set c.val 1, [2, 2, 2], [2, 2, 2]], [false, true, false]⟩
def negD (a : DfaD) : DfaD := ⟨a.next, a.ends.map (fun x => !x)⟩
def compE (K : Nat) : Ex → Option DfaD
  | .zero => some (smallD noneD)
  | .one => some (smallD oneD)
  | .ltr c => some (smallD (ltrD c))
  | .join a b => (compE K a).bind fun x => (compE K b).bind fun y => (detM 81 K (wJoin x y)).map smallD
  | .alt a b => (compE K a).bind fun x => (compE K b).bind fun y => (pairK K (fun p q => p || q) x y).map smallD
  | .both a b => (compE K a).bind fun x => (compE K b).bind fun y => (pairK K (fun p q => p && q) x y).map smallD
  | .neg a => (compE K a).map fun x => smallD (negD x)
  | .star a => (compE K a).bind fun x => (detM 81 K (wStar x)).map smallD
theorem num_ok {α : Type} [DecidableEq α] {nx : α → Nat → α} {a : α} {en : α → Bool} {K : Nat} (hK : K = 40) (h : (bat nx a K).met.length ≤ K) : dfaOk (numDfa nx en (bat nx a K).met).next (numDfa nx en (bat nx a K).met).ends = true := by
  obtain ⟨h1, h2, h3, h4⟩ := fine_num (en := en) (nx := nx) (a := a) h (by omega)
  exact dfaOk_of h1 (by rw [numDfa_len]; omega) h3 fun i hi => h4 i hi
theorem detM_ok {M K : Nat} (hK : K = 40) {n : NfaD} {d : DfaD} (h : detM M K n = some d) : dfaOk d.next d.ends = true := by
  unfold detM at h
  split at h
  · rename_i hle
    simp only [Option.some.injEq] at h
    subst h
    exact num_ok hK hle
  · cases h
theorem pairK_ok {K : Nat} (hK : K = 40) {f : Bool → Bool → Bool} {a b d : DfaD} (h : pairK K f a b = some d) : dfaOk d.next d.ends = true := by
  unfold pairK at h
  split at h
  · rename_i hle
    simp only [Option.some.injEq] at h
    subst h
    exact num_ok hK hle
  · cases h
theorem small_ok {d : DfaD} (h : dfaOk d.next d.ends = true) : dfaOk (smallD d).next (smallD d).ends = true :=
  (trim_ok (fold_ok (trim_ok h).1)).1
theorem noneD_ok : dfaOk noneD.next noneD.ends = true := by decide
theorem oneD_ok : dfaOk oneD.next oneD.ends = true := by decide
theorem ltrD_ok (c : Fin 3) : dfaOk (ltrD c).next (ltrD c).ends = true := by
  have : c = 0 ∨ c = 1 ∨ c = 2 := by omega
  rcases this with rfl | rfl | rfl <;> decide
theorem negD_ok {d : DfaD} (h : dfaOk d.next d.ends = true) : dfaOk (negD d).next (negD d).ends = true := by
  simp only [dfaOk, Bool.and_eq_true, decide_eq_true_eq] at h ⊢
  exact ⟨h.1, by simpa [negD] using h.2⟩
theorem compE_ok {K : Nat} (hK : K = 40) : ∀ (t : Ex) {d : DfaD}, compE K t = some d → dfaOk d.next d.ends = true := by
  intro t
  cases t with
  | zero => intro d h; simp only [compE, Option.some.injEq] at h; subst h; exact small_ok noneD_ok
  | one => intro d h; simp only [compE, Option.some.injEq] at h; subst h; exact small_ok oneD_ok
  | ltr c => intro d h; simp only [compE, Option.some.injEq] at h; subst h; exact small_ok (ltrD_ok c)
  | join a b =>
    intro d h
    simp only [compE, Option.bind_eq_some_iff, Option.map_eq_some_iff] at h
    obtain ⟨x, -, y, -, z, hz, rfl⟩ := h
    exact small_ok (detM_ok hK hz)
  | alt a b =>
    intro d h
    simp only [compE, Option.bind_eq_some_iff, Option.map_eq_some_iff] at h
    obtain ⟨x, -, y, -, z, hz, rfl⟩ := h
    exact small_ok (pairK_ok hK hz)
  | both a b =>
    intro d h
    simp only [compE, Option.bind_eq_some_iff, Option.map_eq_some_iff] at h
    obtain ⟨x, -, y, -, z, hz, rfl⟩ := h
    exact small_ok (pairK_ok hK hz)
  | neg a =>
    intro d h
    simp only [compE, Option.map_eq_some_iff] at h
    obtain ⟨x, hx, rfl⟩ := h
    exact small_ok (negD_ok (compE_ok hK a hx))
  | star a =>
    intro d h
    simp only [compE, Option.bind_eq_some_iff, Option.map_eq_some_iff] at h
    obtain ⟨x, -, z, hz, rfl⟩ := h
    exact small_ok (detM_ok hK hz)
theorem mvIn_app {m : Nat} {xs ys : List (Int × Int × Int)} (h : mvIn m xs) (h' : mvIn m ys) : mvIn m (xs ++ ys) := fun x hx => by
  rcases List.mem_append.1 hx with hx | hx
  · exact h x hx
  · exact h' x hx
theorem wJoin_mv {a b : DfaD} (ha : dfaOk a.next a.ends = true) (hb : dfaOk b.next b.ends = true) : mvIn (a.next.length + b.next.length) (wJoin a b).moves := by
  have h1 := mvs_in ha _ (Nat.le_refl _)
  have h2 := mvs_in hb _ (Nat.le_refl _)
  have hlb := dfaOk_len hb
  refine mvIn_app (mvIn_app (mvIn_M h1 (by omega)) fun x hx => ?_) fun x hx => ?_
  · obtain ⟨y, hy, rfl⟩ := List.mem_map.1 hx
    have := h2 y hy
    simp only [shJ]
    omega
  · obtain ⟨y, hy, rfl⟩ := List.mem_map.1 hx
    have := eds_in a _ y hy
    simp only
    omega
theorem wJoin_ends {a b : DfaD} : inN (a.next.length + b.next.length) (wJoin a b).ends := fun x hx => by
  obtain ⟨y, hy, rfl⟩ := List.mem_map.1 hx
  have := eds_in b _ y hy
  omega
theorem wJoin_firsts {a b : DfaD} (ha : dfaOk a.next a.ends = true) : inN (a.next.length + b.next.length) [0] := fun x hx => by
  have hla := dfaOk_len ha
  simp only [List.mem_singleton] at hx
  omega
theorem wStar_mv {a : DfaD} (ha : dfaOk a.next a.ends = true) : mvIn (a.next.length + 1) (wStar a).moves := by
  have h1 := mvs_in ha _ (Nat.le_refl _)
  refine mvIn_app (mvIn_app (mvIn_M h1 (by omega)) fun x hx => ?_) fun x hx => ?_
  · simp only [List.mem_singleton] at hx
    subst hx
    simp only
    omega
  · obtain ⟨y, hy, rfl⟩ := List.mem_map.1 hx
    have := eds_in a _ y hy
    simp only
    omega
theorem wStar_ends {a : DfaD} : inN (a.next.length + 1) [(a.next.length : Int)] := fun x hx => by
  simp only [List.mem_singleton] at hx
  omega
structure DfaC (w : World) (d : DfaD) (b1 o1 cv b2 o2 cw : Nat) : Prop where
  l1 : 1 ≤ d.next.length
  l2 : d.next.length ≤ 40
  le : d.ends.length = d.next.length
  c1 : d.next.length ≤ cv ∧ cv ≤ 9223372036854775807
  c2 : d.next.length ≤ cw ∧ cw ≤ 9223372036854775807
  hb1 : b1 < w.heap.size
  hb2 : b2 < w.heap.size
  row : ∀ i, i < d.next.length → ∃ b3 o3 c3, b3 < w.heap.size ∧ 3 ≤ c3 ∧ c3 ≤ 9223372036854775807 ∧ w.cell? ⟨b1, o1 + i, none⟩ = some (.slice (some ⟨b3, o3, none⟩) 3 c3) ∧ ∀ c, c < 3 → w.cell? ⟨b3, o3 + c, none⟩ = some (.int .i64 (nxD d i c : Nat))
  en : ∀ i, i < d.next.length → w.cell? ⟨b2, o2 + i, none⟩ = some (.bool (enD d i))
  lt : ∀ i c, i < d.next.length → c < 3 → nxD d i c < d.next.length
  dx : ∀ i c, i < d.next.length → c < 3 → dnx d (i : Int) c = (nxD d i c : Nat)
theorem dfa_open {d : DfaD} {w : World} {v : Value} (hd : dfaOk d.next d.ends = true) (h : DfaR 0 w v d) : ∃ b1 o1 cv b2 o2 cw, v = .agg #[.slice (some ⟨b1, o1, none⟩) d.next.length cv, .slice (some ⟨b2, o2, none⟩) d.next.length cw] ∧ DfaC w d b1 o1 cv b2 o2 cw := by
  obtain ⟨v1, v2, rfl, q1, q2⟩ := h
  have hf := fine_of hd
  obtain ⟨hl1, hl2, hle⟩ := dfaOk_len hd
  obtain ⟨av, cv, rfl, hc1, hc2, hr1⟩ := q1.formI
  obtain ⟨b1, o1, rfl, -, hb1, hcs1⟩ := hr1 (by omega)
  obtain ⟨av2, cw, rfl, hc3, hc4, hr2⟩ := q2.form
  rw [hle] at hc3 hr2
  obtain ⟨b2, o2, rfl, -, hb2, hcs2⟩ := hr2 (by omega)
  rw [hle]
  refine ⟨b1, o1, cv, b2, o2, cw, rfl, hl1, hl2, hle, ⟨hc1, hc2⟩, ⟨hc3, hc4⟩, hb1, hb2, fun i hi => ?_, fun i hi => hcs2 i hi, fun i c hi hc => (nxD_lt hf hi hc).1, fun i c hi hc => (nxD_lt hf hi hc).2⟩
  obtain ⟨ax, cx, hks, p1, p2, hIs⟩ := hcs1 i hi
  have hr3 := (dfaOk_row hd hi).1
  rw [hr3] at hks hIs p1
  obtain ⟨_, _, hform, -, -, hrs⟩ := hIs.form
  rw [hr3] at hform hrs
  simp only [Value.slice.injEq, true_and] at hform
  obtain ⟨rfl, rfl⟩ := hform
  obtain ⟨b3, o3, rfl, -, hb3, hcs3⟩ := hrs (by omega)
  refine ⟨b3, o3, cx, hb3, p1, p2, hks, fun c hc => ?_⟩
  rw [hcs3 c hc]
  have hyx := (nxD_lt hf hi hc).2
  unfold dnx at hyx
  rw [Int.toNat_natCast] at hyx
  rw [hyx]
def RD (D : DfaD) (w : World) (e : Ending) (w' : World) : Prop := ∃ a1 c1 a2 c2, e = .returned (.agg #[.slice a1 D.next.length c1, .slice a2 D.ends.length c2]) ∧ DfaR w.heap.size w' (.agg #[.slice a1 D.next.length c1, .slice a2 D.ends.length c2]) D ∧ Below w.heap.size w w'
theorem DfaC.below {w w' : World} {d : DfaD} {b1 o1 cv b2 o2 cw : Nat} (h : DfaC w d b1 o1 cv b2 o2 cw) (hb : Below w.heap.size w w') : DfaC w' d b1 o1 cv b2 o2 cw where
  l1 := h.l1
  l2 := h.l2
  le := h.le
  c1 := h.c1
  c2 := h.c2
  hb1 := Nat.lt_of_lt_of_le h.hb1 hb.size
  hb2 := Nat.lt_of_lt_of_le h.hb2 hb.size
  row := fun i hi => by
    obtain ⟨b3, o3, c3, p1, p2, p3, p4, p5⟩ := h.row i hi
    exact ⟨b3, o3, c3, Nat.lt_of_lt_of_le p1 hb.size, p2, p3, (bcell hb b1 _ h.hb1).trans p4, fun c hc => (bcell hb b3 _ p1).trans (p5 c hc)⟩
  en := fun i hi => (bcell hb b2 _ h.hb2).trans (h.en i hi)
  lt := h.lt
  dx := h.dx
end Go.Proofs.Ythhbjkgchabfmaa
