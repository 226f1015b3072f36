/-
  An automaton's reachable part, plain; that of a numbered automaton is itself.
  No condition: this text speaks of no program.
  A valid automaton's memory, laid open; automata as results.
  No condition.
  A map among the things that a call has made; keys that are integers.
  Condition: the numbers in a key fit an int.
-/
import Derived.Test.YtjcegbcmomfgaaaFwp
import Derived.Test.YtjcegbcmomfgaaaCp
import Derived.Test.YtjcegbcmomfgaaaCtx
import Derived.Test.YtjcegbcmomfgaaaProd
import Derived.Test.YtjcegbcmomfgaaaKeysS
import Derived.Maps.Keyed
namespace Go.Proofs.Ytjcegbcmomfgaaa
open Go.RowKit

def nxD (d : DfaD) (s c : Nat) : Nat := ((d.next.getD s []).getD c 0).toNat
def enD (d : DfaD) (s : Nat) : Bool := d.ends.getD s false
def trimD (d : DfaD) : DfaD := numDfa (dnx d) (den d) (bat (dnx d) 0 d.next.length).met
theorem nxD_lt {d : DfaD} (hd : fine d) {s c : Nat} (hs : s < d.next.length) (hc : c < 3) : nxD d s c < d.next.length ∧ dnx d (s : Int) c = ((nxD d s c : Nat) : Int) := by
  obtain ⟨-, -, -, h⟩ := hd
  obtain ⟨-, h2⟩ := h s hs
  obtain ⟨a, b⟩ := h2 c hc
  unfold nxD dnx
  rw [Int.toNat_natCast]
  omega
theorem met_facts {d : DfaD} (hd : fine d) (K : Nat) : (∀ x ∈ (bat (dnx d) 0 K).met, 0 ≤ x ∧ x < (d.next.length : Int)) ∧ (bat (dnx d) 0 K).met.length ≤ d.next.length := by
  have h1 : ∀ x ∈ (bat (dnx d) 0 K).met, 0 ≤ x ∧ x < (d.next.length : Int) := by
    refine bat_all (Q := fun x => 0 ≤ x ∧ x < (d.next.length : Int)) ⟨by omega, by have := hd.1; omega⟩ (fun x c hc hx => ?_) K
    obtain ⟨s, rfl⟩ := Int.eq_ofNat_of_zero_le hx.1
    obtain ⟨a, b⟩ := nxD_lt hd (s := s) (by omega) hc
    rw [b]
    omega
  refine ⟨h1, ?_⟩
  have := nodup_le (bat_good (nx := dnx d) (a := 0) K).1 (m := upInts d.next.length) fun x hx => by
    obtain ⟨a, b⟩ := h1 x hx
    obtain ⟨s, rfl⟩ := Int.eq_ofNat_of_zero_le a
    exact mem_upInts.2 (by omega)
  rwa [upInts_len] at this
theorem fine_of {d : DfaD} (h : dfaOk d.next d.ends = true) : fine d := by
  have := dfaOk_len h
  exact ⟨by omega, by omega, by omega, fun i hi => dfaOk_row h hi⟩
theorem trim_num {α : Type} [DecidableEq α] {nx : α → Nat → α} {a : α} {en : α → Bool} {K : Nat} (hK : (bat nx a K).met.length ≤ K) : trimD (numDfa nx en (bat nx a K).met) = numDfa nx en (bat nx a K).met := by
  unfold trimD
  rw [numDfa_len]
  obtain ⟨m, hm⟩ : ∃ m, m = (bat nx a K).met.length := ⟨_, rfl⟩
  have hle : (bat nx a m).met.length ≤ m := by
    have := (bat_le (nx := nx) (a := a) (show m ≤ K by omega)).1.length_le
    omega
  have hd : bat nx a K = bat nx a m := bat_done hle (by omega)
  have hp := bat_pos (nx := nx) (a := a) K
  have hpl : ∀ (s : Int) c, c < 3 → 0 ≤ s ∧ s < m → placeOf (bat nx a K).met (nx ((bat nx a K).met.getD s.toNat a) c) < m := fun s c hc hs => by
    rw [hm]
    exact placeOf_lt (bat_closed hK (memD (d := a) (show s.toNat < (bat nx a K).met.length by omega)) hc)
  have hlt : ∀ (s : Int) c, c < 3 → 0 ≤ s ∧ s < m → 0 ≤ numNext nx a (bat nx a K).met s c ∧ numNext nx a (bat nx a K).met s c < m := fun s c hc hs => by
    have := hpl s c hc hs
    unfold numNext
    omega
  have e1 : bat (numNext nx a (bat nx a K).met) 0 m = bat (dnx (numDfa nx en (bat nx a K).met)) 0 m :=
    bat_congr (Q := fun s => 0 ≤ s ∧ s < (m : Int)) (by omega) (fun s c hc hs => hlt s c hc hs) (fun s c hc hs => (dnx_num (by omega) (by omega) hc).symm) m
  have hmet : (bat (dnx (numDfa nx en (bat nx a K).met)) 0 (bat nx a K).met.length).met = upInts (bat nx a K).met.length := by
    rw [← hm, ← e1, num_sim nx a K m (by omega), ← hd, hm]
  rw [hmet]
  have hr : (upInts (bat nx a K).met.length).map (numRow (dnx (numDfa nx en (bat nx a K).met)) (upInts (bat nx a K).met.length)) = (bat nx a K).met.map (numRow nx (bat nx a K).met) := by
    refine List.ext_getElem (by simp [upInts]) fun i h1 h2 => ?_
    have hi : i < (bat nx a K).met.length := by simpa using h2
    have hu : (upInts (bat nx a K).met.length)[i]'(by simpa using h1) = (i : Int) := by simp [upInts]
    simp only [List.getElem_map]
    rw [hu]
    unfold numRow
    refine List.map_congr_left fun c hc => ?_
    have hc3 : c < 3 := List.mem_range.1 hc
    rw [dnx_num (a := a) (by omega) (by omega) hc3]
    unfold numNext
    have hp2 := hpl (i : Int) c hc3 (by omega)
    have e2 : (bat nx a K).met.getD (i : Int).toNat a = (bat nx a K).met[i] := by simp [hi]
    rw [e2] at hp2 ⊢
    congr 1
    obtain ⟨q, hq⟩ : ∃ q, placeOf (bat nx a K).met (nx ((bat nx a K).met[i]) c) = q := ⟨_, rfl⟩
    rw [hq] at hp2 ⊢
    have e3 := upInts_getD (n := (bat nx a K).met.length) (k := q) (by omega)
    have e4 := idx_getD (l := upInts (bat nx a K).met.length) (k := q) (by rw [upInts_len]; omega) (List.Pairwise.map _ (fun _ _ h e => h (Int.ofNat.inj e)) List.nodup_range) (0 : Int)
    rw [e3] at e4
    exact e4
  have he : (upInts (bat nx a K).met.length).map (den (numDfa nx en (bat nx a K).met)) = (bat nx a K).met.map en := by
    refine List.ext_getElem (by simp [upInts]) fun i h1 h2 => ?_
    have hi : i < (bat nx a K).met.length := by simpa using h2
    have hu : (upInts (bat nx a K).met.length)[i]'(by simpa using h1) = (i : Int) := by simp [upInts]
    simp only [List.getElem_map]
    rw [hu]
    exact den_num hi
  exact congr (congrArg DfaD.mk hr) he
end Go.Proofs.Ytjcegbcmomfgaaa
namespace Go.Proofs.Ytjcegbcmomfgaaa
open Go.RowKit

/-- A valid automaton's memory: two slices, the rows, the ends. -/
structure DfaC (w : World) (d : DfaD) (b1 o1 cv b2 o2 cw : Nat) : Prop where
  l1 : 1 ≤ d.next.length
  l2 : d.next.length ≤ 40
  le : d.ends.length = d.next.length
  c1 : d.next.length ≤ cv ∧ cv ≤ 9223372036854775807
  c2 : d.next.length ≤ cw ∧ cw ≤ 9223372036854775807
  hb1 : b1 < w.heap.size
  hb2 : b2 < w.heap.size
  row : ∀ i, i < d.next.length → ∃ b3 o3 c3, b3 < w.heap.size ∧ 3 ≤ c3 ∧ c3 ≤ 9223372036854775807 ∧ w.cell? ⟨b1, o1 + i, none⟩ = some (.slice (some ⟨b3, o3, none⟩) 3 c3) ∧ ∀ c, c < 3 → w.cell? ⟨b3, o3 + c, none⟩ = some (.int .i64 (nxD d i c : Nat))
  en : ∀ i, i < d.next.length → w.cell? ⟨b2, o2 + i, none⟩ = some (.bool (enD d i))
  lt : ∀ i c, i < d.next.length → c < 3 → nxD d i c < d.next.length
  dx : ∀ i c, i < d.next.length → c < 3 → dnx d (i : Int) c = (nxD d i c : Nat)
theorem dfa_open {d : DfaD} {w : World} {v : Value} (hd : dfaOk d.next d.ends = true) (h : DfaR 0 w v d) : ∃ b1 o1 cv b2 o2 cw, v = .agg #[.slice (some ⟨b1, o1, none⟩) d.next.length cv, .slice (some ⟨b2, o2, none⟩) d.next.length cw] ∧ DfaC w d b1 o1 cv b2 o2 cw := by
  obtain ⟨v1, v2, rfl, q1, q2⟩ := h
  have hf := fine_of hd
  obtain ⟨hl1, hl2, hle⟩ := dfaOk_len hd
  obtain ⟨av, cv, rfl, hc1, hc2, hr1⟩ := q1.formI
  obtain ⟨b1, o1, rfl, -, hb1, hcs1⟩ := hr1 (by omega)
  obtain ⟨av2, cw, rfl, hc3, hc4, hr2⟩ := q2.form
  rw [hle] at hc3 hr2
  obtain ⟨b2, o2, rfl, -, hb2, hcs2⟩ := hr2 (by omega)
  rw [hle]
  refine ⟨b1, o1, cv, b2, o2, cw, rfl, hl1, hl2, hle, ⟨hc1, hc2⟩, ⟨hc3, hc4⟩, hb1, hb2, fun i hi => ?_, fun i hi => hcs2 i hi, fun i c hi hc => (nxD_lt hf hi hc).1, fun i c hi hc => (nxD_lt hf hi hc).2⟩
  obtain ⟨ax, cx, hks, p1, p2, hIs⟩ := hcs1 i hi
  have hr3 := (dfaOk_row hd hi).1
  rw [hr3] at hks hIs p1
  obtain ⟨_, _, hform, -, -, hrs⟩ := hIs.form
  rw [hr3] at hform hrs
  simp only [Value.slice.injEq, true_and] at hform
  obtain ⟨rfl, rfl⟩ := hform
  obtain ⟨b3, o3, rfl, -, hb3, hcs3⟩ := hrs (by omega)
  refine ⟨b3, o3, cx, hb3, p1, p2, hks, fun c hc => ?_⟩
  rw [hcs3 c hc]
  have hyx := (nxD_lt hf hi hc).2
  unfold dnx at hyx
  rw [Int.toNat_natCast] at hyx
  rw [hyx]
/-- An automaton as a function's result: to be read, nothing that there was has turned. -/
def RD (D : DfaD) (w : World) (e : Ending) (w' : World) : Prop := ∃ a1 c1 a2 c2, e = .returned (.agg #[.slice a1 D.next.length c1, .slice a2 D.ends.length c2]) ∧ DfaR w.heap.size w' (.agg #[.slice a1 D.next.length c1, .slice a2 D.ends.length c2]) D ∧ Below w.heap.size w w'
theorem DfaC.below {w w' : World} {d : DfaD} {b1 o1 cv b2 o2 cw : Nat} (h : DfaC w d b1 o1 cv b2 o2 cw) (hb : Below w.heap.size w w') : DfaC w' d b1 o1 cv b2 o2 cw where
  l1 := h.l1
  l2 := h.l2
  le := h.le
  c1 := h.c1
  c2 := h.c2
  hb1 := Nat.lt_of_lt_of_le h.hb1 hb.size
  hb2 := Nat.lt_of_lt_of_le h.hb2 hb.size
  row := fun i hi => by
    obtain ⟨b3, o3, c3, p1, p2, p3, p4, p5⟩ := h.row i hi
    exact ⟨b3, o3, c3, Nat.lt_of_lt_of_le p1 hb.size, p2, p3, (bcell hb b1 _ h.hb1).trans p4, fun c hc => (bcell hb b3 _ p1).trans (p5 c hc)⟩
  en := fun i hi => (bcell hb b2 _ h.hb2).trans (h.en i hi)
  lt := h.lt
  dx := h.dx
/-- An automaton as a function's result, the call's own. -/
def RDo (D : DfaD) (w : World) (e : Ending) (w' : World) : Prop := ∃ a1 c1 a2 c2, e = .returned (.agg #[.slice a1 D.next.length c1, .slice a2 D.ends.length c2]) ∧
  DfaO 24 3 4 w.heap.size w'.heap.size w' (.agg #[.slice a1 D.next.length c1, .slice a2 D.ends.length c2]) D ∧ Below w.heap.size w w'
end Go.Proofs.Ytjcegbcmomfgaaa
namespace Go.Proofs.Ytjcegbcmomfgaaa
open Go.RowKit Go.Maps

/-- A map. -/
def Ent.map {α : Type} (kt : Nat) (enc : α → Value) (b : Nat) (M : List (α × Value)) : Ent := ⟨fun k => k = b, fun w => MapL Try.prog kt enc w b M, fun _ _ h hk => h.kept (hk b rfl)⟩
section
variable {α : Type} {w0 w w' : World} {L : List Ent} {kt : Nat} {enc : α → Value} {b : Nat} {M M' : List (α × Value)}
theorem St.map (h : St w0 w L) (i : Nat) (hx : L[i]? = some (Ent.map kt enc b M)) : MapL Try.prog kt enc w b M := (h.has i _ hx).1
theorem St.maplt (h : St w0 w L) (i : Nat) (hx : L[i]? = some (Ent.map kt enc b M)) : w0.heap.size ≤ b ∧ b < w.heap.size := (h.has i _ hx).2 b rfl
theorem St.mapset (h : St w0 w L) (i : Nat) (hx : L[i]? = some (Ent.map kt enc b M)) (hn : MapL Try.prog kt enc w' b M') (hg : w.grownBy w' (some b)) : St w0 w' (L.set i (Ent.map kt enc b M')) :=
  h.turn i hx _ hg.os hg.tape hg.output hg.size (fun k hk hne => hg.block k hk fun e => hne (show k = b from Option.some.inj e)) hn fun k hk => by
    have hk : k = b := hk
    subst hk
    exact ⟨hn.lt, Or.inl rfl⟩
end
def intEnc (x : Int) : Value := .int .i64 x
theorem intEnc_inj : ∀ x y : Int, intEnc x = intEnc y → x = y := fun x y h => by
  simp only [intEnc, Value.int.injEq, true_and] at h
  exact h
theorem Try.lawInt : Keyed Try.prog 3 := int_keyed Try.underlying3
theorem Try.keyOfInt (x : Int) (hx : fitI x) : ∃ l, keyOf Try.prog 3 (intEnc x) = some l := ⟨_, keyOf_int_mk Try.underlying3 (fit_wf hx)⟩
theorem zeroIntI (w : World) : (zeroValue 3).run Try.prog w = .ok (.int .i64 0) w := by kernel_rfl
end Go.Proofs.Ytjcegbcmomfgaaa
