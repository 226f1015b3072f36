/-
  The walk over the reference's l7Name.
  Condition: the list reads as such.
  A valid automaton that reads as such, laid open: its rows and ends cell by cell.
  Condition: the automaton is valid and reads as such.
  A map among the things that a call has made; keys that are integers.
  Condition: the numbers in a key fit an int.
-/
import Derived.Test.YtclhcfmlkfiidaaCtx
import Derived.Test.YtclhcfmlkfiidaaProd
import Derived.Test.YtclhcfmlkfiidaaSo
import Derived.Test.YtclhcfmlkfiidaaPk14
import Derived.Test.YtclhcfmlkfiidaaPk20
import Derived.Maps.Keyed
namespace Go.Proofs.Ytclhcfmlkfiidaa
open Go.RowKit

/-- The first place of a number, or -1. -/
def nameOf (l : List Int) (x : Int) : Int := if x ∈ l then ((l.idxOf x : Nat) : Int) else -1
theorem nameOf_at {l : List Int} {x : Int} {k : Nat} (hk : k < l.length) (hn : x ∉ l.take k) (h : l.getD k 0 = x) : nameOf l x = (k : Int) := by
  have hx : l[k] = x := by simpa [hk] using h
  have hm : x ∈ l := by rw [← hx]; exact List.getElem_mem hk
  unfold nameOf
  rw [if_pos hm]
  have e : l = l.take k ++ (x :: l.drop (k + 1)) := by
    rw [← hx, List.getElem_cons_drop, List.take_append_drop]
  have : l.idxOf x = k := by
    rw [e, List.idxOf_append, if_neg hn]
    simp
    omega
  rw [this]
set_option maxHeartbeats 1600000 in
theorem l7Name_any (l : List Int) (x : Int) (v : Value) (w : World) (hl : l.length ≤ 1000000) (h : Ints 0 w v l) :
    Calls Try.prog 95 #[v, .int .i64 x] w fun e w' => e = .returned (.int .i64 (nameOf l x)) ∧ Below w.heap.size w w' := by
  obtain ⟨a, c, rfl, hc1, hc2, hr⟩ := h.form
  have Hr := Lib.hid hr
  clear hr h
  go_enter Try.func95, Try.ntmps95
  go_wp2
  go_loopw [5] (fun i wr => ∃ k : Nat, i = .int .i64 k ∧ k ≤ l.length ∧ x ∉ l.take k ∧ Below w.heap.size w wr) (fun i _ => l.length - (intOf i).toNat)
  case atStart => exact ⟨0, rfl, Nat.zero_le _, by simp, Below.refl _ _⟩
  case round =>
    obtain ⟨k, rfl, hk, hn, hb⟩ := hrel
    by_cases hlt : k < l.length
    · have hlt2 : (k : Int) < l.length := by omega
      obtain ⟨b, o, rfl, -, hbl, hcs⟩ := Hr.out (by omega)
      have k1 := (bcell hb b _ hbl).trans (hcs k hlt)
      have htk : l.take (k + 1) = l.take k ++ [l.getD k 0] := by rw [List.take_succ_eq_append_getElem hlt]; simp [hlt]
      obtain ⟨y, hy⟩ : ∃ y, y = l.getD k 0 := ⟨_, rfl⟩
      rw [← hy] at k1 htk
      have Hhy := Lib.hid hy; clear hy
      have Hhb := Lib.hid hb; clear hb
      have Hhtk := Lib.hid htk; clear htk
      clear hcs
      by_cases he : y = x
      · subst he
        have hnm : nameOf l y = (k : Int) := nameOf_at hlt hn Hhy.out.symm
        have Hhn := Lib.hid hn; clear hn
        have Hhnm := Lib.hid hnm; clear hnm
        go_wp2
        go_ret
        refine ⟨?_, Hhb.out⟩
        rw [Hhnm.out]
        rfl
      · have he2 : (y = x) = False := by simp [he]
        have he3 : (y == x) = false := by simpa using he
        have Hhn := Lib.hid hn; clear hn
        have Hhe := Lib.hid he; clear he
        go_wp2
        go_roundw
        case rel => exact ⟨k + 1, by go_num, by omega, by rw [Hhtk.out]; simp only [List.mem_append, List.mem_singleton, not_or]; exact ⟨Hhn.out, fun e => Hhe.out e.symm⟩, Hhb.out⟩
        case measure => simp [intOf]; omega
    · obtain rfl : k = l.length := by omega
      rw [List.take_length] at hn
      have hnm : nameOf l x = -1 := by unfold nameOf; rw [if_neg hn]
      have Hhn := Lib.hid hn; clear hn
      have Hhb := Lib.hid hb; clear hb
      have Hhnm := Lib.hid hnm; clear hnm
      go_wp2
      go_ret
      refine ⟨?_, Hhb.out⟩
      rw [Hhnm.out]
      rfl
end Go.Proofs.Ytclhcfmlkfiidaa
namespace Go.Proofs.Ytclhcfmlkfiidaa
open Go.RowKit

/-- A valid automaton's memory: two slices, the rows, the ends. -/
structure DfaC (w : World) (d : DfaD) (b1 o1 cv b2 o2 cw : Nat) : Prop where
  l1 : 1 ≤ d.next.length
  l2 : d.next.length ≤ 40
  le : d.ends.length = d.next.length
  c1 : d.next.length ≤ cv ∧ cv ≤ 9223372036854775807
  c2 : d.next.length ≤ cw ∧ cw ≤ 9223372036854775807
  hb1 : b1 < w.heap.size
  hb2 : b2 < w.heap.size
  row : ∀ i, i < d.next.length → ∃ b3 o3 c3, b3 < w.heap.size ∧ 3 ≤ c3 ∧ c3 ≤ 9223372036854775807 ∧ w.cell? ⟨b1, o1 + i, none⟩ = some (.slice (some ⟨b3, o3, none⟩) 3 c3) ∧ ∀ c, c < 3 → w.cell? ⟨b3, o3 + c, none⟩ = some (.int .i64 (nxD d i c : Nat))
  en : ∀ i, i < d.next.length → w.cell? ⟨b2, o2 + i, none⟩ = some (.bool (enD d i))
  lt : ∀ i c, i < d.next.length → c < 3 → nxD d i c < d.next.length
  dx : ∀ i c, i < d.next.length → c < 3 → dnx d (i : Int) c = (nxD d i c : Nat)
theorem dfa_open {d : DfaD} {w : World} {v : Value} (hd : dfaOk d.next d.ends = true) (h : DfaR 0 w v d) : ∃ b1 o1 cv b2 o2 cw, v = .agg #[.slice (some ⟨b1, o1, none⟩) d.next.length cv, .slice (some ⟨b2, o2, none⟩) d.next.length cw] ∧ DfaC w d b1 o1 cv b2 o2 cw := by
  obtain ⟨v1, v2, rfl, q1, q2⟩ := h
  have hf := fine_of hd
  obtain ⟨hl1, hl2, hle⟩ := dfaOk_len hd
  obtain ⟨av, cv, rfl, hc1, hc2, hr1⟩ := q1.formI
  obtain ⟨b1, o1, rfl, -, hb1, hcs1⟩ := hr1 (by omega)
  obtain ⟨av2, cw, rfl, hc3, hc4, hr2⟩ := q2.form
  rw [hle] at hc3 hr2
  obtain ⟨b2, o2, rfl, -, hb2, hcs2⟩ := hr2 (by omega)
  rw [hle]
  refine ⟨b1, o1, cv, b2, o2, cw, rfl, hl1, hl2, hle, ⟨hc1, hc2⟩, ⟨hc3, hc4⟩, hb1, hb2, fun i hi => ?_, fun i hi => hcs2 i hi, fun i c hi hc => (nxD_lt hf hi hc).1, fun i c hi hc => (nxD_lt hf hi hc).2⟩
  obtain ⟨ax, cx, hks, p1, p2, hIs⟩ := hcs1 i hi
  have hr3 := (dfaOk_row hd hi).1
  rw [hr3] at hks hIs p1
  obtain ⟨_, _, hform, -, -, hrs⟩ := hIs.form
  rw [hr3] at hform hrs
  simp only [Value.slice.injEq, true_and] at hform
  obtain ⟨rfl, rfl⟩ := hform
  obtain ⟨b3, o3, rfl, -, hb3, hcs3⟩ := hrs (by omega)
  refine ⟨b3, o3, cx, hb3, p1, p2, hks, fun c hc => ?_⟩
  rw [hcs3 c hc]
  have hyx := (nxD_lt hf hi hc).2
  unfold dnx at hyx
  rw [Int.toNat_natCast] at hyx
  rw [hyx]
/-- An automaton as a function's result: to be read, nothing that there was has turned. -/
def RD (D : DfaD) (w : World) (e : Ending) (w' : World) : Prop := ∃ a1 c1 a2 c2, e = .returned (.agg #[.slice a1 D.next.length c1, .slice a2 D.ends.length c2]) ∧ DfaR w.heap.size w' (.agg #[.slice a1 D.next.length c1, .slice a2 D.ends.length c2]) D ∧ Below w.heap.size w w'
/-- All that can be reached from what was met was met. -/
theorem met_closed {d : DfaD} (hd : dfaOk d.next d.ends = true) {k c : Nat} (hk : k < (bat (dnx d) 0 d.next.length).met.length) (hc : c < 3) : dnx d ((bat (dnx d) 0 d.next.length).met.getD k 0) c ∈ (bat (dnx d) 0 d.next.length).met := by
  have hm := (met_facts (fine_of hd) d.next.length).2
  have hkl : k < d.next.length := by omega
  have hkk : k < (bat (dnx d) 0 k).met.length := by
    by_cases h : k < (bat (dnx d) 0 k).met.length
    · exact h
    · have := bat_done (nx := dnx d) (a := 0) (k := k) (m := d.next.length) (by omega) (by omega)
      rw [this] at hk
      omega
  have hp := (bat_le (nx := dnx d) (a := (0 : Int)) (k := k) (m := d.next.length) (by omega)).1
  rw [prefix_getD hp hkk]
  have h1 := bpart_mem (nx := dnx d) (a := (0 : Int)) (k := k) (n := 3) hc
  have h2 := (bpart_le_bat (nx := dnx d) (a := (0 : Int)) (m := d.next.length) hkk (Nat.le_refl 3) hkl).1
  exact h2.subset h1
/-- What was met, as natural numbers. -/
theorem met_nat {d : DfaD} (hd : dfaOk d.next d.ends = true) {k : Nat} (hk : k < (bat (dnx d) 0 d.next.length).met.length) : ∃ x : Nat, (bat (dnx d) 0 d.next.length).met.getD k 0 = (x : Int) ∧ x < d.next.length ∧ ∀ c, c < 3 → ((nxD d x c : Nat) : Int) ∈ (bat (dnx d) 0 d.next.length).met := by
  have h := (met_facts (fine_of hd) d.next.length).1 _ (mem_getD hk (d := 0))
  refine ⟨((bat (dnx d) 0 d.next.length).met.getD k 0).toNat, by omega, by omega, fun c hc => ?_⟩
  have h1 := met_closed hd hk hc
  have e : (bat (dnx d) 0 d.next.length).met.getD k 0 = ((((bat (dnx d) 0 d.next.length).met.getD k 0).toNat : Nat) : Int) := by omega
  rw [e, (nxD_lt (fine_of hd) (by omega) hc).2] at h1
  exact h1
theorem nameOf_mem {l : List Int} {x : Int} (h : x ∈ l) : nameOf l x = (placeOf l x : Int) := by
  unfold nameOf placeOf
  rw [if_pos h]
end Go.Proofs.Ytclhcfmlkfiidaa
namespace Go.Proofs.Ytclhcfmlkfiidaa
open Go.RowKit Go.Maps

/-- A map. -/
def Ent.map {α : Type} (kt : Nat) (enc : α → Value) (b : Nat) (M : List (α × Value)) : Ent := ⟨fun k => k = b, fun w => MapL Try.prog kt enc w b M, fun _ _ h hk => h.kept (hk b rfl)⟩
section
variable {α : Type} {w0 w w' : World} {L : List Ent} {kt : Nat} {enc : α → Value} {b : Nat} {M M' : List (α × Value)}
theorem St.map (h : St w0 w L) (i : Nat) (hx : L[i]? = some (Ent.map kt enc b M)) : MapL Try.prog kt enc w b M := (h.has i _ hx).1
theorem St.maplt (h : St w0 w L) (i : Nat) (hx : L[i]? = some (Ent.map kt enc b M)) : w0.heap.size ≤ b ∧ b < w.heap.size := (h.has i _ hx).2 b rfl
theorem St.mapset (h : St w0 w L) (i : Nat) (hx : L[i]? = some (Ent.map kt enc b M)) (hn : MapL Try.prog kt enc w' b M') (hg : w.grownBy w' (some b)) : St w0 w' (L.set i (Ent.map kt enc b M')) :=
  h.turn i hx _ hg.os hg.tape hg.output hg.size (fun k hk hne => hg.block k hk fun e => hne (show k = b from Option.some.inj e)) hn fun k hk => by
    have hk : k = b := hk
    subst hk
    exact ⟨hn.lt, Or.inl rfl⟩
end
def intEnc (x : Int) : Value := .int .i64 x
theorem intEnc_inj : ∀ x y : Int, intEnc x = intEnc y → x = y := fun x y h => by
  simp only [intEnc, Value.int.injEq, true_and] at h
  exact h
theorem Try.lawInt : Keyed Try.prog 3 := int_keyed Try.underlying3
theorem Try.keyOfInt (x : Int) (hx : fitI x) : ∃ l, keyOf Try.prog 3 (intEnc x) = some l := ⟨_, keyOf_int_mk Try.underlying3 (fit_wf hx)⟩
theorem zeroIntI (w : World) : (zeroValue 3).run Try.prog w = .ok (.int .i64 0) w := by kernel_rfl
end Go.Proofs.Ytclhcfmlkfiidaa
