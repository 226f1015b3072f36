/-
  The walks over the functions that lead two automata side by side.
  Conditions: the automata lie in two variables, read as such and are valid; the states are states of theirs.
-/
import Derived.Test.YthigcohfjoodlaaCp
import Derived.Test.YthigcohfjoodlaaFwp
namespace Go.Proofs.Ythigcohfjoodlaa
open Go.RowKit

/-- A cell of a valid automaton's table. -/
theorem dfa_cell {w : World} {v1 : Value} {next : List (List Int)} {ends : List Bool} (h : IntSS 0 w v1 next) (hd : dfaOk next ends = true) {i c : Nat} (hi : i < next.length) (hc : c < 3) :
    ∃ q o cap z t s, v1 = .slice (some ⟨q, o, none⟩) next.length cap ∧ next.length ≤ cap ∧ cap ≤ 9223372036854775807 ∧ w.cell? ⟨q, o + i, none⟩ = some (.slice (some ⟨z, t, none⟩) 3 s) ∧ 3 ≤ s ∧ s ≤ 9223372036854775807 ∧
      w.cell? ⟨z, t + c, none⟩ = some (.int .i64 ((next.getD i []).getD c 0)) ∧ q < w.heap.size ∧ z < w.heap.size := by
  obtain ⟨a, cap, rfl, h1, h2, h3⟩ := h.form
  obtain ⟨q, o, rfl, _, hq, hr⟩ := h3 (by omega)
  obtain ⟨a', s, e1, e2, e3, e4⟩ := hr i hi
  obtain ⟨hl, _⟩ := dfaOk_row hd hi
  rw [hl] at e1 e2 e4
  obtain ⟨z, t, rfl, _, hz, e5⟩ := e4 (by omega)
  exact ⟨q, o, cap, z, t, s, rfl, h1, h2, e1, e2, e3, e5 c hc, hq, hz⟩
theorem bool_cell {w : World} {v1 : Value} {xs : List Bool} (h : Bools 0 w v1 xs) {i : Nat} (hi : i < xs.length) :
    ∃ q o cap, v1 = .slice (some ⟨q, o, none⟩) xs.length cap ∧ xs.length ≤ cap ∧ cap ≤ 9223372036854775807 ∧ w.cell? ⟨q, o + i, none⟩ = some (.bool (xs.getD i false)) ∧ q < w.heap.size := by
  obtain ⟨a, cap, rfl, h1, h2, h3⟩ := h.form
  obtain ⟨q, o, rfl, _, hq, hr⟩ := h3 (by omega)
  exact ⟨q, o, cap, rfl, h1, h2, hr i hi, hq⟩
theorem inPair_nat {a b : DfaD} {p : Int × Int} (h : inPair a b p = true) : ∃ i j : Nat, p = ((i : Int), (j : Int)) ∧ i < a.next.length ∧ j < b.next.length := by
  unfold inPair at h
  rw [Bool.and_eq_true] at h
  obtain ⟨x, y⟩ := p
  obtain ⟨h1, h2⟩ := inB_true h.1
  obtain ⟨h3, h4⟩ := inB_true h.2
  simp only at h1 h2 h3 h4
  obtain ⟨i, rfl⟩ := Int.eq_ofNat_of_zero_le h1
  obtain ⟨j, rfl⟩ := Int.eq_ofNat_of_zero_le h3
  exact ⟨i, j, rfl, by omega, by omega⟩
/-- An automaton in a variable. -/
def DfaAt (w : World) (b : Nat) (d : DfaD) : Prop := ∃ v1 v2, Bx w b #[v1, v2] 30 ∧ IntSS 0 w v1 d.next ∧ Bools 0 w v2 d.ends
theorem DfaAt.below {w w' : World} {b : Nat} {d : DfaD} (h : DfaAt w b d) (hb : Below w.heap.size w w') : DfaAt w' b d := by
  obtain ⟨v1, v2, h1, h2, h3⟩ := h
  exact ⟨v1, v2, h1.below hb h1.lt, h2.below hb, h3.below hb⟩

set_option maxRecDepth 100000 in
set_option maxHeartbeats 1600000 in
theorem product1_any (a b : DfaD) (x : Int × Int) (c ba bb : Nat) (w : World) (hda : dfaOk a.next a.ends = true) (hdb : dfaOk b.next b.ends = true) (h1 : DfaAt w ba a) (h2 : DfaAt w bb b) (hx : inPair a b x = true) (hc : c < 3) :
    Calls Try.prog 148 #[.agg #[.int .i64 x.1, .int .i64 x.2], .int .i64 c, .pointer (some ⟨ba, 0, none⟩), .pointer (some ⟨bb, 0, none⟩)] w fun e w' => e = .returned (.agg #[.int .i64 (stepP a b x c).1, .int .i64 (stepP a b x c).2]) ∧ Below w.heap.size w w' := by
  obtain ⟨i, j, rfl, hi, hj⟩ := inPair_nat hx
  obtain ⟨u1, u2, hB1, g1, -⟩ := h1
  obtain ⟨u3, u4, hB2, g2, -⟩ := h2
  obtain ⟨q1, o1, c1, z1, t1, s1, rfl, hc1, hm1, e1, l1, m1, e2, d1, d2⟩ := dfa_cell g1 hda hi hc
  obtain ⟨q2, o2, c2, z2, t2, s2, rfl, hc2, hm2, e3, l2, m2, e4, d3, d4⟩ := dfa_cell g2 hdb hj hc
  obtain ⟨ta, hta⟩ : ∃ ta, ta = (stepP a b ((i : Int), (j : Int)) c).1 := ⟨_, rfl⟩
  obtain ⟨tb, htb⟩ : ∃ tb, tb = (stepP a b ((i : Int), (j : Int)) c).2 := ⟨_, rfl⟩
  have e2' : w.cell? ⟨z1, t1 + c, none⟩ = some (.int .i64 ta) := by rw [hta]; exact e2
  have e4' : w.cell? ⟨z2, t2 + c, none⟩ = some (.int .i64 tb) := by rw [htb]; exact e4
  rw [← hta, ← htb]
  have hla := dfaOk_len hda
  have hlb := dfaOk_len hdb
  have ca := hB1.cell 0
  have cb := hB2.cell 0
  simp only [List.getElem?_toArray, List.getElem?_cons_zero] at ca cb
  have d5 := hB1.lt
  have d6 := hB2.lt
  have hci : (c : Int) < 3 := by omega
  have hii : (i : Int) < a.next.length := by omega
  have hjj : (j : Int) < b.next.length := by omega
  clear g1 g2 hB1 hB2 hta htb e2 e4 hx hda hdb
  obtain ⟨h41, h42, -⟩ := hla
  obtain ⟨h43, h44, -⟩ := hlb
  go_enter Try.func148, Try.ntmps148
  go_wp2
  go_region_held3 (fun w' => w'.cell? ⟨w.heap.size, 0, none⟩ = some (.int .i64 i) ∧ w'.cell? ⟨w.heap.size, 1, none⟩ = some (.int .i64 j) ∧ w'.cell? ⟨ba, 0, none⟩ = some (.slice (some ⟨q1, o1, none⟩) a.next.length c1) ∧ w'.cell? ⟨bb, 0, none⟩ = some (.slice (some ⟨q2, o2, none⟩) b.next.length c2) ∧ w'.cell? ⟨q1, o1 + i, none⟩ = some (.slice (some ⟨z1, t1, none⟩) 3 s1) ∧ w'.cell? ⟨q2, o2 + j, none⟩ = some (.slice (some ⟨z2, t2, none⟩) 3 s2) ∧ w'.cell? ⟨z1, t1 + c, none⟩ = some (.int .i64 ta) ∧ w'.cell? ⟨z2, t2 + c, none⟩ = some (.int .i64 tb))
    (first | go_keep) (fail)
  go_wp2
  refine bodyPost_ret (v := .agg #[.int .i64 ta, .int .i64 tb]) (by simp [results, Try.results148, go_sem]) rfl ⟨rfl, ?_⟩
  exact (((Below.refl _ _).alloc (Nat.le_refl _) _).alloc (by simp) _).drew

theorem differ1_any (x y r : Bool) (hr : (x != y) = r) (w : World) : Calls Try.prog 181 #[.bool x, .bool y] w fun e w' => e = .returned (.bool r) ∧ w = w' := by
  subst hr
  go_enter Try.func181, Try.ntmps181
  go_wp2
  go_ret
  exact ⟨rfl, rfl⟩
theorem makePairs1_any (x y r : Bool) (hr : false = r) (w : World) : Calls Try.prog 89 #[.bool x, .bool y] w fun e w' => e = .returned (.bool r) ∧ w = w' := by
  subst hr
  go_enter Try.func89, Try.ntmps89
  go_wp2
  go_ret
  exact ⟨rfl, rfl⟩

/-- What the pair's ends are for a function of two truth values. -/
def endsF (f : Bool → Bool → Bool) (a b : DfaD) (p : Int × Int) : Bool := f (a.ends.getD p.1.toNat false) (b.ends.getD p.2.toNat false)
set_option maxRecDepth 100000 in
set_option maxHeartbeats 1600000 in
theorem product2_differ (a b : DfaD) (x : Int × Int) (bf ba bb : Nat) (w : World) (hda : dfaOk a.next a.ends = true) (hdb : dfaOk b.next b.ends = true) (hf : Bx w bf #[.func (.func 181) #[] #[]] 101) (h1 : DfaAt w ba a) (h2 : DfaAt w bb b) (hx : inPair a b x = true) :
    Calls Try.prog 149 #[.agg #[.int .i64 x.1, .int .i64 x.2], .pointer (some ⟨bf, 0, none⟩), .pointer (some ⟨ba, 0, none⟩), .pointer (some ⟨bb, 0, none⟩)] w fun e w' => e = .returned (.bool (endsF (fun x y => x != y) a b x)) ∧ Below w.heap.size w w' := by
  obtain ⟨i, j, rfl, hi, hj⟩ := inPair_nat hx
  have hla := dfaOk_len hda
  have hlb := dfaOk_len hdb
  obtain ⟨u1, u2, hB1, -, g1⟩ := h1
  obtain ⟨u3, u4, hB2, -, g2⟩ := h2
  obtain ⟨q1, o1, c1, rfl, hc1, hm1, e1, d1⟩ := bool_cell g1 (i := i) (by omega)
  obtain ⟨q2, o2, c2, rfl, hc2, hm2, e2, d2⟩ := bool_cell g2 (i := j) (by omega)
  obtain ⟨ta, hta⟩ : ∃ ta, ta = a.ends.getD i false := ⟨_, rfl⟩
  obtain ⟨tb, htb⟩ : ∃ tb, tb = b.ends.getD j false := ⟨_, rfl⟩
  rw [← hta] at e1
  rw [← htb] at e2
  obtain ⟨r, hr⟩ : ∃ r, (ta != tb) = r := ⟨_, rfl⟩
  have hres : endsF (fun x y => x != y) a b ((i : Int), (j : Int)) = r := by
    rw [← hr, hta, htb]
    rfl
  rw [hres]
  have ca := hB1.cell 1
  have cb := hB2.cell 1
  have cf := hf.cell 0
  simp only [List.getElem?_toArray, List.getElem?_cons_zero, List.getElem?_cons_succ] at ca cb cf
  have d5 := hB1.lt
  have d6 := hB2.lt
  have d7 := hf.lt
  obtain ⟨l1, l2, l3⟩ := hla
  obtain ⟨l4, l5, l6⟩ := hlb
  have hii : (i : Int) < a.ends.length := by omega
  have hjj : (j : Int) < b.ends.length := by omega
  have Hr := Lib.hid hr
  clear g1 g2 hB1 hB2 hta htb hx hda hdb hf hres hr l3 l6
  go_enter Try.func149, Try.ntmps149
  go_wp2
  go_quiet ((go_at_call 181; with_reducible exact quiet_eq (differ1_any _ _ _ Hr.out _)))
  go_wp2
  go_ret
  exact ⟨rfl, below_drewN ((Below.refl _ _).alloc (Nat.le_refl _) _) _⟩
set_option maxRecDepth 100000 in
set_option maxHeartbeats 1600000 in
theorem product2_make (a b : DfaD) (x : Int × Int) (bf ba bb : Nat) (w : World) (hda : dfaOk a.next a.ends = true) (hdb : dfaOk b.next b.ends = true) (hf : Bx w bf #[.func (.func 89) #[] #[]] 101) (h1 : DfaAt w ba a) (h2 : DfaAt w bb b) (hx : inPair a b x = true) :
    Calls Try.prog 149 #[.agg #[.int .i64 x.1, .int .i64 x.2], .pointer (some ⟨bf, 0, none⟩), .pointer (some ⟨ba, 0, none⟩), .pointer (some ⟨bb, 0, none⟩)] w fun e w' => e = .returned (.bool (endsF (fun _ _ => false) a b x)) ∧ Below w.heap.size w w' := by
  obtain ⟨i, j, rfl, hi, hj⟩ := inPair_nat hx
  have hla := dfaOk_len hda
  have hlb := dfaOk_len hdb
  obtain ⟨u1, u2, hB1, -, g1⟩ := h1
  obtain ⟨u3, u4, hB2, -, g2⟩ := h2
  obtain ⟨q1, o1, c1, rfl, hc1, hm1, e1, d1⟩ := bool_cell g1 (i := i) (by omega)
  obtain ⟨q2, o2, c2, rfl, hc2, hm2, e2, d2⟩ := bool_cell g2 (i := j) (by omega)
  obtain ⟨ta, hta⟩ : ∃ ta, ta = a.ends.getD i false := ⟨_, rfl⟩
  obtain ⟨tb, htb⟩ : ∃ tb, tb = b.ends.getD j false := ⟨_, rfl⟩
  rw [← hta] at e1
  rw [← htb] at e2
  obtain ⟨r, hr⟩ : ∃ r, false = r := ⟨_, rfl⟩
  have hres : endsF (fun _ _ => false) a b ((i : Int), (j : Int)) = r := by
    rw [← hr]
    rfl
  rw [hres]
  have ca := hB1.cell 1
  have cb := hB2.cell 1
  have cf := hf.cell 0
  simp only [List.getElem?_toArray, List.getElem?_cons_zero, List.getElem?_cons_succ] at ca cb cf
  have d5 := hB1.lt
  have d6 := hB2.lt
  have d7 := hf.lt
  obtain ⟨l1, l2, l3⟩ := hla
  obtain ⟨l4, l5, l6⟩ := hlb
  have hii : (i : Int) < a.ends.length := by omega
  have hjj : (j : Int) < b.ends.length := by omega
  have Hr := Lib.hid hr
  clear g1 g2 hB1 hB2 hta htb hx hda hdb hf hres hr l3 l6
  go_enter Try.func149, Try.ntmps149
  go_wp2
  go_quiet ((go_at_call 89; with_reducible exact quiet_eq (makePairs1_any _ _ _ Hr.out _)))
  go_wp2
  go_ret
  exact ⟨rfl, below_drewN ((Below.refl _ _).alloc (Nat.le_refl _) _) _⟩
end Go.Proofs.Ythigcohfjoodlaa
