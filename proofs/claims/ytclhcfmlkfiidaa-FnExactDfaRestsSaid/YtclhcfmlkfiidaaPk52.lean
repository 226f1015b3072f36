/-
  What the reading of an argument says of memory: lists of ints, of bools, of rows, of structs of two or three ints.
  No condition: this text speaks of no program.
  Opening the arguments of the exact laws, and closed facts for their rows.
  No condition.
-/
import Derived.Test.YtclhcfmlkfiidaaOwn
import Derived.ProofKit
import Derived.Deep.Slices
import Derived.Deep.Strs
import Derived.Lib.SmallJoins
import Derived.OpenShut
import Derived.Test.YtclhcfmlkfiidaaRows
namespace Go.Proofs.Ytclhcfmlkfiidaa
open Go.RowKit Go.Deep Go.ChangeShapes Go.ChangeAt
section
variable {H : Type} {enc : TypeId × Value → H} {P : Program} {w : World} {held : Bool}

theorem maxLen_le {n : Nat} (h : n ≤ maxLen) : n ≤ 9223372036854775807 := h
/-- An address under which a cell lies has no spot. -/
theorem addr_plain {a : Addr} {v : Value} (h : w.cell? (a.add 0) = some v) : ∃ b off, a = ⟨b, off, none⟩ := by
  obtain ⟨b, off, spot⟩ := a
  have hspot : spot = none := by simpa [Addr.add] using World.cell?_spot h
  subst hspot
  exact ⟨b, off, rfl⟩
theorem sl_of_cells {a : Addr} {len cap : Nat} {cs : List Value} (hl : cs.length = len) (hle : len ≤ cap) (hm : cap ≤ maxLen) (hc : ∀ i, i < len → w.cell? (a.add i) = cs[i]?) : Sl 0 w (.slice (some a) len cap) len 1 cs := by
  refine ⟨by omega, _, cap, rfl, hle, hm, fun h0 => ?_⟩
  obtain ⟨u, hu⟩ : ∃ u, cs[0]? = some u := ⟨cs[0]'(by omega), by simp [show 0 < cs.length by omega]⟩
  obtain ⟨b, off, rfl⟩ := addr_plain ((hc 0 h0).trans hu)
  refine ⟨b, off, rfl, Nat.zero_le _, World.block_lt_of_cell? w _ ((hc 0 h0).trans hu), fun j hj => ?_⟩
  rw [← hc j (by omega), ← Go.WideShapes.add_plain]

theorem open_ints_R {t e : TypeId} {fuel : Nat} {cs : List Value} {x : DataW H × List MemPlace} (ht : P.underlying t = some (.slice e)) (he : P.underlying e = some (.int .i64)) (hc : P.cellsOf e = 1)
    (h : DataW.trod enc P w 0 (fun _ => true) held fuel t cs = some x) : ∃ v xs, cs = [v] ∧ Ints 0 w v xs := by
  rcases open_ints ht he hc h with ⟨hcs, -⟩ | ⟨a, len, cap, zs, hcs, -, hl, hm, hz, -, hcell, -⟩
  · exact ⟨_, [], hcs, by simp, none, 0, rfl, Nat.le_refl _, Nat.zero_le _, fun h => by simp at h⟩
  · simp only [if_true] at hz
    refine ⟨_, zs.take len, hcs, ?_⟩
    have hlen : (zs.take len).length = len := by simp; omega
    unfold Ints
    rw [hlen]
    refine sl_of_cells (by simp; omega) hl hm fun i hi => ?_
    rw [hcell i (by omega)]
    simp [hi, show i < zs.length by omega]

theorem open_bools_R {t e : TypeId} {fuel : Nat} {cs : List Value} {x : DataW H × List MemPlace} (ht : P.underlying t = some (.slice e)) (he : P.underlying e = some .bool) (hc : P.cellsOf e = 1)
    (h : DataW.trod enc P w 0 (fun _ => true) held fuel t cs = some x) : ∃ v xs, cs = [v] ∧ Bools 0 w v xs := by
  rcases open_slice1 ht hc h with ⟨hcs, -⟩ | ⟨a, len, cap, m, n, V, D, Pl, hcs, -, hl, hm, hmm, -, hx⟩
  · exact ⟨_, [], hcs, by simp, none, 0, rfl, Nat.le_refl _, Nat.zero_le _, fun h => by simp at h⟩
  · simp only [if_true] at hmm
    have hb : ∀ i, i < len → ∃ b, V i = .bool b := fun i hi => by
      obtain ⟨b, hb, -⟩ := DataW.trod_bool he (hx i (by omega)).2
      exact ⟨b, by simpa using hb⟩
    refine ⟨_, (List.range len).map fun i => match V i with | .bool b => b | _ => false, hcs, ?_⟩
    unfold Bools
    rw [List.length_map, List.length_range]
    refine sl_of_cells (by simp) hl hm fun i hi => ?_
    rw [(hx i (by omega)).1]
    obtain ⟨b, hb⟩ := hb i hi
    simp [hi, hb]

theorem open_intSS_R {t e q : TypeId} {fuel : Nat} {cs : List Value} {x : DataW H × List MemPlace} (ht : P.underlying t = some (.slice e)) (he : P.underlying e = some (.slice q)) (hq : P.underlying q = some (.int .i64)) (hce : P.cellsOf e = 1) (hcq : P.cellsOf q = 1)
    (h : DataW.trod enc P w 0 (fun _ => true) held fuel t cs = some x) : ∃ v xss, cs = [v] ∧ IntSS 0 w v xss := by
  rcases open_slice1 ht hce h with ⟨hcs, -⟩ | ⟨a, len, cap, m, n, V, D, Pl, hcs, -, hl, hm, hmm, -, hx⟩
  · exact ⟨_, [], hcs, [], ⟨by simp, none, 0, rfl, Nat.le_refl _, Nat.zero_le _, fun h => by simp at h⟩, fun i hi => by simp at hi⟩
  · simp only [if_true] at hmm
    have hrow : ∀ i, i < len → ∃ xs, Ints 0 w (V i) xs := fun i hi => by
      obtain ⟨v, xs, hv, hI⟩ := open_ints_R he hq hcq (hx i (by omega)).2
      exact ⟨xs, by simp at hv; rw [hv]; exact hI⟩
    obtain ⟨X, hX⟩ := choose_lt hrow
    refine ⟨_, (List.range len).map X, hcs, (List.range len).map V, ?_, fun i hi => ?_⟩
    · rw [List.length_map, List.length_range]
      refine sl_of_cells (by simp) hl hm fun i hi => ?_
      rw [(hx i (by omega)).1]
      simp [hi]
    · rw [List.length_map, List.length_range] at hi
      simpa [hi] using hX i hi

/-- The cells of a struct of ints, one cell each, in order. -/
theorem open_struct2 {t f : TypeId} {f0 f1 : Field} {fuel : Nat} {cs : List Value} {x : DataW H × List MemPlace} (ht : P.underlying t = some (.struct #[f0, f1])) (hf0 : f0.type = f ∧ f0.offset = 0) (hf1 : f1.type = f ∧ f1.offset = 1)
    (hf : P.underlying f = some (.int .i64)) (hc : P.cellsOf f = 1) (hl : cs.length = 2) (h : DataW.trod enc P w 0 (fun _ => true) held fuel t cs = some x) : ∃ a b : Int, cs = [.int .i64 a, .int .i64 b] := by
  obtain ⟨y0, y1, n, -, -, h0, h1⟩ := trod_struct2 ht h
  rw [hf0.1, hf0.2, hc] at h0
  rw [hf1.1, hf1.2, hc] at h1
  match cs, hl with
  | [c0, c1], _ =>
    obtain ⟨a, ha, -⟩ := DataW.trod_int hf h0
    obtain ⟨b, hb, -⟩ := DataW.trod_int hf h1
    simp at ha hb
    exact ⟨a, b, by rw [ha, hb]⟩
theorem open_struct3 {t f : TypeId} {f0 f1 f2 : Field} {fuel : Nat} {cs : List Value} {x : DataW H × List MemPlace} (ht : P.underlying t = some (.struct #[f0, f1, f2])) (hf0 : f0.type = f ∧ f0.offset = 0) (hf1 : f1.type = f ∧ f1.offset = 1) (hf2 : f2.type = f ∧ f2.offset = 2)
    (hf : P.underlying f = some (.int .i64)) (hc : P.cellsOf f = 1) (hl : cs.length = 3) (h : DataW.trod enc P w 0 (fun _ => true) held fuel t cs = some x) : ∃ a b c : Int, cs = [.int .i64 a, .int .i64 b, .int .i64 c] := by
  obtain ⟨y0, y1, y2, n, -, -, h0, h1, h2⟩ := trod_struct3 ht h
  rw [hf0.1, hf0.2, hc] at h0
  rw [hf1.1, hf1.2, hc] at h1
  rw [hf2.1, hf2.2, hc] at h2
  match cs, hl with
  | [c0, c1, c2], _ =>
    obtain ⟨a, ha, -⟩ := DataW.trod_int hf h0
    obtain ⟨b, hb, -⟩ := DataW.trod_int hf h1
    obtain ⟨c, hc', -⟩ := DataW.trod_int hf h2
    simp at ha hb hc'
    exact ⟨a, b, c, by rw [ha, hb, hc']⟩

theorem sl_of_rows {a : Addr} {len cap size : Nat} {rows : List (List Value)} (hs : 0 < size) (hl : rows.length = len) (hr : ∀ r ∈ rows, r.length = size) (hle : len ≤ cap) (hm : cap ≤ maxLen)
    (hc : ∀ i, i < len → ∀ j, j < size → w.cell? ((a.add (i * size)).add j) = (rows.getD i [])[j]?) : Sl 0 w (.slice (some a) len cap) len size rows.flatten := by
  have hfl : rows.flatten.length = len * size := by
    rw [← hl]
    clear hl hc
    induction rows with
    | nil => simp
    | cons r rows ih =>
      have := ih (fun r hr' => hr r (by simp [hr']))
      simp only [List.flatten_cons, List.length_append, List.length_cons, this, hr r (by simp), Nat.succ_mul]
      omega
  have hget : ∀ (rows : List (List Value)), (∀ r ∈ rows, r.length = size) → ∀ i j, i < rows.length → j < size → rows.flatten[i * size + j]? = (rows.getD i [])[j]? := by
    intro rows
    induction rows with
    | nil => intro _ i j hi; simp at hi
    | cons r rows ih =>
      intro hr i j hi hj
      cases i with
      | zero =>
        simp only [List.flatten_cons, Nat.zero_mul, Nat.zero_add, List.getD_cons_zero]
        rw [List.getElem?_append_left (by rw [hr r (by simp)]; exact hj)]
      | succ i =>
        have := ih (fun r hr' => hr r (by simp [hr'])) i j (by simpa using hi) hj
        simp only [List.flatten_cons, List.getD_cons_succ]
        rw [List.getElem?_append_right (by rw [hr r (by simp), Nat.succ_mul]; omega), ← this, hr r (by simp), Nat.succ_mul]
        congr 1; omega
  refine ⟨hfl, _, cap, rfl, hle, hm, fun h0 => ?_⟩
  have hrow0 : (rows.getD 0 []).length = size := by
    have h0' : 0 < rows.length := by omega
    have := hr (rows.getD 0 []) (by simp [h0'])
    exact this
  obtain ⟨u, hu⟩ : ∃ u, (rows.getD 0 [])[0]? = some u := ⟨(rows.getD 0 [])[0]'(by omega), by rw [List.getElem?_eq_getElem]⟩
  have h00 := (hc 0 h0 0 hs).trans hu
  have h00' : w.cell? (a.add 0) = some u := by simpa [Addr.add] using h00
  obtain ⟨b, off, rfl⟩ := addr_plain h00'
  refine ⟨b, off, rfl, Nat.zero_le _, World.block_lt_of_cell? w _ h00', fun k hk => ?_⟩
  have hi : k / size < len := Nat.div_lt_of_lt_mul (by rw [Nat.mul_comm]; exact hk)
  have hj : k % size < size := Nat.mod_lt _ hs
  have h1 := hc (k / size) hi (k % size) hj
  have h2 := hget rows hr (k / size) (k % size) (by omega) hj
  have hk' : k / size * size + k % size = k := by rw [Nat.mul_comm]; exact Nat.div_add_mod k size
  rw [hk'] at h2
  rw [h2, ← h1, Go.WideShapes.add_plain, Go.WideShapes.add_plain, Nat.add_assoc, hk']

theorem open_pairs_R {t e f : TypeId} {f0 f1 : Field} {fuel : Nat} {cs : List Value} {x : DataW H × List MemPlace} (ht : P.underlying t = some (.slice e)) (he : P.underlying e = some (.struct #[f0, f1])) (hf0 : f0.type = f ∧ f0.offset = 0) (hf1 : f1.type = f ∧ f1.offset = 1)
    (hf : P.underlying f = some (.int .i64)) (hc : P.cellsOf f = 1) (hce : P.cellsOf e = 2) (h : DataW.trod enc P w 0 (fun _ => true) held fuel t cs = some x) : ∃ v xs, cs = [v] ∧ Pairs 0 w v xs := by
  rcases open_slice ht h with ⟨hcs, -⟩ | ⟨a, len, cap, m, n, D, Pl, hcs, -, hl, hm, hmm, -, hx⟩
  · exact ⟨_, [], hcs, by simp, none, 0, rfl, Nat.le_refl _, Nat.zero_le _, fun h => by simp at h⟩
  · simp only [if_true] at hmm
    rw [hce] at hx
    have hrow : ∀ i, i < len → ∃ p : Int × Int, ∀ j, j < 2 → w.cell? ((a.add (i * 2)).add j) = (pairCells p)[j]? := fun i hi => by
      obtain ⟨cs', h1, h2⟩ := hx i (by omega)
      obtain ⟨-, hlen, hcell⟩ := World.cells?_some h1
      obtain ⟨p, q, hpq⟩ := open_struct2 he hf0 hf1 hf hc hlen h2
      exact ⟨(p, q), fun j hj => by rw [hcell j hj, hpq]; rfl⟩
    obtain ⟨X, hX⟩ := choose_lt hrow
    refine ⟨_, (List.range len).map X, hcs, ?_⟩
    unfold Pairs
    rw [List.length_map, List.length_range, List.flatMap_def]
    refine sl_of_rows (by omega) (by simp) (fun r hr => ?_) hl hm fun i hi j hj => ?_
    · obtain ⟨p, -, rfl⟩ := List.mem_map.1 hr
      rfl
    · rw [hX i hi j hj]
      simp [hi]
end
end Go.Proofs.Ytclhcfmlkfiidaa
namespace Go.Proofs.Ytclhcfmlkfiidaa
open Go.ChangeShapes Go.WideShapes Go.ChangeAt Go.RowKit Go.Joins

theorem Try.own : ownKnob Try.prog.godebug = none := by kernel_rfl
theorem Try.cellsInt : Try.prog.cellsOf 3 = 1 := by kernel_rfl
theorem Try.cellsBool : Try.prog.cellsOf 4 = 1 := by kernel_rfl
theorem Try.cellsInts : Try.prog.cellsOf 44 = 1 := by kernel_rfl
theorem Try.cellsLDfa : Try.prog.cellsOf 25 = 2 := by kernel_rfl
theorem Try.cellsLPair : Try.prog.cellsOf 59 = 2 := by kernel_rfl
theorem Try.recLDfa : Try.prog.readableRec 25 = true := by kernel_rfl
theorem Try.recLPairs : Try.prog.readableRec 26 = true := by kernel_rfl
theorem Try.rowLDfa : (25 : TypeId) < Try.prog.types.size := of_decide_eq_true (by kernel_rfl)
theorem Try.rowLPairs : (26 : TypeId) < Try.prog.types.size := of_decide_eq_true (by kernel_rfl)
theorem Try.oneLDfa : ∃ f0 f1 : Field, Try.prog.underlying 25 = some (.struct #[f0, f1]) ∧ Go.Deep.oneCellFields Try.prog #[f0, f1] = true ∧ f0.type = 22 ∧ f1.type = 23 := ⟨_, _, Try.underlying25, by kernel_rfl, rfl, rfl⟩
theorem Try.oneLPair : ∃ f0 f1 : Field, Try.prog.underlying 59 = some (.struct #[f0, f1]) ∧ (f0.type = 3 ∧ f0.offset = 0) ∧ f1.type = 3 ∧ f1.offset = 1 := ⟨_, _, Try.underlying59, ⟨rfl, rfl⟩, rfl, rfl⟩

section
variable {H : Type} {enc : TypeId × Value → H} {W : World}
set_option maxRecDepth 100000 in
theorem open_dfa {r : Reach} {b0 : Nat} {held : Bool} {v : Value} {d : DataW H} {p : List MemPlace} (hv : Value.okWide Try.prog W r b0 25 v) (h : DataW.Trod enc Try.prog W 0 (fun _ => true) held 25 v d p) : ∃ D : DfaD, DfaR 0 W v D := by
  obtain ⟨f0, f1, hu, ho, ht0, ht1⟩ := Try.oneLDfa
  obtain ⟨c0, c1, y0, y1, m, rfl, -, -, hy0, hy1⟩ := open_agg2 hu ho Try.cellsLDfa hv h
  rw [ht0] at hy0
  rw [ht1] at hy1
  obtain ⟨u0, xss, hu0, hx⟩ := open_intSS_R Try.underlying22 Try.underlying44 Try.underlying3 Try.cellsInts Try.cellsInt hy0
  obtain ⟨u1, es, hu1, he⟩ := open_bools_R Try.underlying23 Try.underlying4 Try.cellsBool hy1
  simp only [List.cons.injEq, and_true] at hu0 hu1
  subst hu0 hu1
  exact ⟨⟨xss, es⟩, _, _, rfl, hx, he⟩
set_option maxRecDepth 100000 in
theorem open_lpairs {held : Bool} {v : Value} {d : DataW H} {p : List MemPlace} (h : DataW.Trod enc Try.prog W 0 (fun _ => true) held 26 v d p) (hv : v.cells.toList = [v]) : ∃ ps, Pairs 0 W v ps := by
  obtain ⟨f0, f1, hu, h0, h1⟩ := Try.oneLPair
  obtain ⟨fuel, hf⟩ := h
  obtain ⟨u, xs, hux, hx⟩ := open_pairs_R Try.underlying26 hu h0 h1 Try.underlying3 Try.cellsInt Try.cellsLPair hf
  rw [hv] at hux
  simp only [List.cons.injEq, and_true] at hux
  subst hux
  exact ⟨xs, hx⟩
end

end Go.Proofs.Ytclhcfmlkfiidaa
