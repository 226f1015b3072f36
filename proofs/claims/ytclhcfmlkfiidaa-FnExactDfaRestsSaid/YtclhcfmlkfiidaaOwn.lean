/-
  What a call made for itself: slices in blocks of numbers from lo on and below hi, that may be written.
  No condition: this text speaks of no program.
-/
import Derived.Test.YtclhcfmlkfiidaaLib
namespace Go.Proofs.Ytclhcfmlkfiidaa
open Go.RowKit

/-- Outside the blocks from lo on and below hi nothing has turned, and no block went away. -/
structure Only (lo hi : Nat) (w w' : World) : Prop where
  os : w'.os = w.os
  tape : w'.tape = w.tape
  output : w'.output = w.output
  size : w.heap.size ≤ w'.heap.size
  block : ∀ k, k < w.heap.size → (k < lo ∨ hi ≤ k) → w'.heap[k]? = w.heap[k]?
theorem Only.refl (lo hi : Nat) (w : World) : Only lo hi w w := ⟨rfl, rfl, rfl, Nat.le_refl _, fun _ _ _ => rfl⟩
theorem Only.trans {lo hi : Nat} {a b c : World} (h : Only lo hi a b) (k : Only lo hi b c) : Only lo hi a c :=
  ⟨k.os.trans h.os, k.tape.trans h.tape, k.output.trans h.output, Nat.le_trans h.size k.size, fun i hi hh => (k.block i (Nat.lt_of_lt_of_le hi h.size) hh).trans (h.block i hi hh)⟩
theorem Only.mono {lo hi lo' hi' : Nat} {a b : World} (h : Only lo hi a b) (h1 : lo' ≤ lo) (h2 : hi ≤ hi') : Only lo' hi' a b :=
  ⟨h.os, h.tape, h.output, h.size, fun k hk hh => h.block k hk (by omega)⟩
theorem Only.below {lo hi : Nat} {a b : World} (h : Only lo hi a b) (hlo : lo ≤ a.heap.size) : Below lo a b :=
  ⟨h.os, h.tape, h.output, h.size, fun k hk => h.block k (by omega) (Or.inl hk)⟩
theorem Only.of_below {lo hi : Nat} {a b : World} (h : Below a.heap.size a b) : Only lo hi a b :=
  ⟨h.os, h.tape, h.output, h.size, fun k hk _ => h.block k hk⟩

theorem Only.setCell {lo hi : Nat} {w w' : World} (h : Only lo hi w w') {a : Addr} (h1 : lo ≤ a.block) (h2 : a.block < hi) (v : Value) : Only lo hi w (w'.setCell a v) :=
  h.trans ⟨rfl, rfl, rfl, by simp [World.setCell], fun k _ hh => Below.heap_setCell _ _ _ _ (by omega)⟩
theorem Only.next {lo hi : Nat} {w w' w2 : World} (h : Only lo hi w w') (hb : Below w'.heap.size w' w2) : Only lo hi w w2 := h.trans (Only.of_below hb)
theorem setCell_size (w : World) (a : Addr) (v : Value) : (w.setCell a v).heap.size = w.heap.size := by simp [World.setCell]

/-- A slice of the call's own, in a block from lo on and below hi. -/
def Own (lo hi : Nat) (w : World) (e size : Nat) (v : Value) (n : Nat) (cs : List Value) : Prop :=
  w.ownsRow lo e size v n cs ∧ ∀ k, v.ownBlock = some k → k < hi

theorem Own.sl {lo hi : Nat} {w : World} {e size : Nat} {v : Value} {n : Nat} {cs : List Value} (h : Own lo hi w e size v n cs) (_ : 0 < size) : Sl lo w v n size cs := by
  obtain ⟨⟨hl, h2⟩, hh⟩ := h
  rcases h2 with ⟨rfl, rfl⟩ | ⟨g, cap, cur, rfl, hb, hg, hn, hm, hz, ht⟩
  · exact ⟨hl, none, 0, rfl, Nat.le_refl _, Nat.zero_le _, fun h => absurd h (by omega)⟩
  · refine ⟨hl, _, cap, rfl, hn, hm, fun h0 => ⟨g, 0, rfl, hb, (Array.getElem?_eq_some_iff.1 hg).1, fun j hj => ?_⟩⟩
    rw [cell_of_row w g (0 + j) cur e (0, 0) hg, ← ht, List.getElem?_take, if_pos hj]
    simp
theorem Own.kept {lo hi : Nat} {w w' : World} {e size : Nat} {v : Value} {n : Nat} {cs : List Value} (h : Own lo hi w e size v n cs)
    (hk : ∀ k, v.ownBlock = some k → w'.heap[k]? = w.heap[k]?) : Own lo hi w' e size v n cs := by
  obtain ⟨⟨hl, h2⟩, hh⟩ := h
  refine ⟨⟨hl, ?_⟩, hh⟩
  rcases h2 with h2 | ⟨g, cap, cur, rfl, hb, hg, r⟩
  · exact .inl h2
  · exact .inr ⟨g, cap, cur, rfl, hb, by rw [hk g rfl]; exact hg, r⟩
theorem Own.lt {lo hi : Nat} {w : World} {e size : Nat} {v : Value} {n : Nat} {cs : List Value} (h : Own lo hi w e size v n cs) : ∀ k, v.ownBlock = some k → lo ≤ k ∧ k < hi ∧ k < w.heap.size :=
  fun k hk => ⟨(h.1.lt k hk).1, h.2 k hk, (h.1.lt k hk).2⟩
/-- What is owned stays so where only blocks of another range have turned. -/
theorem Own.only {lo hi lo' hi' : Nat} {w w' : World} {e size : Nat} {v : Value} {n : Nat} {cs : List Value} (h : Own lo hi w e size v n cs) (ho : Only lo' hi' w w') (hd : hi ≤ lo' ∨ hi' ≤ lo) : Own lo hi w' e size v n cs :=
  h.kept fun k hk => by
    obtain ⟨h1, h2, h3⟩ := h.lt k hk
    exact ho.block k h3 (by omega)
theorem Own.below {lo hi : Nat} {w w' : World} {e size : Nat} {v : Value} {n : Nat} {cs : List Value} (h : Own lo hi w e size v n cs) (hb : Below w.heap.size w w') : Own lo hi w' e size v n cs :=
  h.kept fun k hk => hb.block k (h.lt k hk).2.2
theorem Own.mono {lo hi lo' hi' : Nat} {w : World} {e size : Nat} {v : Value} {n : Nat} {cs : List Value} (h : Own lo hi w e size v n cs) (h1 : lo' ≤ lo) (h2 : hi ≤ hi') : Own lo' hi' w e size v n cs := by
  obtain ⟨⟨hl, h3⟩, hh⟩ := h
  refine ⟨⟨hl, ?_⟩, fun k hk => Nat.lt_of_lt_of_le (hh k hk) h2⟩
  rcases h3 with h3 | ⟨g, cap, cur, rfl, hb, r⟩
  · exact .inl h3
  · exact .inr ⟨g, cap, cur, rfl, Nat.le_trans h1 hb, r⟩

theorem row_some {w : World} {base e size g n cap : Nat} {xs : List Value} (h : w.ownsRow base e size (.slice (some ⟨g, 0, none⟩) n cap) n xs) (j : Nat) (hj : j < n * size) : ∃ u, w.cell? ⟨g, j, none⟩ = some u :=
  ⟨xs[j]'(by rw [h.1]; exact hj), (h.cellAt j hj).trans (by simp [show j < xs.length from by rw [h.1]; exact hj])⟩

abbrev intCells (xs : List Int) : List Value := xs.map (Value.int .i64)
abbrev boolCells (xs : List Bool) : List Value := xs.map Value.bool
/-- Own slices of ints, bools (e: the element type's number). -/
def OInts (e lo hi : Nat) (w : World) (v : Value) (xs : List Int) : Prop := Own lo hi w e 1 v xs.length (intCells xs)
def OBools (e lo hi : Nat) (w : World) (v : Value) (xs : List Bool) : Prop := Own lo hi w e 1 v xs.length (boolCells xs)
def OPairs (e lo hi : Nat) (w : World) (v : Value) (xs : List (Int × Int)) : Prop := Own lo hi w e 2 v xs.length (xs.flatMap pairCells)
def OMoves (e lo hi : Nat) (w : World) (v : Value) (xs : List (Int × Int × Int)) : Prop := Own lo hi w e 3 v xs.length (xs.flatMap moveCells)
/-- An own slice of own slices of ints (es: the number of the type of the rows; e: that of the elements), no two of which lie in one block. -/
def OIntSS (es e lo hi : Nat) (w : World) (v : Value) (xss : List (List Int)) : Prop :=
  ∃ vs : List Value, Own lo hi w es 1 v xss.length vs ∧ (∀ i, i < xss.length → OInts e lo hi w (vs.getD i undef) (xss.getD i [])) ∧
    (∀ i j k, i < j → j < xss.length → (vs.getD i undef).ownBlock = some k → (vs.getD j undef).ownBlock ≠ some k)

theorem OInts.ints {e lo hi : Nat} {w : World} {v : Value} {xs : List Int} (h : OInts e lo hi w v xs) : Ints lo w v xs := Own.sl h (by omega)
theorem OBools.bools {e lo hi : Nat} {w : World} {v : Value} {xs : List Bool} (h : OBools e lo hi w v xs) : Bools lo w v xs := Own.sl h (by omega)
theorem OPairs.pairs {e lo hi : Nat} {w : World} {v : Value} {xs : List (Int × Int)} (h : OPairs e lo hi w v xs) : Pairs lo w v xs := Own.sl h (by omega)
theorem OMoves.moves {e lo hi : Nat} {w : World} {v : Value} {xs : List (Int × Int × Int)} (h : OMoves e lo hi w v xs) : Moves lo w v xs := Own.sl h (by omega)
theorem OIntSS.intSS {es e lo hi : Nat} {w : World} {v : Value} {xss : List (List Int)} (h : OIntSS es e lo hi w v xss) : IntSS lo w v xss := by
  obtain ⟨vs, h1, h2, _⟩ := h
  exact ⟨vs, h1.sl (by omega), fun i hi => (h2 i hi).ints⟩
theorem OIntSS.kept {es e lo hi : Nat} {w w' : World} {v : Value} {xss : List (List Int)} (h : OIntSS es e lo hi w v xss)
    (hk : ∀ k, lo ≤ k → k < hi → k < w.heap.size → w'.heap[k]? = w.heap[k]?) : OIntSS es e lo hi w' v xss := by
  obtain ⟨vs, h1, h2, h3⟩ := h
  refine ⟨vs, h1.kept fun k hk' => ?_, fun i hi => Own.kept (h2 i hi) fun k hk' => ?_, h3⟩
  · obtain ⟨a, b, c⟩ := h1.lt k hk'; exact hk k a b c
  · obtain ⟨a, b, c⟩ := Own.lt (h2 i hi) k hk'; exact hk k a b c
theorem OBools.only {e lo hi lo' hi' : Nat} {w w' : World} {v : Value} {xs : List Bool} (h : OBools e lo hi w v xs) (ho : Only lo' hi' w w') (hd : hi ≤ lo' ∨ hi' ≤ lo) : OBools e lo hi w' v xs := Own.only h ho hd
theorem OInts.only {e lo hi lo' hi' : Nat} {w w' : World} {v : Value} {xs : List Int} (h : OInts e lo hi w v xs) (ho : Only lo' hi' w w') (hd : hi ≤ lo' ∨ hi' ≤ lo) : OInts e lo hi w' v xs := Own.only h ho hd
theorem OMoves.only {e lo hi lo' hi' : Nat} {w w' : World} {v : Value} {xs : List (Int × Int × Int)} (h : OMoves e lo hi w v xs) (ho : Only lo' hi' w w') (hd : hi ≤ lo' ∨ hi' ≤ lo) : OMoves e lo hi w' v xs := Own.only h ho hd
theorem OPairs.only {e lo hi lo' hi' : Nat} {w w' : World} {v : Value} {xs : List (Int × Int)} (h : OPairs e lo hi w v xs) (ho : Only lo' hi' w w') (hd : hi ≤ lo' ∨ hi' ≤ lo) : OPairs e lo hi w' v xs := Own.only h ho hd
theorem OIntSS.mono {es e lo hi lo' hi' : Nat} {w : World} {v : Value} {xss : List (List Int)} (h : OIntSS es e lo hi w v xss) (h1 : lo' ≤ lo) (h2 : hi ≤ hi') : OIntSS es e lo' hi' w v xss := by
  obtain ⟨vs, a, b, c⟩ := h
  exact ⟨vs, a.mono h1 h2, fun i hi => Own.mono (b i hi) h1 h2, c⟩
theorem OInts.mono {e lo hi lo' hi' : Nat} {w : World} {v : Value} {xs : List Int} (h : OInts e lo hi w v xs) (h1 : lo' ≤ lo) (h2 : hi ≤ hi') : OInts e lo' hi' w v xs := Own.mono h h1 h2
theorem OBools.mono {e lo hi lo' hi' : Nat} {w : World} {v : Value} {xs : List Bool} (h : OBools e lo hi w v xs) (h1 : lo' ≤ lo) (h2 : hi ≤ hi') : OBools e lo' hi' w v xs := Own.mono h h1 h2
theorem OMoves.mono {e lo hi lo' hi' : Nat} {w : World} {v : Value} {xs : List (Int × Int × Int)} (h : OMoves e lo hi w v xs) (h1 : lo' ≤ lo) (h2 : hi ≤ hi') : OMoves e lo' hi' w v xs := Own.mono h h1 h2
theorem OPairs.mono {e lo hi lo' hi' : Nat} {w : World} {v : Value} {xs : List (Int × Int)} (h : OPairs e lo hi w v xs) (h1 : lo' ≤ lo) (h2 : hi ≤ hi') : OPairs e lo' hi' w v xs := Own.mono h h1 h2
theorem OIntSS.below {es e lo hi : Nat} {w w' : World} {v : Value} {xss : List (List Int)} (h : OIntSS es e lo hi w v xss) (hb : Below w.heap.size w w') : OIntSS es e lo hi w' v xss := h.kept fun k _ _ hk => hb.block k hk
theorem OIntSS.only {es e lo hi lo' hi' : Nat} {w w' : World} {v : Value} {xss : List (List Int)} (h : OIntSS es e lo hi w v xss) (ho : Only lo' hi' w w') (hd : hi ≤ lo' ∨ hi' ≤ lo) : OIntSS es e lo hi w' v xss :=
  h.kept fun k h1 h2 h3 => ho.block k h3 (by omega)

theorem own_of_row {lo : Nat} {w : World} {e size : Nat} {v : Value} {n : Nat} {cs : List Value} (h : w.ownsRow lo e size v n cs) : Own lo w.heap.size w e size v n cs :=
  ⟨h, fun k hk => (h.lt k hk).2⟩
/-- A slice of own slices under way: of its n places the first k are filled. -/
def RowsTo (es e B n : Nat) (xss : List (List Int)) (k : Nat) (w : World) (cs : List Value) : Prop :=
  w.ownsRow B es 1 (.slice (some ⟨B, 0, none⟩) n n) n cs ∧ (∀ i, i < k → OInts e (B + 1) w.heap.size w (cs.getD i undef) (xss.getD i [])) ∧
    (∀ i j b, i < j → j < k → (cs.getD i undef).ownBlock = some b → (cs.getD j undef).ownBlock ≠ some b)
theorem RowsTo.below {es e B n k : Nat} {xss : List (List Int)} {w w' : World} {cs : List Value} (h : RowsTo es e B n xss k w cs) (hb : Below w.heap.size w w') : RowsTo es e B n xss k w' cs := by
  obtain ⟨h1, h2, h3⟩ := h
  exact ⟨(Own.below (own_of_row h1) hb).1, fun i hi => (Own.below (h2 i hi) hb).mono (Nat.le_refl _) hb.size, h3⟩
theorem RowsTo.step {es e B n k : Nat} {xss : List (List Int)} {w w2 : World} {cs : List Value} {v2 : Value} (h : RowsTo es e B n xss k w cs) (hB : B < w.heap.size) (hk : k < n)
    (hb : Below w.heap.size w w2) (hv : OInts e w.heap.size w2.heap.size w2 v2 (xss.getD k [])) : RowsTo es e B n xss (k + 1) (w2.setCell ⟨B, k, none⟩ v2) (cs.set k v2) := by
  have h' := h.below hb
  obtain ⟨h1, h2, h3⟩ := h'
  have hlen : cs.length = n := by have := h1.1; omega
  have hsz : (w2.setCell ⟨B, k, none⟩ v2).heap.size = w2.heap.size := by simp [World.setCell]
  have hget : ∀ i, i < k → (cs.set k v2).getD i undef = cs.getD i undef := fun i hi => by
    simp [List.getElem?_set_ne (show k ≠ i by omega)]
  have hgetk : (cs.set k v2).getD k undef = v2 := by simp [show k < cs.length by omega]
  have hset : ∀ j, j ≠ B → (w2.setCell ⟨B, k, none⟩ v2).heap[j]? = w2.heap[j]? := fun j hj => Below.heap_setCell _ _ _ _ hj
  refine ⟨(h1.stored k v2).1, fun i hi => ?_, fun i j b hij hj hb1 => ?_⟩
  · rw [hsz]
    by_cases hik : i < k
    · rw [hget i hik]
      exact Own.kept (h2 i hik) fun m hm => hset m (by have := (Own.lt (h2 i hik) m hm).1; omega)
    · obtain rfl : i = k := by omega
      rw [hgetk]
      exact Own.kept (Own.mono hv (by omega) (Nat.le_refl _)) fun m hm => hset m (by have := (Own.lt hv m hm).1; omega)
  · by_cases hjk : j < k
    · rw [hget i (by omega)] at hb1
      rw [hget j hjk]
      exact h3 i j b hij hjk hb1
    · obtain rfl : j = k := by omega
      rw [hget i hij] at hb1
      rw [hgetk]
      intro hb2
      have a1 := (Own.lt (h.2.1 i hij) b hb1).2.1
      have a2 := (Own.lt hv b hb2).1
      omega
theorem RowsTo.done {es e B : Nat} {xss : List (List Int)} {w : World} {cs : List Value} (h : RowsTo es e B xss.length xss xss.length w cs) : OIntSS es e B w.heap.size w (.slice (some ⟨B, 0, none⟩) xss.length xss.length) xss := by
  obtain ⟨h1, h2, h3⟩ := h
  exact ⟨cs, own_of_row h1, fun i hi => Own.mono (h2 i hi) (by omega) (Nat.le_refl _), fun i j b => h3 i j b⟩

/-- The data of an automaton, and of one with choices. -/
structure DfaD where
  next : List (List Int)
  ends : List Bool
deriving DecidableEq
structure NfaD where
  states : Int
  moves : List (Int × Int × Int)
  firsts : List Int
  ends : List Int
deriving DecidableEq
/-- How they lie in memory, to be read. -/
def DfaR (B : Nat) (w : World) (v : Value) (d : DfaD) : Prop := ∃ v1 v2, v = .agg #[v1, v2] ∧ IntSS B w v1 d.next ∧ Bools B w v2 d.ends
def NfaR (B : Nat) (w : World) (v : Value) (n : NfaD) : Prop := ∃ v1 v2 v3, v = .agg #[.int .i64 n.states, v1, v2, v3] ∧ Moves B w v1 n.moves ∧ Ints B w v2 n.firsts ∧ Ints B w v3 n.ends ∧
  -9223372036854775808 ≤ n.states ∧ n.states ≤ 9223372036854775807
theorem DfaR.below {B : Nat} {w w' : World} {v : Value} {d : DfaD} (h : DfaR B w v d) (he : Below w.heap.size w w') : DfaR B w' v d := by
  obtain ⟨v1, v2, hv, h1, h2⟩ := h
  exact ⟨v1, v2, hv, h1.below he, h2.below he⟩
theorem NfaR.below {B : Nat} {w w' : World} {v : Value} {n : NfaD} (h : NfaR B w v n) (he : Below w.heap.size w w') : NfaR B w' v n := by
  obtain ⟨v1, v2, v3, hv, h1, h2, h3, h4⟩ := h
  exact ⟨v1, v2, v3, hv, h1.below he, h2.below he, h3.below he, h4⟩
/-- The same, of the call's own (tS, tI, tB, tM: the numbers of the types []int, int, bool, Move). -/
def DfaO (tS tI tB lo hi : Nat) (w : World) (v : Value) (d : DfaD) : Prop := ∃ v1 v2, v = .agg #[v1, v2] ∧ OIntSS tS tI lo hi w v1 d.next ∧ OBools tB lo hi w v2 d.ends
/-- The three slices lie in three blocks. -/
def NfaO (tM tI lo hi : Nat) (w : World) (v : Value) (n : NfaD) : Prop := ∃ v1 v2 v3, v = .agg #[.int .i64 n.states, v1, v2, v3] ∧ OMoves tM lo hi w v1 n.moves ∧ OInts tI lo hi w v2 n.firsts ∧ OInts tI lo hi w v3 n.ends ∧
  -9223372036854775808 ≤ n.states ∧ n.states ≤ 9223372036854775807 ∧ ∀ k, v2.ownBlock = some k → v3.ownBlock ≠ some k
theorem DfaO.r {tS tI tB lo hi : Nat} {w : World} {v : Value} {d : DfaD} (h : DfaO tS tI tB lo hi w v d) : DfaR lo w v d := by
  obtain ⟨v1, v2, hv, h1, h2⟩ := h
  exact ⟨v1, v2, hv, h1.intSS, h2.bools⟩
theorem NfaO.r {tM tI lo hi : Nat} {w : World} {v : Value} {n : NfaD} (h : NfaO tM tI lo hi w v n) : NfaR lo w v n := by
  obtain ⟨v1, v2, v3, hv, h1, h2, h3, h4, h5, _⟩ := h
  exact ⟨v1, v2, v3, hv, h1.moves, h2.ints, h3.ints, h4, h5⟩
theorem Ints.mono {B B' : Nat} {w : World} {v : Value} {xs : List Int} (h : Ints B w v xs) (hB : B' ≤ B) : Ints B' w v xs := Sl.mono h hB
theorem Bools.mono {B B' : Nat} {w : World} {v : Value} {xs : List Bool} (h : Bools B w v xs) (hB : B' ≤ B) : Bools B' w v xs := Sl.mono h hB
theorem Pairs.mono {B B' : Nat} {w : World} {v : Value} {xs : List (Int × Int)} (h : Pairs B w v xs) (hB : B' ≤ B) : Pairs B' w v xs := Sl.mono h hB
theorem Moves.mono {B B' : Nat} {w : World} {v : Value} {xs : List (Int × Int × Int)} (h : Moves B w v xs) (hB : B' ≤ B) : Moves B' w v xs := Sl.mono h hB
theorem IntSS.mono {B B' : Nat} {w : World} {v : Value} {xss : List (List Int)} (h : IntSS B w v xss) (hB : B' ≤ B) : IntSS B' w v xss := by
  obtain ⟨vs, h1, h2⟩ := h
  exact ⟨vs, h1.mono hB, fun i hi => Sl.mono (h2 i hi) hB⟩
theorem DfaR.mono {B B' : Nat} {w : World} {v : Value} {d : DfaD} (h : DfaR B w v d) (hB : B' ≤ B) : DfaR B' w v d := by
  obtain ⟨v1, v2, hv, h1, h2⟩ := h
  exact ⟨v1, v2, hv, h1.mono hB, Sl.mono h2 hB⟩
theorem NfaR.mono {B B' : Nat} {w : World} {v : Value} {n : NfaD} (h : NfaR B w v n) (hB : B' ≤ B) : NfaR B' w v n := by
  obtain ⟨v1, v2, v3, hv, h1, h2, h3, h4⟩ := h
  exact ⟨v1, v2, v3, hv, Sl.mono h1 hB, Sl.mono h2 hB, Sl.mono h3 hB, h4⟩
end Go.Proofs.Ytclhcfmlkfiidaa
