/-
  Small facts about slices in memory: what a slice value reads as, and that it still reads so in a later world.
  No condition: this text speaks of no program.
-/
import Derived.WalkKit
import Derived.WalkSpells
import Derived.WalkLawsBesides
import Derived.Lib.Hide
namespace Go.Proofs.Ytclhcfmlkfiidaa
open Go.RowKit

/-- Below block B the two worlds have the same blocks, and no block went away. The part of 'Below' that a reader needs. -/
structure Ext (B : Nat) (w w' : World) : Prop where
  size : w.heap.size ≤ w'.heap.size
  block : ∀ k, k < B → w'.heap[k]? = w.heap[k]?

theorem Ext.refl (B : Nat) (w : World) : Ext B w w := ⟨Nat.le_refl _, fun _ _ => rfl⟩
theorem Ext.of {B : Nat} {w w' : World} (h : Below B w w') : Ext B w w' := ⟨h.size, h.block⟩

/-- A slice value over memory: n elements of 'size' cells each, whose cells are the list cs; the blocks have numbers from B on. -/
structure Sl (B : Nat) (w : World) (v : Value) (n size : Nat) (cs : List Value) : Prop where
  len : cs.length = n * size
  form : ∃ a cap, v = .slice a n cap ∧ n ≤ cap ∧ cap ≤ maxLen ∧
    (0 < n → ∃ b off, a = some ⟨b, off, none⟩ ∧ B ≤ b ∧ b < w.heap.size ∧ ∀ j, j < n * size → w.cell? ⟨b, off + j, none⟩ = cs[j]?)

theorem Sl.mono {B B' : Nat} {w : World} {v : Value} {n size : Nat} {cs : List Value} (h : Sl B w v n size cs) (hB : B' ≤ B) : Sl B' w v n size cs := by
  obtain ⟨hl, a, cap, hv, h1, h2, h3⟩ := h
  refine ⟨hl, a, cap, hv, h1, h2, fun hn => ?_⟩
  obtain ⟨b, off, ha, hb, hlt, hc⟩ := h3 hn
  exact ⟨b, off, ha, by omega, hlt, hc⟩

theorem Sl.ext {B B' : Nat} {w w' : World} {v : Value} {n size : Nat} {cs : List Value} (h : Sl B w v n size cs) (he : Ext B' w w') (hB : w.heap.size ≤ B') : Sl B w' v n size cs := by
  obtain ⟨hl, a, cap, hv, h1, h2, h3⟩ := h
  refine ⟨hl, a, cap, hv, h1, h2, fun hn => ?_⟩
  obtain ⟨b, off, ha, hb, hlt, hc⟩ := h3 hn
  refine ⟨b, off, ha, hb, Nat.lt_of_lt_of_le hlt he.size, fun j hj => ?_⟩
  rw [← hc j hj]
  exact World.cell?_of_block (he.block b (by omega))

theorem Sl.below {B : Nat} {w w' : World} {v : Value} {n size : Nat} {cs : List Value} (h : Sl B w v n size cs) (he : Below w.heap.size w w') : Sl B w' v n size cs :=
  h.ext (Ext.of he) (Nat.le_refl _)

theorem bcell {B : Nat} {W w1 : World} (hb : Below B W w1) : ∀ b o, b < B → w1.cell? ⟨b, o, none⟩ = W.cell? ⟨b, o, none⟩ :=
  fun b o h => hb.cell (p := ⟨b, o, none⟩) h

theorem ret_bool {a b : Bool} (h : a = b) : Ending.returned (.bool a) = .returned (.bool b) := by rw [h]
theorem ret_int {k : IntKind} {a b : Int} (h : a = b) : Ending.returned (.int k a) = .returned (.int k b) := by rw [h]
theorem beq_len (a b : Nat) : ((a : Int) == b) = decide (a = b) := by rw [Bool.eq_iff_iff]; simp; omega
theorem bne_len (a b : Nat) : ((a : Int) != b) = !decide (a = b) := by rw [Bool.eq_iff_iff]; simp; omega

theorem alloc_cell (w : World) (cs : Array Value) (T : TypeId) (j : Nat) : (w.alloc (.cells cs T)).cell? ⟨w.heap.size, j, none⟩ = cs[j]? := by
  have h := heap_alloc_new w (.cells cs T)
  unfold World.cell?
  show (match (w.alloc (.cells cs T)).heap[w.heap.size]? with | some (.cells c _ _) => if (none : Option Nat).isSome then none else c[j]? | _ => none) = _
  rw [h]
  rfl
theorem alloc_old (w : World) (o : Obj) (b j : Nat) (h : b < w.heap.size) : (w.alloc o).cell? ⟨b, j, none⟩ = w.cell? ⟨b, j, none⟩ :=
  World.cell?_of_block (Below.heap_alloc w o b h)
/-- The cells of the block that was laid first, and of the blocks that were there before it. -/
theorem box_cell {w wr : World} {cs : Array Value} {T : TypeId} (hb : Below (w.heap.size + 1) (w.alloc (.cells cs T)) wr) (j : Nat) : wr.cell? ⟨w.heap.size, j, none⟩ = cs[j]? :=
  (bcell hb _ j (by omega)).trans (alloc_cell w cs T j)
theorem box_old {w wr : World} {o : Obj} (hb : Below (w.heap.size + 1) (w.alloc o) wr) (b j : Nat) (h : b < w.heap.size) : wr.cell? ⟨b, j, none⟩ = w.cell? ⟨b, j, none⟩ :=
  (bcell hb b j (by omega)).trans (alloc_old w o b j h)
theorem box_lt {w wr : World} {o : Obj} (hb : Below (w.heap.size + 1) (w.alloc o) wr) : w.heap.size < wr.heap.size := by
  have := hb.size; simp at this; omega

theorem bfroz {B : Nat} {W w1 : World} (hb : Below B W w1) : ∀ b o, b < B → w1.frozen? ⟨b, o, none⟩ = W.frozen? ⟨b, o, none⟩ :=
  fun b o h => hb.frozen (p := ⟨b, o, none⟩) h

/-- A block known whole: a variable of the call's own. -/
def Bx (w : World) (b : Nat) (cs : Array Value) (T : TypeId) : Prop := w.heap[b]? = some (.cells cs T (0, 0))
theorem Bx.lt {w : World} {b : Nat} {cs : Array Value} {T : TypeId} (h : Bx w b cs T) : b < w.heap.size := (Array.getElem?_eq_some_iff.1 h).1
theorem Bx.cell {w : World} {b : Nat} {cs : Array Value} {T : TypeId} (h : Bx w b cs T) (j : Nat) : w.cell? ⟨b, j, none⟩ = cs[j]? := cell_of_row w b j cs T (0, 0) h
theorem Bx.fr {w : World} {b : Nat} {cs : Array Value} {T : TypeId} (h : Bx w b cs T) (j : Nat) : w.frozen? ⟨b, j, none⟩ = false := frozen_of_row w b j cs T h
theorem Bx.new (w : World) (cs : Array Value) (T : TypeId) : Bx (w.alloc (.cells cs T)) w.heap.size cs T := heap_alloc_new w _
theorem Bx.alloc {w : World} {b : Nat} {cs : Array Value} {T : TypeId} (h : Bx w b cs T) (o : Obj) : Bx (w.alloc o) b cs T := (Below.heap_alloc w o b h.lt).trans h
theorem Bx.drew {w : World} {b : Nat} {cs : Array Value} {T : TypeId} (h : Bx w b cs T) : Bx w.drew b cs T := h
theorem Bx.set {w : World} {b : Nat} {cs : Array Value} {T : TypeId} (h : Bx w b cs T) (j : Nat) (v : Value) : Bx (w.setCell ⟨b, j, none⟩ v) b (cs.setIfInBounds j v) T := heap_setCell_same w b j cs T v h
theorem Bx.set_ne {w : World} {b : Nat} {cs : Array Value} {T : TypeId} (h : Bx w b cs T) (a : Addr) (v : Value) (hne : b ≠ a.block) : Bx (w.setCell a v) b cs T := (Below.heap_setCell w a v b hne).trans h
theorem Bx.below {B : Nat} {w w' : World} {b : Nat} {cs : Array Value} {T : TypeId} (h : Bx w b cs T) (hb : Below B w w') (hB : b < B) : Bx w' b cs T := (hb.block b hB).trans h

/-- A slice of ints. -/
def Ints (B : Nat) (w : World) (v : Value) (xs : List Int) : Prop := Sl B w v xs.length 1 (xs.map (Value.int .i64))
/-- A slice of bools. -/
def Bools (B : Nat) (w : World) (v : Value) (xs : List Bool) : Prop := Sl B w v xs.length 1 (xs.map Value.bool)
/-- A slice of slices of ints. -/
def IntSS (B : Nat) (w : World) (v : Value) (xss : List (List Int)) : Prop :=
  ∃ vs : List Value, Sl B w v xss.length 1 vs ∧ ∀ i, i < xss.length → Ints B w (vs.getD i undef) (xss.getD i [])

theorem Ints.below {B : Nat} {w w' : World} {v : Value} {xs : List Int} (h : Ints B w v xs) (he : Below w.heap.size w w') : Ints B w' v xs := Sl.below h he
theorem Bools.below {B : Nat} {w w' : World} {v : Value} {xs : List Bool} (h : Bools B w v xs) (he : Below w.heap.size w w') : Bools B w' v xs := Sl.below h he
theorem IntSS.below {B : Nat} {w w' : World} {v : Value} {xss : List (List Int)} (h : IntSS B w v xss) (he : Below w.heap.size w w') : IntSS B w' v xss := by
  obtain ⟨vs, h1, h2⟩ := h
  exact ⟨vs, h1.below he, fun i hi => (h2 i hi).below he⟩

theorem Ints.drew {B : Nat} {w : World} {v : Value} {xs : List Int} (h : Ints B w v xs) : Ints B w.drew v xs := h.below (Below.refl _ _).drew
theorem Bools.drew {B : Nat} {w : World} {v : Value} {xs : List Bool} (h : Bools B w v xs) : Bools B w.drew v xs := h.below (Below.refl _ _).drew
theorem IntSS.drew {B : Nat} {w : World} {v : Value} {xs : List (List Int)} (h : IntSS B w v xs) : IntSS B w.drew v xs := h.below (Below.refl _ _).drew
theorem Ints.form {B : Nat} {w : World} {v : Value} {xs : List Int} (h : Ints B w v xs) : ∃ a cap, v = .slice a xs.length cap ∧ xs.length ≤ cap ∧ cap ≤ 9223372036854775807 ∧
    (0 < xs.length → ∃ b off, a = some ⟨b, off, none⟩ ∧ B ≤ b ∧ b < w.heap.size ∧ ∀ j, j < xs.length → w.cell? ⟨b, off + j, none⟩ = some (.int .i64 (xs.getD j 0))) := by
  obtain ⟨hl, a, cap, hv, h1, h2, h3⟩ := h
  refine ⟨a, cap, hv, h1, h2, fun hn => ?_⟩
  obtain ⟨b, off, ha, hb, hlt, hc⟩ := h3 hn
  refine ⟨b, off, ha, hb, hlt, fun j hj => ?_⟩
  rw [hc j (by omega)]
  simp [hj]
theorem Bools.form {B : Nat} {w : World} {v : Value} {xs : List Bool} (h : Bools B w v xs) : ∃ a cap, v = .slice a xs.length cap ∧ xs.length ≤ cap ∧ cap ≤ 9223372036854775807 ∧
    (0 < xs.length → ∃ b off, a = some ⟨b, off, none⟩ ∧ B ≤ b ∧ b < w.heap.size ∧ ∀ j, j < xs.length → w.cell? ⟨b, off + j, none⟩ = some (.bool (xs.getD j false))) := by
  obtain ⟨hl, a, cap, hv, h1, h2, h3⟩ := h
  refine ⟨a, cap, hv, h1, h2, fun hn => ?_⟩
  obtain ⟨b, off, ha, hb, hlt, hc⟩ := h3 hn
  refine ⟨b, off, ha, hb, hlt, fun j hj => ?_⟩
  rw [hc j (by omega)]
  simp [hj]
theorem IntSS.form {B : Nat} {w : World} {v : Value} {xss : List (List Int)} (h : IntSS B w v xss) : ∃ a cap, v = .slice a xss.length cap ∧ xss.length ≤ cap ∧ cap ≤ 9223372036854775807 ∧
    (0 < xss.length → ∃ b off, a = some ⟨b, off, none⟩ ∧ B ≤ b ∧ b < w.heap.size ∧ ∀ i, i < xss.length → ∃ a' cap', w.cell? ⟨b, off + i, none⟩ = some (.slice a' (xss.getD i []).length cap') ∧ (xss.getD i []).length ≤ cap' ∧ cap' ≤ 9223372036854775807 ∧
      (0 < (xss.getD i []).length → ∃ b' off', a' = some ⟨b', off', none⟩ ∧ B ≤ b' ∧ b' < w.heap.size ∧ ∀ j, j < (xss.getD i []).length → w.cell? ⟨b', off' + j, none⟩ = some (.int .i64 ((xss.getD i []).getD j 0)))) := by
  obtain ⟨vs, ⟨hl, a, cap, hv, h1, h2, h3⟩, hr⟩ := h
  refine ⟨a, cap, hv, h1, h2, fun hn => ?_⟩
  obtain ⟨b, off, ha, hb, hlt, hc⟩ := h3 hn
  refine ⟨b, off, ha, hb, hlt, fun i hi => ?_⟩
  obtain ⟨a', cap', hv', h1', h2', h3'⟩ := (hr i hi).form
  refine ⟨a', cap', ?_, h1', h2', h3'⟩
  rw [hc i (by omega), ← hv']
  simp at hl
  simp [show i < vs.length by omega]

theorem IntSS.formI {B : Nat} {w : World} {v : Value} {xss : List (List Int)} (h : IntSS B w v xss) : ∃ a cap, v = .slice a xss.length cap ∧ xss.length ≤ cap ∧ cap ≤ 9223372036854775807 ∧
    (0 < xss.length → ∃ b off, a = some ⟨b, off, none⟩ ∧ B ≤ b ∧ b < w.heap.size ∧ ∀ i, i < xss.length → ∃ a' cap', w.cell? ⟨b, off + i, none⟩ = some (.slice a' (xss.getD i []).length cap') ∧ (xss.getD i []).length ≤ cap' ∧ cap' ≤ 9223372036854775807 ∧
      Ints B w (.slice a' (xss.getD i []).length cap') (xss.getD i [])) := by
  obtain ⟨vs, ⟨hl, a, cap, hv, h1, h2, h3⟩, hr⟩ := h
  refine ⟨a, cap, hv, h1, h2, fun hn => ?_⟩
  obtain ⟨b, off, ha, hb, hlt, hc⟩ := h3 hn
  refine ⟨b, off, ha, hb, hlt, fun i hi => ?_⟩
  obtain ⟨a', cap', hv', h1', h2', h3'⟩ := (hr i hi).form
  refine ⟨a', cap', ?_, h1', h2', ?_⟩
  · rw [hc i (by omega), ← hv']
    simp at hl
    simp [show i < vs.length by omega]
  · rw [← hv']
    exact hr i hi

/-! Slices of structs of ints -/
theorem flat_get {α : Type} (f : α → List Value) (s : Nat) (hf : ∀ a, (f a).length = s) : ∀ (l : List α) (i j : Nat) (d : α), i < l.length → j < s → (l.flatMap f)[i * s + j]? = (f (l.getD i d))[j]?
  | [], i, j, d, hi, _ => by simp at hi
  | a :: l, 0, j, d, _, hj => by
    simp only [List.flatMap_cons, Nat.zero_mul, Nat.zero_add, List.getD_cons_zero]
    rw [List.getElem?_append_left (by rw [hf]; exact hj)]
  | a :: l, i + 1, j, d, hi, hj => by
    have ih := flat_get f s hf l i j d (by simpa using hi) hj
    simp only [List.flatMap_cons, List.getD_cons_succ]
    rw [List.getElem?_append_right (by rw [hf, Nat.succ_mul]; omega), ← ih, hf, Nat.succ_mul]
    congr 1; omega
theorem flat_len {α : Type} (f : α → List Value) (s : Nat) (hf : ∀ a, (f a).length = s) (l : List α) : (l.flatMap f).length = l.length * s := by
  induction l with
  | nil => simp
  | cons a l ih => simp [hf, ih, Nat.succ_mul]; omega

def pairCells (p : Int × Int) : List Value := [.int .i64 p.1, .int .i64 p.2]
def moveCells (p : Int × Int × Int) : List Value := [.int .i64 p.1, .int .i64 p.2.1, .int .i64 p.2.2]
/-- A slice of structs of two ints. -/
def Pairs (B : Nat) (w : World) (v : Value) (ps : List (Int × Int)) : Prop := Sl B w v ps.length 2 (ps.flatMap pairCells)
/-- A slice of structs of three ints. -/
def Moves (B : Nat) (w : World) (v : Value) (ms : List (Int × Int × Int)) : Prop := Sl B w v ms.length 3 (ms.flatMap moveCells)
theorem Pairs.below {B : Nat} {w w' : World} {v : Value} {xs : List (Int × Int)} (h : Pairs B w v xs) (he : Below w.heap.size w w') : Pairs B w' v xs := Sl.below h he
theorem Moves.below {B : Nat} {w w' : World} {v : Value} {xs : List (Int × Int × Int)} (h : Moves B w v xs) (he : Below w.heap.size w w') : Moves B w' v xs := Sl.below h he

theorem Pairs.form {B : Nat} {w : World} {v : Value} {xs : List (Int × Int)} (h : Pairs B w v xs) : ∃ a cap, v = .slice a xs.length cap ∧ xs.length ≤ cap ∧ cap ≤ 9223372036854775807 ∧
    (0 < xs.length → ∃ b off, a = some ⟨b, off, none⟩ ∧ B ≤ b ∧ b < w.heap.size ∧ ∀ j, j < xs.length →
      w.cell? ⟨b, off + j * 2, none⟩ = some (.int .i64 (xs.getD j (0, 0)).1) ∧ w.cell? ⟨b, off + j * 2 + 1, none⟩ = some (.int .i64 (xs.getD j (0, 0)).2)) := by
  obtain ⟨hl, a, cap, hv, h1, h2, h3⟩ := h
  refine ⟨a, cap, hv, h1, h2, fun hn => ?_⟩
  obtain ⟨b, off, ha, hb, hlt, hc⟩ := h3 hn
  refine ⟨b, off, ha, hb, hlt, fun j hj => ⟨?_, ?_⟩⟩
  · rw [hc (j * 2) (by omega)]
    have := flat_get pairCells 2 (fun _ => rfl) xs j 0 (0, 0) hj (by omega)
    simpa [pairCells] using this
  · rw [show off + j * 2 + 1 = off + (j * 2 + 1) from by omega, hc (j * 2 + 1) (by omega)]
    have := flat_get pairCells 2 (fun _ => rfl) xs j 1 (0, 0) hj (by omega)
    simpa [pairCells] using this
theorem Moves.form {B : Nat} {w : World} {v : Value} {xs : List (Int × Int × Int)} (h : Moves B w v xs) : ∃ a cap, v = .slice a xs.length cap ∧ xs.length ≤ cap ∧ cap ≤ 9223372036854775807 ∧
    (0 < xs.length → ∃ b off, a = some ⟨b, off, none⟩ ∧ B ≤ b ∧ b < w.heap.size ∧ ∀ j, j < xs.length →
      w.cell? ⟨b, off + j * 3, none⟩ = some (.int .i64 (xs.getD j (0, 0, 0)).1) ∧ w.cell? ⟨b, off + j * 3 + 1, none⟩ = some (.int .i64 (xs.getD j (0, 0, 0)).2.1) ∧ w.cell? ⟨b, off + j * 3 + 2, none⟩ = some (.int .i64 (xs.getD j (0, 0, 0)).2.2)) := by
  obtain ⟨hl, a, cap, hv, h1, h2, h3⟩ := h
  refine ⟨a, cap, hv, h1, h2, fun hn => ?_⟩
  obtain ⟨b, off, ha, hb, hlt, hc⟩ := h3 hn
  refine ⟨b, off, ha, hb, hlt, fun j hj => ⟨?_, ?_, ?_⟩⟩
  · rw [hc (j * 3) (by omega)]
    have := flat_get moveCells 3 (fun _ => rfl) xs j 0 (0, 0, 0) hj (by omega)
    simpa [moveCells] using this
  · rw [show off + j * 3 + 1 = off + (j * 3 + 1) from by omega, hc (j * 3 + 1) (by omega)]
    have := flat_get moveCells 3 (fun _ => rfl) xs j 1 (0, 0, 0) hj (by omega)
    simpa [moveCells] using this
  · rw [show off + j * 3 + 2 = off + (j * 3 + 2) from by omega, hc (j * 3 + 2) (by omega)]
    have := flat_get moveCells 3 (fun _ => rfl) xs j 2 (0, 0, 0) hj (by omega)
    simpa [moveCells] using this

/-! Comparing lists place by place -/
theorem take_snoc_eq {α : Type} {xs ys : List α} {k : Nat} {d : α} (hx : k < xs.length) (hy : k < ys.length) (h : xs.take k = ys.take k) (he : xs.getD k d = ys.getD k d) : xs.take (k + 1) = ys.take (k + 1) := by
  rw [List.take_succ_eq_append_getElem hx, List.take_succ_eq_append_getElem hy, h]
  simp [hx, hy] at he
  rw [he]
theorem ne_of_getD {α : Type} {xs ys : List α} {k : Nat} {d : α} (he : xs.getD k d ≠ ys.getD k d) : xs ≠ ys := fun h => he (by rw [h])
theorem eq_of_take {α : Type} {xs ys : List α} {k : Nat} (hl : xs.length = ys.length) (hk : xs.length ≤ k) (h : xs.take k = ys.take k) : xs = ys := by
  rwa [List.take_of_length_le hk, List.take_of_length_le (by omega)] at h
end Go.Proofs.Ytclhcfmlkfiidaa
