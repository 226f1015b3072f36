/-
  A map from things to their places in a list.
  No condition: this text speaks of no program.
  What lies in memory while states are explored: the states met, their numbers in a map, the automaton that grows.
  Conditions: the things met lie in blocks of a type of their own.
-/
import Derived.Test.YtclhcfmlkfiidaaMap
import Derived.Test.YtclhcfmlkfiidaaBfs
import Derived.Test.YtclhcfmlkfiidaaGrow
import Derived.Test.YtclhcfmlkfiidaaTo
namespace Go.Proofs.Ytclhcfmlkfiidaa
open Go.RowKit

section
variable {α : Type} [DecidableEq α]
def numbered (l : List α) : List (α × Value) := l.zipIdx.map fun p => (p.1, Value.int .i64 (p.2 : Int))
omit [DecidableEq α] in
theorem numbered_nil : numbered ([] : List α) = [] := rfl
omit [DecidableEq α] in
theorem numbered_snoc (l : List α) (x : α) : numbered (l ++ [x]) = numbered l ++ [(x, Value.int .i64 (l.length : Int))] := by simp [numbered, List.zipIdx_append]
omit [DecidableEq α] in
theorem numbered_keys (l : List α) : (numbered l).map (·.1) = l := by
  simp only [numbered, List.map_map]
  have : ((fun x : α × Value => x.1) ∘ fun p : α × Nat => (p.1, Value.int .i64 (p.2 : Int))) = Prod.fst := rfl
  rw [this, List.zipIdx_map_fst]
theorem look_numbered {l : List α} (hn : l.Nodup) {x : α} (hx : x ∈ l) : look x (numbered l) = some (.int .i64 (placeOf l x : Int)) := by
  refine look_hit (by rw [numbered_keys]; exact hn) (j := placeOf l x) ?_
  have hlt := List.idxOf_lt_length_iff.2 hx
  unfold placeOf
  simp only [numbered, List.getElem?_map, List.getElem?_zipIdx, List.getElem?_eq_getElem hlt, Option.map_some, Nat.zero_add, List.getElem_idxOf]
theorem look_unnumbered {l : List α} {x : α} (hx : x ∉ l) : look x (numbered l) = none :=
  look_miss fun p hp e => hx (by rw [← numbered_keys l, ← e]; exact List.mem_map.2 ⟨p, hp, rfl⟩)
theorem upd_unnumbered {l : List α} {x : α} (hx : x ∉ l) : upd x (.int .i64 (l.length : Int)) (numbered l) = numbered (l ++ [x]) := by
  rw [numbered_snoc]
  exact upd_miss fun p hp e => hx (by rw [← numbered_keys l, ← e]; exact List.mem_map.2 ⟨p, hp, rfl⟩)
end
end Go.Proofs.Ytclhcfmlkfiidaa
namespace Go.Proofs.Ytclhcfmlkfiidaa
open Go.RowKit Go.Maps

section
variable {α : Type}
structure ExW (kt sz : Nat) (enc : α → Value) (cel : α → List Value) (B B1 B2 B4 hi : Nat) (w : World) (met : List α) (rows : List (List Int)) (ends : List Bool) (vm vn ve : Value) : Prop where
  m : w.ownsRow B kt sz vm met.length (met.flatMap cel)
  n : MapL Try.prog kt enc w B2 (numbered met)
  r : Bx w B1 #[.slice none 0 0, .slice none 0 0] 32
  d : Bx w B4 #[vn, ve] 32
  nx : OIntSS 44 3 B hi w vn rows
  en : w.ownsRow B 4 1 ve ends.length (boolCells ends)
  ne : B1 ≠ B4

variable {kt sz B B1 B2 B4 hi : Nat} {enc : α → Value} {cel : α → List Value} {w w' : World} {met : List α} {rows : List (List Int)} {ends : List Bool} {vm vn ve : Value}
theorem ExW.below (h : ExW kt sz enc cel B B1 B2 B4 hi w met rows ends vm vn ve) (hb : Below w.heap.size w w') : ExW kt sz enc cel B B1 B2 B4 hi w' met rows ends vm vn ve :=
  ⟨(Own.below (own_of_row h.m) hb).1, h.n.below hb, h.r.below hb h.r.lt, h.d.below hb h.d.lt, h.nx.below hb, (Own.below (own_of_row h.en) hb).1, h.ne⟩
theorem ExW.up {hi' : Nat} (h : ExW kt sz enc cel B B1 B2 B4 hi w met rows ends vm vn ve) (hh : hi ≤ hi') : ExW kt sz enc cel B B1 B2 B4 hi' w met rows ends vm vn ve :=
  ⟨h.m, h.n, h.r, h.d, h.nx.mono (Nat.le_refl _) hh, h.en, h.ne⟩
/-- The type of the things met is none of the automaton's. -/
def Own4 (kt : Nat) : Prop := kt ≠ 3 ∧ kt ≠ 44 ∧ kt ≠ 4 ∧ kt ≠ 32
/-- A new state has its number in the map, and the list has grown by it. -/
theorem ExW.newState (hk : Own4 kt) (h : ExW kt sz enc cel B B1 B2 B4 hi w met rows ends vm vn ve) {x : α} {w1 w2 w3 : World} {vm' : Value} (hn : MapL Try.prog kt enc w1 B2 (numbered (met ++ [x]))) (hg1 : w.grownBy w1 (some B2))
    (hb : Below w1.heap.size w1 w2) (hown : w3.ownsRow B kt sz vm' (met.length + 1) (met.flatMap cel ++ cel x)) (hg2 : w2.grownBy w3 vm.ownBlock) :
    ExW kt sz enc cel B B1 B2 B4 hi w3 (met ++ [x]) rows ends vm' vn ve := by
  obtain ⟨k1, k2, k3, k4⟩ := hk
  have a : ∀ e, Apart w (some B2) e := fun e => h.n.apart
  have m2 : w2.ownsRow B kt sz vm met.length (met.flatMap cel) := (Own.below (own_of_row (ownsRow_grown h.m hg1 (a _))) hb).1
  have b : ∀ e, kt ≠ e → Apart w2 vm.ownBlock e := fun e he => ownsRow_apart m2 he
  refine ⟨?_, (hn.below hb).grown hg2 (ownsRow_cells m2), ?_, ?_, ?_, ?_, h.ne⟩
  · simpa using hown
  · have r1 := h.r.grown hg1 (a _)
    exact (r1.below hb r1.lt).grown hg2 (b _ k4)
  · have r1 := h.d.grown hg1 (a _)
    exact (r1.below hb r1.lt).grown hg2 (b _ k4)
  · exact ((h.nx.grown hg1 (a _) (a _)).below hb).grown hg2 (b _ k2) (b _ k1)
  · exact ownsRow_grown (Own.below (own_of_row (ownsRow_grown h.en hg1 (a _))) hb).1 hg2 (b _ k3)
/-- A place of the row under way is written. -/
theorem ExW.setRow (hk : Own4 kt) (h : ExW kt sz enc cel B B1 B2 B4 hi w met rows ends vm vn ve) {R n : Nat} {cs : List Value} (hR : hi ≤ R) {base : Nat} (hrow : w.ownsRow base 3 1 (.slice (some ⟨R, 0, none⟩) n n) n cs) (j : Nat) (v : Value) :
    ExW kt sz enc cel B B1 B2 B4 hi (w.setCell ⟨R, j, none⟩ v) met rows ends vm vn ve := by
  obtain ⟨k1, k2, k3, k4⟩ := hk
  have hg := grown_set w R j v
  have a : ∀ e, 3 ≠ e → Apart w (some R) e := fun e he => ownsRow_apart (v := .slice (some ⟨R, 0, none⟩) n n) hrow he
  have c : CellsRow w (some R) := ownsRow_cells (v := .slice (some ⟨R, 0, none⟩) n n) hrow
  exact ⟨ownsRow_grown h.m hg (a _ (Ne.symm k1)), h.n.grown hg c, h.r.grown hg (a _ (by decide)), h.d.grown hg (a _ (by decide)), h.nx.far hR j v, ownsRow_grown h.en hg (a _ (by decide)), h.ne⟩
/-- The row under way, where a new state comes. -/
theorem row_kept {w1 w2 w3 : World} {R n base e : Nat} {cs : List Value} {vm : Value} {b2 mb : Nat} {ms : List Value} (hrow : w.ownsRow base e 1 (.slice (some ⟨R, 0, none⟩) n n) n cs) (hne : kt ≠ e)
    (hm2 : w2.ownsRow mb kt sz vm b2 ms) (ha : Apart w (some B2) e) (hg1 : w.grownBy w1 (some B2)) (hb : Below w1.heap.size w1 w2) (hg2 : w2.grownBy w3 vm.ownBlock) : w3.ownsRow base e 1 (.slice (some ⟨R, 0, none⟩) n n) n cs :=
  ownsRow_grown (Own.below (own_of_row (ownsRow_grown hrow hg1 ha)) hb).1 hg2 (ownsRow_apart hm2 hne)
/-- The row is done: the table has grown by it. -/
theorem ExW.addRow (hk : Own4 kt) (h : ExW kt sz enc cel B B1 B2 B4 hi w met rows ends vm vn ve) {vs : List Value} {rv vn' : Value} {x : List Int} {w3 : World} {lr : Nat}
    (h1 : Own B hi w 44 1 vn rows.length vs) (h2 : ∀ i, i < rows.length → OInts 3 B hi w (vs.getD i undef) (rows.getD i []))
    (h3 : ∀ i j k, i < j → j < rows.length → (vs.getD i undef).ownBlock = some k → (vs.getD j undef).ownBlock ≠ some k)
    (hrow : OInts 3 lr w.heap.size w rv x) (hlr : hi ≤ lr) (hlo : B ≤ lr) (hg : w.grownBy w3 vn.ownBlock) (hown : w3.ownsRow B 44 1 vn' (rows.length + 1) (vs ++ [rv])) :
    ExW kt sz enc cel B B1 B2 B4 w3.heap.size (w3.setCell ⟨B4, 0, none⟩ vn') met (rows ++ [x]) ends vm vn' ve := by
  obtain ⟨k1, k2, k3, k4⟩ := hk
  have a : ∀ e, 44 ≠ e → Apart w vn.ownBlock e := fun e he => ownsRow_apart h1.1 he
  have d3 : Bx w3 B4 #[vn, ve] 32 := h.d.grown hg (a _ (by decide))
  have hg4 := grown_set w3 B4 0 vn'
  have b : ∀ e, 32 ≠ e → Apart w3 (some B4) e := fun e he => d3.apart he
  have r3 : Bx w3 B1 #[.slice none 0 0, .slice none 0 0] 32 := h.r.grown hg (a _ (by decide))
  have n4 : MapL Try.prog kt enc (w3.setCell ⟨B4, 0, none⟩ vn') B2 (numbered met) := (h.n.grown hg (ownsRow_cells h1.1)).grown hg4 d3.cells
  refine ⟨ownsRow_grown (ownsRow_grown h.m hg (a _ (Ne.symm k2))) hg4 (b _ (Ne.symm k4)), n4, ?_, d3.set 0 vn', ?_, ownsRow_grown (ownsRow_grown h.en hg (a _ (by decide))) hg4 (b _ (by decide)), h.ne⟩
  · exact r3.set_ne _ _ h.ne
  · exact (OIntSS.snoc h1 h2 h3 hrow hlr hlo (by decide) hg hown).grown hg4 (b _ (by decide)) (b _ (by decide))
/-- A truth value more. -/
theorem ExW.addEnd (hk : Own4 kt) (h : ExW kt sz enc cel B B1 B2 B4 hi w met rows ends vm vn ve) {w3 : World} {ve' : Value} {e : Bool} (hg : w.grownBy w3 ve.ownBlock) (hown : w3.ownsRow B 4 1 ve' (ends.length + 1) (boolCells ends ++ [.bool e])) :
    ExW kt sz enc cel B B1 B2 B4 hi (w3.setCell ⟨B4, 1, none⟩ ve') met rows (ends ++ [e]) vm vn ve' := by
  obtain ⟨k1, k2, k3, k4⟩ := hk
  have a : ∀ t, 4 ≠ t → Apart w ve.ownBlock t := fun t ht => ownsRow_apart h.en ht
  have d3 : Bx w3 B4 #[vn, ve] 32 := h.d.grown hg (a _ (by decide))
  have hg4 := grown_set w3 B4 1 ve'
  have b : ∀ t, 32 ≠ t → Apart w3 (some B4) t := fun t ht => d3.apart ht
  have r3 : Bx w3 B1 #[.slice none 0 0, .slice none 0 0] 32 := h.r.grown hg (a _ (by decide))
  have n4 : MapL Try.prog kt enc (w3.setCell ⟨B4, 1, none⟩ ve') B2 (numbered met) := (h.n.grown hg (ownsRow_cells h.en)).grown hg4 d3.cells
  refine ⟨ownsRow_grown (ownsRow_grown h.m hg (a _ (Ne.symm k3))) hg4 (b _ (Ne.symm k4)), n4, r3.set_ne _ _ h.ne, d3.set 1 ve', (h.nx.grown hg (a _ (by decide)) (a _ (by decide))).grown hg4 (b _ (by decide)) (b _ (by decide)), ?_, h.ne⟩
  refine ownsRow_grown ?_ hg4 (b _ (by decide))
  simpa using hown
end
end Go.Proofs.Ytclhcfmlkfiidaa
