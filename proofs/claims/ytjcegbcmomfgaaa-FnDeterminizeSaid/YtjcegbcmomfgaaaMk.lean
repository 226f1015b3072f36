/-
  The walks over the functions that copy an argument of a law into new memory.
  Conditions: the argument reads as a list; its length is at most 1048576.
  What lies in memory while states are explored: the states met, their numbers in a map, the automaton that grows.
  Conditions: the things met lie in blocks of a type of their own.
  The walks over the functions of the laws that write numbers into what a call has handed back, and look for them again.
  Conditions: what is written is the call's own; the numbers stay below ten thousand million.
-/
import Derived.Test.YtjcegbcmomfgaaaProg
import Derived.Test.YtjcegbcmomfgaaaGrow
import Derived.Deep.RegionHeld3
import Derived.BigQuiet
import Derived.Test.YtjcegbcmomfgaaaFwp
namespace Go.Proofs.Ytjcegbcmomfgaaa
open Go.RowKit

theorem Try.infoInt : (Try.prog.info? 3).map (fun i => (i.zero, i.size, i.bytes)) = some (some (.int .i64 0), 1, 8) := by kernel_rfl
theorem Try.infoBool : (Try.prog.info? 4).map (fun i => (i.zero, i.size, i.bytes)) = some (some (.bool false), 1, 1) := by kernel_rfl
theorem Try.infoInts : (Try.prog.info? 24).map (fun i => (i.zero, i.size, i.bytes)) = some (some (.slice none 0 0), 1, 24) := by kernel_rfl

/-- The first k of a list, and then others. -/
theorem cells_set {xs : List Value} {n k : Nat} {cs : List Value} {u : Value} (hl : cs.length = n) (hx : xs.length = n) (hk : k < n) (h : cs.take k = xs.take k) (hu : xs[k]? = some u) :
    (cs.set k u).take (k + 1) = xs.take (k + 1) := by
  apply List.ext_getElem?
  intro j
  rw [List.getElem?_take, List.getElem?_take]
  by_cases hj : j < k + 1
  · rw [if_pos hj, if_pos hj, List.getElem?_set]
    by_cases he : k = j
    · subst he
      rw [if_pos rfl, if_pos (by omega), hu]
    · rw [if_neg he]
      have := congrArg (fun l => l[j]?) h
      simpa [List.getElem?_take, show j < k by omega] using this
  · rw [if_neg hj, if_neg hj]

/-- What such a call hands back. -/
def RInts (e lo : Nat) (xs : List Int) (en : Ending) (w' : World) : Prop := ∃ a cap, en = .returned (.slice a xs.length cap) ∧ OInts e lo w'.heap.size w' (.slice a xs.length cap) xs
def RIntSS (es e lo : Nat) (xss : List (List Int)) (en : Ending) (w' : World) : Prop := ∃ a cap, en = .returned (.slice a xss.length cap) ∧ OIntSS es e lo w'.heap.size w' (.slice a xss.length cap) xss
def RBools (e lo : Nat) (xs : List Bool) (en : Ending) (w' : World) : Prop := ∃ a cap, en = .returned (.slice a xs.length cap) ∧ OBools e lo w'.heap.size w' (.slice a xs.length cap) xs



/-- The result lies in a variable of its own. -/
def RDfa (tS tI tB lo : Nat) (d : DfaD) (en : Ending) (w' : World) : Prop := ∃ a1 c1 a2 c2, en = .returned (.agg #[.slice a1 d.next.length c1, .slice a2 d.ends.length c2]) ∧ DfaO tS tI tB lo w'.heap.size w' (.agg #[.slice a1 d.next.length c1, .slice a2 d.ends.length c2]) d
def small (d : DfaD) : Prop := d.next.length ≤ 1048576 ∧ (∀ i, i < d.next.length → (d.next.getD i []).length ≤ 1048576) ∧ d.ends.length ≤ 1048576


end Go.Proofs.Ytjcegbcmomfgaaa
namespace Go.Proofs.Ytjcegbcmomfgaaa
open Go.RowKit Go.Maps

section
variable {α : Type}
structure ExW (kt sz : Nat) (enc : α → Value) (cel : α → List Value) (B B1 B2 B4 hi : Nat) (w : World) (met : List α) (rows : List (List Int)) (ends : List Bool) (vm vn ve : Value) : Prop where
  m : w.ownsRow B kt sz vm met.length (met.flatMap cel)
  n : MapL Try.prog kt enc w B2 (numbered met)
  r : Bx w B1 #[.slice none 0 0, .slice none 0 0] 33
  d : Bx w B4 #[vn, ve] 33
  nx : OIntSS 24 3 B hi w vn rows
  en : w.ownsRow B 4 1 ve ends.length (boolCells ends)
  ne : B1 ≠ B4

variable {kt sz B B1 B2 B4 hi : Nat} {enc : α → Value} {cel : α → List Value} {w w' : World} {met : List α} {rows : List (List Int)} {ends : List Bool} {vm vn ve : Value}
theorem ExW.below (h : ExW kt sz enc cel B B1 B2 B4 hi w met rows ends vm vn ve) (hb : Below w.heap.size w w') : ExW kt sz enc cel B B1 B2 B4 hi w' met rows ends vm vn ve :=
  ⟨(Own.below (own_of_row h.m) hb).1, h.n.below hb, h.r.below hb h.r.lt, h.d.below hb h.d.lt, h.nx.below hb, (Own.below (own_of_row h.en) hb).1, h.ne⟩
theorem ExW.up {hi' : Nat} (h : ExW kt sz enc cel B B1 B2 B4 hi w met rows ends vm vn ve) (hh : hi ≤ hi') : ExW kt sz enc cel B B1 B2 B4 hi' w met rows ends vm vn ve :=
  ⟨h.m, h.n, h.r, h.d, h.nx.mono (Nat.le_refl _) hh, h.en, h.ne⟩
/-- The type of the things met is none of the automaton's. -/
def Own4 (kt : Nat) : Prop := kt ≠ 3 ∧ kt ≠ 24 ∧ kt ≠ 4 ∧ kt ≠ 33
/-- A new state has its number in the map, and the list has grown by it. -/
theorem ExW.newState (hk : Own4 kt) (h : ExW kt sz enc cel B B1 B2 B4 hi w met rows ends vm vn ve) {x : α} {w1 w2 w3 : World} {vm' : Value} (hn : MapL Try.prog kt enc w1 B2 (numbered (met ++ [x]))) (hg1 : w.grownBy w1 (some B2))
    (hb : Below w1.heap.size w1 w2) (hown : w3.ownsRow B kt sz vm' (met.length + 1) (met.flatMap cel ++ cel x)) (hg2 : w2.grownBy w3 vm.ownBlock) :
    ExW kt sz enc cel B B1 B2 B4 hi w3 (met ++ [x]) rows ends vm' vn ve := by
  obtain ⟨k1, k2, k3, k4⟩ := hk
  have a : ∀ e, Apart w (some B2) e := fun e => h.n.apart
  have m2 : w2.ownsRow B kt sz vm met.length (met.flatMap cel) := (Own.below (own_of_row (ownsRow_grown h.m hg1 (a _))) hb).1
  have b : ∀ e, kt ≠ e → Apart w2 vm.ownBlock e := fun e he => ownsRow_apart m2 he
  refine ⟨?_, (hn.below hb).grown hg2 (ownsRow_cells m2), ?_, ?_, ?_, ?_, h.ne⟩
  · simpa using hown
  · have r1 := h.r.grown hg1 (a _)
    exact (r1.below hb r1.lt).grown hg2 (b _ k4)
  · have r1 := h.d.grown hg1 (a _)
    exact (r1.below hb r1.lt).grown hg2 (b _ k4)
  · exact ((h.nx.grown hg1 (a _) (a _)).below hb).grown hg2 (b _ k2) (b _ k1)
  · exact ownsRow_grown (Own.below (own_of_row (ownsRow_grown h.en hg1 (a _))) hb).1 hg2 (b _ k3)
/-- A place of the row under way is written. -/
theorem ExW.setRow (hk : Own4 kt) (h : ExW kt sz enc cel B B1 B2 B4 hi w met rows ends vm vn ve) {R n : Nat} {cs : List Value} (hR : hi ≤ R) {base : Nat} (hrow : w.ownsRow base 3 1 (.slice (some ⟨R, 0, none⟩) n n) n cs) (j : Nat) (v : Value) :
    ExW kt sz enc cel B B1 B2 B4 hi (w.setCell ⟨R, j, none⟩ v) met rows ends vm vn ve := by
  obtain ⟨k1, k2, k3, k4⟩ := hk
  have hg := grown_set w R j v
  have a : ∀ e, 3 ≠ e → Apart w (some R) e := fun e he => ownsRow_apart (v := .slice (some ⟨R, 0, none⟩) n n) hrow he
  have c : CellsRow w (some R) := ownsRow_cells (v := .slice (some ⟨R, 0, none⟩) n n) hrow
  exact ⟨ownsRow_grown h.m hg (a _ (Ne.symm k1)), h.n.grown hg c, h.r.grown hg (a _ (by decide)), h.d.grown hg (a _ (by decide)), h.nx.far hR j v, ownsRow_grown h.en hg (a _ (by decide)), h.ne⟩
/-- The row under way, where a new state comes. -/
theorem row_kept {w1 w2 w3 : World} {R n base e : Nat} {cs : List Value} {vm : Value} {b2 mb : Nat} {ms : List Value} (hrow : w.ownsRow base e 1 (.slice (some ⟨R, 0, none⟩) n n) n cs) (hne : kt ≠ e)
    (hm2 : w2.ownsRow mb kt sz vm b2 ms) (ha : Apart w (some B2) e) (hg1 : w.grownBy w1 (some B2)) (hb : Below w1.heap.size w1 w2) (hg2 : w2.grownBy w3 vm.ownBlock) : w3.ownsRow base e 1 (.slice (some ⟨R, 0, none⟩) n n) n cs :=
  ownsRow_grown (Own.below (own_of_row (ownsRow_grown hrow hg1 ha)) hb).1 hg2 (ownsRow_apart hm2 hne)
/-- The row is done: the table has grown by it. -/
theorem ExW.addRow (hk : Own4 kt) (h : ExW kt sz enc cel B B1 B2 B4 hi w met rows ends vm vn ve) {vs : List Value} {rv vn' : Value} {x : List Int} {w3 : World} {lr : Nat}
    (h1 : Own B hi w 24 1 vn rows.length vs) (h2 : ∀ i, i < rows.length → OInts 3 B hi w (vs.getD i undef) (rows.getD i []))
    (h3 : ∀ i j k, i < j → j < rows.length → (vs.getD i undef).ownBlock = some k → (vs.getD j undef).ownBlock ≠ some k)
    (hrow : OInts 3 lr w.heap.size w rv x) (hlr : hi ≤ lr) (hlo : B ≤ lr) (hg : w.grownBy w3 vn.ownBlock) (hown : w3.ownsRow B 24 1 vn' (rows.length + 1) (vs ++ [rv])) :
    ExW kt sz enc cel B B1 B2 B4 w3.heap.size (w3.setCell ⟨B4, 0, none⟩ vn') met (rows ++ [x]) ends vm vn' ve := by
  obtain ⟨k1, k2, k3, k4⟩ := hk
  have a : ∀ e, 24 ≠ e → Apart w vn.ownBlock e := fun e he => ownsRow_apart h1.1 he
  have d3 : Bx w3 B4 #[vn, ve] 33 := h.d.grown hg (a _ (by decide))
  have hg4 := grown_set w3 B4 0 vn'
  have b : ∀ e, 33 ≠ e → Apart w3 (some B4) e := fun e he => d3.apart he
  have r3 : Bx w3 B1 #[.slice none 0 0, .slice none 0 0] 33 := h.r.grown hg (a _ (by decide))
  have n4 : MapL Try.prog kt enc (w3.setCell ⟨B4, 0, none⟩ vn') B2 (numbered met) := (h.n.grown hg (ownsRow_cells h1.1)).grown hg4 d3.cells
  refine ⟨ownsRow_grown (ownsRow_grown h.m hg (a _ (Ne.symm k2))) hg4 (b _ (Ne.symm k4)), n4, ?_, d3.set 0 vn', ?_, ownsRow_grown (ownsRow_grown h.en hg (a _ (by decide))) hg4 (b _ (by decide)), h.ne⟩
  · exact r3.set_ne _ _ h.ne
  · exact (OIntSS.snoc h1 h2 h3 hrow hlr hlo (by decide) hg hown).grown hg4 (b _ (by decide)) (b _ (by decide))
/-- A truth value more. -/
theorem ExW.addEnd (hk : Own4 kt) (h : ExW kt sz enc cel B B1 B2 B4 hi w met rows ends vm vn ve) {w3 : World} {ve' : Value} {e : Bool} (hg : w.grownBy w3 ve.ownBlock) (hown : w3.ownsRow B 4 1 ve' (ends.length + 1) (boolCells ends ++ [.bool e])) :
    ExW kt sz enc cel B B1 B2 B4 hi (w3.setCell ⟨B4, 1, none⟩ ve') met rows (ends ++ [e]) vm vn ve' := by
  obtain ⟨k1, k2, k3, k4⟩ := hk
  have a : ∀ t, 4 ≠ t → Apart w ve.ownBlock t := fun t ht => ownsRow_apart h.en ht
  have d3 : Bx w3 B4 #[vn, ve] 33 := h.d.grown hg (a _ (by decide))
  have hg4 := grown_set w3 B4 1 ve'
  have b : ∀ t, 33 ≠ t → Apart w3 (some B4) t := fun t ht => d3.apart ht
  have r3 : Bx w3 B1 #[.slice none 0 0, .slice none 0 0] 33 := h.r.grown hg (a _ (by decide))
  have n4 : MapL Try.prog kt enc (w3.setCell ⟨B4, 1, none⟩ ve') B2 (numbered met) := (h.n.grown hg (ownsRow_cells h.en)).grown hg4 d3.cells
  refine ⟨ownsRow_grown (ownsRow_grown h.m hg (a _ (Ne.symm k3))) hg4 (b _ (Ne.symm k4)), n4, r3.set_ne _ _ h.ne, d3.set 1 ve', (h.nx.grown hg (a _ (by decide)) (a _ (by decide))).grown hg4 (b _ (by decide)) (b _ (by decide)), ?_, h.ne⟩
  refine ownsRow_grown ?_ hg4 (b _ (by decide))
  simpa using hown
end
end Go.Proofs.Ytjcegbcmomfgaaa
namespace Go.Proofs.Ytjcegbcmomfgaaa
open Go.RowKit

/-- Numbers from k on; what is written into truth values; into rows. -/
def upFrom (k : Int) (n : Nat) : List Int := (List.range n).map fun (i : Nat) => k + i
def upBools (k : Int) (n : Nat) : List Bool := (List.range n).map fun (i : Nat) => (k + i) % 3 == 0
def sumLen (xss : List (List Int)) : Nat := (xss.map List.length).sum
def upRows (k : Int) (xss : List (List Int)) : List (List Int) := (List.range xss.length).map fun i => upFrom (k + sumLen (xss.take i)) (xss.getD i []).length
theorem upFrom_len (k : Int) (n : Nat) : (upFrom k n).length = n := by simp [upFrom]
theorem upBools_len (k : Int) (n : Nat) : (upBools k n).length = n := by simp [upBools]
theorem upRows_len (k : Int) (xss : List (List Int)) : (upRows k xss).length = xss.length := by simp [upRows]
theorem upFrom_at {k : Int} {n j : Nat} (h : j < n) : (intCells (upFrom k n))[j]? = some (.int .i64 (k + j)) := by simp [upFrom, h]
theorem upBools_at {k : Int} {n j : Nat} (h : j < n) : (boolCells (upBools k n))[j]? = some (.bool ((k + j) % 3 == 0)) := by simp [upBools, h]
theorem upFrom_getD {k : Int} {n j : Nat} (h : j < n) : (upFrom k n).getD j 0 = k + j := by simp [upFrom, h]
theorem upBools_getD {k : Int} {n j : Nat} (h : j < n) : (upBools k n).getD j false = ((k + j) % 3 == 0) := by simp [upBools, h]
theorem upRows_getD {k : Int} {xss : List (List Int)} {j : Nat} (h : j < xss.length) : (upRows k xss).getD j [] = upFrom (k + sumLen (xss.take j)) (xss.getD j []).length := by
  simp [upRows, h]
theorem sumLen_succ {xss : List (List Int)} {j : Nat} (h : j < xss.length) : sumLen (xss.take (j + 1)) = sumLen (xss.take j) + (xss.getD j []).length := by
  unfold sumLen
  rw [List.take_succ_eq_append_getElem h, List.map_append, List.sum_append]
  simp only [List.map_cons, List.map_nil, List.sum_cons, List.sum_nil, Nat.add_zero]
  simp [h]
theorem sumLen_le (xss : List (List Int)) (j : Nat) : sumLen (xss.take j) ≤ sumLen xss := by
  unfold sumLen
  have : (xss.map List.length).sum = ((xss.take j).map List.length).sum + ((xss.drop j).map List.length).sum := by
    rw [← List.sum_append, ← List.map_append, List.take_append_drop]
  omega

/-- Only blocks from lo on and below hi whose cells are of type e have turned. -/
structure Touch (e lo hi : Nat) (w w' : World) : Prop where
  os : w'.os = w.os
  tape : w'.tape = w.tape
  output : w'.output = w.output
  size : w.heap.size ≤ w'.heap.size
  block : ∀ k, k < w.heap.size → ((k < lo ∨ hi ≤ k) ∨ ∀ cur fr, w.heap[k]? ≠ some (.cells cur e fr)) → w'.heap[k]? = w.heap[k]?
theorem Touch.refl (e lo hi : Nat) (w : World) : Touch e lo hi w w := ⟨rfl, rfl, rfl, Nat.le_refl _, fun _ _ _ => rfl⟩
theorem Touch.trans {e lo hi : Nat} {a b c : World} (h : Touch e lo hi a b) (k : Touch e lo hi b c) : Touch e lo hi a c := by
  refine ⟨k.os.trans h.os, k.tape.trans h.tape, k.output.trans h.output, Nat.le_trans h.size k.size, fun i hi hh => ?_⟩
  have e1 := h.block i hi hh
  refine (k.block i (Nat.lt_of_lt_of_le hi h.size) ?_).trans e1
  rcases hh with hh | hh
  · exact .inl hh
  · exact .inr (by rw [e1]; exact hh)
theorem Touch.only {e lo hi : Nat} {a b : World} (h : Touch e lo hi a b) : Only lo hi a b := ⟨h.os, h.tape, h.output, h.size, fun k hk hh => h.block k hk (.inl hh)⟩
theorem Touch.of_grown {e lo hi size n : Nat} {w w' : World} {v : Value} {cs : List Value} (h : Own lo hi w e size v n cs) (hg : w.grownBy w' v.ownBlock) : Touch e lo hi w w' := by
  refine ⟨hg.os, hg.tape, hg.output, hg.size, fun k hk hh => hg.block k hk fun hr => ?_⟩
  obtain ⟨l1, l2, l3⟩ := h.lt k hr.symm
  rcases hh with hh | hh
  · omega
  · obtain ⟨cu, hcu⟩ := ownsRow_obj h.1 hr.symm
    exact hh _ _ hcu
/-- Whatever is made of blocks of another type is as it was. -/
theorem Own.touch {e e' lo hi lo' hi' size n : Nat} {w w' : World} {v : Value} {cs : List Value} (h : Own lo hi w e' size v n cs) (ht : Touch e lo' hi' w w') (hne : e' ≠ e) : Own lo hi w' e' size v n cs :=
  h.kept fun k hk => ht.block k (h.lt k hk).2.2 (.inr fun cur fr hc => by
    obtain ⟨cu, hcu⟩ := ownsRow_obj h.1 hk
    rw [hcu] at hc
    simp only [Option.some.injEq, Obj.cells.injEq] at hc
    exact hne hc.2.1)
theorem Bx.touch {e lo hi T b : Nat} {w w' : World} {cs : Array Value} (h : Bx w b cs T) (ht : Touch e lo hi w w') (hne : T ≠ e) : Bx w' b cs T :=
  (ht.block b h.lt (.inr fun cur fr hc => by
    unfold Bx at h
    rw [h] at hc
    simp only [Option.some.injEq, Obj.cells.injEq] at hc
    exact hne hc.2.1)).trans h
theorem Own.lt' {lo hi e size n : Nat} {w : World} {v : Value} {cs : List Value} (h : Own lo hi w e size v n cs) : w.ownsRow lo e size v n cs := h.1
/-- A row of a slice of slices is written anew. -/
theorem OIntSS.row {es e lo hi : Nat} {w w' : World} {v : Value} {xss : List (List Int)} {vs : List Value} {x : List Int} {j : Nat} (hne : es ≠ e)
    (h1 : Own lo hi w es 1 v xss.length vs) (h2 : ∀ i, i < xss.length → OInts e lo hi w (vs.getD i undef) (xss.getD i []))
    (h3 : ∀ i j k, i < j → j < xss.length → (vs.getD i undef).ownBlock = some k → (vs.getD j undef).ownBlock ≠ some k)
    (hj : j < xss.length) (hx : OInts e lo hi w' (vs.getD j undef) x) (hg : w.grownBy w' (vs.getD j undef).ownBlock) :
    Own lo hi w' es 1 v (xss.set j x).length vs ∧ (∀ i, i < (xss.set j x).length → OInts e lo hi w' (vs.getD i undef) ((xss.set j x).getD i [])) ∧
      (∀ i j' k, i < j' → j' < (xss.set j x).length → (vs.getD i undef).ownBlock = some k → (vs.getD j' undef).ownBlock ≠ some k) := by
  have ha : Apart w (vs.getD j undef).ownBlock es := ownsRow_apart (Own.lt' (h2 j hj)) (Ne.symm hne)
  rw [List.length_set]
  refine ⟨h1.grown hg ha, fun i hi => ?_, h3⟩
  by_cases hij : j = i
  · subst hij
    have : (xss.set j x).getD j [] = x := by simp [hj]
    rw [this]
    exact hx
  · have : (xss.set j x).getD i [] = xss.getD i [] := by simp [List.getElem?_set_ne hij]
    rw [this]
    refine Own.kept (h2 i hi) fun k hk => hg.block k (Own.lt (h2 i hi) k hk).2.2 fun hr => ?_
    rcases Nat.lt_or_gt_of_ne hij with hlt | hgt
    · exact h3 j i k hlt hi hr.symm hk
    · exact h3 i j k hgt hj hk hr.symm
/-- The data behind the marks. -/
def markD (k : Int) (d : DfaD) : DfaD := ⟨upRows k d.next, upBools (k + sumLen d.next) d.ends.length⟩
def totD (d : DfaD) : Nat := sumLen d.next + d.ends.length






end Go.Proofs.Ytjcegbcmomfgaaa
