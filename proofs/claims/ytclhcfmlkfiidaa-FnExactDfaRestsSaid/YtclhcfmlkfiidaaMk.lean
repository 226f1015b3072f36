/-
  The walks over the functions of the laws that write numbers into what a call has handed back, and look for them again.
  Conditions: what is written is the call's own; the numbers stay below ten thousand million.
-/
import Derived.Test.YtclhcfmlkfiidaaGrow
import Derived.Test.YtclhcfmlkfiidaaTo
namespace Go.Proofs.Ytclhcfmlkfiidaa
open Go.RowKit

/-- Numbers from k on; what is written into truth values; into rows. -/
def upFrom (k : Int) (n : Nat) : List Int := (List.range n).map fun (i : Nat) => k + i
def upBools (k : Int) (n : Nat) : List Bool := (List.range n).map fun (i : Nat) => (k + i) % 3 == 0
def sumLen (xss : List (List Int)) : Nat := (xss.map List.length).sum
def upRows (k : Int) (xss : List (List Int)) : List (List Int) := (List.range xss.length).map fun i => upFrom (k + sumLen (xss.take i)) (xss.getD i []).length
theorem upFrom_len (k : Int) (n : Nat) : (upFrom k n).length = n := by simp [upFrom]
theorem upBools_len (k : Int) (n : Nat) : (upBools k n).length = n := by simp [upBools]
theorem upRows_len (k : Int) (xss : List (List Int)) : (upRows k xss).length = xss.length := by simp [upRows]
theorem upFrom_at {k : Int} {n j : Nat} (h : j < n) : (intCells (upFrom k n))[j]? = some (.int .i64 (k + j)) := by simp [upFrom, h]
theorem upBools_at {k : Int} {n j : Nat} (h : j < n) : (boolCells (upBools k n))[j]? = some (.bool ((k + j) % 3 == 0)) := by simp [upBools, h]
theorem upFrom_getD {k : Int} {n j : Nat} (h : j < n) : (upFrom k n).getD j 0 = k + j := by simp [upFrom, h]
theorem upBools_getD {k : Int} {n j : Nat} (h : j < n) : (upBools k n).getD j false = ((k + j) % 3 == 0) := by simp [upBools, h]
theorem upRows_getD {k : Int} {xss : List (List Int)} {j : Nat} (h : j < xss.length) : (upRows k xss).getD j [] = upFrom (k + sumLen (xss.take j)) (xss.getD j []).length := by
  simp [upRows, h]
theorem sumLen_succ {xss : List (List Int)} {j : Nat} (h : j < xss.length) : sumLen (xss.take (j + 1)) = sumLen (xss.take j) + (xss.getD j []).length := by
  unfold sumLen
  rw [List.take_succ_eq_append_getElem h, List.map_append, List.sum_append]
  simp only [List.map_cons, List.map_nil, List.sum_cons, List.sum_nil, Nat.add_zero]
  simp [h]
theorem sumLen_le (xss : List (List Int)) (j : Nat) : sumLen (xss.take j) ≤ sumLen xss := by
  unfold sumLen
  have : (xss.map List.length).sum = ((xss.take j).map List.length).sum + ((xss.drop j).map List.length).sum := by
    rw [← List.sum_append, ← List.map_append, List.take_append_drop]
  omega

/-- Only blocks from lo on and below hi whose cells are of type e have turned. -/
structure Touch (e lo hi : Nat) (w w' : World) : Prop where
  os : w'.os = w.os
  tape : w'.tape = w.tape
  output : w'.output = w.output
  size : w.heap.size ≤ w'.heap.size
  block : ∀ k, k < w.heap.size → ((k < lo ∨ hi ≤ k) ∨ ∀ cur fr, w.heap[k]? ≠ some (.cells cur e fr)) → w'.heap[k]? = w.heap[k]?
theorem Touch.refl (e lo hi : Nat) (w : World) : Touch e lo hi w w := ⟨rfl, rfl, rfl, Nat.le_refl _, fun _ _ _ => rfl⟩
theorem Touch.trans {e lo hi : Nat} {a b c : World} (h : Touch e lo hi a b) (k : Touch e lo hi b c) : Touch e lo hi a c := by
  refine ⟨k.os.trans h.os, k.tape.trans h.tape, k.output.trans h.output, Nat.le_trans h.size k.size, fun i hi hh => ?_⟩
  have e1 := h.block i hi hh
  refine (k.block i (Nat.lt_of_lt_of_le hi h.size) ?_).trans e1
  rcases hh with hh | hh
  · exact .inl hh
  · exact .inr (by rw [e1]; exact hh)
theorem Touch.only {e lo hi : Nat} {a b : World} (h : Touch e lo hi a b) : Only lo hi a b := ⟨h.os, h.tape, h.output, h.size, fun k hk hh => h.block k hk (.inl hh)⟩
theorem Touch.of_grown {e lo hi size n : Nat} {w w' : World} {v : Value} {cs : List Value} (h : Own lo hi w e size v n cs) (hg : w.grownBy w' v.ownBlock) : Touch e lo hi w w' := by
  refine ⟨hg.os, hg.tape, hg.output, hg.size, fun k hk hh => hg.block k hk fun hr => ?_⟩
  obtain ⟨l1, l2, l3⟩ := h.lt k hr.symm
  rcases hh with hh | hh
  · omega
  · obtain ⟨cu, hcu⟩ := ownsRow_obj h.1 hr.symm
    exact hh _ _ hcu
/-- Whatever is made of blocks of another type is as it was. -/
theorem Own.touch {e e' lo hi lo' hi' size n : Nat} {w w' : World} {v : Value} {cs : List Value} (h : Own lo hi w e' size v n cs) (ht : Touch e lo' hi' w w') (hne : e' ≠ e) : Own lo hi w' e' size v n cs :=
  h.kept fun k hk => ht.block k (h.lt k hk).2.2 (.inr fun cur fr hc => by
    obtain ⟨cu, hcu⟩ := ownsRow_obj h.1 hk
    rw [hcu] at hc
    simp only [Option.some.injEq, Obj.cells.injEq] at hc
    exact hne hc.2.1)
theorem Bx.touch {e lo hi T b : Nat} {w w' : World} {cs : Array Value} (h : Bx w b cs T) (ht : Touch e lo hi w w') (hne : T ≠ e) : Bx w' b cs T :=
  (ht.block b h.lt (.inr fun cur fr hc => by
    unfold Bx at h
    rw [h] at hc
    simp only [Option.some.injEq, Obj.cells.injEq] at hc
    exact hne hc.2.1)).trans h
theorem Own.lt' {lo hi e size n : Nat} {w : World} {v : Value} {cs : List Value} (h : Own lo hi w e size v n cs) : w.ownsRow lo e size v n cs := h.1
/-- A row of a slice of slices is written anew. -/
theorem OIntSS.row {es e lo hi : Nat} {w w' : World} {v : Value} {xss : List (List Int)} {vs : List Value} {x : List Int} {j : Nat} (hne : es ≠ e)
    (h1 : Own lo hi w es 1 v xss.length vs) (h2 : ∀ i, i < xss.length → OInts e lo hi w (vs.getD i undef) (xss.getD i []))
    (h3 : ∀ i j k, i < j → j < xss.length → (vs.getD i undef).ownBlock = some k → (vs.getD j undef).ownBlock ≠ some k)
    (hj : j < xss.length) (hx : OInts e lo hi w' (vs.getD j undef) x) (hg : w.grownBy w' (vs.getD j undef).ownBlock) :
    Own lo hi w' es 1 v (xss.set j x).length vs ∧ (∀ i, i < (xss.set j x).length → OInts e lo hi w' (vs.getD i undef) ((xss.set j x).getD i [])) ∧
      (∀ i j' k, i < j' → j' < (xss.set j x).length → (vs.getD i undef).ownBlock = some k → (vs.getD j' undef).ownBlock ≠ some k) := by
  have ha : Apart w (vs.getD j undef).ownBlock es := ownsRow_apart (Own.lt' (h2 j hj)) (Ne.symm hne)
  rw [List.length_set]
  refine ⟨h1.grown hg ha, fun i hi => ?_, h3⟩
  by_cases hij : j = i
  · subst hij
    have : (xss.set j x).getD j [] = x := by simp [hj]
    rw [this]
    exact hx
  · have : (xss.set j x).getD i [] = xss.getD i [] := by simp [List.getElem?_set_ne hij]
    rw [this]
    refine Own.kept (h2 i hi) fun k hk => hg.block k (Own.lt (h2 i hi) k hk).2.2 fun hr => ?_
    rcases Nat.lt_or_gt_of_ne hij with hlt | hgt
    · exact h3 j i k hlt hi hr.symm hk
    · exact h3 i j k hgt hj hk hr.symm
/-- The data behind the marks. -/
def markD (k : Int) (d : DfaD) : DfaD := ⟨upRows k d.next, upBools (k + sumLen d.next) d.ends.length⟩
def totD (d : DfaD) : Nat := sumLen d.next + d.ends.length

set_option maxHeartbeats 800000 in
theorem markInts_any (xs : List Int) (k : Int) (lo hi : Nat) (v : Value) (w : World) (hk0 : 0 ≤ k) (hk1 : k ≤ 10000000000) (hx : xs.length ≤ 100000000) (h : OInts 3 lo hi w v xs) :
    Calls Try.prog 28 #[v, .int .i64 k] w fun en w' => en = .returned (.int .i64 (k + xs.length)) ∧ OInts 3 lo hi w' v (upFrom k xs.length) ∧ w.grownBy w' v.ownBlock := by
  obtain ⟨n, hn⟩ : ∃ n, n = xs.length := ⟨_, rfl⟩
  unfold OInts at h
  rw [← hn] at h hx
  rw [← hn]
  by_cases h0 : n = 0
  · subst h0
    obtain ⟨a1, c1, rfl, -⟩ := (Own.sl h (by omega)).form
    go_enter Try.func28, Try.ntmps28
    go_wp2
    go_loop [1, 5] (fun kv i => kv = .int .i64 k ∧ i = .int .i64 0) (fun _ _ => 0)
    case atStart => exact ⟨rfl, rfl⟩
    case round =>
      obtain ⟨rfl, rfl⟩ := hrel
      have Hh := Lib.hid h
      clear h hn
      go_wp2
      go_ret
      refine ⟨ret_int (by simp), ?_, World.grownBy.refl _ _⟩
      have hl := Hh.out.1.1
      have : _ = [] := List.eq_nil_of_length_eq_zero (by simpa using hl)
      have h2 := Hh.out
      rw [this] at h2
      simpa [upFrom, OInts] using h2
  · obtain ⟨g, cap, rfl, hg0, hg1⟩ := h.1.form (by omega)
    have Hh := Lib.hid h
    have Hhn := Lib.hid hn; clear hn
    clear h
    go_enter Try.func28, Try.ntmps28
    go_wp2
    go_loopw [1, 5] (fun kv i wr => ∃ j : Nat, j ≤ n ∧ i = .int .i64 j ∧ kv = .int .i64 (k + j) ∧ w.grownBy wr (some g) ∧ ∃ cs, wr.ownsRow lo 3 1 (.slice (some ⟨g, 0, none⟩) n cap) n cs ∧ cs.take j = (intCells (upFrom k n)).take j)
      (fun _ i _ => n - (intOf i).toNat)
    case atStart => exact ⟨0, Nat.zero_le _, rfl, by simp, World.grownBy.refl _ _, _, Hh.out.1, rfl⟩
    case round =>
      obtain ⟨j, hj, rfl, rfl, hgr, cs, hown, htk⟩ := hrel
      have hlen := hown.1
      have Hhtk := Lib.hid htk; clear htk
      have Hhown := Lib.hid hown; clear hown
      have Hhgr := Lib.hid hgr; clear hgr
      by_cases hlt : j < n
      · obtain ⟨u0, hold⟩ := row_some Hhown.out j (by omega)
        have hfr : wr.frozen? ⟨g, j, none⟩ = false := Hhown.out.frozenAt j
        have hkj0 : 0 ≤ k + (j : Int) := by omega
        have hkj1 : k + (j : Int) ≤ 20000000000 := by omega
        have Hhlen := Lib.hid hlen; clear hlen
        go_wp2
        go_roundw
        case rel =>
          refine ⟨j + 1, by omega, by go_num, by go_num, Hhgr.out.trans (grown_set _ _ _ _), _, (Hhown.out.stored j _).1, ?_⟩
          exact cells_set (n := n) (by have := Hhlen.out; omega) (by simp [upFrom]) hlt Hhtk.out (upFrom_at hlt)
        case measure => simp [intOf]; omega
      · obtain rfl : j = n := by omega
        have Hhlen := Lib.hid hlen; clear hlen
        go_wp2
        go_ret
        have he : cs = intCells (upFrom k j) := by
          have h := Hhtk.out
          rwa [List.take_of_length_le (by have := Hhlen.out; omega), List.take_of_length_le (by simp [upFrom])] at h
        refine ⟨rfl, ?_, Hhgr.out⟩
        unfold OInts
        rw [upFrom_len, ← he]
        exact ⟨Hhown.out, Hh.out.2⟩
set_option maxHeartbeats 800000 in
theorem heldInts_any (n : Nat) (k : Int) (B : Nat) (v : Value) (w : World) (hk0 : 0 ≤ k) (hk1 : k ≤ 10000000000) (hx : n ≤ 100000000) (h : Ints B w v (upFrom k n)) :
    Calls Try.prog 29 #[v, .int .i64 k] w fun en w' => en = .returned (.int .i64 (k + n)) ∧ w = w' := by
  obtain ⟨a1, c1, hv, hc1, hm1, hr1⟩ := h.form
  rw [upFrom_len] at hv hc1 hr1
  subst hv
  clear h
  have Hhr1 := Lib.hid hr1; clear hr1
  go_enter Try.func29, Try.ntmps29
  go_wp2
  go_loop [1, 4, 5] (fun kv r i => ∃ j : Nat, j ≤ n ∧ i = .int .i64 j ∧ kv = .int .i64 (k + j)) (fun _ _ i => n - (intOf i).toNat)
  case atStart => exact ⟨0, Nat.zero_le _, rfl, by simp⟩
  case round =>
    obtain ⟨j, hj, rfl, rfl⟩ := hrel
    by_cases hlt : j < n
    · obtain ⟨b1, o1, rfl, -, -, hcs⟩ := Hhr1.out (by omega)
      have hc := hcs j hlt
      rw [upFrom_getD hlt] at hc
      have hkj0 : 0 ≤ k + (j : Int) := by omega
      have hkj1 : k + (j : Int) ≤ 20000000000 := by omega
      clear hcs
      go_wp2
      go_round
      case rel => exact ⟨j + 1, by omega, by go_num, by go_num⟩
      case measure => simp [intOf]; omega
    · obtain rfl : j = n := by omega
      go_wp2
      go_ret
      exact ⟨rfl, rfl⟩

set_option maxHeartbeats 800000 in
theorem markBools_any (xs : List Bool) (k : Int) (lo hi : Nat) (v : Value) (w : World) (hk0 : 0 ≤ k) (hk1 : k ≤ 10000000000) (hx : xs.length ≤ 100000000) (h : OBools 4 lo hi w v xs) :
    Calls Try.prog 49 #[v, .int .i64 k] w fun en w' => en = .returned (.int .i64 (k + xs.length)) ∧ OBools 4 lo hi w' v (upBools k xs.length) ∧ w.grownBy w' v.ownBlock := by
  obtain ⟨n, hn⟩ : ∃ n, n = xs.length := ⟨_, rfl⟩
  unfold OBools at h
  rw [← hn] at h hx
  rw [← hn]
  by_cases h0 : n = 0
  · subst h0
    obtain ⟨a1, c1, rfl, -⟩ := (Own.sl h (by omega)).form
    go_enter Try.func49, Try.ntmps49
    go_wp2
    go_loop [1, 5] (fun kv i => kv = .int .i64 k ∧ i = .int .i64 0) (fun _ _ => 0)
    case atStart => exact ⟨rfl, rfl⟩
    case round =>
      obtain ⟨rfl, rfl⟩ := hrel
      have Hh := Lib.hid h
      clear h hn
      go_wp2
      go_ret
      refine ⟨ret_int (by simp), ?_, World.grownBy.refl _ _⟩
      have hl := Hh.out.1.1
      have : _ = [] := List.eq_nil_of_length_eq_zero (by simpa using hl)
      have h2 := Hh.out
      rw [this] at h2
      simpa [upBools, OBools] using h2
  · obtain ⟨g, cap, rfl, hg0, hg1⟩ := h.1.form (by omega)
    have Hh := Lib.hid h
    have Hhn := Lib.hid hn; clear hn
    clear h
    go_enter Try.func49, Try.ntmps49
    go_wp2
    go_loopw [1, 5] (fun kv i wr => ∃ j : Nat, j ≤ n ∧ i = .int .i64 j ∧ kv = .int .i64 (k + j) ∧ w.grownBy wr (some g) ∧ ∃ cs, wr.ownsRow lo 4 1 (.slice (some ⟨g, 0, none⟩) n cap) n cs ∧ cs.take j = (boolCells (upBools k n)).take j)
      (fun _ i _ => n - (intOf i).toNat)
    case atStart => exact ⟨0, Nat.zero_le _, rfl, by simp, World.grownBy.refl _ _, _, Hh.out.1, rfl⟩
    case round =>
      obtain ⟨j, hj, rfl, rfl, hgr, cs, hown, htk⟩ := hrel
      have hlen := hown.1
      have Hhtk := Lib.hid htk; clear htk
      have Hhown := Lib.hid hown; clear hown
      have Hhgr := Lib.hid hgr; clear hgr
      by_cases hlt : j < n
      · obtain ⟨u0, hold⟩ := row_some Hhown.out j (by omega)
        have hfr : wr.frozen? ⟨g, j, none⟩ = false := Hhown.out.frozenAt j
        have hkj0 : 0 ≤ k + (j : Int) := by omega
        have hkj1 : k + (j : Int) ≤ 20000000000 := by omega
        have Hhlen := Lib.hid hlen; clear hlen
        go_wp2
        go_roundw
        case rel =>
          refine ⟨j + 1, by omega, by go_num, by go_num, Hhgr.out.trans (grown_set _ _ _ _), _, (Hhown.out.stored j _).1, ?_⟩
          exact cells_set (n := n) (by have := Hhlen.out; omega) (by simp [upBools]) hlt Hhtk.out (upBools_at hlt)
        case measure => simp [intOf]; omega
      · obtain rfl : j = n := by omega
        have Hhlen := Lib.hid hlen; clear hlen
        go_wp2
        go_ret
        have he : cs = boolCells (upBools k j) := by
          have h := Hhtk.out
          rwa [List.take_of_length_le (by have := Hhlen.out; omega), List.take_of_length_le (by simp [upBools])] at h
        refine ⟨rfl, ?_, Hhgr.out⟩
        unfold OBools
        rw [upBools_len, ← he]
        exact ⟨Hhown.out, Hh.out.2⟩
set_option maxHeartbeats 800000 in
theorem heldBools_any (n : Nat) (k : Int) (B : Nat) (v : Value) (w : World) (hk0 : 0 ≤ k) (hk1 : k ≤ 10000000000) (hx : n ≤ 100000000) (h : Bools B w v (upBools k n)) :
    Calls Try.prog 59 #[v, .int .i64 k] w fun en w' => en = .returned (.int .i64 (k + n)) ∧ w = w' := by
  obtain ⟨a1, c1, hv, hc1, hm1, hr1⟩ := h.form
  rw [upBools_len] at hv hc1 hr1
  subst hv
  clear h
  have Hhr1 := Lib.hid hr1; clear hr1
  go_enter Try.func59, Try.ntmps59
  go_wp2
  go_loop [1, 4, 5] (fun kv r i => ∃ j : Nat, j ≤ n ∧ i = .int .i64 j ∧ kv = .int .i64 (k + j)) (fun _ _ i => n - (intOf i).toNat)
  case atStart => exact ⟨0, Nat.zero_le _, rfl, by simp⟩
  case round =>
    obtain ⟨j, hj, rfl, rfl⟩ := hrel
    by_cases hlt : j < n
    · obtain ⟨b1, o1, rfl, -, -, hcs⟩ := Hhr1.out (by omega)
      have hc := hcs j hlt
      rw [upBools_getD hlt] at hc
      have hkj0 : 0 ≤ k + (j : Int) := by omega
      have hkj1 : k + (j : Int) ≤ 20000000000 := by omega
      clear hcs
      go_wp2
      go_round
      case rel => exact ⟨j + 1, by omega, by go_num, by go_num⟩
      case measure => simp [intOf]; omega
    · obtain rfl : j = n := by omega
      go_wp2
      go_ret
      exact ⟨rfl, rfl⟩

set_option maxRecDepth 100000 in
set_option maxHeartbeats 1600000 in
theorem markIntSS_any (xss : List (List Int)) (k : Int) (lo hi : Nat) (v : Value) (w : World) (hk0 : 0 ≤ k) (hk1 : k ≤ 5000000000) (hx : xss.length ≤ 100000000) (hs : sumLen xss ≤ 100000000) (h : OIntSS 44 3 lo hi w v xss) :
    Calls Try.prog 48 #[v, .int .i64 k] w fun en w' => en = .returned (.int .i64 (k + sumLen xss)) ∧ OIntSS 44 3 lo hi w' v (upRows k xss) ∧ Touch 3 lo hi w w' := by
  obtain ⟨vs, h1, h2, h3⟩ := h
  obtain ⟨a1, c1, hv, hc1, hm1, hr1⟩ := (Own.sl h1 (by omega)).form
  have Hh1 := Lib.hid h1
  have Hh2 := Lib.hid h2
  have Hh3 := Lib.hid h3
  have hsl := fun j => sumLen_le xss j
  subst hv
  have Hhsl := Lib.hid hsl; clear hsl
  have Hhr1 := Lib.hid hr1; clear hr1
  clear h1 h2 h3
  go_enter Try.func48, Try.ntmps48
  go_wp2
  go_loopw [1, 5] (fun kv i wr => ∃ j : Nat, j ≤ xss.length ∧ i = .int .i64 j ∧ kv = .int .i64 (k + sumLen (xss.take j)) ∧ Touch 3 lo hi w wr ∧ ∃ yss : List (List Int), yss.length = xss.length ∧ (∀ i, i < j → yss.getD i [] = (upRows k xss).getD i []) ∧ (∀ i, j ≤ i → yss.getD i [] = xss.getD i []) ∧
      Own lo hi wr 44 1 (.slice a1 xss.length c1) yss.length vs ∧ (∀ i, i < yss.length → OInts 3 lo hi wr (vs.getD i undef) (yss.getD i [])) ∧ (∀ i j k, i < j → j < yss.length → (vs.getD i undef).ownBlock = some k → (vs.getD j undef).ownBlock ≠ some k))
    (fun _ i _ => xss.length - (intOf i).toNat)
  case atStart => exact ⟨0, Nat.zero_le _, rfl, by simp [sumLen], Touch.refl _ _ _ _, xss, rfl, fun i hi => absurd hi (by omega), fun _ _ => rfl, Hh1.out, Hh2.out, Hh3.out⟩
  case round =>
    obtain ⟨j, hj, rfl, rfl, hto, yss, hyl, hy1, hy2, g1, g2, g3⟩ := hrel
    have hsj := Hhsl.out j
    by_cases hlt : j < xss.length
    · have hrj := g2 j (by omega)
      rw [hy2 j (Nat.le_refl _)] at hrj
      have hrl := sumLen_succ hlt
      have hs1 := Hhsl.out (j + 1)
      obtain ⟨b1, o1, rfl, -, -, hcs⟩ := Hhr1.out (by omega)
      have hbx : o1 = 0 := by
        have hh := Hh1.out.1.form (by omega)
        obtain ⟨g, cap, hv, -⟩ := hh
        simp only [Value.slice.injEq, Option.some.injEq, Addr.mk.injEq] at hv
        exact hv.1.2.1
      subst hbx
      have g1' := g1.1
      rw [hyl] at g1'
      have hcell := g1'.cellAt j (by omega)
      have hvl : vs.length = xss.length := by have := g1'.1; omega
      obtain ⟨rv, hrv⟩ : ∃ rv, rv = vs.getD j undef := ⟨_, rfl⟩
      have hcell2 : wr.cell? ⟨b1, 0 + j, none⟩ = some rv := by
        rw [Nat.zero_add, hrv]
        rw [hcell]
        simp [hvl, hlt]
      obtain ⟨x, hxx⟩ : ∃ x, x = xss.getD j [] := ⟨_, rfl⟩
      rw [← hxx] at hrj hrl
      obtain ⟨ar, cr, hvr, -⟩ := (OInts.ints hrj).form
      rw [← hrv] at hrj hvr
      have hrow : x.length ≤ 100000000 := by omega
      obtain ⟨S, hS⟩ : ∃ S, S = sumLen (xss.take j) := ⟨_, rfl⟩
      rw [← hS] at hrl hsj
      rw [← hS]
      have hkS0 : 0 ≤ k + (S : Int) := by omega
      have hkS1 : k + (S : Int) ≤ 10000000000 := by omega
      simp only [Nat.zero_add] at hcell2
      have Hhrl := Lib.hid hrl; clear hrl
      have Hhxx := Lib.hid hxx; clear hxx
      have HhS := Lib.hid hS; clear hS
      have Hhrj := Lib.hid hrj; clear hrj
      have Hhrv := Lib.hid hrv; clear hrv
      have Hhto := Lib.hid hto; clear hto
      have Hhyl := Lib.hid hyl; clear hyl
      have Hhy1 := Lib.hid hy1; clear hy1
      have Hhy2 := Lib.hid hy2; clear hy2
      have Hg1 := Lib.hid g1; clear g1
      have Hg2 := Lib.hid g2; clear g2
      have Hg3 := Lib.hid g3; clear g3
      have Hhvl := Lib.hid hvl; clear hvl
      subst hvr
      clear hcell hcs g1'
      go_wp2_with fail
      refine (markInts_any x (k + S) lo hi _ _ hkS0 hkS1 hrow Hhrj.out).mono ?_
      rintro e w2 ⟨rfl, ho2, hg2⟩
      have Hho2 := Lib.hid ho2; clear ho2
      have Hhg2 := Lib.hid hg2; clear hg2
      go_wp2
      go_roundw
      case rel =>
        have hyj : j < yss.length := by rw [Hhyl.out]; exact hlt
        have R := OIntSS.row (w' := w2) (x := upFrom (k + S) x.length) (by decide) Hg1.out Hg2.out Hg3.out hyj (by rw [← Hhrv.out]; exact Hho2.out) (by rw [← Hhrv.out]; exact Hhg2.out)
        refine ⟨j + 1, by omega, by go_num, by rw [Hhrl.out]; congr 1; push_cast; omega, Hhto.out.trans (Touch.of_grown Hhrj.out Hhg2.out), yss.set j (upFrom (k + S) x.length), by rw [List.length_set]; exact Hhyl.out, fun i hi => ?_, fun i hi => ?_, R⟩
        · by_cases hij : j = i
          · subst hij
            rw [upRows_getD hlt, ← HhS.out, ← Hhxx.out]
            simp [hyj]
          · have : (yss.set j (upFrom (k + S) x.length)).getD i [] = yss.getD i [] := by simp [List.getElem?_set_ne hij]
            rw [this]
            exact Hhy1.out i (by omega)
        · have : (yss.set j (upFrom (k + S) x.length)).getD i [] = yss.getD i [] := by simp [List.getElem?_set_ne (show j ≠ i by omega)]
          rw [this]
          exact Hhy2.out i (by omega)
      case measure => simp [intOf]; omega
    · obtain rfl : j = xss.length := by omega
      have hye : yss = upRows k xss := by
        apply List.ext_getElem
        · rw [hyl, upRows_len]
        · intro i h1 h2
          have := hy1 i (by omega)
          simpa [h1, h2] using this
      subst hye
      have Hhyl := Lib.hid hyl; clear hyl
      have Hhy1 := Lib.hid hy1; clear hy1
      have Hhy2 := Lib.hid hy2; clear hy2
      have Hg1 := Lib.hid g1; clear g1
      have Hg2 := Lib.hid g2; clear g2
      have Hg3 := Lib.hid g3; clear g3
      have Hhto := Lib.hid hto; clear hto
      go_wp2
      go_ret
      refine ⟨by first | rfl | rw [List.take_length], ⟨vs, ?_, Hg2.out, Hg3.out⟩, Hhto.out⟩
      exact Hg1.out

set_option maxRecDepth 100000 in
set_option maxHeartbeats 1600000 in
theorem heldIntSS_any (xss : List (List Int)) (k : Int) (B : Nat) (v : Value) (w : World) (hk0 : 0 ≤ k) (hk1 : k ≤ 5000000000) (hx : xss.length ≤ 100000000) (hs : sumLen xss ≤ 100000000) (h : IntSS B w v (upRows k xss)) :
    Calls Try.prog 58 #[v, .int .i64 k] w fun en w' => en = .returned (.int .i64 (k + sumLen xss)) ∧ w = w' := by
  obtain ⟨a1, c1, hv, hc1, hm1, hr1⟩ := h.formI
  rw [upRows_len] at hv hc1 hr1
  subst hv
  have hsl := fun j => sumLen_le xss j
  have Hhsl := Lib.hid hsl; clear hsl
  have Hhr1 := Lib.hid hr1; clear hr1
  clear h
  go_enter Try.func58, Try.ntmps58
  go_wp2
  go_loop [1, 4, 5] (fun kv r i => ∃ j : Nat, j ≤ xss.length ∧ i = .int .i64 j ∧ kv = .int .i64 (k + sumLen (xss.take j))) (fun _ _ i => xss.length - (intOf i).toNat)
  case atStart => exact ⟨0, Nat.zero_le _, rfl, by simp [sumLen]⟩
  case round =>
    obtain ⟨j, hj, rfl, rfl⟩ := hrel
    have hsj := Hhsl.out j
    by_cases hlt : j < xss.length
    · have hrl := sumLen_succ hlt
      have hs1 := Hhsl.out (j + 1)
      obtain ⟨b1, o1, rfl, -, -, hcs⟩ := Hhr1.out (by omega)
      obtain ⟨ar, cr, hc, hcl, hcm, hri⟩ := hcs j hlt
      rw [upRows_getD hlt] at hc hcl hri
      rw [upFrom_len] at hc hcl hri
      have hrow : (xss.getD j []).length ≤ 100000000 := by omega
      obtain ⟨S, hS⟩ : ∃ S, S = sumLen (xss.take j) := ⟨_, rfl⟩
      rw [← hS] at hrl hsj hri
      rw [← hS]
      have hkS0 : 0 ≤ k + (S : Int) := by omega
      have hkS1 : k + (S : Int) ≤ 10000000000 := by omega
      have hkS2 : 0 ≤ k + (S : Int) + ((xss.getD j []).length : Int) := by omega
      obtain ⟨n, hn⟩ : ∃ n, n = (xss.getD j []).length := ⟨_, rfl⟩
      rw [← hn] at hc hcl hri hrow hkS2 hrl
      have Hhrl := Lib.hid hrl; clear hrl
      have HhS := Lib.hid hS; clear hS
      have Hhri := Lib.hid hri; clear hri
      have Hhn := Lib.hid hn; clear hn
      clear hcs
      go_wp2_with fail
      refine (heldInts_any n (k + S) B _ _ hkS0 hkS1 hrow Hhri.out).mono ?_
      rintro e w2 ⟨rfl, rfl⟩
      go_wp2
      go_round
      case rel => exact ⟨j + 1, by omega, by go_num, by rw [Hhrl.out]; congr 1; push_cast; omega⟩
      case measure => simp [intOf]; omega
    · obtain rfl : j = xss.length := by omega
      go_wp2
      go_ret
      exact ⟨by first | rfl | rw [List.take_length], rfl⟩

set_option maxRecDepth 100000 in
set_option maxHeartbeats 1600000 in
theorem markDfa_any (d : DfaD) (k : Int) (lo hi : Nat) (v : Value) (w : World) (hk0 : 0 ≤ k) (hk1 : k ≤ 4000000000) (hx : d.next.length ≤ 100000000) (hs : sumLen d.next ≤ 100000000) (he : d.ends.length ≤ 100000000) (_ : hi ≤ w.heap.size) (h : DfaO 44 3 4 lo hi w v d) :
    Calls Try.prog 17 #[v, .int .i64 k] w fun en w' => en = .returned (.int .i64 (k + totD d)) ∧ DfaO 44 3 4 lo hi w' v (markD k d) ∧ Only lo hi w w' := by
  obtain ⟨u1, u2, rfl, g1, g2⟩ := h
  have hb : Below w.heap.size w (w.alloc (.cells #[u1, u2] 32)) := (Below.refl _ _).alloc (Nat.le_refl _) _
  have x0 := Bx.new w #[u1, u2] 32
  have f1 := g1.below hb
  have f2 := Own.below g2 hb
  have Hon : Hid (Only lo hi w (w.alloc (.cells #[u1, u2] 32))) := Lib.hid (Only.of_below hb)
  have Hx0 := Lib.hid x0; clear x0
  have Hf1 := Lib.hid f1; clear f1
  have Hf2 := Lib.hid f2; clear f2
  clear g1 g2 hb
  go_enter Try.func17, Try.ntmps17
  go_wp2_with fail
  refine (markIntSS_any d.next k lo hi _ _ hk0 (by omega) hx hs Hf1.out).mono ?_
  rintro e w2 ⟨rfl, ho2, ht2⟩
  have y0 := Hx0.out.touch ht2 (by decide)
  have g2 := Hf2.out.touch ht2 (by decide)
  have hon := Hon.out.trans ht2.only
  have c1 := y0.cell 1
  simp only [List.getElem?_toArray, List.getElem?_cons_zero, List.getElem?_cons_succ] at c1
  have Hho2 := Lib.hid ho2; clear ho2
  have Hht2 := Lib.hid ht2; clear ht2
  have Hy0 := Lib.hid y0; clear y0
  have Hg2 := Lib.hid g2; clear g2
  have Hhon := Lib.hid hon; clear hon
  go_wp2_with fail
  refine (markBools_any d.ends (k + sumLen d.next) lo hi _ _ (by omega) (by omega) he Hg2.out).mono ?_
  rintro e w3 ⟨rfl, ho3, hg3⟩
  have Hho3 := Lib.hid ho3; clear ho3
  have Hhg3 := Lib.hid hg3; clear hg3
  go_wp2
  go_ret
  have ht3 := Touch.of_grown Hg2.out Hhg3.out
  refine ⟨ret_int (by unfold totD; push_cast; omega), ⟨_, _, rfl, ?_, Hho3.out⟩, Hhon.out.trans ht3.only⟩
  obtain ⟨vs, a1, a2, a3⟩ := Hho2.out
  exact ⟨vs, a1.touch ht3 (by decide), fun i hi => Own.touch (a2 i hi) ht3 (by decide), a3⟩
set_option maxRecDepth 100000 in
set_option maxHeartbeats 1600000 in
theorem heldDfa_any (d : DfaD) (k : Int) (B : Nat) (v : Value) (w : World) (hk0 : 0 ≤ k) (hk1 : k ≤ 4000000000) (hx : d.next.length ≤ 100000000) (hs : sumLen d.next ≤ 100000000) (he : d.ends.length ≤ 100000000) (h : DfaR B w v (markD k d)) :
    Calls Try.prog 22 #[v, .int .i64 k] w fun en w' => en = .returned (.int .i64 (k + totD d)) ∧ Below w.heap.size w w' := by
  obtain ⟨u1, u2, rfl, g1, g2⟩ := h
  have hb : Below w.heap.size w (w.alloc (.cells #[u1, u2] 32)) := (Below.refl _ _).alloc (Nat.le_refl _) _
  have x0 := Bx.new w #[u1, u2] 32
  have f1 := g1.below hb
  have f2 := g2.below hb
  have c1 := x0.cell 1
  simp only [List.getElem?_toArray, List.getElem?_cons_zero, List.getElem?_cons_succ] at c1
  have hq : 0 ≤ k + (sumLen d.next : Int) := by omega
  have hq2 : 0 ≤ k + (sumLen d.next : Int) + (d.ends.length : Int) := by omega
  have Hf1 := Lib.hid f1; clear f1
  have Hf2 := Lib.hid f2; clear f2
  have Hhb := Lib.hid hb; clear hb
  clear g1 g2 x0
  go_enter Try.func22, Try.ntmps22
  go_wp2_with fail
  refine (heldIntSS_any d.next k B _ _ hk0 (by omega) hx hs Hf1.out).mono ?_
  rintro e w2 ⟨rfl, rfl⟩
  go_wp2_with fail
  refine (heldBools_any d.ends.length (k + sumLen d.next) B _ _ (by omega) (by omega) he Hf2.out).mono ?_
  rintro e w3 ⟨rfl, rfl⟩
  go_wp2
  go_ret
  exact ⟨ret_int (by unfold totD; push_cast; omega), Hhb.out⟩

def upPairs (k : Int) (n : Nat) : List (Int × Int) := (List.range n).map fun (i : Nat) => (k + 2 * i, k + 2 * i + 1)
theorem upPairs_len (k : Int) (n : Nat) : (upPairs k n).length = n := by simp [upPairs]
theorem upPairs_getD {k : Int} {n j : Nat} (h : j < n) : (upPairs k n).getD j (0, 0) = (k + 2 * j, k + 2 * j + 1) := by simp [upPairs, h]
set_option maxRecDepth 100000 in
set_option maxHeartbeats 1600000 in
theorem markPairs_any (xs : List (Int × Int)) (k : Int) (lo hi : Nat) (v : Value) (w : World) (hk0 : 0 ≤ k) (hk1 : k ≤ 10000000000) (hx : xs.length ≤ 100000000) (h : OPairs 55 lo hi w v xs) :
    Calls Try.prog 18 #[v, .int .i64 k] w fun en w' => en = .returned (.int .i64 (k + 2 * xs.length)) ∧ OPairs 55 lo hi w' v (upPairs k xs.length) ∧ w.grownBy w' v.ownBlock := by
  obtain ⟨n, hn⟩ : ∃ n, n = xs.length := ⟨_, rfl⟩
  unfold OPairs at h
  rw [← hn] at h hx
  rw [← hn]
  by_cases hx0 : n = 0
  · subst hx0
    obtain ⟨a1, c1, rfl, -⟩ := (Own.sl h (by omega)).form
    go_enter Try.func18, Try.ntmps18
    go_wp2
    go_loop [1, 5] (fun kv i => kv = .int .i64 k ∧ i = .int .i64 0) (fun _ _ => 0)
    case atStart => exact ⟨rfl, rfl⟩
    case round =>
      obtain ⟨rfl, rfl⟩ := hrel
      have Hh := Lib.hid h
      clear h hn
      go_wp2
      go_ret
      refine ⟨ret_int (by simp), ?_, World.grownBy.refl _ _⟩
      have hl := Hh.out.1.1
      have : xs.flatMap pairCells = [] := List.eq_nil_of_length_eq_zero (by omega)
      have h2 := Hh.out
      rw [this] at h2
      simpa [upPairs, OPairs] using h2
  obtain ⟨g, cap, rfl, hg0, hg1⟩ := h.1.form (by omega)
  have Hh := Lib.hid h
  have Hhn := Lib.hid hn; clear hn
  clear h
  go_enter Try.func18, Try.ntmps18
  go_wp2
  go_loopw [1, 5] (fun kv i wr => ∃ j : Nat, j ≤ n ∧ i = .int .i64 j ∧ kv = .int .i64 (k + 2 * j) ∧ w.grownBy wr (some g) ∧ ∃ cs, wr.ownsRow lo 55 2 (.slice (some ⟨g, 0, none⟩) n cap) n cs ∧ cs.take (j * 2) = ((upPairs k n).flatMap pairCells).take (j * 2))
    (fun _ i _ => n - (intOf i).toNat)
  case atStart => exact ⟨0, Nat.zero_le _, rfl, by simp, World.grownBy.refl _ _, _, Hh.out.1, rfl⟩
  case round =>
    obtain ⟨j, hj, rfl, rfl, hgr, cs, hown, htk⟩ := hrel
    have hlen := hown.1
    have Hhtk := Lib.hid htk; clear htk
    have Hhown := Lib.hid hown; clear hown
    have Hhgr := Lib.hid hgr; clear hgr
    by_cases hlt : j < n
    · obtain ⟨u0, hold⟩ := row_some Hhown.out (j * 2) (by omega)
      obtain ⟨u1, hold1⟩ := row_some Hhown.out (j * 2 + 1) (by omega)
      have hfr : wr.frozen? ⟨g, j * 2, none⟩ = false := Hhown.out.frozenAt _
      have hfr1 : wr.frozen? ⟨g, j * 2 + 1, none⟩ = false := Hhown.out.frozenAt _
      have hkj0 : 0 ≤ k + 2 * (j : Int) := by omega
      have hkj1 : k + 2 * (j : Int) ≤ 20000000000 := by omega
      have Hhlen := Lib.hid hlen; clear hlen
      go_wp2
      go_roundw
      case rel =>
        refine ⟨j + 1, by omega, by go_num, by first | go_num | (congr 1; push_cast; omega), (Hhgr.out.trans (grown_set _ _ _ _)).trans (grown_set _ _ _ _), _, (((Hhown.out.stored (j * 2) _).1).stored (j * 2 + 1) _).1, ?_⟩
        have hf := flatP_get (upPairs k n) j (by rw [upPairs_len]; exact hlt)
        rw [upPairs_getD hlt] at hf
        have s1 := cells_set (n := n * 2) (k := j * 2) Hhlen.out (by rw [flatP_len, upPairs_len]) (by omega) Hhtk.out hf.1
        have s2 := cells_set (n := n * 2) (k := j * 2 + 1) (by simpa using Hhlen.out) (by rw [flatP_len, upPairs_len]) (by omega) s1 hf.2
        rw [show (j + 1) * 2 = j * 2 + 1 + 1 from by omega]
        exact s2
      case measure => simp [intOf]; omega
    · obtain rfl : j = n := by omega
      have Hhlen := Lib.hid hlen; clear hlen
      go_wp2
      go_ret
      have he : cs = (upPairs k j).flatMap pairCells := by
        have h := Hhtk.out
        rwa [List.take_of_length_le (by have := Hhlen.out; omega), List.take_of_length_le (by rw [flatP_len, upPairs_len]; exact Nat.le_refl _)] at h
      refine ⟨rfl, ?_, Hhgr.out⟩
      unfold OPairs
      rw [upPairs_len, ← he]
      exact ⟨Hhown.out, Hh.out.2⟩
set_option maxRecDepth 100000 in
set_option maxHeartbeats 1600000 in
theorem heldPairs_any (n : Nat) (k : Int) (B : Nat) (v : Value) (w : World) (hk0 : 0 ≤ k) (hk1 : k ≤ 10000000000) (hx : n ≤ 100000000) (h : Pairs B w v (upPairs k n)) :
    Calls Try.prog 19 #[v, .int .i64 k] w fun en w' => en = .returned (.int .i64 (k + 2 * n)) ∧ w = w' := by
  obtain ⟨a1, c1, hv, hc1, hm1, hr1⟩ := h.form
  rw [upPairs_len] at hv hc1 hr1
  subst hv
  clear h
  have Hhr1 := Lib.hid hr1; clear hr1
  go_enter Try.func19, Try.ntmps19
  go_wp2
  go_loop [1, 4, 5] (fun kv r i => ∃ j : Nat, j ≤ n ∧ i = .int .i64 j ∧ kv = .int .i64 (k + 2 * j)) (fun _ _ i => n - (intOf i).toNat)
  case atStart => exact ⟨0, Nat.zero_le _, rfl, by simp⟩
  case round =>
    obtain ⟨j, hj, rfl, rfl⟩ := hrel
    by_cases hlt : j < n
    · obtain ⟨b1, o1, rfl, -, -, hcs⟩ := Hhr1.out (by omega)
      obtain ⟨hc, hc2⟩ := hcs j hlt
      rw [upPairs_getD hlt] at hc hc2
      have hkj0 : 0 ≤ k + 2 * (j : Int) := by omega
      have hkj1 : k + 2 * (j : Int) ≤ 20000000000 := by omega
      clear hcs
      go_wp2
      go_round
      case rel => exact ⟨j + 1, by omega, by go_num, by first | go_num | (congr 1; push_cast; omega)⟩
      case measure => simp [intOf]; omega
    · obtain rfl : j = n := by omega
      go_wp2
      go_ret
      exact ⟨rfl, rfl⟩
end Go.Proofs.Ytclhcfmlkfiidaa
