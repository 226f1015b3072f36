/-
  A queue: a slice of the call's own whose head moves on, 'q = q[1:]', and that grows, 'q = append(q, x)'. Elements of one cell.
  No condition: this text speaks of no program.
-/
import Derived.Test.YtjcegbcmomfgaaaGrow
import Derived.Room.AppendOwn
import Derived.Deep.DeepAppendWide
namespace Go.Proofs.Ytjcegbcmomfgaaa
open Go.RowKit

def Qs (lo : Nat) (w : World) (e : TypeId) (v : Value) (xs : List Value) : Prop :=
  ∃ g off cap cur, v = .slice (some ⟨g, off, none⟩) xs.length cap ∧ lo ≤ g ∧ w.heap[g]? = some (.cells cur e (0, 0)) ∧ xs.length ≤ cap ∧ cap ≤ maxLen ∧ off + cap ≤ cur.size ∧ ∀ j, j < xs.length → cur[off + j]? = xs[j]?
theorem Qs.obj {lo : Nat} {w : World} {e : TypeId} {v : Value} {xs : List Value} (h : Qs lo w e v xs) {k : Nat} (hk : v.ownBlock = some k) : ∃ cur, w.heap[k]? = some (.cells cur e (0, 0)) := by
  obtain ⟨g, off, cap, cur, rfl, _, hg, _⟩ := h
  have : g = k := by simpa [Value.ownBlock] using hk
  subst this
  exact ⟨cur, hg⟩
theorem Qs.apart {lo : Nat} {w : World} {e e' : TypeId} {v : Value} {xs : List Value} (h : Qs lo w e v xs) (hne : e ≠ e') : Apart w v.ownBlock e' := fun k hk cur fr hh => by
  obtain ⟨c, hc⟩ := h.obj hk
  rw [hc] at hh
  simp only [Option.some.injEq, Obj.cells.injEq] at hh
  exact hne hh.2.1
theorem Qs.kept {lo : Nat} {w w' : World} {e : TypeId} {v : Value} {xs : List Value} (h : Qs lo w e v xs) (hk : ∀ k, v.ownBlock = some k → w'.heap[k]? = w.heap[k]?) : Qs lo w' e v xs := by
  obtain ⟨g, off, cap, cur, rfl, h1, hg, h2⟩ := h
  exact ⟨g, off, cap, cur, rfl, h1, (hk g rfl).trans hg, h2⟩
theorem Qs.grown {lo : Nat} {w w' : World} {e : TypeId} {v : Value} {xs : List Value} {row : Option Nat} (h : Qs lo w e v xs) (hg : w.grownBy w' row) (ha : Apart w row e) : Qs lo w' e v xs :=
  h.kept fun k hk => by
    obtain ⟨cur, hc⟩ := h.obj hk
    exact hg.block k (Array.getElem?_eq_some_iff.1 hc).1 fun hr => ha k hr.symm _ _ hc
theorem Qs.below {lo : Nat} {w w' : World} {e : TypeId} {v : Value} {xs : List Value} (h : Qs lo w e v xs) (hb : Below w.heap.size w w') : Qs lo w' e v xs :=
  h.kept fun k hk => by
    obtain ⟨cur, hc⟩ := h.obj hk
    exact hb.block k (Array.getElem?_eq_some_iff.1 hc).1
theorem Qs.form {lo : Nat} {w : World} {e : TypeId} {v : Value} {xs : List Value} (h : Qs lo w e v xs) : ∃ g off cap, v = .slice (some ⟨g, off, none⟩) xs.length cap ∧ lo ≤ g ∧ g < w.heap.size ∧ xs.length ≤ cap ∧ cap ≤ 9223372036854775807 ∧ ∀ j, j < xs.length → w.cell? ⟨g, off + j, none⟩ = xs[j]? := by
  obtain ⟨g, off, cap, cur, rfl, h1, hg, h2, h3, h4, h5⟩ := h
  exact ⟨g, off, cap, rfl, h1, (Array.getElem?_eq_some_iff.1 hg).1, h2, h3, fun j hj => (cell_of_row w g _ cur e (0, 0) hg).trans (h5 j hj)⟩
theorem Qs.lo {lo : Nat} {w : World} {e : TypeId} {v : Value} {xs : List Value} (h : Qs lo w e v xs) {k : Nat} (hk : v.ownBlock = some k) : lo ≤ k := by
  obtain ⟨g, off, cap, cur, rfl, h1, _⟩ := h
  have : g = k := by simpa [Value.ownBlock] using hk
  omega
/-- The head moves on. -/
theorem Qs.tail {lo g off n cap : Nat} {w : World} {e : TypeId} {x : Value} {xs : List Value} (h : Qs lo w e (.slice (some ⟨g, off, none⟩) n cap) (x :: xs)) : Qs lo w e (.slice (some ⟨g, off + 1, none⟩) xs.length (cap - 1)) xs := by
  obtain ⟨g', off', cap', cur, he, h1, hg, h2, h3, h4, h5⟩ := h
  simp only [Value.slice.injEq, Option.some.injEq, Addr.mk.injEq, and_true] at he
  obtain ⟨⟨rfl, rfl⟩, _, rfl⟩ := he
  simp only [List.length_cons] at h2 h5
  refine ⟨g, off + 1, cap - 1, cur, rfl, h1, hg, by omega, by unfold maxLen at *; omega, by omega, fun j hj => ?_⟩
  have := h5 (j + 1) (by omega)
  rw [show off + 1 + j = off + (j + 1) by omega, this]
  simp
theorem Qs.tail1 {lo g off n : Nat} {w : World} {e : TypeId} {x : Value} {xs : List Value} (h : Qs lo w e (.slice (some ⟨g, off, none⟩) n 1) (x :: xs)) : xs = [] ∧ Qs lo w e (.slice (some ⟨g, off, none⟩) 0 0) [] := by
  obtain ⟨g', off', cap', cur, he, h1, hg, h2, h3, h4, h5⟩ := h
  simp only [Value.slice.injEq, Option.some.injEq, Addr.mk.injEq, and_true] at he
  obtain ⟨⟨rfl, rfl⟩, _, rfl⟩ := he
  simp only [List.length_cons] at h2
  exact ⟨List.eq_nil_of_length_eq_zero (by omega), g, off, 0, cur, rfl, h1, hg, by simp, by unfold maxLen; omega, by omega, fun j hj => absurd hj (by simp)⟩
/-- One element more. -/
theorem Qs.append {P : Program} {lo : Nat} {w : World} {e : TypeId} {v : Value} {xs : List Value} (h : Qs lo w e v xs) (t ty : TypeId) (i : TypeInfo) (z : Value) (bytes : Nat) (ht : P.underlying t = some (.slice e)) (hi : P.info? e = some i) (hz : i.zero = some z) (hsize : i.size = 1) (hby : i.bytes = bytes) (hzs : z.cells.size = 1)
    (ad : Addr) (c : Nat) (x : Value) (hx : w.cell? ad = some x) (had : ad.add 0 = ad) (h1 : x.oneCell' = true) (h63 : xs.length + 1 ≤ 1000000) (hb : bytes ≤ 100) (hlo : lo ≤ w.heap.size) :
    ∃ v' w', (Builtin.append_ #[t, t] ty #[v, .slice (some ad) 1 c]).run P w = .ok v' w' ∧ Qs lo w' e v' (xs ++ [x]) ∧ w.grownBy w' v.ownBlock := by
  obtain ⟨g, off, cap, cur, rfl, hg0, hg, h2, h3, h4, h5⟩ := h
  have hnews : ∀ j u, [x][j]? = some u → w.cell? (ad.add j) = some u := fun j u hu => by
    cases j with
    | zero => simp at hu; subst hu; rw [had]; exact hx
    | succ j => simp at hu
  by_cases hroom : xs.length + 1 ≤ cap
  · have hf := run_firstCells_some (P := P) w i.size 1 ad 1 c [x] (by simp [hsize]) hnews
    have hst := run_storeCells_at P g (off + xs.length) e [x] 0 cur w hg (by simp; omega) (by simpa using h1)
    have hadd : (⟨g, off, none⟩ : Addr).add xs.length = ⟨g, off + xs.length, none⟩ := by unfold Addr.add; split <;> simp_all
    simp only [Nat.add_zero, List.length_singleton] at hst
    rw [hsize] at hf
    have hcl : off + xs.length < cur.toList.length := by simp; omega
    have ht1 : (List.take (off + xs.length) cur.toList).length = off + xs.length := by rw [List.length_take]; omega
    obtain ⟨cs, hcs⟩ : ∃ cs : Array Value, cs = (List.take (off + xs.length) cur.toList ++ [x] ++ List.drop (off + xs.length + 1) cur.toList).toArray := ⟨_, rfl⟩
    rw [← hcs] at hst
    have hrow := setRow_heap w g cur cs e (0, 0) hg
    refine ⟨.slice (some ⟨g, off, none⟩) (xs.length + 1) cap, w.setRow g cs, by simp [Builtin.append_, run_underlying ht, sizeOf, typeInfo, hi, hsize, Builtin.lenOf, hroom, hf, hadd, hst], ?_, ?_⟩
    · refine ⟨g, off, cap, cs, by simp, hg0, hrow, by simpa using hroom, h3, ?_, fun j hj => ?_⟩
      · rw [hcs]
        simp only [List.size_toArray, List.length_append, List.length_singleton, List.length_drop, ht1, Array.length_toList]
        omega
      · simp only [List.length_append, List.length_singleton] at hj
        rw [hcs]
        simp only [List.getElem?_toArray]
        by_cases hjn : j < xs.length
        · rw [List.append_assoc, List.getElem?_append_left (by omega), List.getElem?_append_left hjn, List.getElem?_take, if_pos (by omega), Array.getElem?_toList]
          exact h5 j hjn
        · obtain rfl : j = xs.length := by omega
          rw [List.append_assoc, List.getElem?_append_right (by omega), ht1]
          simp
    · exact ⟨rfl, rfl, rfl, by simp, fun k _ hk => setRow_other w g k cs (fun e => hk (by rw [e]; rfl))⟩
  · have hgr := run_append_grow (P := P) w t ty e i z ht hi hz ⟨g, off, none⟩ xs.length cap xs (by rw [hsize]; omega)
      (fun j u hu => by
        have hj : j < xs.length := (List.getElem?_eq_some_iff.1 hu).1
        have hadd : (⟨g, off, none⟩ : Addr).add j = ⟨g, off + j, none⟩ := by unfold Addr.add; split <;> simp_all
        rw [hadd, cell_of_row w g _ cur e (0, 0) hg, h5 j hj, hu]) ad 1 c [x] (by simp [hsize]) hnews (by omega) (by omega)
      (by
        have := nextslicecap_le_wide (need := xs.length + 1) (old := cap) (by omega)
        have hm := Nat.mul_le_mul this (show i.bytes ≤ 100 by omega)
        omega)
    have hcm := grownCap_le_maxLen w (xs.length + 1) cap e (by unfold maxLen; omega)
    have hge := grownCap_ge w (xs.length + 1) cap e
    have hnew := heap_alloc_new w.drew (.cells (xs.toArray ++ [x].toArray ++ Builtin.zeroCells z.cells (grownCap w (xs.length + 1) cap e - (xs.length + 1))) e)
    refine ⟨_, _, hgr, ⟨w.heap.size, 0, _, _, by simp, hlo, hnew, by simpa using hge, hcm, ?_, fun j hj => ?_⟩, ?_⟩
    · simp [size_zeroCells, hzs]
      omega
    · simp only [Nat.zero_add]
      rw [← List.getElem?_toArray]
      have : (xs ++ [x]).toArray = xs.toArray ++ [x].toArray := by simp
      rw [this, Array.getElem?_append_left (by simpa using hj)]
    · exact ⟨rfl, rfl, rfl, by simp [World.alloc], fun k hk _ => Below.heap_alloc w.drew _ k hk⟩
/-- At the list of a plain region's operations. -/
theorem wpList_append_qs {P : Program} {w : World} {ops : Array Oper} {rest : List Oper} {o : Oper} {a : Act} {Q : Exit → Act → World → Prop} (hgd : o.guard = none) (s x : Operand) (t : TypeId)
    (ho : o.op = .call { callee := .builtin .append, args := #[s, x], argTypes := #[t, t] })
    (lo : Nat) (e : TypeId) (i : TypeInfo) (z : Value) (bytes : Nat) (ht : P.underlying t = some (.slice e)) (hi : P.info? e = some i) (hz : i.zero = some z)
    (hsize : i.size = 1) (hby : i.bytes = bytes) (hzs : z.cells.size = 1)
    (v : Value) (xs : List Value) (hs : a.eval s = v) (hq : Qs lo w e v xs)
    (ad : Addr) (c : Nat) (u : Value) (hx : a.eval x = .slice (some ad) 1 c) (hu : w.cell? ad = some u) (had : ad.add 0 = ad) (h1 : u.oneCell' = true)
    (h63 : xs.length + 1 ≤ 1000000) (hb : bytes ≤ 100) (hlo : lo ≤ w.heap.size)
    (h : ∀ v' w', Qs lo w' e v' (xs ++ [u]) → w.grownBy w' v.ownBlock → wpList P ops Q rest (a.put o.dst v') w') : wpList P ops Q (o :: rest) a w := by
  obtain ⟨v', w', hr, h2, h3⟩ := hq.append t o.type i z bytes ht hi hz hsize hby hzs ad c u hu had h1 h63 hb hlo
  exact wpList_plain hgd fun _ hK => by
    unfold Oper.wp execOp
    simp only [ho, resolve, invoke, builtin, Sem.run_bind, Sem.run_pure, Result.andThen_ok, List.map_toArray, List.map_cons, List.map_nil, hs, hx, hr]
    exact hK _ _ (h v' w' h2 h3)
end Go.Proofs.Ytjcegbcmomfgaaa
