/-
  A queue: a slice of the call's own whose head moves on, 'q = q[1:]', and that grows, 'q = append(q, x)'. Elements of one cell.
  No condition: this text speaks of no program.
-/
import Derived.Test.YthhbjkgchabfmaaRows
import Derived.Test.YthhbjkgchabfmaaPk17Dr
namespace Go.Proofs.Ythhbjkgchabfmaa
open Go.RowKit
def Qs (lo : Nat) (w : World) (e : TypeId) (v : Value) (xs : List Value) : Prop :=
  ∃ g off cap cur, v = .slice (some ⟨g, off, none⟩) xs.length cap ∧ lo ≤ g ∧ w.heap[g]? = some (.cells cur e (0, 0)) ∧ xs.length ≤ cap ∧ cap ≤ maxLen ∧ off + cap ≤ cur.size ∧ ∀ j, j < xs.length → cur[off + j]? = xs[j]?
theorem Qs.obj {lo : Nat} {w : World} {e : TypeId} {v : Value} {xs : List Value} (h : Qs lo w e v xs) {k : Nat} (hk : v.ownBlock = some k) : ∃ cur, w.heap[k]? = some (.cells cur e (0, 0)) := by
  obtain ⟨g, off, cap, cur, rfl, _, hg, _⟩ := h
  have : g = k := by simpa [Value.ownBlock] using hk
  subst this
  exact ⟨cur, hg⟩
theorem Qs.apart {lo : Nat} {w : World} {e e' : TypeId} {v : Value} {xs : List Value} (h : Qs lo w e v xs) (hne : e ≠ e') : Apart w v.ownBlock e' := fun k hk cur fr hh => by
  obtain ⟨c, hc⟩ := h.obj hk
  rw [hc] at hh
  simp only [Option.some.injEq, Obj.cells.injEq] at hh
  exact hne hh.2.1
theorem Qs.kept {lo : Nat} {w w' : World} {e : TypeId} {v : Value} {xs : List Value} (h : Qs lo w e v xs) (hk : ∀ k, v.ownBlock = some k → w'.heap[k]? = w.heap[k]?) : Qs lo w' e v xs := by
  obtain ⟨g, off, cap, cur, rfl, h1, hg, h2⟩ := h
  exact ⟨g, off, cap, cur, rfl, h1, (hk g rfl).trans hg, h2⟩
theorem Qs.grown {lo : Nat} {w w' : World} {e : TypeId} {v : Value} {xs : List Value} {row : Option Nat} (h : Qs lo w e v xs) (hg : w.grownBy w' row) (ha : Apart w row e) : Qs lo w' e v xs :=
  h.kept fun k hk => by
    obtain ⟨cur, hc⟩ := h.obj hk
    exact hg.block k (Array.getElem?_eq_some_iff.1 hc).1 fun hr => ha k hr.symm _ _ hc
theorem Qs.below {lo : Nat} {w w' : World} {e : TypeId} {v : Value} {xs : List Value} (h : Qs lo w e v xs) (hb : Below w.heap.size w w') : Qs lo w' e v xs :=
  h.kept fun k hk => by
    obtain ⟨cur, hc⟩ := h.obj hk
    exact hb.block k (Array.getElem?_eq_some_iff.1 hc).1
theorem Qs.form {lo : Nat} {w : World} {e : TypeId} {v : Value} {xs : List Value} (h : Qs lo w e v xs) : ∃ g off cap, v = .slice (some ⟨g, off, none⟩) xs.length cap ∧ lo ≤ g ∧ g < w.heap.size ∧ xs.length ≤ cap ∧ cap ≤ 9223372036854775807 ∧ ∀ j, j < xs.length → w.cell? ⟨g, off + j, none⟩ = xs[j]? := by
  obtain ⟨g, off, cap, cur, rfl, h1, hg, h2, h3, h4, h5⟩ := h
  exact ⟨g, off, cap, rfl, h1, (Array.getElem?_eq_some_iff.1 hg).1, h2, h3, fun j hj => (cell_of_row w g _ cur e (0, 0) hg).trans (h5 j hj)⟩
theorem Qs.lo {lo : Nat} {w : World} {e : TypeId} {v : Value} {xs : List Value} (h : Qs lo w e v xs) {k : Nat} (hk : v.ownBlock = some k) : lo ≤ k := by
  obtain ⟨g, off, cap, cur, rfl, h1, _⟩ := h
  have : g = k := by simpa [Value.ownBlock] using hk
  omega
theorem Qs.tail {lo g off n cap : Nat} {w : World} {e : TypeId} {x : Value} {xs : List Value} (h : Qs lo w e (.slice (some ⟨g, off, none⟩) n cap) (x :: xs)) : Qs lo w e (.slice (some ⟨g, off + 1, none⟩) xs.length (cap - 1)) xs := by
  obtain ⟨g', off', cap', cur, he, h1, hg, h2, h3, h4, h5⟩ := h
  simp only [Value.slice.injEq, Option.some.injEq, Addr.mk.injEq, and_true] at he
  obtain ⟨⟨rfl, rfl⟩, _, rfl⟩ := he
  simp only [List.length_cons] at h2 h5
  refine ⟨g, off + 1, cap - 1, cur, rfl, h1, hg, by omega, by unfold maxLen at *; omega, by omega, fun j hj => ?_⟩
  have := h5 (j + 1) (by omega)
  rw [show off + 1 + j = off + (j + 1) by omega, this]
  simp
theorem Qs.tail1 {lo g off n : Nat} {w : World} {e : TypeId} {x : Value} {xs : List Value} (h : Qs lo w e (.slice (some ⟨g, off, none⟩) n 1) (x :: xs)) : xs = [] ∧ Qs lo w e (.slice (some ⟨g, off, none⟩) 0 0) [] := by
  obtain ⟨g', off', cap', cur, he, h1, hg, h2, h3, h4, h5⟩ := h
  simp only [Value.slice.injEq, Option.some.injEq, Addr.mk.injEq, and_true] at he
  obtain ⟨⟨rfl, rfl⟩, _, rfl⟩ := he
  simp only [List.length_cons] at h2
  exact ⟨List.eq_nil_of_length_eq_zero (by omega), g, off, 0, cur, rfl, h1, hg, by simp, by unfold maxLen; omega, by omega, fun j hj => absurd hj (by simp)⟩
theorem Qs.append {P : Program} {lo : Nat} {w : World} {e : TypeId} {v : Value} {xs : List Value} (h : Qs lo w e v xs) (t ty : TypeId) (i : TypeInfo) (z : Value) (bytes : Nat) (ht : P.underlying t = some (.slice e)) (hi : P.info? e = some i) (hz : i.zero = some z) (hsize : i.size = 1) (hby : i.bytes = bytes) (hzs : z.cells.size = 1)
    (ad : Addr) (c : Nat) (x : Value) (hx : w.cell? ad = some x) (had : ad.add 0 = ad) (h1 : x.oneCell' = true) (h63 : xs.length + 1 ≤ 1000000) (hb : bytes ≤ 100) (hlo : lo ≤ w.heap.size) :
    ∃ v' w', (Builtin.append_ #[t, t] ty #[v, .slice (some ad) 1 c]).run P w = .ok v' w' ∧ Qs lo w' e v' (xs ++ [x]) ∧ w.grownBy w' v.ownBlock := by
  obtain ⟨g, off, cap, cur, rfl, hg0, hg, h2, h3, h4, h5⟩ := h
  have hnews : ∀ j u, [x][j]? = some u → w.cell? (ad.add j) = some u := fun j u hu => by
    cases j with
    | zero => simp at hu; subst hu; rw [had]; exact hx
    | succ j => simp at hu
  by_cases hroom : xs.length + 1 ≤ cap
  · have hf := run_firstCells_some (P := P) w i.size 1 ad 1 c [x] (by simp [hsize]) hnews
    have hst := run_storeCells_at P g (off + xs.length) e [x] 0 cur w hg (by simp; omega) (by simpa using h1)
    have hadd : (⟨g, off, none⟩ : Addr).add xs.length = ⟨g, off + xs.length, none⟩ := by unfold Addr.add; split <;> simp_all
    simp only [Nat.add_zero, List.length_singleton] at hst
    rw [hsize] at hf
    have hcl : off + xs.length < cur.toList.length := by simp; omega
    have ht1 : (List.take (off + xs.length) cur.toList).length = off + xs.length := by rw [List.length_take]; omega
    obtain ⟨cs, hcs⟩ : ∃ cs : Array Value, cs = (List.take (off + xs.length) cur.toList ++ [x] ++ List.drop (off + xs.length + 1) cur.toList).toArray := ⟨_, rfl⟩
    rw [← hcs] at hst
    have hrow := setRow_heap w g cur cs e (0, 0) hg
    refine ⟨.slice (some ⟨g, off, none⟩) (xs.length + 1) cap, w.setRow g cs, by simp [Builtin.append_, run_underlying ht, sizeOf, typeInfo, hi, hsize, Builtin.lenOf, hroom, hf, hadd, hst], ?_, ?_⟩
    · refine ⟨g, off, cap, cs, by simp, hg0, hrow, by simpa using hroom, h3, ?_, fun j hj => ?_⟩
      · rw [hcs]
        simp only [List.size_toArray, List.length_append, List.length_singleton, List.length_drop, ht1, Array.length_toList]
        omega
      · simp only [List.length_append, List.length_singleton] at hj
        rw [hcs]
        simp only [List.getElem?_toArray]
        by_cases hjn : j < xs.length
        · rw [List.append_assoc, List.getElem?_append_left (by omega), List.getElem?_append_left hjn, List.getElem?_take, if_pos (by omega), Array.getElem?_toList]
          exact h5 j hjn
        · obtain rfl : j = xs.length := by omega
          rw [List.append_assoc, List.getElem?_append_right (by omega), ht1]
          simp
    · exact ⟨rfl, rfl, rfl, by simp, fun k _ hk => setRow_other w g k cs (fun e => hk (by rw [e]; rfl))⟩
  · have hgr := run_append_grow (P := P) w t ty e i z ht hi hz ⟨g, off, none⟩ xs.length cap xs (by rw [hsize]; omega)
      (fun j u hu => by
        have hj : j < xs.length := (List.getElem?_eq_some_iff.1 hu).1
        have hadd : (⟨g, off, none⟩ : Addr).add j = ⟨g, off + j, none⟩ := by unfold Addr.add; split <;> simp_all
        rw [hadd, cell_of_row w g _ cur e (0, 0) hg, h5 j hj, hu]) ad 1 c [x] (by simp [hsize]) hnews (by omega) (by omega)
      (by
        have := nextslicecap_le_wide (need := xs.length + 1) (old := cap) (by omega)
        have hm := Nat.mul_le_mul this (show i.bytes ≤ 100 by omega)
        omega)
    have hcm := grownCap_le_maxLen w (xs.length + 1) cap e (by unfold maxLen; omega)
    have hge := grownCap_ge w (xs.length + 1) cap e
    have hnew := heap_alloc_new w.drew (.cells (xs.toArray ++ [x].toArray ++ Builtin.zeroCells z.cells (grownCap w (xs.length + 1) cap e - (xs.length + 1))) e)
    refine ⟨_, _, hgr, ⟨w.heap.size, 0, _, _, by simp, hlo, hnew, by simpa using hge, hcm, ?_, fun j hj => ?_⟩, ?_⟩
    · simp [size_zeroCells, hzs]
      omega
    · simp only [Nat.zero_add]
      rw [← List.getElem?_toArray]
      have : (xs ++ [x]).toArray = xs.toArray ++ [x].toArray := by simp
      rw [this, Array.getElem?_append_left (by simpa using hj)]
    · exact ⟨rfl, rfl, rfl, by simp [World.alloc], fun k hk _ => Below.heap_alloc w.drew _ k hk⟩
theorem wpList_append_qs {P : Program} {w : World} {ops : Array Oper} {rest : List Oper} {o : Oper} {a : Act} {Q : Exit → Act → World → Prop} (hgd : o.guard = none) (s x : Operand) (t : TypeId)
    (ho : o.op = .call { callee := .builtin .append, args := #[s, x], argTypes := #[t, t] })
    (lo : Nat) (e : TypeId) (i : TypeInfo) (z : Value) (bytes : Nat) (ht : P.underlying t = some (.slice e)) (hi : P.info? e = some i) (hz : i.zero = some z)
    (hsize : i.size = 1) (hby : i.bytes = bytes) (hzs : z.cells.size = 1)
    (v : Value) (xs : List Value) (hs : a.eval s = v) (hq : Qs lo w e v xs)
    (ad : Addr) (c : Nat) (u : Value) (hx : a.eval x = .slice (some ad) 1 c) (hu : w.cell? ad = some u) (had : ad.add 0 = ad) (h1 : u.oneCell' = true)
    (h63 : xs.length + 1 ≤ 1000000) (hb : bytes ≤ 100) (hlo : lo ≤ w.heap.size)
    (h : ∀ v' w', Qs lo w' e v' (xs ++ [u]) → w.grownBy w' v.ownBlock → wpList P ops Q rest (a.put o.dst v') w') : wpList P ops Q (o :: rest) a w := by
  obtain ⟨v', w', hr, h2, h3⟩ := hq.append t o.type i z bytes ht hi hz hsize hby hzs ad c u hu had h1 h63 hb hlo
  exact wpList_plain hgd fun _ hK => by
    unfold Oper.wp execOp
    simp only [ho, resolve, invoke, builtin, Sem.run_bind, Sem.run_pure, Result.andThen_ok, List.map_toArray, List.map_cons, List.map_nil, hs, hx, hr]
    exact hK _ _ (h v' w' h2 h3)
def wdB (l : List Nat) : ByteArray := ⟨(l.map fun c => UInt8.ofNat (97 + c)).toArray⟩
theorem wdB_snoc (l : List Nat) (c : Nat) : wdB (l ++ [c]) = wdB l ++ wdB [c] := by
  apply ByteArray.ext
  simp [wdB, ByteArray.data_append]
theorem wdB_size (l : List Nat) : (wdB l).size = l.length := by simp [wdB, ByteArray.size]
set_option maxHeartbeats 800000 in
theorem letterText_any (c : Nat) (hc : c < 3) (w : World) : Calls Try.prog 123 #[.int .i64 c] w fun e w' => e = .returned (.string (wdB [c])) ∧ w = w' := by
  obtain rfl | rfl | rfl : c = 0 ∨ c = 1 ∨ c = 2 := by omega
  all_goals
    go_enter Try.func123, Try.ntmps123
    go_wp2
    go_ret
    exact ⟨rfl, rfl⟩
def wordRes (o : Option (List Nat)) : Ending := match o with
  | some l => .returned (.tuple #[.string (wdB l), .bool true])
  | none => .returned (.tuple #[.string { data := #[] }, .bool false])
theorem Try.infoStr : (Try.prog.info? 9).map (fun i => (i.zero, i.size, i.bytes)) = some (some (.string { data := #[] }), 1, 16) := by kernel_rfl
def knows (n : Nat) (s : Bs Int) (cs : List Value) : Prop := cs.length = n ∧ ∀ j, j < s.met.length → cs[(s.met.getD j 0).toNat]? = some (.string (wdB (s.words.getD j [])))
def marks (n : Nat) (s : Bs Int) (bs : List Value) : Prop := bs.length = n ∧ ∀ x : Nat, x < n → bs[x]? = some (.bool (decide ((x : Int) ∈ s.met)))
theorem bat_range {d : DfaD} (hd : fine d) (k : Nat) : ∀ x ∈ (bat (dnx d) 0 k).met, 0 ≤ x ∧ x < d.next.length := by
  obtain ⟨h1, _, _, h4⟩ := hd
  refine bat_all (Q := fun x : Int => 0 ≤ x ∧ x < (d.next.length : Int)) (by omega) (fun x c hc hx => ?_) k
  exact (h4 x.toNat (by omega)).2 c hc
theorem bpart_range {d : DfaD} (hd : fine d) {k n : Nat} (hk : k < (bat (dnx d) 0 k).met.length) (hn : n ≤ 3) : ∀ x ∈ (bpart (dnx d) 0 k n).met, 0 ≤ x ∧ x < d.next.length := by
  obtain ⟨h1, _, _, h4⟩ := hd
  refine bpart_all (Q := fun x : Int => 0 ≤ x ∧ x < (d.next.length : Int)) (by omega) (fun x c hc hx => ?_) hk hn
  exact (h4 x.toNat (by omega)).2 c hc
theorem nodup_range {l : List Int} {n : Nat} (hn : l.Nodup) (h : ∀ x ∈ l, 0 ≤ x ∧ x < n) : l.length ≤ n := by
  have := nodup_le (m := upInts n) hn fun x hx => by
    obtain ⟨h1, h2⟩ := h x hx
    obtain ⟨y, rfl⟩ := Int.eq_ofNat_of_zero_le h1
    exact mem_upInts.2 (by omega)
  rwa [upInts_len] at this
theorem bat_short {d : DfaD} (hd : fine d) (k : Nat) : (bat (dnx d) 0 k).met.length ≤ d.next.length := nodup_range (bat_good k).1 (bat_range hd k)
theorem bpart_short {d : DfaD} (hd : fine d) {k n : Nat} (hk : k < (bat (dnx d) 0 k).met.length) (hn : n ≤ 3) : (bpart (dnx d) 0 k n).met.length ≤ d.next.length := nodup_range (bpart_good hk hn).1 (bpart_range hd hk hn)
structure FwW (d : DfaD) (W0 bw bs : Nat) (bx : Array Value) (w : World) (s : Bs Int) (k : Nat) (vq : Value) : Prop where
  wo : ∃ cs, w.ownsRow W0 9 1 (.slice (some ⟨bw, 0, none⟩) d.next.length d.next.length) d.next.length cs ∧ knows d.next.length s cs
  se : ∃ ms, w.ownsRow W0 4 1 (.slice (some ⟨bs, 0, none⟩) d.next.length d.next.length) d.next.length ms ∧ marks d.next.length s ms
  qu : Qs W0 w 3 vq ((s.met.drop k).map (Value.int .i64))
  bx : Bx w W0 bx 26
theorem FwW.below {d : DfaD} {W0 bw bs k : Nat} {bx : Array Value} {w w' : World} {s : Bs Int} {vq : Value} (h : FwW d W0 bw bs bx w s k vq) (hb : Below w.heap.size w w') : FwW d W0 bw bs bx w' s k vq := by
  obtain ⟨⟨cs, h1, h2⟩, ⟨ms, h3, h4⟩, h5, h6⟩ := h
  exact ⟨⟨cs, (Own.below (own_of_row h1) hb).1, h2⟩, ⟨ms, (Own.below (own_of_row h3) hb).1, h4⟩, h5.below hb, h6.below hb h6.lt⟩
theorem FwW.word {d : DfaD} {W0 bw bs k : Nat} {bx : Array Value} {w : World} {s : Bs Int} {vq : Value} (h : FwW d W0 bw bs bx w s k vq) {j : Nat} (hj : j < s.met.length) {x : Nat} (hx : s.met.getD j 0 = (x : Int)) (hxn : x < d.next.length) : w.cell? ⟨bw, x, none⟩ = some (.string (wdB (s.words.getD j []))) := by
  obtain ⟨⟨cs, h1, h2⟩, _⟩ := h
  have := h2.2 j hj
  rw [hx] at this
  exact (h1.cellAt x (by omega)).trans this
theorem FwW.mark {d : DfaD} {W0 bw bs k : Nat} {bx : Array Value} {w : World} {s : Bs Int} {vq : Value} (h : FwW d W0 bw bs bx w s k vq) {x : Nat} (hxn : x < d.next.length) : w.cell? ⟨bs, x, none⟩ = some (.bool (decide ((x : Int) ∈ s.met))) := by
  obtain ⟨_, ⟨ms, h1, h2⟩, _⟩ := h
  exact (h1.cellAt x (by omega)).trans (h2.2 x hxn)
theorem FwW.cells {d : DfaD} {W0 bw bs k : Nat} {bx : Array Value} {w : World} {s : Bs Int} {vq : Value} (h : FwW d W0 bw bs bx w s k vq) {x : Nat} (hxn : x < d.next.length) : (∃ u, w.cell? ⟨bw, x, none⟩ = some u) ∧ w.frozen? ⟨bw, x, none⟩ = false ∧ w.frozen? ⟨bs, x, none⟩ = false := by
  obtain ⟨⟨cs, h1, h2⟩, ⟨ms, h3, h4⟩, _⟩ := h
  exact ⟨row_some h1 x (by omega), h1.frozenAt x, h3.frozenAt x⟩
theorem FwW.lt {d : DfaD} {W0 bw bs k : Nat} {bx : Array Value} {w : World} {s : Bs Int} {vq : Value} (h : FwW d W0 bw bs bx w s k vq) : W0 ≤ bw ∧ W0 ≤ bs ∧ bw < w.heap.size ∧ bs < w.heap.size ∧ bw ≠ bs ∧ W0 ≠ bw ∧ W0 ≠ bs := by
  obtain ⟨⟨cs, h1, h2⟩, ⟨ms, h3, h4⟩, _, h6⟩ := h
  refine ⟨(h1.lt bw rfl).1, (h3.lt bs rfl).1, (h1.lt bw rfl).2, (h3.lt bs rfl).2, ?_, ?_, ?_⟩
  · intro e
    obtain ⟨cu, hcu⟩ := ownsRow_obj (k := bs) h3 rfl
    exact ownsRow_apart (e' := 4) h1 (by decide) bs (by rw [e]; rfl) _ _ hcu
  · intro e
    exact ownsRow_apart (e' := 26) h1 (by decide) bw rfl _ _ (by rw [← e]; exact h6)
  · intro e
    exact ownsRow_apart (e' := 26) h3 (by decide) bs rfl _ _ (by rw [← e]; exact h6)
theorem FwW.q2 {d : DfaD} {W0 bw bs k : Nat} {bx : Array Value} {w w4 w5 : World} {s : Bs Int} {vq : Value} (h : FwW d W0 bw bs bx w s k vq) (x : Nat) {u v : Value} (_ : bw ≠ bs)
    (h5 : w5 = (w4.setCell ⟨bw, x, none⟩ u).drew) (h4 : w4 = w.setCell ⟨bs, x, none⟩ v) : Qs W0 w5 3 vq ((s.met.drop k).map (Value.int .i64)) := by
  obtain ⟨⟨cs, h1, h2⟩, ⟨ms, h3, h4'⟩, hq, h6⟩ := h
  subst h4
  subst h5
  have a1 : (w.setCell ⟨bs, x, none⟩ v).ownsRow W0 9 1 (.slice (some ⟨bw, 0, none⟩) d.next.length d.next.length) d.next.length cs := ownsRow_grown h1 (grown_set w bs x _) (fun k hk => by cases hk; exact ownsRow_apart (e' := 9) h3 (by decide) bs rfl)
  exact ((hq.grown (grown_set w bs x v) (fun k hk => by cases hk; exact ownsRow_apart (e' := 3) h3 (by decide) bs rfl)).grown (grown_set (w.setCell ⟨bs, x, none⟩ v) bw x u) (fun k hk => by cases hk; exact ownsRow_apart (e' := 3) a1 (by decide) bw rfl)).below (Below.refl _ _).drew
theorem FwW.new {d : DfaD} {W0 bw bs k : Nat} {bx : Array Value} {w w5 : World} {s : Bs Int} {vq vq' : Value} (h : FwW d W0 bw bs bx w s k vq) (hl : s.words.length = s.met.length) (hr : ∀ x ∈ s.met, 0 ≤ x ∧ x < d.next.length) (hk : k ≤ s.met.length) {x : Nat} (hxn : x < d.next.length) (hx : (x : Int) ∉ s.met) (wd : List Nat)
    (hq : Qs W0 w5 3 vq' ((s.met.drop k).map (Value.int .i64) ++ [.int .i64 (x : Int)])) (hg0 : ((((w.setCell ⟨bs, x, none⟩ (.bool true)).setCell ⟨bw, x, none⟩ (.string (wdB wd))).drew).alloc (.cells #[.int .i64 (x : Int)] 3)).grownBy w5 vq.ownBlock) :
    FwW d W0 bw bs bx w5 ⟨s.met ++ [(x : Int)], s.words ++ [wd]⟩ k vq' := by
  obtain ⟨_, _, _, _, hne, hn1, hn2⟩ := h.lt
  obtain ⟨⟨cs, h1, h2⟩, ⟨ms, h3, h4⟩, h5, h6⟩ := h
  have a1 : (w.setCell ⟨bs, x, none⟩ (.bool true)).ownsRow W0 9 1 (.slice (some ⟨bw, 0, none⟩) d.next.length d.next.length) d.next.length cs := ownsRow_grown h1 (grown_set w bs x _) (fun k hk => by cases hk; exact ownsRow_apart (e' := 9) h3 (by decide) bs rfl)
  have a2 := (a1.stored x (.string (wdB wd))).1
  have b1 := (h3.stored x (.bool true)).1
  have b2 : ((w.setCell ⟨bs, x, none⟩ (.bool true)).setCell ⟨bw, x, none⟩ (.string (wdB wd))).ownsRow W0 4 1 (.slice (some ⟨bs, 0, none⟩) d.next.length d.next.length) d.next.length _ := ownsRow_grown b1 (grown_set _ bw x _) (fun k hk => by cases hk; exact ownsRow_apart (e' := 4) a1 (by decide) bw rfl)
  have q2 := (h5.grown (grown_set w bs x (.bool true)) (fun k hk => by cases hk; exact ownsRow_apart (e' := 3) h3 (by decide) bs rfl)).grown (grown_set (w.setCell ⟨bs, x, none⟩ (.bool true)) bw x (.string (wdB wd))) (fun k hk => by cases hk; exact ownsRow_apart (e' := 3) a1 (by decide) bw rfl)
  have x2 : Bx ((w.setCell ⟨bs, x, none⟩ (.bool true)).setCell ⟨bw, x, none⟩ (.string (wdB wd))) W0 bx 26 := (h6.set_ne _ _ hn2).set_ne _ _ hn1
  have hg := hg0
  have hal : Below ((w.setCell ⟨bs, x, none⟩ (.bool true)).setCell ⟨bw, x, none⟩ (.string (wdB wd))).heap.size ((w.setCell ⟨bs, x, none⟩ (.bool true)).setCell ⟨bw, x, none⟩ (.string (wdB wd))) ((((w.setCell ⟨bs, x, none⟩ (.bool true)).setCell ⟨bw, x, none⟩ (.string (wdB wd))).drew).alloc (.cells #[.int .i64 (x : Int)] 3)) := (Below.refl _ _).drew.alloc (by simp) _
  have q3 := q2.below hal
  refine ⟨⟨_, ownsRow_grown (Own.below (own_of_row a2) hal).1 hg (q3.apart (by decide)), ?_⟩, ⟨_, ownsRow_grown (Own.below (own_of_row b2) hal).1 hg (q3.apart (by decide)), ?_⟩, ?_, (x2.below hal x2.lt).grown hg (q3.apart (by decide))⟩
  · refine ⟨by simpa using h2.1, fun j hj => ?_⟩
    simp only [List.length_append, List.length_singleton] at hj
    by_cases hjn : j < s.met.length
    · have e1 : (s.met ++ [(x : Int)]).getD j 0 = s.met.getD j 0 := by simp [List.getElem?_append_left hjn]
      have e2 : (s.words ++ [wd]).getD j [] = s.words.getD j [] := by simp [List.getElem?_append_left (show j < s.words.length by omega)]
      have hm := memD (d := 0) hjn
      have hmr := hr _ hm
      have : x ≠ (s.met.getD j 0).toNat := fun e => hx (by rw [e, Int.toNat_of_nonneg hmr.1]; exact hm)
      rw [e1, e2, List.getElem?_set_ne this]
      exact h2.2 j hjn
    · obtain rfl : j = s.met.length := by omega
      have e1 : (s.met ++ [(x : Int)]).getD s.met.length 0 = (x : Int) := by simp
      have e2 : (s.words ++ [wd]).getD s.met.length [] = wd := by simp [← hl]
      rw [e1, e2]
      simp [h2.1, hxn]
  · refine ⟨by simpa using h4.1, fun y hy => ?_⟩
    by_cases e : x = y
    · subst e
      simp [h4.1, hxn]
    · rw [List.getElem?_set_ne e, h4.2 y hy]
      have e2 : ¬ (y : Int) = (x : Int) := fun h => e (by omega)
      simp [e2]
  · have : (s.met ++ [(x : Int)]).drop k = s.met.drop k ++ [(x : Int)] := List.drop_append_of_le_length hk
    simp only [this, List.map_append, List.map_cons, List.map_nil]
    exact hq
set_option maxRecDepth 100000 in
set_option maxHeartbeats 8000000 in
theorem firstWord_any (d : DfaD) (v : Value) (w : World) (hd : fine d) (h : DfaR 0 w v d) :
    Calls Try.prog 84 #[v] w fun e w' => e = wordRes (firstHit (den d) (bat (dnx d) 0 d.next.length)) ∧ Below w.heap.size w w' := by
  obtain ⟨u1, u2, rfl, g1, g2⟩ := h
  have Hfine := Lib.hid hd
  obtain ⟨hn1, hn2, hne, hrows⟩ := hd
  obtain ⟨a1, c1, rfl, hc1, hm1, hr1⟩ := g1.formI
  obtain ⟨a2, c2, rfl, hc2, hm2, hr2⟩ := g2.form
  obtain ⟨s0, hsi, hs0, hs1, hs2⟩ := info_parts Try.infoStr
  obtain ⟨i0, hii, hi0, hi1, hi2⟩ := info_parts Try.infoInt
  obtain ⟨b0, hbi, hb0, hb1, hb2⟩ := info_parts Try.infoBool
  have HA : ∀ w1, (w.alloc (.cells #[.slice a1 d.next.length c1, .slice a2 d.ends.length c2] 26)).grownBy w1 none → w1.cell? ⟨w.heap.size, 0, none⟩ = some (.slice a1 d.next.length c1) ∧ w1.cell? ⟨w.heap.size, 1, none⟩ = some (.slice a2 d.ends.length c2) := by
    intro w1 hg
    have hx := (Bx.new w #[.slice a1 d.next.length c1, .slice a2 d.ends.length c2] 26).grown hg (fun k hk => by cases hk)
    exact ⟨hx.cell 0, hx.cell 1⟩
  have Hhrows := Lib.hid hrows; clear hrows
  have Hhr1 := Lib.hid hr1; clear hr1
  have Hhr2 := Lib.hid hr2; clear hr2
  have Hhsi := Lib.hid hsi; clear hsi
  have Hhs0 := Lib.hid hs0; clear hs0
  have Hhs1 := Lib.hid hs1; clear hs1
  have Hhs2 := Lib.hid hs2; clear hs2
  have Hhii := Lib.hid hii; clear hii
  have Hhi0 := Lib.hid hi0; clear hi0
  have Hhi1 := Lib.hid hi1; clear hi1
  have Hhi2 := Lib.hid hi2; clear hi2
  have Hhbi := Lib.hid hbi; clear hbi
  have Hhb0 := Lib.hid hb0; clear hb0
  have Hhb1 := Lib.hid hb1; clear hb1
  have Hhb2 := Lib.hid hb2; clear hb2
  have Hhne := Lib.hid hne; clear hne
  have HHA := Lib.hid HA; clear HA
  clear g1 g2
  go_enter Try.func84, Try.ntmps84
  go_wp2_with (first
    | (at_make; refine wpList_make_full _ rfl _ _ 123 rfl w.heap.size 9 s0 (.string { data := #[] }) 1 Try.underlying123 Hhsi.out Hhs0.out Hhs1.out .i64 .i64 _ _ d.next.length rfl rfl rfl rfl (by rw [Hhs2.out]; omega) (by unfold maxLen; omega) (by simp) ?_; intro w1 hown1 hgrow1; obtain ⟨ce0, ce1⟩ := HHA.out w1 hgrow1; have hs1' := hgrow1.size; have Hown1 := Lib.hid hown1; have Hgrow1 := Lib.hid hgrow1; clear hown1 hgrow1)
    | (at_make; refine wpList_make_full _ rfl _ _ 24 rfl w.heap.size 4 b0 (.bool false) 1 Try.underlying24 Hhbi.out Hhb0.out Hhb1.out .i64 .i64 _ _ d.next.length rfl rfl rfl rfl (by rw [Hhb2.out]; omega) (by unfold maxLen; omega) (by simp only [World.size_alloc] at hs1'; omega) ?_; intro w2 hown2 hgrow2; obtain ⟨u0, hu0⟩ := row_some hown2 0 (by omega); have hfr0 := hown2.frozenAt 0; have Hown2 := Lib.hid hown2; have Hgrow2 := Lib.hid hgrow2; clear hown2 hgrow2))
  have hz2 := Hgrow2.out.size
  have x2 : Bx w2 w.heap.size #[.slice a1 d.next.length c1, .slice a2 d.ends.length c2] 26 := ((Bx.new w _ _).grown Hgrow1.out (fun k hk => by cases hk)).grown Hgrow2.out (fun k hk => by cases hk)
  have hbw : Below w.heap.size w w2 := (((Below.refl _ _).alloc (Nat.le_refl _) _).grown Hgrow1.out (by simp) (fun k hk => by cases hk)).grown Hgrow2.out (by simp at hs1'; omega) (fun k hk => by cases hk)
  have Hhbw := Lib.hid hbw; clear hbw
  have Hx2 := Lib.hid x2; clear x2
  have Hhs1' := Lib.hid hs1'; clear hs1'
  clear ce0 ce1 u0 hu0 hfr0
  go_loopg [2, 3, 6] (d.next.length + 1) (fun g r1 r2 vq wr => ∃ k : Nat, g = d.next.length + 1 - k ∧ k ≤ (bat (dnx d) 0 k).met.length ∧ (∀ j, j < k → den d ((bat (dnx d) 0 k).met.getD j 0) = false) ∧ Below w.heap.size w wr ∧ FwW d w.heap.size (w.heap.size + 1) w1.heap.size #[.slice a1 d.next.length c1, .slice a2 d.ends.length c2] wr (bat (dnx d) 0 k) k vq)
  case atStart =>
    have hs12 : w.heap.size + 1 ≤ w1.heap.size := by have := Hhs1'.out; simpa using this
    refine ⟨0, rfl, by simp [bat], fun j hj => absurd hj (by omega), (Hhbw.out.setCell (by simp; omega) _).alloc (by simp [World.setCell]; omega) _, ?_⟩
    have o1 : w2.ownsRow w.heap.size 9 1 (.slice (some ⟨w.heap.size + 1, 0, none⟩) d.next.length d.next.length) d.next.length (List.replicate d.next.length (.string { data := #[] })) := by
      have h := ownsRow_grown Hown1.out Hgrow2.out (fun k hk => by cases hk)
      have e : (madeCells (Value.string { data := #[] }).cells (d.next.length * 1)).toList = List.replicate d.next.length (.string { data := #[] }) := by
        rw [Nat.mul_one]
        exact toList_madeCells_one _ _
      rw [e] at h
      simpa using h
    have o2 : w2.ownsRow w.heap.size 4 1 (.slice (some ⟨w1.heap.size, 0, none⟩) d.next.length d.next.length) d.next.length (List.replicate d.next.length (.bool false)) := by
      have h := Hown2.out
      have e : (madeCells (Value.bool false).cells (d.next.length * 1)).toList = List.replicate d.next.length (.bool false) := by
        rw [Nat.mul_one]
        exact toList_madeCells_one _ _
      rwa [e] at h
    have hg := grown_set w2 w1.heap.size 0 (.bool true)
    have ap : ∀ e, 4 ≠ e → Apart w2 (some w1.heap.size) e := fun e he => ownsRow_apart (v := .slice (some ⟨w1.heap.size, 0, none⟩) d.next.length d.next.length) o2 he
    have hal := (Below.refl (w2.setCell ⟨w1.heap.size, 0, none⟩ (.bool true)).heap.size (w2.setCell ⟨w1.heap.size, 0, none⟩ (.bool true))).alloc (Nat.le_refl _) (.cells #[.int .i64 0] 3)
    have x3 : Bx (w2.setCell ⟨w1.heap.size, 0, none⟩ (.bool true)) w.heap.size #[.slice a1 d.next.length c1, .slice a2 d.ends.length c2] 26 := Hx2.out.set_ne _ _ (by simp; omega)
    refine ⟨⟨_, (Own.below (own_of_row (ownsRow_grown o1 hg (ap _ (by decide)))) hal).1, by simp, fun j hj => ?_⟩, ⟨_, (Own.below (own_of_row (o2.stored 0 (.bool true)).1) hal).1, by simp, fun x hx => ?_⟩, ?_, x3.below hal x3.lt⟩
    · simp only [bat, List.length_singleton] at hj
      obtain rfl : j = 0 := by omega
      simp only [bat, List.getD_cons_zero, Int.toNat_zero, List.getElem?_replicate]
      rw [if_pos (by omega)]
      rfl
    · by_cases h0 : x = 0
      · subst h0
        rw [List.getElem?_set_self (by simp; omega)]
        simp [bat]
      · rw [List.getElem?_set_ne (by omega), List.getElem?_replicate, if_pos hx]
        simp [bat, h0]
    · refine ⟨w2.heap.size, 0, 1, #[.int .i64 0], by simp [bat], by omega, ?_, by simp [bat], by unfold maxLen; omega, by simp, fun j hj => ?_⟩
      · have := Bx.new (w2.setCell ⟨w1.heap.size, 0, none⟩ (.bool true)) #[.int .i64 0] 3
        simpa [World.setCell, Bx] using this
      · simp [bat] at hj
        subst hj
        simp [bat]
  case round =>
    obtain ⟨k, rfl, hk, hno, hb, hf⟩ := hrel
    obtain ⟨S, hS⟩ : ∃ S, S = bat (dnx d) 0 k := ⟨_, rfl⟩
    have hgood := bat_good (nx := dnx d) (a := 0) k
    have hR := bat_range Hfine.out k
    have hML := bat_short Hfine.out k
    rw [← hS] at hk hno hf hgood hR hML
    obtain ⟨g, off, cap, hv, hg0, hg1, hcp, hcm, hqc⟩ := hf.qu.form
    obtain ⟨L, hL⟩ : ∃ L, L = S.met.length - k := ⟨_, rfl⟩
    rw [List.length_map, List.length_drop, ← hL] at hv hcp hqc
    subst hv
    obtain ⟨wo, hwo⟩ : ∃ wo : World, wo = wr := ⟨_, rfl⟩
    subst hwo
    have x0 := hf.bx.cell 0
    have x1 := hf.bx.cell 1
    simp only [List.getElem?_toArray, List.getElem?_cons_zero, List.getElem?_cons_succ] at x0 x1
    have Hhf := Lib.hid hf; clear hf
    have Hhb := Lib.hid hb; clear hb
    have HhS := Lib.hid hS; clear hS
    have Hhno := Lib.hid hno; clear hno
    have Hhgood := Lib.hid hgood; clear hgood
    have HhR := Lib.hid hR; clear hR
    by_cases hlt : k < S.met.length
    · have hL0 : 0 < L := by omega
      obtain ⟨xr0, xr1⟩ := HhR.out _ (memD (d := 0) hlt)
      have hq0 := hqc 0 hL0
      rw [List.getElem?_map, List.getElem?_drop, Nat.add_zero, Nat.add_zero, List.getElem?_eq_getElem hlt, Option.map_some, ← getD_at (d := 0) hlt] at hq0
      obtain ⟨x, hx⟩ := Int.eq_ofNat_of_zero_le xr0
      rw [hx] at hq0 xr1
      have hxn : x < d.next.length := by omega
      have hxe : (x : Int) < d.ends.length := by have := Hhne.out; omega
      obtain ⟨b2', o2, rfl, -, hbl2, hcs2⟩ := Hhr2.out (by omega)
      obtain ⟨b1', o1, rfl, -, hbl1, hcs1⟩ := Hhr1.out (by omega)
      have he0 := (bcell Hhb.out b2' (o2 + x) hbl2).trans (hcs2 x (by omega))
      obtain ⟨ar, cr, hrc, hrl, hrm, hri⟩ := hcs1 x hxn
      have hr0 := (bcell Hhb.out b1' (o1 + x) hbl1).trans hrc
      obtain ⟨hr3, hrt⟩ := Hhrows.out x hxn
      rw [hr3] at hr0 hrl hri
      have hw0 := Hhf.out.word hlt hx hxn
      obtain ⟨lf1, lf2, lf3, lf4, lf5, lf6, lf7⟩ := Hhf.out.lt
      obtain ⟨wd, hwd⟩ : ∃ wd, wd = S.words.getD k [] := ⟨_, rfl⟩
      rw [← hwd] at hw0
      cases hen : d.ends.getD x false
      all_goals
        rw [hen] at he0
        have Hhen := Lib.hid hen; clear hen
        have Hhx := Lib.hid hx; clear hx
        have HhL := Lib.hid hL; clear hL
        have Hhwd := Lib.hid hwd; clear hwd
        clear hcs2 hcs1 hqc hrc
        have hL1 : 0 < (L : Int) := by omega
      · obtain ⟨_, _, he1, -, -, hf1⟩ := hri.form
        rw [hr3] at he1 hf1
        simp only [Value.slice.injEq, true_and] at he1
        obtain ⟨rfl, rfl⟩ := he1
        obtain ⟨z1, t1, rfl, -, hz1', hg1'⟩ := hf1 (by omega)
        have Hhrt := Lib.hid hrt; clear hrt
        have Hhr3 := Lib.hid hr3; clear hr3
        have Hhg1' := Lib.hid hg1'; clear hg1'
        clear hri
        go_wp2
        go_loopw [6, 44] (fun vq i wi => ∃ n : Nat, n ≤ 3 ∧ i = .int .i64 n ∧ Below w.heap.size w wi ∧ FwW d w.heap.size (w.heap.size + 1) w1.heap.size #[.slice (some ⟨b1', o1, none⟩) d.next.length c1, .slice (some ⟨b2', o2, none⟩) d.ends.length c2] wi (bpart (dnx d) 0 k n) k vq) (fun _ i _ => 3 - (intOf i).toNat)
        case atStart => exact ⟨0, by omega, rfl, Hhb.out, by rw [bpart_zero, ← HhS.out]; exact Hhf.out⟩
        case round =>
          obtain ⟨n, hn, rfl, hbi, hfi⟩ := hrel
          have hkS : k < (bat (dnx d) 0 k).met.length := by rw [← HhS.out]; exact hlt
          have hxS : (bat (dnx d) 0 k).met.getD k 0 = (x : Int) := by rw [← HhS.out]; exact Hhx.out
          by_cases hn3 : n < 3
          · obtain ⟨zr0, zr1⟩ := Hhrt.out n hn3
            obtain ⟨z, hz⟩ := Int.eq_ofNat_of_zero_le zr0
            have hzc := (bcell hbi z1 (t1 + n) hz1').trans (Hhg1'.out n (by omega))
            rw [hz] at hzc zr1
            have hzn : z < d.next.length := by omega
            have hnx : dnx d ((bat (dnx d) 0 k).met.getD k 0) n = (z : Int) := by rw [hxS]; exact hz
            have hold := bpart_old (nx := dnx d) (a := 0) (k := k) (n := n)
            have hnew := bpart_new (nx := dnx d) (a := 0) (k := k) (n := n)
            rw [hnx] at hold hnew
            rw [← HhS.out, ← Hhwd.out] at hnew
            have hTg := bpart_good hkS hn
            have hTr := bpart_range Hfine.out hkS hn
            have hTl := bpart_short Hfine.out hkS hn
            have hle := bpart_le (nx := dnx d) (a := 0) (k := k) (Nat.zero_le n)
            rw [bpart_zero, ← HhS.out] at hle
            obtain ⟨T, hT⟩ : ∃ T, T = bpart (dnx d) 0 k n := ⟨_, rfl⟩
            rw [← hT] at hfi hold hnew hTg hTr hTl hle
            have hkT : k < T.met.length := Nat.lt_of_lt_of_le hlt hle.1.length_le
            have hxT : T.met.getD k 0 = (x : Int) := (prefix_getD hle.1 hlt _).trans Hhx.out
            have hwT : T.words.getD k [] = wd := (prefix_getD hle.2 (by rw [Hhgood.out.2.1]; exact hlt) _).trans Hhwd.out.symm
            have hmk := hfi.mark hzn
            obtain ⟨⟨cw, hcw⟩, fw, fs⟩ := hfi.cells hzn
            have hwk := hfi.word hkT hxT hxn
            rw [hwT] at hwk
            have hzs : (z : Int) < d.next.length := by omega
            have hn4 : (n : Int) < 3 := by omega
            have hxs : (x : Int) < d.next.length := by omega
            obtain ⟨_, _, lw, ls, -, -, -⟩ := hfi.lt
            have HhT := Lib.hid hT; clear hT
            have Hhz := Lib.hid hz; clear hz
            have Hhnx := Lib.hid hnx; clear hnx
            have Hhold := Lib.hid hold; clear hold
            have Hhnew := Lib.hid hnew; clear hnew
            have HhTg := Lib.hid hTg; clear hTg
            have HhTr := Lib.hid hTr; clear hTr
            have Hhle := Lib.hid hle; clear hle
            have HhxT := Lib.hid hxT; clear hxT
            have HhwT := Lib.hid hwT; clear hwT
            have Hhbi := Lib.hid hbi; clear hbi
            have Hhfi := Lib.hid hfi; clear hfi
            have HhxS := Lib.hid hxS; clear hxS
            clear hq0 he0 hr0 hw0 x0 x1
            by_cases hmem : (z : Int) ∈ T.met
            · rw [decide_eq_true hmem] at hmk
              have Hhmem := Lib.hid hmem; clear hmem
              go_wp2
              go_roundw
              case rel => exact ⟨n + 1, by omega, by go_num, Hhbi.out, by rw [Hhold.out Hhmem.out]; exact Hhfi.out⟩
              case measure => simp [intOf]; omega
            · rw [decide_eq_false hmem] at hmk
              have hzx : z ≠ x := by
                intro e
                exact hmem (by rw [e, ← HhxT.out]; exact memD hkT)
              have Hhmem := Lib.hid hmem; clear hmem
              have hbne : w.heap.size + 1 ≠ w1.heap.size := Hhfi.out.lt.2.2.2.2.1
              go_wp2
              obtain ⟨w4, hw4⟩ : ∃ w4, w4 = wr.setCell ⟨w1.heap.size, z, none⟩ (.bool true) := ⟨_, rfl⟩
              have k4 : w4.cell? ⟨w.heap.size + 1, x, none⟩ = some (.string (wdB wd)) := by
                rw [hw4]
                exact (World.cell?_of_block (a := ⟨w.heap.size + 1, x, none⟩) (Below.heap_setCell wr ⟨w1.heap.size, z, none⟩ _ _ hbne)).trans hwk
              have c4 : w4.cell? ⟨w.heap.size + 1, z, none⟩ = some cw := by
                rw [hw4]
                exact (World.cell?_of_block (a := ⟨w.heap.size + 1, z, none⟩) (Below.heap_setCell wr ⟨w1.heap.size, z, none⟩ _ _ hbne)).trans hcw
              have f4 : w4.frozen? ⟨w.heap.size + 1, z, none⟩ = false := by
                rw [hw4]
                exact (World.frozen?_of_block (a := ⟨w.heap.size + 1, z, none⟩) (Below.heap_setCell wr ⟨w1.heap.size, z, none⟩ _ _ hbne)).trans fw
              rw [← hw4]
              have Hhw4 := Lib.hid hw4; clear hw4
              clear hwk hcw fw fs hmk
              have hsz1 : (wdB wd).size ≤ 100000 := by
                have := bat_wlen (nx := dnx d) (a := 0) k wd (by rw [Hhwd.out, HhS.out]; exact memD (by rw [(bat_good k).2.1]; exact hkS))
                rw [wdB_size]
                omega
              have hsz2 : (wdB [n]).size ≤ 100 := by rw [wdB_size]; simp
              have k5 : (w4.setCell ⟨w.heap.size + 1, z, none⟩ (.string (wdB wd ++ wdB [n]))).drew.cell? ⟨w.heap.size + 1, x, none⟩ = some (.string (wdB wd)) :=
                (World.cell?_setCell_other w4 _ _ _ (by simp)).trans k4
              have hadd : ∀ w' : World, (Op.stringOp .add (wdB wd) (wdB [n])).run Try.prog w' = .ok (.string (wdB wd ++ wdB [n])) w' := fun w' => run_string_add_sum w' _ _ (by omega)
              have hnlt : ¬ 9223372036854775807 < (wdB wd).size + (wdB [n]).size := by omega
              go_region_held3 (fun w' => w'.cell? ⟨w.heap.size + 1, x, none⟩ = some (.string (wdB wd)))
                (first | exact k4 | exact k5 | go_keep)
                (first | (go_at_call 123; (with_reducible refine (letterText_any n hn3 _).mono ?_); rintro e w' ⟨rfl, rfl⟩))
              obtain ⟨w5, hw5⟩ : ∃ w5, w5 = (w4.setCell ⟨w.heap.size + 1, z, none⟩ (.string (wdB wd ++ wdB [n]))).drew := ⟨_, rfl⟩
              rw [← hw5]
              have h55 : w5.heap.size = wr.heap.size := by rw [hw5, Hhw4.out]; simp [World.setCell]
              have hq5 : Qs w.heap.size (w5.alloc (.cells #[.int .i64 (z : Int)] 3)) 3 u6 ((T.met.drop k).map (Value.int .i64)) := by
                exact (Hhfi.out.q2 z hbne hw5 Hhw4.out).below ((Below.refl _ _).alloc (Nat.le_refl _) _)
              have hb5 : Below w.heap.size w w5 := by
                rw [hw5, Hhw4.out]
                exact ((Hhbi.out.setCell (by simp; omega) _).setCell (by simp) _).drew
              have Hhq5 := Lib.hid hq5; clear hq5
              have Hhw5 := Lib.hid hw5; clear hw5
              have Hhb5 := Lib.hid hb5; clear hb5
              have Hh55 := Lib.hid h55; clear h55
              clear k4 k5 c4 f4
              go_wp2_with (at_builtin; refine wpList_append_qs rfl _ _ 29 rfl w.heap.size 3 i0 (.int .i64 0) 8 Try.underlying29 Hhii.out Hhi0.out Hhi1.out Hhi2.out rfl _ _ rfl Hhq5.out ⟨w5.heap.size, 0, none⟩ 1 (.int .i64 (z : Int)) rfl (alloc_cell _ _ _ 0) rfl rfl (by simp; omega) (by omega) (by simp; have := Hhb5.out.size; omega) ?_; intro v6 w6 hq6 hg6; have Hq6 := Lib.hid hq6; have Hg6 := Lib.hid (show (w5.alloc (.cells #[.int .i64 (z : Int)] 3)).grownBy w6 u6.ownBlock from hg6); clear hq6 hg6)
              go_roundw
              case rel =>
                have hb6 : Below w.heap.size w w6 := (Hhb5.out.alloc Hhb5.out.size _).grown Hg6.out (by simp only [World.size_alloc]; have := Hhb5.out.size; omega) (fun j hj => Hhq5.out.lo hj)
                refine ⟨n + 1, by omega, by go_num, hb6, ?_⟩
                rw [Hhnew.out Hhmem.out]
                have hg6 := Hg6.out
                rw [Hhw5.out, Hhw4.out, ← wdB_snoc] at hg6
                exact Hhfi.out.new HhTg.out.2.1 HhTr.out (by omega) hzn Hhmem.out _ Hq6.out hg6
              case measure => simp [intOf]; omega
          · obtain rfl : n = 3 := by omega
            clear hq0 he0 hr0 hw0 x0 x1
            have hbs := bat_succ hkS
            have hle := bpart_le (nx := dnx d) (a := 0) (k := k) (Nat.zero_le 3)
            rw [bpart_zero, ← HhS.out] at hle
            obtain ⟨T, hT⟩ : ∃ T, T = bpart (dnx d) 0 k 3 := ⟨_, rfl⟩
            rw [← hT] at hfi hbs hle
            have hkT : k < T.met.length := Nat.lt_of_lt_of_le hlt hle.1.length_le
            obtain ⟨y, ys, hys, hyt⟩ : ∃ y ys, (T.met.drop k).map (Value.int .i64) = y :: ys ∧ ys = (T.met.drop (k + 1)).map (Value.int .i64) :=
              ⟨_, _, by rw [List.drop_eq_getElem_cons hkT, List.map_cons], rfl⟩
            have hqu := hfi.qu
            rw [hys] at hqu
            obtain ⟨g', off', cap', hv', hg0', hg1'', hcp', hcm', -⟩ := hqu.form
            rw [List.length_cons] at hv' hcp'
            subst hv'
            have hnoS : ∀ j, j < k + 1 → den d (T.met.getD j 0) = false := fun j hj => by
              rw [prefix_getD hle.1 (by omega)]
              by_cases hjk : j < k
              · exact Hhno.out j hjk
              · obtain rfl : j = k := by omega
                rw [Hhx.out]
                unfold den
                rw [Int.toNat_natCast]
                exact Hhen.out
            obtain ⟨L', hL'⟩ : ∃ L', L' = ys.length := ⟨_, rfl⟩
            rw [← hL'] at hqu hcp'
            rw [← hL']
            have hLL : (1 : Int) ≤ (L' : Int) + 1 := by omega
            have HhT := Lib.hid hT; clear hT
            have Hhbs := Lib.hid hbs; clear hbs
            have Hhle := Lib.hid hle; clear hle
            have Hhqu := Lib.hid hqu; clear hqu
            have Hhys := Lib.hid hys; clear hys
            have Hhyt := Lib.hid hyt; clear hyt
            have HhnoS := Lib.hid hnoS; clear hnoS
            have Hhbi := Lib.hid hbi; clear hbi
            have Hhfi := Lib.hid hfi; clear hfi
            have HhL' := Lib.hid hL'; clear hL'
            clear hn3
            by_cases hc1' : cap' = 1
            · subst hc1'
              go_wp2
              go_roundg (d.next.length + 1 - (k + 1))
              case measure => omega
              case rel =>
                obtain ⟨e0, hq0⟩ := Hhqu.out.tail1
                refine ⟨k + 1, rfl, by rw [Hhbs.out]; omega, by rw [Hhbs.out]; exact HhnoS.out, Hhbi.out, ?_⟩
                rw [Hhbs.out]
                exact ⟨Hhfi.out.wo, Hhfi.out.se, by rw [← Hhyt.out, e0]; exact hq0, Hhfi.out.bx⟩
            · have hc2' : 1 < cap' := by omega
              go_wp2
              go_roundg (d.next.length + 1 - (k + 1))
              case measure => omega
              case rel =>
                have hq0 := Hhqu.out.tail
                rw [← HhL'.out] at hq0
                refine ⟨k + 1, rfl, by rw [Hhbs.out]; omega, by rw [Hhbs.out]; exact HhnoS.out, Hhbi.out, ?_⟩
                rw [Hhbs.out]
                exact ⟨Hhfi.out.wo, Hhfi.out.se, by rw [← Hhyt.out]; exact hq0, Hhfi.out.bx⟩
      · go_wp2
        go_ret2
        exact ⟨by rw [firstHit_at (s := S) (d := 0) (by rw [HhS.out]; exact bat_le (by omega)) Hhgood.out.2.1 (bat_good _).2.1 hlt Hhno.out (by rw [Hhx.out]; unfold den; rw [Int.toNat_natCast]; exact Hhen.out), ← Hhwd.out]; rfl, Hhb.out⟩
    · obtain rfl : L = 0 := by omega
      go_wp2
      go_ret2
      have hkS : k = S.met.length := by omega
      exact ⟨by rw [bat_done (k := k) (by rw [← HhS.out]; omega) (by omega), ← HhS.out, firstHit_none (d := 0) (by rw [← hkS]; exact Hhno.out)]; rfl, Hhb.out⟩
section
variable {α : Type} [DecidableEq α] {nx : α → Nat → α} {a : α} {en : α → Bool} {K : Nat}
theorem placeOf_at {F : List α} {x : α} (h : x ∈ F) (d : α) : F.getD (placeOf F x) d = x := by
  have h1 := placeOf_lt h
  rw [getD_at h1]
  exact List.getElem_idxOf h1
theorem run_num (hK : (bat nx a K).met.length ≤ K) : ∀ (w : List Nat), isW w → ∀ x ∈ (bat nx a K).met, w.foldl nx x ∈ (bat nx a K).met ∧ runD (numDfa nx en (bat nx a K).met) (placeOf (bat nx a K).met x : Nat) w = (placeOf (bat nx a K).met (w.foldl nx x) : Nat)
  | [], _, x, hx => ⟨hx, rfl⟩
  | c :: w, hw, x, hx => by
    have hc : c < 3 := hw c (by simp)
    have hx2 := bat_closed hK hx hc
    have h1 := placeOf_lt hx
    obtain ⟨h2, h3⟩ := run_num hK w (fun b hb => hw b (by simp [hb])) (nx x c) hx2
    refine ⟨h2, ?_⟩
    unfold runD at *
    rw [List.foldl_cons, List.foldl_cons, ← h3, dnx_num (a := a) (by omega) (by omega) hc]
    unfold numNext
    rw [Int.toNat_natCast, placeOf_at hx]
theorem accD_num (hK : (bat nx a K).met.length ≤ K) {w : List Nat} (hw : isW w) : accD (numDfa nx en (bat nx a K).met) w = en (w.foldl nx a) := by
  have h0 := bat_mem_first (nx := nx) (a := a) K
  obtain ⟨h1, h2⟩ := run_num (en := en) hK w hw a h0
  have h3 : placeOf (bat nx a K).met a = 0 := by
    have hp := bat_pos (nx := nx) (a := a) K
    have hf := bat_first (nx := nx) (a := a) K
    have hn := (bat_good (nx := nx) (a := a) K).1
    rw [getD_at hp] at hf
    have := List.Nodup.idxOf_getElem hn 0 hp
    rw [hf] at this
    exact this
  rw [h3] at h2
  unfold accD
  rw [show ((0 : Nat) : Int) = 0 from rfl] at h2
  rw [h2, den_num (placeOf_lt h1)]
  congr 1
  exact List.getElem_idxOf _
end
theorem runD_cons (d : DfaD) (s : Int) (c : Nat) (w : List Nat) : runD d s (c :: w) = runD d (dnx d s c) w := rfl
theorem isW_cons {c : Nat} {w : List Nat} (h : isW (c :: w)) : c < 3 ∧ isW w := ⟨h c (by simp), fun b hb => h b (by simp [hb])⟩
theorem isW_nil : isW [] := fun c hc => by simp at hc
theorem fine_nx {d : DfaD} (hd : fine d) {s c : Nat} (hs : s < d.next.length) (hc : c < 3) : nxD d s c < d.next.length ∧ dnx d (s : Int) c = ((nxD d s c : Nat) : Int) := nxD_lt hd hs hc
theorem den_nat (d : DfaD) (s : Nat) : den d (s : Int) = enD d s := by simp [den, enD]
theorem clD_lt {d : DfaD} {s : Nat} (hs : s < d.next.length) : clD d s < d.next.length := by have := (clD_le (d := d) s hs).1; omega
theorem metM_facts {d : DfaD} (hf : fine d) (K : Nat) : (∀ x ∈ (bat (nxM d) ((clD d 0 : Nat) : Int) K).met, ∃ s : Nat, x = (s : Int) ∧ s < d.next.length ∧ clD d s = s) ∧ (bat (nxM d) ((clD d 0 : Nat) : Int) K).met.length ≤ d.next.length := by
  have hl : 1 ≤ d.next.length := hf.1
  have h1 : ∀ x ∈ (bat (nxM d) ((clD d 0 : Nat) : Int) K).met, ∃ s : Nat, x = (s : Int) ∧ s < d.next.length ∧ clD d s = s := by
    refine bat_all (Q := fun x => ∃ s : Nat, x = (s : Int) ∧ s < d.next.length ∧ clD d s = s) ?_ (fun x c hc hx => ?_) K
    · exact ⟨clD d 0, rfl, clD_lt (by omega), (clD_le 0 (by omega)).2⟩
    · obtain ⟨s, rfl, hs, -⟩ := hx
      have h2 := (nxD_lt hf hs hc).1
      exact ⟨clD d (nxD d s c), by simp [nxM], clD_lt h2, (clD_le _ h2).2⟩
  refine ⟨h1, ?_⟩
  have h2 := nodup_le (bat_good (nx := nxM d) (a := ((clD d 0 : Nat) : Int)) K).1 (m := upInts d.next.length) (fun x hx => by
    obtain ⟨s, rfl, hs, -⟩ := h1 x hx
    rw [mem_upInts]
    exact hs)
  rw [upInts_len] at h2
  exact h2
theorem foldl_nxM {d : DfaD} (hd : fine d) : ∀ (w : List Nat) {s : Nat}, isW w → s < d.next.length → ∃ t : Nat, t < d.next.length ∧ w.foldl (nxM d) ((clD d s : Nat) : Int) = ((clD d t : Nat) : Int) ∧ runD d (s : Int) w = (t : Int)
  | [], s, _, hs => ⟨s, hs, rfl, rfl⟩
  | c :: w, s, hw, hs => by
    obtain ⟨h1, h2⟩ := isW_cons hw
    obtain ⟨h3, h4⟩ := fine_nx hd hs h1
    obtain ⟨t, ht, e1, e2⟩ := foldl_nxM hd w h2 h3
    refine ⟨t, ht, ?_, by rw [runD_cons, h4]; exact e2⟩
    have e3 : nxM d ((clD d s : Nat) : Int) c = ((clD d (nxD d s c) : Nat) : Int) := by
      unfold nxM
      rw [Int.toNat_natCast]
      congr 1
      exact clEnd_eq (fun s c hs hc => (fine_nx hd hs hc).1) (clD_lt hs) hs (clD_le s hs).2 c h1
    rw [List.foldl_cons, e3]
    exact e1
theorem min_acc {d : DfaD} (hd : fine d) {w : List Nat} (hw : isW w) : accD (minD d) w = accD d w := by
  unfold minD
  rw [accD_num (metM_facts hd _).2 hw]
  obtain ⟨t, ht, e1, e2⟩ := foldl_nxM hd w hw (show 0 < d.next.length from hd.1)
  rw [e1, den_nat]
  unfold accD
  rw [show (0 : Int) = ((0 : Nat) : Int) from rfl, e2, den_nat]
  exact clEnd_ends (clD_lt ht) ht (clD_le t ht).2
def txB (l : List Nat) : ByteArray := ⟨(l.map UInt8.ofNat).toArray⟩
def isT (l : List Nat) : Prop := ∀ b ∈ l, b < 256
theorem txB_size (l : List Nat) : (txB l).size = l.length := by simp [txB, ByteArray.size]
theorem getD_memT {l : List Nat} {i : Nat} (hi : i < l.length) : l.getD i 0 ∈ l := by
  rw [List.getD_eq_getElem?_getD, List.getElem?_eq_getElem hi]
  exact List.getElem_mem hi
theorem txB_at {l : List Nat} {i : Nat} (hi : i < l.length) (ht : isT l) (h : i < (txB l).size) : (((txB l)[i]'h).toNat : Int) = (l.getD i 0 : Nat) := by
  have hc : l.getD i 0 < 256 := ht _ (getD_memT hi)
  have e : (txB l)[i]'h = UInt8.ofNat (l.getD i 0) := by
    show (txB l).data[i] = _
    simp [txB, hi]
  rw [e, UInt8.toNat_ofNat']
  omega
theorem txB_index {l : List Nat} {i : Nat} (hi : i < l.length) (ht : isT l) (w : World) : (Instr.index 9 (.string (txB l)) (.int .i64 (i : Int))).run Try.prog w = .ok (.int .u8 ((l.getD i 0 : Nat) : Int)) w := by
  have hs : (txB l).size = l.length := txB_size l
  rw [run_index_string w 9 (txB l) .i64 i Try.underlying9, dif_pos (by omega)]
  congr 2
  exact txB_at hi ht _
def okT (l : List Nat) (k : Nat) : Bool := (List.range k).all fun i => inB ((l.getD i 0 : Nat) : Int) 97 99
def wdOk (l : List Nat) : Bool := okT l l.length && decide (l.length ≤ 8)
theorem okT_succ {l : List Nat} {k : Nat} (h : okT l k = true) (h1 : inB ((l.getD k 0 : Nat) : Int) 97 99 = true) : okT l (k + 1) = true := range_snoc h h1
theorem okT_bad {l : List Nat} {k : Nat} (hk : k < l.length) (h1 : inB ((l.getD k 0 : Nat) : Int) 97 99 = false) : wdOk l = false := by
  unfold wdOk okT
  have : ((List.range l.length).all fun i => inB ((l.getD i 0 : Nat) : Int) 97 99) = false := by
    rw [List.all_eq_false]
    exact ⟨k, List.mem_range.2 hk, by rw [h1]; simp⟩
  rw [this]
  rfl
set_option maxHeartbeats 1600000 in
theorem areLetters_any (l : List Nat) (w : World) (ht : isT l) (hl : l.length ≤ 1000000) (r : Bool) (hr : wdOk l = r) :
    Calls Try.prog 121 #[.string (txB l), .int .i64 8] w fun e w' => e = .returned (.bool r) ∧ w = w' := by
  have hs : (txB l).size = l.length := txB_size l
  have Hhr := Lib.hid hr; clear hr
  have Hht := Lib.hid ht; clear ht
  go_enter Try.func121, Try.ntmps121
  go_wp2
  go_loopw [8] (fun i wr => ∃ k : Nat, i = .int .i64 k ∧ k ≤ l.length ∧ okT l k = true ∧ w = wr) (fun i _ => l.length - (intOf i).toNat)
  case atStart => exact ⟨0, rfl, Nat.zero_le _, rfl, rfl⟩
  case round =>
    obtain ⟨k, rfl, hk, hok, rfl⟩ := hrel
    by_cases hlt : k < l.length
    · have hkl : (k : Int) < l.length := by omega
      have hrun := txB_index hlt Hht.out
      have hb := Hht.out _ (getD_memT hlt)
      obtain ⟨c, hcc⟩ : ∃ c, c = l.getD k 0 := ⟨_, rfl⟩
      rw [← hcc] at hrun hb
      have hw9 : IntKind.i64.wrap (c : Int) = (c : Int) := IntWalk.i64_in _ (by omega)
      have Hhok := Lib.hid hok; clear hok
      have Hhcc := Lib.hid hcc; clear hcc
      cases hin : inB (c : Int) 97 99
      · have Hhin := Lib.hid hin; clear hin
        go_wp2_with (go_at_call 68; refine (within_any _ _ _ _ _ Hhin.out).mono ?_; rintro e w' ⟨rfl, rfl⟩)
        go_ret
        exact ⟨by rw [← Hhr.out, okT_bad hlt (by rw [← Hhcc.out]; exact Hhin.out)]; rfl, rfl⟩
      · have Hhin := Lib.hid hin; clear hin
        go_wp2_with (go_at_call 68; refine (within_any _ _ _ _ _ Hhin.out).mono ?_; rintro e w' ⟨rfl, rfl⟩)
        go_roundw
        case rel => exact ⟨k + 1, by go_num, by omega, okT_succ Hhok.out (by rw [← Hhcc.out]; exact Hhin.out), trivial⟩
        case measure => simp [intOf]; omega
    · obtain rfl : k = l.length := by omega
      have hrr : decide ((l.length : Int) ≤ 8) = r := by
        rw [← Hhr.out]
        unfold wdOk
        rw [hok, Bool.true_and]
        exact decide_eq_decide.2 (by omega)
      have Hhok := Lib.hid hok; clear hok
      have Hhrr := Lib.hid hrr; clear hrr
      go_wp2
      go_ret
      exact ⟨by rw [← Hhrr.out]; rfl, rfl⟩
set_option maxHeartbeats 1600000 in
theorem implWordValid_any (l : List Nat) (w : World) (ht : isT l) (hl : l.length ≤ 1000000) (r : Bool) (hr : wdOk l = r) :
    Calls Try.prog 82 #[.string (txB l)] w fun e w' => e = .returned (.bool r) ∧ w = w' := by
  have Hhr := Lib.hid hr; clear hr
  have Hht := Lib.hid ht; clear ht
  go_enter Try.func82, Try.ntmps82
  go_wp2_with (go_at_call 121; refine (areLetters_any l _ Hht.out hl _ Hhr.out).mono ?_; rintro e w' ⟨rfl, rfl⟩)
  go_ret
  exact ⟨rfl, rfl⟩
set_option maxHeartbeats 800000 in
theorem letterT_any (l : List Nat) (i : Nat) (hi : i < l.length) (ht : isT l) (hlo : 97 ≤ l.getD i 0) (w : World) : Calls Try.prog 104 #[.string (txB l), .int .i64 i] w fun e w' => e = .returned (.int .i64 ((l.getD i 0 - 97 : Nat) : Int)) ∧ w = w' := by
  have hb := ht _ (getD_memT hi)
  have hrun := txB_index hi ht
  obtain ⟨c, hcc⟩ : ∃ c, c = l.getD i 0 - 97 := ⟨_, rfl⟩
  have hc2 : ((l.getD i 0 : Nat) : Int) = 97 + (c : Int) := by omega
  rw [hc2] at hrun
  rw [← hcc]
  have hw8 : IntKind.u8.wrap (97 + (c : Int) - 97) = (c : Int) := by
    have : 97 + (c : Int) - 97 = (c : Int) := by omega
    rw [this]
    exact IntWalk.u8_in _ (by omega)
  have hw9 : IntKind.i64.wrap (c : Int) = (c : Int) := IntWalk.i64_in _ (by omega)
  have Hhcc := Lib.hid hcc; clear hcc
  clear hc2 hlo hb
  go_enter Try.func104, Try.ntmps104
  go_wp2
  go_ret
  exact ⟨rfl, rfl⟩
def shF : Nat → Nat
  | 0 => 0
  | k + 1 => shF k + 3 ^ k
theorem pow3_le {k : Nat} (h : k ≤ 9) : 3 ^ k ≤ 19683 := Nat.pow_le_pow_right (by omega) h
theorem shF_le : ∀ k, shF k ≤ 3 ^ k
  | 0 => by decide
  | k + 1 => by
    show shF k + 3 ^ k ≤ 3 ^ (k + 1)
    have := shF_le k
    rw [Nat.pow_succ]
    omega
set_option maxHeartbeats 1600000 in
theorem wordsOf_any (n : Nat) (w : World) (hn : n ≤ 9) : Calls Try.prog 145 #[.int .i64 n] w fun e w' => e = .returned (.int .i64 ((3 ^ n : Nat) : Int)) ∧ w = w' := by
  go_enter Try.func145, Try.ntmps145
  go_wp2
  go_loopw [3, 5] (fun p i wr => ∃ k q : Nat, i = .int .i64 k ∧ p = .int .i64 q ∧ k ≤ n ∧ 3 ^ k = q ∧ w = wr) (fun _ i _ => n - (intOf i).toNat)
  case atStart => exact ⟨0, 1, rfl, rfl, Nat.zero_le _, rfl, rfl⟩
  case round =>
    obtain ⟨k, q, rfl, rfl, hk, hq, rfl⟩ := hrel
    have hq2 := pow3_le (k := k) (by omega)
    rw [hq] at hq2
    by_cases hlt : k < n
    · have hkl : (k : Int) < n := by omega
      have Hhq := Lib.hid hq; clear hq
      go_wp2
      go_roundw
      case rel => exact ⟨k + 1, q * 3, by go_num, by go_num, by omega, by rw [Nat.pow_succ, Hhq.out], trivial⟩
      case measure => simp [intOf]; omega
    · obtain rfl : k = n := by omega
      have Hhq := Lib.hid hq; clear hq
      go_wp2
      go_ret
      exact ⟨by rw [Hhq.out]; rfl, rfl⟩
set_option maxHeartbeats 1600000 in
theorem shorter_any (n : Nat) (w : World) (hn : n ≤ 9) : Calls Try.prog 105 #[.int .i64 n] w fun e w' => e = .returned (.int .i64 ((shF n : Nat) : Int)) ∧ w = w' := by
  go_enter Try.func105, Try.ntmps105
  go_wp2
  go_loopw [3, 6] (fun p i wr => ∃ k q : Nat, i = .int .i64 k ∧ p = .int .i64 q ∧ k ≤ n ∧ shF k = q ∧ w = wr) (fun _ i _ => n - (intOf i).toNat)
  case atStart => exact ⟨0, 0, rfl, rfl, Nat.zero_le _, rfl, rfl⟩
  case round =>
    obtain ⟨k, q, rfl, rfl, hk, hq, rfl⟩ := hrel
    have hq2 := pow3_le (k := k) (by omega)
    have hq3 := shF_le k
    rw [hq] at hq3
    obtain ⟨t, hT⟩ : ∃ t, 3 ^ k = t := ⟨_, rfl⟩
    rw [hT] at hq2 hq3
    by_cases hlt : k < n
    · have hkl : (k : Int) < n := by omega
      have Hhq := Lib.hid hq; clear hq
      have HhT := Lib.hid hT; clear hT
      go_wp2_with (go_at_call 145; refine (wordsOf_any k _ (by omega)).mono ?_; rintro e w' ⟨rfl, rfl⟩; rw [HhT.out])
      go_roundw
      case rel => exact ⟨k + 1, q + t, by go_num, by go_num, by omega, by rw [← Hhq.out, ← HhT.out]; rfl, trivial⟩
      case measure => simp [intOf]; omega
    · obtain rfl : k = n := by omega
      have Hhq := Lib.hid hq; clear hq
      have HhT := Lib.hid hT; clear hT
      go_wp2
      go_ret
      exact ⟨by rw [Hhq.out]; rfl, rfl⟩
set_option maxHeartbeats 1600000 in
theorem rankAb_any (w : World) : Calls Try.prog 66 #[.string { data := #[97, 98] }] w fun e w' => e = .returned (.int .i64 5) ∧ w = w' := by
  have hab : ({ data := #[97, 98] } : ByteArray) = txB [97, 98] := rfl
  have hab2 : isT [97, 98] := fun b hb => by simp at hb; omega
  have hsz : (txB [97, 98]).size = 2 := rfl
  have l0 := fun w => letterT_any [97, 98] 0 (by decide) hab2 (by decide) w
  have l1 := fun w => letterT_any [97, 98] 1 (by decide) hab2 (by decide) w
  have sh : ∀ w, Calls Try.prog 105 #[.int .i64 2] w fun e w' => e = .returned (.int .i64 4) ∧ w = w' := fun w => shorter_any 2 w (by omega)
  have hv := fun w => implWordValid_any [97, 98] w hab2 (by decide) true rfl
  rw [hab]
  have L0 := Lib.hid l0
  have L1 := Lib.hid l1
  have Sh := Lib.hid sh
  have Hv := Lib.hid hv
  clear l0 l1 sh hab hab2 hv
  go_enter Try.func66, Try.ntmps66
  go_wp2_with (go_at_call 82; refine (Hv.out _).mono ?_; rintro e w' ⟨rfl, rfl⟩)
  go_loopw [3, 10] (fun n i wr => ∃ k q : Nat, i = .int .i64 k ∧ n = .int .i64 q ∧ k ≤ 2 ∧ q ≤ 1 ∧ (k < 2 → q = 0) ∧ (k = 2 → q = 1) ∧ w = wr) (fun _ i _ => 2 - (intOf i).toNat)
  case atStart => exact ⟨0, 0, rfl, rfl, by omega, by omega, fun _ => rfl, fun h => by omega, rfl⟩
  case round =>
    obtain ⟨k, q, rfl, rfl, hk, hq1, hq2, hq3, rfl⟩ := hrel
    obtain rfl | rfl | rfl : k = 0 ∨ k = 1 ∨ k = 2 := by omega
    · obtain rfl := hq2 (by omega)
      clear hq1 hq2 hq3 hk
      go_wp2_with (go_at_call 104; refine (L0.out _).mono ?_; rintro e w' ⟨rfl, rfl⟩)
      go_roundw
      case rel => exact ⟨1, 0, rfl, rfl, by omega, by omega, fun _ => rfl, fun h => by omega, trivial⟩
      case measure => simp [intOf]
    · obtain rfl := hq2 (by omega)
      clear hq1 hq2 hq3 hk
      go_wp2_with (go_at_call 104; refine (L1.out _).mono ?_; rintro e w' ⟨rfl, rfl⟩)
      go_roundw
      case rel => exact ⟨2, 1, rfl, rfl, by omega, by omega, fun h => by omega, fun _ => rfl, trivial⟩
      case measure => simp [intOf]
    · obtain rfl := hq3 rfl
      clear hq1 hq2 hq3 hk
      go_wp2_with (go_at_call 105; refine (Sh.out _).mono ?_; rintro e w' ⟨rfl, rfl⟩)
      go_ret
      exact ⟨rfl, rfl⟩
set_option maxHeartbeats 1600000 in
theorem alive_any (w : World) : Calls Try.prog 20 #[] w fun e w' => e = .returned (.bool true) ∧ w = w' := by
  go_enter Try.func20, Try.ntmps20
  go_wp2_with (go_at_call 66; refine (rankAb_any _).mono ?_; rintro e w' ⟨rfl, rfl⟩)
  go_ret
  exact ⟨rfl, rfl⟩
end Go.Proofs.Ythhbjkgchabfmaa
namespace Go.Proofs.Ythhbjkgchabfmaa
open Go.ChangeShapes Go.WideShapes Go.ChangeAt Go.RowKit Go.Joins
theorem Try.own : ownKnob Try.prog.godebug = none := by kernel_rfl
section
variable {H : Type} {enc : TypeId × Value → H} {W : World}
end
end Go.Proofs.Ythhbjkgchabfmaa
namespace Go.Proofs.Ythhbjkgchabfmaa
open Go.ChangeShapes Go.WideShapes Go.ChangeAt Go.RowKit Go.Joins
theorem Try.cellsByte : Try.prog.cellsOf 5 = 1 := by kernel_rfl
theorem Try.recLBytes : Try.prog.readableRec 22 = true := by kernel_rfl
theorem Try.rowLBytes : (22 : TypeId) < Try.prog.types.size := of_decide_eq_true (by kernel_rfl)
section
variable {H : Type} {enc : TypeId × Value → H} {W : World}
set_option maxRecDepth 100000 in
theorem open_lbytes {held : Bool} {v : Value} {d : DataW H} {p : List MemPlace} (h : DataW.Trod enc Try.prog W 0 (fun _ => true) held 22 v d p) (hv : v.cells.toList = [v]) : ∃ bs, Bytes 0 W v bs := by
  obtain ⟨fuel, hf⟩ := h
  obtain ⟨u, bs, hu, hx⟩ := open_bytes_R Try.underlying22 Try.underlying5 Try.cellsByte hf
  rw [hv] at hu
  simp only [List.cons.injEq, and_true] at hu
  subst hu
  exact ⟨bs, hx⟩
end
end Go.Proofs.Ythhbjkgchabfmaa
