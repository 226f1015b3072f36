/-
  Facts about automata with choices that are in order, and their rows in memory; appending a slice that may be empty.
  No condition.
-/
import Derived.Test.YtjcegbcmomfgaaaNvs
import Derived.Test.YtjcegbcmomfgaaaNm
import Derived.Deep.AppendLies
import Derived.Deep.Upon
import Derived.ProofKit
import Derived.OpenShut
namespace Go.Proofs.Ytjcegbcmomfgaaa
open Go.RowKit Go.Maps

theorem stOk_at {l : List Int} {m : Int} (h : stOk l m = true) {j : Nat} (hj : j < l.length) : (0 ≤ l.getD j 0 ∧ l.getD j 0 ≤ m - 1) ∧ (0 < j → l.getD (j - 1) 0 < l.getD j 0) := by
  unfold stOk at h
  rw [List.all_eq_true] at h
  have h1 := h j (List.mem_range.2 hj)
  unfold okAt at h1
  rw [Bool.and_eq_true, Bool.or_eq_true] at h1
  obtain ⟨h1, h2⟩ := h1
  refine ⟨by simpa [inB] using h1, fun h0 => ?_⟩
  rcases h2 with h2 | h2
  · have := of_decide_eq_true h2
    omega
  · exact of_decide_eq_true h2
theorem stOk_ge {l : List Int} {m : Int} (h : stOk l m = true) : ∀ j, j < l.length → (j : Int) ≤ l.getD j 0
  | 0, hj => (stOk_at h hj).1.1
  | j + 1, hj => by
    have h1 := stOk_ge h j (by omega)
    have h2 := (stOk_at h hj).2 (by omega)
    rw [Nat.add_sub_cancel] at h2
    omega
theorem stOk_facts {l : List Int} {m : Nat} (h : stOk l (m : Int) = true) : inN m l ∧ l.length ≤ m := by
  refine ⟨fun s hs => ?_, ?_⟩
  · obtain ⟨j, hj, e⟩ := List.getElem_of_mem hs
    have := (stOk_at h hj).1
    rw [getD_at hj, e] at this
    omega
  · rcases Nat.eq_zero_or_pos l.length with h0 | h0
    · omega
    · have h1 := stOk_ge h (l.length - 1) (by omega)
      have h2 := (stOk_at h (j := l.length - 1) (by omega)).1.2
      omega
theorem nfaOk_facts {n : NfaD} (h : nfaOk n = true) : ∃ m : Nat, n.states = (m : Int) ∧ m ≤ 40 ∧ mvIn m n.moves ∧ n.moves.length ≤ 400 ∧ inN m n.firsts ∧ n.firsts.length ≤ 40 ∧ inN m n.ends ∧ n.ends.length ≤ 40 := by
  unfold nfaOk at h
  simp only [Bool.and_eq_true] at h
  obtain ⟨⟨⟨⟨h1, h2⟩, h3⟩, h4⟩, h5⟩ := h
  have h1 : 0 ≤ n.states ∧ n.states ≤ 40 := by simpa [inB] using h1
  obtain ⟨m, hm⟩ := Int.eq_ofNat_of_zero_le h1.1
  rw [hm] at h3 h4 h5
  have f3 := stOk_facts h3
  have f4 := stOk_facts h4
  refine ⟨m, hm, by omega, fun x hx => ?_, of_decide_eq_true h2, f3.1, by omega, f4.1, by omega⟩
  rw [List.all_eq_true] at h5
  have := h5 x hx
  unfold mvOk at this
  simp only [Bool.and_eq_true, inB, decide_eq_true_eq] at this
  omega
def eds (d : DfaD) : Nat → List Int
  | 0 => []
  | s + 1 => if d.ends.getD s false = true then eds d s ++ [(s : Int)] else eds d s
def turnM (m : Int × Int × Int) : Int × Int × Int := (m.2.2, m.2.1, m.1)
def turnN (n : NfaD) : NfaD := ⟨n.states, n.moves.map turnM, n.ends, n.firsts⟩
theorem eds_len (d : DfaD) : ∀ s, (eds d s).length ≤ s
  | 0 => Nat.le_refl _
  | s + 1 => by
    have ih := eds_len d s
    unfold eds
    split
    · rw [List.length_append, List.length_singleton]; omega
    · omega
theorem intCells_snoc (l : List Int) (x : Int) : intCells (l ++ [x]) = intCells l ++ [.int .i64 x] := by simp [intCells]
theorem one_int {k : IntKind} {x : Int} : ∀ u ∈ [Value.int k x], u.oneCell' = true := by
  intro u hu
  simp only [List.mem_singleton] at hu
  subst hu
  rfl
/-- An automaton with choices that a call has made. -/
def RNfaS (n : NfaD) (w : World) (e : Ending) (w' : World) : Prop := ∃ a1 c1 a2 c2 a3 c3, e = .returned (.agg #[.int .i64 n.states, .slice a1 n.moves.length c1, .slice a2 n.firsts.length c2, .slice a3 n.ends.length c3]) ∧
  St w w' [Ent.row 76 3 (.slice a1 n.moves.length c1) n.moves.length (n.moves.flatMap moveCells), Ent.row 3 1 (.slice a2 n.firsts.length c2) n.firsts.length (intCells n.firsts), Ent.row 3 1 (.slice a3 n.ends.length c3) n.ends.length (intCells n.ends)]
theorem moves_of_row {w : World} {B e : Nat} {v : Value} {xs : List (Int × Int × Int)} (hr : w.ownsRow B e 3 v xs.length (xs.flatMap moveCells)) : Moves 0 w v xs :=
  ((own_of_row hr).sl (by omega)).mono (Nat.zero_le _)
theorem ints_of_row' {w : World} {B e : Nat} {v : Value} {xs : List Int} (hr : w.ownsRow B e 1 v xs.length (intCells xs)) : Ints 0 w v xs :=
  ((own_of_row hr).sl (by omega)).mono (Nat.zero_le _)
theorem St.moves {w0 w : World} {L : List Ent} (h : St w0 w L) (i : Nat) {e : Nat} {v : Value} {xs : List (Int × Int × Int)} (hx : L[i]? = some (Ent.row e 3 v xs.length (xs.flatMap moveCells))) : Moves 0 w v xs := moves_of_row (h.row i hx)
theorem Try.infoMv : (Try.prog.info? 76).map (fun i => (i.zero, i.size, i.bytes)) = some (some (.agg #[.int .i64 0, .int .i64 0, .int .i64 0]), 3, 24) := by kernel_rfl
theorem one_mv {s c x : Int} : ∀ u ∈ [Value.int .i64 s, Value.int .i64 c, Value.int .i64 x], u.oneCell' = true := by
  intro u hu
  simp at hu
  rcases hu with rfl | rfl | rfl <;> rfl
theorem flatM_snoc (xs : List (Int × Int × Int)) (s c x : Int) : (xs ++ [(s, c, x)]).flatMap moveCells = xs.flatMap moveCells ++ [.int .i64 s, .int .i64 c, .int .i64 x] := by simp [moveCells]

end Go.Proofs.Ytjcegbcmomfgaaa
namespace Go.Proofs.Ytjcegbcmomfgaaa
open Go.RowKit

section
variable {P : Program} (w : World)
theorem ownsRow_any {w : World} {base e size n : Nat} {v : Value} {xs : List Value} (h : w.ownsRow base e size v n xs) : ∃ a cap, v = .slice a n cap ∧ n ≤ cap := by
  rcases h.2 with ⟨h1, h2⟩ | ⟨g', cap', cur, h1, -, -, h4, -⟩
  · exact ⟨none, 0, by rw [h1, h2], by omega⟩
  · exact ⟨_, cap', h1, h4⟩
theorem run_append_sl (t ty : TypeId) (base : Nat) (e : TypeId) (i : TypeInfo) (z : Value) (size bytes : Nat) (ht : P.underlying t = some (.slice e)) (hi : P.info? e = some i) (hz : i.zero = some z)
    (hsize : i.size = size) (hby : i.bytes = bytes) (hzs : z.cells.size = size) (hsz : 0 < size)
    (v : Value) (n : Nat) (xs : List Value) (hown : w.ownsRow base e size v n xs) (x : Value) (m : Nat) (news : List Value) (hx : Sl 0 w x m size news) (h1 : ∀ u ∈ news, u.oneCell' = true)
    (h63 : n + m ≤ maxLen) (hbytes : (n + m) * bytes ≤ 140737488355328) (hbase : base ≤ w.heap.size) :
    ∃ a' cap w', (Builtin.append_ #[t, t] ty #[v, x]).run P w = .ok (.slice a' (n + m) cap) w' ∧ w'.ownsRow base e size (.slice a' (n + m) cap) (n + m) (xs ++ news) ∧ w.grownBy w' v.ownBlock ∧
      (∀ k, (Value.slice a' (n + m) cap).ownBlock = some k → v.ownBlock = some k ∨ w.heap.size ≤ k) := by
  obtain ⟨hl, a, cap, rfl, hle, hm, hc⟩ := hx
  cases a with
  | some ad =>
    have hnews : ∀ j u, news[j]? = some u → w.cell? (ad.add j) = some u := fun j u hj => by
      have hjl := (List.getElem?_eq_some_iff.1 hj).1
      have hm0 : 0 < m := by
        rcases Nat.eq_zero_or_pos m with h0 | h0
        · rw [h0] at hl; omega
        · exact h0
      obtain ⟨b, off, ha, -, -, hcs⟩ := hc hm0
      simp only [Option.some.injEq] at ha
      subst ha
      rw [← hj, ← hcs j (by omega), ← Go.WideShapes.add_plain]
    obtain ⟨v', w', hr, h2, h3, -, h5⟩ := run_append_own_at (P := P) w base t ty e i z size bytes ht hi hz hsize hby hzs hsz v n xs hown ad m cap news hl hnews h1 h63 hbytes hbase
    obtain ⟨a', cap', rfl, -⟩ := ownsRow_any h2
    refine ⟨a', cap', w', hr, h2, h3, fun k hk => ?_⟩
    rcases h5 with h5 | h5
    · exact Or.inl (by rw [← h5]; exact hk)
    · rw [h5] at hk
      exact Or.inr (by simp only [Option.some.injEq] at hk; omega)
  | none =>
    have hm0 : m = 0 := by
      rcases Nat.eq_zero_or_pos m with h0 | h0
      · exact h0
      · obtain ⟨b, off, ha, -⟩ := hc h0
        cases ha
    subst hm0
    have hnil : news = [] := List.eq_nil_of_length_eq_zero (by omega)
    subst hnil
    obtain ⟨a', cap', rfl, hlc⟩ := ownsRow_any hown
    subst hsize
    refine ⟨a', cap', w, run_append_nothing w t t ty e i ht hi a' n cap' hlc _ (Src.ofNil w ht cap), by simpa using hown, ⟨rfl, rfl, rfl, Nat.le_refl _, fun _ _ _ => rfl⟩, fun k hk => Or.inl hk⟩
theorem wp_append_sl {o : Oper} {a : Act} {K : Act → World → Prop} {Q : Exit → Act → World → Prop} (s x : Operand) (t : TypeId)
    (ho : o.op = .call { callee := .builtin .append, args := #[s, x], argTypes := #[t, t] })
    (base : Nat) (e : TypeId) (i : TypeInfo) (z : Value) (size bytes : Nat) (ht : P.underlying t = some (.slice e)) (hi : P.info? e = some i) (hz : i.zero = some z)
    (hsize : i.size = size) (hby : i.bytes = bytes) (hzs : z.cells.size = size) (hsz : 0 < size)
    (v : Value) (n : Nat) (xs : List Value) (hs : a.eval s = v) (hown : w.ownsRow base e size v n xs)
    (y : Value) (m : Nat) (news : List Value) (hy : a.eval x = y) (hx : Sl 0 w y m size news) (h1 : ∀ u ∈ news, u.oneCell' = true)
    (h63 : n + m ≤ maxLen) (hbytes : (n + m) * bytes ≤ 140737488355328) (hbase : base ≤ w.heap.size)
    (h : ∀ a' cap w', w'.ownsRow base e size (.slice a' (n + m) cap) (n + m) (xs ++ news) → w.grownBy w' v.ownBlock → (∀ k, (Value.slice a' (n + m) cap).ownBlock = some k → v.ownBlock = some k ∨ w.heap.size ≤ k) → K (a.put o.dst (.slice a' (n + m) cap)) w') : o.wp P a w K Q := by
  obtain ⟨a', cap, w', hr, h2, h3, h4⟩ := run_append_sl (P := P) w t o.type base e i z size bytes ht hi hz hsize hby hzs hsz v n xs hown y m news hx h1 h63 hbytes hbase
  unfold Oper.wp execOp
  simp only [ho, resolve, invoke, builtin, Sem.run_bind, Sem.run_pure, Result.andThen_ok, List.map_toArray, List.map_cons, List.map_nil, hs, hy, hr]
  exact h a' cap w' h2 h3 h4
theorem wpList_append_sl {ops : Array Oper} {rest : List Oper} {o : Oper} {a : Act} {Q : Exit → Act → World → Prop} (hgd : o.guard = none) (s x : Operand) (t : TypeId)
    (ho : o.op = .call { callee := .builtin .append, args := #[s, x], argTypes := #[t, t] })
    (base : Nat) (e : TypeId) (i : TypeInfo) (z : Value) (size bytes : Nat) (ht : P.underlying t = some (.slice e)) (hi : P.info? e = some i) (hz : i.zero = some z)
    (hsize : i.size = size) (hby : i.bytes = bytes) (hzs : z.cells.size = size) (hsz : 0 < size)
    (v : Value) (n : Nat) (xs : List Value) (hs : a.eval s = v) (hown : w.ownsRow base e size v n xs)
    (y : Value) (m : Nat) (news : List Value) (hy : a.eval x = y) (hx : Sl 0 w y m size news) (h1 : ∀ u ∈ news, u.oneCell' = true)
    (h63 : n + m ≤ maxLen) (hbytes : (n + m) * bytes ≤ 140737488355328) (hbase : base ≤ w.heap.size)
    (h : ∀ a' cap w', w'.ownsRow base e size (.slice a' (n + m) cap) (n + m) (xs ++ news) → w.grownBy w' v.ownBlock → (∀ k, (Value.slice a' (n + m) cap).ownBlock = some k → v.ownBlock = some k ∨ w.heap.size ≤ k) → wpList P ops Q rest (a.put o.dst (.slice a' (n + m) cap)) w') : wpList P ops Q (o :: rest) a w :=
  wpList_plain hgd fun _ hK => wp_append_sl w s x t ho base e i z size bytes ht hi hz hsize hby hzs hsz v n xs hs hown y m news hy hx h1 h63 hbytes hbase fun a' cap w' h2 h3 h4 => hK _ _ (h a' cap w' h2 h3 h4)
theorem step_append_sl {ops : Array Oper} {o : Oper} {a : Act} {K : Act → World → Prop} {Q : Exit → Act → World → Prop} {E : Prop} (hgd : o.guard = none) (s x : Operand) (t : TypeId)
    (ho : o.op = .call { callee := .builtin .append, args := #[s, x], argTypes := #[t, t] })
    (base : Nat) (e : TypeId) (i : TypeInfo) (z : Value) (size bytes : Nat) (ht : P.underlying t = some (.slice e)) (hi : P.info? e = some i) (hz : i.zero = some z)
    (hsize : i.size = size) (hby : i.bytes = bytes) (hzs : z.cells.size = size) (hsz : 0 < size)
    (v : Value) (n : Nat) (xs : List Value) (hs : a.eval s = v) (hown : w.ownsRow base e size v n xs)
    (y : Value) (m : Nat) (news : List Value) (hy : a.eval x = y) (hx : Sl 0 w y m size news) (h1 : ∀ u ∈ news, u.oneCell' = true)
    (h63 : n + m ≤ maxLen) (hbytes : (n + m) * bytes ≤ 140737488355328) (hbase : base ≤ w.heap.size)
    (h : ∀ a' cap w', w'.ownsRow base e size (.slice a' (n + m) cap) (n + m) (xs ++ news) → w.grownBy w' v.ownBlock → (∀ k, (Value.slice a' (n + m) cap).ownBlock = some k → v.ownBlock = some k ∨ w.heap.size ≤ k) → K (a.put o.dst (.slice a' (n + m) cap)) w') :
    if Region.wanted o (yielded ops a.tmps) = true then Oper.wp P o a w K Q else E := by
  have hw : Region.wanted o (yielded ops a.tmps) = true := by simp [Region.wanted, hgd]
  rw [if_pos hw]
  exact wp_append_sl w s x t ho base e i z size bytes ht hi hz hsize hby hzs hsz v n xs hs hown y m news hy hx h1 h63 hbytes hbase h
end
theorem on_str {x : ByteArray} : ∀ u ∈ [Value.string x], u.oneCell' = true := by simp [Value.oneCell']
theorem on_i {k : IntKind} {x : Int} : ∀ u ∈ [Value.int k x], u.oneCell' = true := by simp [Value.oneCell']
theorem on_sl {a : Option Addr} {l c : Nat} : ∀ u ∈ [Value.slice a l c], u.oneCell' = true := by simp [Value.oneCell']
theorem on_bl {x : Bool} : ∀ u ∈ [Value.bool x], u.oneCell' = true := by simp [Value.oneCell']
theorem boolC_sn (l : List Bool) (x : Bool) : boolCells (l ++ [x]) = boolCells l ++ [.bool x] := by simp [boolCells]
theorem intC_sn (l : List Int) (x : Int) : intCells (l ++ [x]) = intCells l ++ [.int .i64 x] := by simp [intCells]
theorem on_is {xs : List Int} : ∀ u ∈ intCells xs, u.oneCell' = true := fun u hu => by
  obtain ⟨x, -, rfl⟩ := List.mem_map.1 hu
  simp [Value.oneCell']
theorem on_mvs {xs : List (Int × Int × Int)} : ∀ u ∈ xs.flatMap moveCells, u.oneCell' = true := fun u hu => by
  obtain ⟨x, -, hx⟩ := List.mem_flatMap.1 hu
  simp only [moveCells, List.mem_cons, List.not_mem_nil, or_false] at hx
  rcases hx with rfl | rfl | rfl <;> simp [Value.oneCell']
theorem on_prs {xs : List (Int × Int)} : ∀ u ∈ xs.flatMap pairCells, u.oneCell' = true := fun u hu => by
  obtain ⟨x, -, hx⟩ := List.mem_flatMap.1 hu
  simp only [pairCells, List.mem_cons, List.not_mem_nil, or_false] at hx
  rcases hx with rfl | rfl <;> simp [Value.oneCell']
/-- A slice has grown, in whatever way. -/
theorem St.appS {w0 w w' : World} {L : List Ent} (h : St w0 w L) (i : Nat) {B e size n m cap : Nat} {a' : Option Addr} {v : Value} {cs cs' : List Value} (hx : L[i]? = some (Ent.row e size v n cs)) (hown : w'.ownsRow B e size (.slice a' m cap) m cs') (hg : w.grownBy w' v.ownBlock)
    (hat : ∀ k, (Value.slice a' m cap).ownBlock = some k → v.ownBlock = some k ∨ w.heap.size ≤ k) : St w0 w' (L.set i (Ent.row e size (.slice a' m cap) m cs')) := h.grow i hx hg hown hat
end Go.Proofs.Ytjcegbcmomfgaaa
