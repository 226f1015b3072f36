/-
  append of all of another slice, which may be empty: what it hands back, as a step of the walk.
  Conditions: the first slice is the call's own; the second one reads as such data.
-/
import Derived.Test.YtclhcfmlkfiidaaCtx
import Derived.Deep.AppendLies
import Derived.Deep.Upon
import Derived.ProofKit
import Derived.OpenShut
namespace Go.Proofs.Ytclhcfmlkfiidaa
open Go.RowKit

section
variable {P : Program} (w : World)
theorem ownsRow_any {w : World} {base e size n : Nat} {v : Value} {xs : List Value} (h : w.ownsRow base e size v n xs) : ∃ a cap, v = .slice a n cap ∧ n ≤ cap := by
  rcases h.2 with ⟨h1, h2⟩ | ⟨g', cap', cur, h1, -, -, h4, -⟩
  · exact ⟨none, 0, by rw [h1, h2], by omega⟩
  · exact ⟨_, cap', h1, h4⟩
theorem run_append_sl (t ty : TypeId) (base : Nat) (e : TypeId) (i : TypeInfo) (z : Value) (size bytes : Nat) (ht : P.underlying t = some (.slice e)) (hi : P.info? e = some i) (hz : i.zero = some z)
    (hsize : i.size = size) (hby : i.bytes = bytes) (hzs : z.cells.size = size) (hsz : 0 < size)
    (v : Value) (n : Nat) (xs : List Value) (hown : w.ownsRow base e size v n xs) (x : Value) (m : Nat) (news : List Value) (hx : Sl 0 w x m size news) (h1 : ∀ u ∈ news, u.oneCell' = true)
    (h63 : n + m ≤ maxLen) (hbytes : (n + m) * bytes ≤ 140737488355328) (hbase : base ≤ w.heap.size) :
    ∃ a' cap w', (Builtin.append_ #[t, t] ty #[v, x]).run P w = .ok (.slice a' (n + m) cap) w' ∧ w'.ownsRow base e size (.slice a' (n + m) cap) (n + m) (xs ++ news) ∧ w.grownBy w' v.ownBlock ∧
      (∀ k, (Value.slice a' (n + m) cap).ownBlock = some k → v.ownBlock = some k ∨ w.heap.size ≤ k) := by
  obtain ⟨hl, a, cap, rfl, hle, hm, hc⟩ := hx
  cases a with
  | some ad =>
    have hnews : ∀ j u, news[j]? = some u → w.cell? (ad.add j) = some u := fun j u hj => by
      have hjl := (List.getElem?_eq_some_iff.1 hj).1
      have hm0 : 0 < m := by
        rcases Nat.eq_zero_or_pos m with h0 | h0
        · rw [h0] at hl; omega
        · exact h0
      obtain ⟨b, off, ha, -, -, hcs⟩ := hc hm0
      simp only [Option.some.injEq] at ha
      subst ha
      rw [← hj, ← hcs j (by omega), ← Go.WideShapes.add_plain]
    obtain ⟨v', w', hr, h2, h3, -, h5⟩ := run_append_own_at (P := P) w base t ty e i z size bytes ht hi hz hsize hby hzs hsz v n xs hown ad m cap news hl hnews h1 h63 hbytes hbase
    obtain ⟨a', cap', rfl, -⟩ := ownsRow_any h2
    refine ⟨a', cap', w', hr, h2, h3, fun k hk => ?_⟩
    rcases h5 with h5 | h5
    · exact Or.inl (by rw [← h5]; exact hk)
    · rw [h5] at hk
      exact Or.inr (by simp only [Option.some.injEq] at hk; omega)
  | none =>
    have hm0 : m = 0 := by
      rcases Nat.eq_zero_or_pos m with h0 | h0
      · exact h0
      · obtain ⟨b, off, ha, -⟩ := hc h0
        cases ha
    subst hm0
    have hnil : news = [] := List.eq_nil_of_length_eq_zero (by omega)
    subst hnil
    obtain ⟨a', cap', rfl, hlc⟩ := ownsRow_any hown
    subst hsize
    refine ⟨a', cap', w, run_append_nothing w t t ty e i ht hi a' n cap' hlc _ (Src.ofNil w ht cap), by simpa using hown, ⟨rfl, rfl, rfl, Nat.le_refl _, fun _ _ _ => rfl⟩, fun k hk => Or.inl hk⟩
theorem wp_append_sl {o : Oper} {a : Act} {K : Act → World → Prop} {Q : Exit → Act → World → Prop} (s x : Operand) (t : TypeId)
    (ho : o.op = .call { callee := .builtin .append, args := #[s, x], argTypes := #[t, t] })
    (base : Nat) (e : TypeId) (i : TypeInfo) (z : Value) (size bytes : Nat) (ht : P.underlying t = some (.slice e)) (hi : P.info? e = some i) (hz : i.zero = some z)
    (hsize : i.size = size) (hby : i.bytes = bytes) (hzs : z.cells.size = size) (hsz : 0 < size)
    (v : Value) (n : Nat) (xs : List Value) (hs : a.eval s = v) (hown : w.ownsRow base e size v n xs)
    (y : Value) (m : Nat) (news : List Value) (hy : a.eval x = y) (hx : Sl 0 w y m size news) (h1 : ∀ u ∈ news, u.oneCell' = true)
    (h63 : n + m ≤ maxLen) (hbytes : (n + m) * bytes ≤ 140737488355328) (hbase : base ≤ w.heap.size)
    (h : ∀ a' cap w', w'.ownsRow base e size (.slice a' (n + m) cap) (n + m) (xs ++ news) → w.grownBy w' v.ownBlock → (∀ k, (Value.slice a' (n + m) cap).ownBlock = some k → v.ownBlock = some k ∨ w.heap.size ≤ k) → K (a.put o.dst (.slice a' (n + m) cap)) w') : o.wp P a w K Q := by
  obtain ⟨a', cap, w', hr, h2, h3, h4⟩ := run_append_sl (P := P) w t o.type base e i z size bytes ht hi hz hsize hby hzs hsz v n xs hown y m news hx h1 h63 hbytes hbase
  unfold Oper.wp execOp
  simp only [ho, resolve, invoke, builtin, Sem.run_bind, Sem.run_pure, Result.andThen_ok, List.map_toArray, List.map_cons, List.map_nil, hs, hy, hr]
  exact h a' cap w' h2 h3 h4
theorem wpList_append_sl {ops : Array Oper} {rest : List Oper} {o : Oper} {a : Act} {Q : Exit → Act → World → Prop} (hgd : o.guard = none) (s x : Operand) (t : TypeId)
    (ho : o.op = .call { callee := .builtin .append, args := #[s, x], argTypes := #[t, t] })
    (base : Nat) (e : TypeId) (i : TypeInfo) (z : Value) (size bytes : Nat) (ht : P.underlying t = some (.slice e)) (hi : P.info? e = some i) (hz : i.zero = some z)
    (hsize : i.size = size) (hby : i.bytes = bytes) (hzs : z.cells.size = size) (hsz : 0 < size)
    (v : Value) (n : Nat) (xs : List Value) (hs : a.eval s = v) (hown : w.ownsRow base e size v n xs)
    (y : Value) (m : Nat) (news : List Value) (hy : a.eval x = y) (hx : Sl 0 w y m size news) (h1 : ∀ u ∈ news, u.oneCell' = true)
    (h63 : n + m ≤ maxLen) (hbytes : (n + m) * bytes ≤ 140737488355328) (hbase : base ≤ w.heap.size)
    (h : ∀ a' cap w', w'.ownsRow base e size (.slice a' (n + m) cap) (n + m) (xs ++ news) → w.grownBy w' v.ownBlock → (∀ k, (Value.slice a' (n + m) cap).ownBlock = some k → v.ownBlock = some k ∨ w.heap.size ≤ k) → wpList P ops Q rest (a.put o.dst (.slice a' (n + m) cap)) w') : wpList P ops Q (o :: rest) a w :=
  wpList_plain hgd fun _ hK => wp_append_sl w s x t ho base e i z size bytes ht hi hz hsize hby hzs hsz v n xs hs hown y m news hy hx h1 h63 hbytes hbase fun a' cap w' h2 h3 h4 => hK _ _ (h a' cap w' h2 h3 h4)
theorem step_append_sl {ops : Array Oper} {o : Oper} {a : Act} {K : Act → World → Prop} {Q : Exit → Act → World → Prop} {E : Prop} (hgd : o.guard = none) (s x : Operand) (t : TypeId)
    (ho : o.op = .call { callee := .builtin .append, args := #[s, x], argTypes := #[t, t] })
    (base : Nat) (e : TypeId) (i : TypeInfo) (z : Value) (size bytes : Nat) (ht : P.underlying t = some (.slice e)) (hi : P.info? e = some i) (hz : i.zero = some z)
    (hsize : i.size = size) (hby : i.bytes = bytes) (hzs : z.cells.size = size) (hsz : 0 < size)
    (v : Value) (n : Nat) (xs : List Value) (hs : a.eval s = v) (hown : w.ownsRow base e size v n xs)
    (y : Value) (m : Nat) (news : List Value) (hy : a.eval x = y) (hx : Sl 0 w y m size news) (h1 : ∀ u ∈ news, u.oneCell' = true)
    (h63 : n + m ≤ maxLen) (hbytes : (n + m) * bytes ≤ 140737488355328) (hbase : base ≤ w.heap.size)
    (h : ∀ a' cap w', w'.ownsRow base e size (.slice a' (n + m) cap) (n + m) (xs ++ news) → w.grownBy w' v.ownBlock → (∀ k, (Value.slice a' (n + m) cap).ownBlock = some k → v.ownBlock = some k ∨ w.heap.size ≤ k) → K (a.put o.dst (.slice a' (n + m) cap)) w') :
    if Region.wanted o (yielded ops a.tmps) = true then Oper.wp P o a w K Q else E := by
  have hw : Region.wanted o (yielded ops a.tmps) = true := by simp [Region.wanted, hgd]
  rw [if_pos hw]
  exact wp_append_sl w s x t ho base e i z size bytes ht hi hz hsize hby hzs hsz v n xs hs hown y m news hy hx h1 h63 hbytes hbase h
end
theorem on_str {x : ByteArray} : ∀ u ∈ [Value.string x], u.oneCell' = true := by simp [Value.oneCell']
theorem on_i {k : IntKind} {x : Int} : ∀ u ∈ [Value.int k x], u.oneCell' = true := by simp [Value.oneCell']
theorem on_sl {a : Option Addr} {l c : Nat} : ∀ u ∈ [Value.slice a l c], u.oneCell' = true := by simp [Value.oneCell']
theorem on_bl {x : Bool} : ∀ u ∈ [Value.bool x], u.oneCell' = true := by simp [Value.oneCell']
theorem boolC_sn (l : List Bool) (x : Bool) : boolCells (l ++ [x]) = boolCells l ++ [.bool x] := by simp [boolCells]
theorem intC_sn (l : List Int) (x : Int) : intCells (l ++ [x]) = intCells l ++ [.int .i64 x] := by simp [intCells]
theorem on_is {xs : List Int} : ∀ u ∈ intCells xs, u.oneCell' = true := fun u hu => by
  obtain ⟨x, -, rfl⟩ := List.mem_map.1 hu
  simp [Value.oneCell']
theorem on_mvs {xs : List (Int × Int × Int)} : ∀ u ∈ xs.flatMap moveCells, u.oneCell' = true := fun u hu => by
  obtain ⟨x, -, hx⟩ := List.mem_flatMap.1 hu
  simp only [moveCells, List.mem_cons, List.not_mem_nil, or_false] at hx
  rcases hx with rfl | rfl | rfl <;> simp [Value.oneCell']
theorem on_prs {xs : List (Int × Int)} : ∀ u ∈ xs.flatMap pairCells, u.oneCell' = true := fun u hu => by
  obtain ⟨x, -, hx⟩ := List.mem_flatMap.1 hu
  simp only [pairCells, List.mem_cons, List.not_mem_nil, or_false] at hx
  rcases hx with rfl | rfl <;> simp [Value.oneCell']
/-- A slice has grown, in whatever way. -/
theorem St.appS {w0 w w' : World} {L : List Ent} (h : St w0 w L) (i : Nat) {B e size n m cap : Nat} {a' : Option Addr} {v : Value} {cs cs' : List Value} (hx : L[i]? = some (Ent.row e size v n cs)) (hown : w'.ownsRow B e size (.slice a' m cap) m cs') (hg : w.grownBy w' v.ownBlock)
    (hat : ∀ k, (Value.slice a' m cap).ownBlock = some k → v.ownBlock = some k ∨ w.heap.size ≤ k) : St w0 w' (L.set i (Ent.row e size (.slice a' m cap) m cs')) := h.grow i hx hg hown hat
end Go.Proofs.Ytclhcfmlkfiidaa
