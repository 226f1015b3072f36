/-
  Automata as automata with choices, turned round; plain: they are valid, and what is determinized is valid.
  No condition: this text speaks of no program.
  append of all of another slice, which may be empty: what it hands back, as a step of the walk.
  Conditions: the first slice is the call's own; the second one reads as such data.
-/
import Derived.Test.YtclhcfmlkfiidaaS11
import Derived.Test.YtclhcfmlkfiidaaLr
import Derived.Test.YtclhcfmlkfiidaaCtx
import Derived.Deep.AppendLies
import Derived.Deep.Upon
import Derived.ProofKit
import Derived.OpenShut
namespace Go.Proofs.Ytclhcfmlkfiidaa
open Go.RowKit

def rowM (d : DfaD) (s : Nat) : List (Int × Int × Int) := (List.range 3).map fun (c : Nat) => ((s : Int), (c : Int), (d.next.getD s []).getD c 0)
def mvs (d : DfaD) : Nat → List (Int × Int × Int)
  | 0 => []
  | s + 1 => mvs d s ++ rowM d s
def eds (d : DfaD) : Nat → List Int
  | 0 => []
  | s + 1 => if d.ends.getD s false = true then eds d s ++ [(s : Int)] else eds d s
def nfaOf (d : DfaD) : NfaD := ⟨d.next.length, mvs d d.next.length, [0], eds d d.next.length⟩
def turnM (m : Int × Int × Int) : Int × Int × Int := (m.2.2, m.2.1, m.1)
def turnN (n : NfaD) : NfaD := ⟨n.states, n.moves.map turnM, n.ends, n.firsts⟩
theorem rowM_len (d : DfaD) (s : Nat) : (rowM d s).length = 3 := by simp [rowM]
theorem rowM_take (d : DfaD) (s : Nat) {c : Nat} (hc : c < 3) : (rowM d s).take (c + 1) = (rowM d s).take c ++ [((s : Int), (c : Int), (d.next.getD s []).getD c 0)] := by
  rw [List.take_succ_eq_append_getElem (by rw [rowM_len]; exact hc)]
  simp [rowM]
theorem mvs_len (d : DfaD) : ∀ s, (mvs d s).length = 3 * s
  | 0 => rfl
  | s + 1 => by
    show (mvs d s ++ rowM d s).length = _
    rw [List.length_append, mvs_len d s, rowM_len]
    omega
theorem eds_len (d : DfaD) : ∀ s, (eds d s).length ≤ s
  | 0 => Nat.le_refl _
  | s + 1 => by
    have ih := eds_len d s
    unfold eds
    split
    · rw [List.length_append, List.length_singleton]; omega
    · omega
theorem eds_in (d : DfaD) : ∀ s, ∀ x ∈ eds d s, 0 ≤ x ∧ x < (s : Int)
  | 0, x, hx => by simp [eds] at hx
  | s + 1, x, hx => by
    have ih := eds_in d s
    unfold eds at hx
    split at hx
    · rcases List.mem_append.1 hx with hx | hx
      · have := ih x hx; omega
      · simp only [List.mem_singleton] at hx
        omega
    · have := ih x hx; omega
theorem mvs_in {d : DfaD} (hd : dfaOk d.next d.ends = true) : ∀ s, s ≤ d.next.length → mvIn d.next.length (mvs d s)
  | 0, _, x, hx => by simp [mvs] at hx
  | s + 1, hs, x, hx => by
    have hx : x ∈ mvs d s ++ rowM d s := hx
    rcases List.mem_append.1 hx with hx | hx
    · exact mvs_in hd s (by omega) x hx
    · obtain ⟨c, hc, rfl⟩ := List.mem_map.1 hx
      have := (dfaOk_row hd (show s < d.next.length by omega)).2 c (List.mem_range.1 hc)
      simp only
      omega
/-- What the walks over determinize ask. -/
structure DetOk (n : NfaD) (m : Nat) : Prop where
  st : n.states = (m : Int)
  m40 : m ≤ 40
  mv : mvIn m n.moves
  ml : n.moves.length ≤ 1000
  f : inN m n.firsts
  fl : n.firsts.length ≤ 1000
  e : inN m n.ends
  el : n.ends.length ≤ 1000
theorem nfaOf_det {d : DfaD} (hd : dfaOk d.next d.ends = true) : DetOk (nfaOf d) d.next.length := by
  have hl := dfaOk_len hd
  refine ⟨rfl, hl.2.1, mvs_in hd _ (Nat.le_refl _), ?_, fun x hx => ?_, by simp [nfaOf], eds_in d _, ?_⟩
  · show (mvs d d.next.length).length ≤ _
    rw [mvs_len]; omega
  · simp only [nfaOf, List.mem_singleton] at hx
    omega
  · show (eds d d.next.length).length ≤ _
    have := eds_len d d.next.length
    omega
theorem turnN_det {n : NfaD} {m : Nat} (h : DetOk n m) : DetOk (turnN n) m := by
  refine ⟨h.st, h.m40, fun x hx => ?_, by simpa [turnN] using h.ml, h.e, h.el, h.f, h.fl⟩
  obtain ⟨y, hy, rfl⟩ := List.mem_map.1 hx
  have := h.mv y hy
  exact ⟨this.2, this.1⟩
def detQK (K : Nat) (n : NfaD) : Option DfaD := if (metS n K).length ≤ K then some (numDfa (nxS n) (enS n) (metS n K)) else none
theorem detQK_ok {K : Nat} (hK : K = 40) {n : NfaD} {d : DfaD} (h : detQK K n = some d) : dfaOk d.next d.ends = true := by
  unfold detQK at h
  split at h
  · rename_i hle
    simp only [Option.some.injEq] at h
    subst h
    obtain ⟨h1, h2, h3, h4⟩ := fine_num (en := enS n) (nx := nxS n) (a := (((fstV n : Nat) : Int), 0)) hle (by omega)
    refine dfaOk_of h1 (by rw [numDfa_len]; omega) h3 fun i hi => ?_
    exact h4 i hi
  · cases h
/-- An automaton turned and determinized, once; twice. -/
def tdK (K : Nat) (d : DfaD) : Option DfaD := detQK K (turnN (nfaOf d))
def ttK (K : Nat) (d : DfaD) : Option DfaD := if dfaOk d.next d.ends = true then (tdK K d).bind (tdK K) else none
end Go.Proofs.Ytclhcfmlkfiidaa
namespace Go.Proofs.Ytclhcfmlkfiidaa
open Go.RowKit

section
variable {P : Program} (w : World)
theorem ownsRow_any {w : World} {base e size n : Nat} {v : Value} {xs : List Value} (h : w.ownsRow base e size v n xs) : ∃ a cap, v = .slice a n cap ∧ n ≤ cap := by
  rcases h.2 with ⟨h1, h2⟩ | ⟨g', cap', cur, h1, -, -, h4, -⟩
  · exact ⟨none, 0, by rw [h1, h2], by omega⟩
  · exact ⟨_, cap', h1, h4⟩
theorem run_append_sl (t ty : TypeId) (base : Nat) (e : TypeId) (i : TypeInfo) (z : Value) (size bytes : Nat) (ht : P.underlying t = some (.slice e)) (hi : P.info? e = some i) (hz : i.zero = some z)
    (hsize : i.size = size) (hby : i.bytes = bytes) (hzs : z.cells.size = size) (hsz : 0 < size)
    (v : Value) (n : Nat) (xs : List Value) (hown : w.ownsRow base e size v n xs) (x : Value) (m : Nat) (news : List Value) (hx : Sl 0 w x m size news) (h1 : ∀ u ∈ news, u.oneCell' = true)
    (h63 : n + m ≤ maxLen) (hbytes : (n + m) * bytes ≤ 140737488355328) (hbase : base ≤ w.heap.size) :
    ∃ a' cap w', (Builtin.append_ #[t, t] ty #[v, x]).run P w = .ok (.slice a' (n + m) cap) w' ∧ w'.ownsRow base e size (.slice a' (n + m) cap) (n + m) (xs ++ news) ∧ w.grownBy w' v.ownBlock ∧
      (∀ k, (Value.slice a' (n + m) cap).ownBlock = some k → v.ownBlock = some k ∨ w.heap.size ≤ k) := by
  obtain ⟨hl, a, cap, rfl, hle, hm, hc⟩ := hx
  cases a with
  | some ad =>
    have hnews : ∀ j u, news[j]? = some u → w.cell? (ad.add j) = some u := fun j u hj => by
      have hjl := (List.getElem?_eq_some_iff.1 hj).1
      have hm0 : 0 < m := by
        rcases Nat.eq_zero_or_pos m with h0 | h0
        · rw [h0] at hl; omega
        · exact h0
      obtain ⟨b, off, ha, -, -, hcs⟩ := hc hm0
      simp only [Option.some.injEq] at ha
      subst ha
      rw [← hj, ← hcs j (by omega), ← Go.WideShapes.add_plain]
    obtain ⟨v', w', hr, h2, h3, -, h5⟩ := run_append_own_at (P := P) w base t ty e i z size bytes ht hi hz hsize hby hzs hsz v n xs hown ad m cap news hl hnews h1 h63 hbytes hbase
    obtain ⟨a', cap', rfl, -⟩ := ownsRow_any h2
    refine ⟨a', cap', w', hr, h2, h3, fun k hk => ?_⟩
    rcases h5 with h5 | h5
    · exact Or.inl (by rw [← h5]; exact hk)
    · rw [h5] at hk
      exact Or.inr (by simp only [Option.some.injEq] at hk; omega)
  | none =>
    have hm0 : m = 0 := by
      rcases Nat.eq_zero_or_pos m with h0 | h0
      · exact h0
      · obtain ⟨b, off, ha, -⟩ := hc h0
        cases ha
    subst hm0
    have hnil : news = [] := List.eq_nil_of_length_eq_zero (by omega)
    subst hnil
    obtain ⟨a', cap', rfl, hlc⟩ := ownsRow_any hown
    subst hsize
    refine ⟨a', cap', w, run_append_nothing w t t ty e i ht hi a' n cap' hlc _ (Src.ofNil w ht cap), by simpa using hown, ⟨rfl, rfl, rfl, Nat.le_refl _, fun _ _ _ => rfl⟩, fun k hk => Or.inl hk⟩
theorem wp_append_sl {o : Oper} {a : Act} {K : Act → World → Prop} {Q : Exit → Act → World → Prop} (s x : Operand) (t : TypeId)
    (ho : o.op = .call { callee := .builtin .append, args := #[s, x], argTypes := #[t, t] })
    (base : Nat) (e : TypeId) (i : TypeInfo) (z : Value) (size bytes : Nat) (ht : P.underlying t = some (.slice e)) (hi : P.info? e = some i) (hz : i.zero = some z)
    (hsize : i.size = size) (hby : i.bytes = bytes) (hzs : z.cells.size = size) (hsz : 0 < size)
    (v : Value) (n : Nat) (xs : List Value) (hs : a.eval s = v) (hown : w.ownsRow base e size v n xs)
    (y : Value) (m : Nat) (news : List Value) (hy : a.eval x = y) (hx : Sl 0 w y m size news) (h1 : ∀ u ∈ news, u.oneCell' = true)
    (h63 : n + m ≤ maxLen) (hbytes : (n + m) * bytes ≤ 140737488355328) (hbase : base ≤ w.heap.size)
    (h : ∀ a' cap w', w'.ownsRow base e size (.slice a' (n + m) cap) (n + m) (xs ++ news) → w.grownBy w' v.ownBlock → (∀ k, (Value.slice a' (n + m) cap).ownBlock = some k → v.ownBlock = some k ∨ w.heap.size ≤ k) → K (a.put o.dst (.slice a' (n + m) cap)) w') : o.wp P a w K Q := by
  obtain ⟨a', cap, w', hr, h2, h3, h4⟩ := run_append_sl (P := P) w t o.type base e i z size bytes ht hi hz hsize hby hzs hsz v n xs hown y m news hx h1 h63 hbytes hbase
  unfold Oper.wp execOp
  simp only [ho, resolve, invoke, builtin, Sem.run_bind, Sem.run_pure, Result.andThen_ok, List.map_toArray, List.map_cons, List.map_nil, hs, hy, hr]
  exact h a' cap w' h2 h3 h4
theorem wpList_append_sl {ops : Array Oper} {rest : List Oper} {o : Oper} {a : Act} {Q : Exit → Act → World → Prop} (hgd : o.guard = none) (s x : Operand) (t : TypeId)
    (ho : o.op = .call { callee := .builtin .append, args := #[s, x], argTypes := #[t, t] })
    (base : Nat) (e : TypeId) (i : TypeInfo) (z : Value) (size bytes : Nat) (ht : P.underlying t = some (.slice e)) (hi : P.info? e = some i) (hz : i.zero = some z)
    (hsize : i.size = size) (hby : i.bytes = bytes) (hzs : z.cells.size = size) (hsz : 0 < size)
    (v : Value) (n : Nat) (xs : List Value) (hs : a.eval s = v) (hown : w.ownsRow base e size v n xs)
    (y : Value) (m : Nat) (news : List Value) (hy : a.eval x = y) (hx : Sl 0 w y m size news) (h1 : ∀ u ∈ news, u.oneCell' = true)
    (h63 : n + m ≤ maxLen) (hbytes : (n + m) * bytes ≤ 140737488355328) (hbase : base ≤ w.heap.size)
    (h : ∀ a' cap w', w'.ownsRow base e size (.slice a' (n + m) cap) (n + m) (xs ++ news) → w.grownBy w' v.ownBlock → (∀ k, (Value.slice a' (n + m) cap).ownBlock = some k → v.ownBlock = some k ∨ w.heap.size ≤ k) → wpList P ops Q rest (a.put o.dst (.slice a' (n + m) cap)) w') : wpList P ops Q (o :: rest) a w :=
  wpList_plain hgd fun _ hK => wp_append_sl w s x t ho base e i z size bytes ht hi hz hsize hby hzs hsz v n xs hs hown y m news hy hx h1 h63 hbytes hbase fun a' cap w' h2 h3 h4 => hK _ _ (h a' cap w' h2 h3 h4)
theorem step_append_sl {ops : Array Oper} {o : Oper} {a : Act} {K : Act → World → Prop} {Q : Exit → Act → World → Prop} {E : Prop} (hgd : o.guard = none) (s x : Operand) (t : TypeId)
    (ho : o.op = .call { callee := .builtin .append, args := #[s, x], argTypes := #[t, t] })
    (base : Nat) (e : TypeId) (i : TypeInfo) (z : Value) (size bytes : Nat) (ht : P.underlying t = some (.slice e)) (hi : P.info? e = some i) (hz : i.zero = some z)
    (hsize : i.size = size) (hby : i.bytes = bytes) (hzs : z.cells.size = size) (hsz : 0 < size)
    (v : Value) (n : Nat) (xs : List Value) (hs : a.eval s = v) (hown : w.ownsRow base e size v n xs)
    (y : Value) (m : Nat) (news : List Value) (hy : a.eval x = y) (hx : Sl 0 w y m size news) (h1 : ∀ u ∈ news, u.oneCell' = true)
    (h63 : n + m ≤ maxLen) (hbytes : (n + m) * bytes ≤ 140737488355328) (hbase : base ≤ w.heap.size)
    (h : ∀ a' cap w', w'.ownsRow base e size (.slice a' (n + m) cap) (n + m) (xs ++ news) → w.grownBy w' v.ownBlock → (∀ k, (Value.slice a' (n + m) cap).ownBlock = some k → v.ownBlock = some k ∨ w.heap.size ≤ k) → K (a.put o.dst (.slice a' (n + m) cap)) w') :
    if Region.wanted o (yielded ops a.tmps) = true then Oper.wp P o a w K Q else E := by
  have hw : Region.wanted o (yielded ops a.tmps) = true := by simp [Region.wanted, hgd]
  rw [if_pos hw]
  exact wp_append_sl w s x t ho base e i z size bytes ht hi hz hsize hby hzs hsz v n xs hs hown y m news hy hx h1 h63 hbytes hbase h
end
theorem on_str {x : ByteArray} : ∀ u ∈ [Value.string x], u.oneCell' = true := by simp [Value.oneCell']
theorem on_i {k : IntKind} {x : Int} : ∀ u ∈ [Value.int k x], u.oneCell' = true := by simp [Value.oneCell']
theorem on_sl {a : Option Addr} {l c : Nat} : ∀ u ∈ [Value.slice a l c], u.oneCell' = true := by simp [Value.oneCell']
theorem on_bl {x : Bool} : ∀ u ∈ [Value.bool x], u.oneCell' = true := by simp [Value.oneCell']
theorem boolC_sn (l : List Bool) (x : Bool) : boolCells (l ++ [x]) = boolCells l ++ [.bool x] := by simp [boolCells]
theorem intC_sn (l : List Int) (x : Int) : intCells (l ++ [x]) = intCells l ++ [.int .i64 x] := by simp [intCells]
theorem on_is {xs : List Int} : ∀ u ∈ intCells xs, u.oneCell' = true := fun u hu => by
  obtain ⟨x, -, rfl⟩ := List.mem_map.1 hu
  simp [Value.oneCell']
theorem on_mvs {xs : List (Int × Int × Int)} : ∀ u ∈ xs.flatMap moveCells, u.oneCell' = true := fun u hu => by
  obtain ⟨x, -, hx⟩ := List.mem_flatMap.1 hu
  simp only [moveCells, List.mem_cons, List.not_mem_nil, or_false] at hx
  rcases hx with rfl | rfl | rfl <;> simp [Value.oneCell']
theorem on_prs {xs : List (Int × Int)} : ∀ u ∈ xs.flatMap pairCells, u.oneCell' = true := fun u hu => by
  obtain ⟨x, -, hx⟩ := List.mem_flatMap.1 hu
  simp only [pairCells, List.mem_cons, List.not_mem_nil, or_false] at hx
  rcases hx with rfl | rfl <;> simp [Value.oneCell']
/-- A slice has grown, in whatever way. -/
theorem St.appS {w0 w w' : World} {L : List Ent} (h : St w0 w L) (i : Nat) {B e size n m cap : Nat} {a' : Option Addr} {v : Value} {cs cs' : List Value} (hx : L[i]? = some (Ent.row e size v n cs)) (hown : w'.ownsRow B e size (.slice a' m cap) m cs') (hg : w.grownBy w' v.ownBlock)
    (hat : ∀ k, (Value.slice a' m cap).ownBlock = some k → v.ownBlock = some k ∨ w.heap.size ≤ k) : St w0 w' (L.set i (Ent.row e size (.slice a' m cap) m cs')) := h.grow i hx hg hown hat
end Go.Proofs.Ytclhcfmlkfiidaa
