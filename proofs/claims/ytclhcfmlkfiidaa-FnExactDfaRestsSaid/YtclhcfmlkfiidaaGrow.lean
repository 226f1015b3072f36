/-
  What a call made for itself, where one of its slices grows or one of its variables is written: blocks of different types are different blocks.
  No condition: this text speaks of no program.
-/
import Derived.Test.YtclhcfmlkfiidaaOwn
import Derived.Test.YtclhcfmlkfiidaaMap
import Derived.Deep.AppendLies
namespace Go.Proofs.Ytclhcfmlkfiidaa
open Go.RowKit

/-- The row is no block of cells of type e. -/
def Apart (w : World) (row : Option Nat) (e : TypeId) : Prop := ∀ k, row = some k → ∀ cur fr, w.heap[k]? ≠ some (.cells cur e fr)
/-- The row is a block of cells. -/
def CellsRow (w : World) (row : Option Nat) : Prop := ∀ k, row = some k → ∃ cur e fr, w.heap[k]? = some (.cells cur e fr)

theorem ownsRow_obj {w : World} {base e size n : Nat} {v : Value} {cs : List Value} (h : w.ownsRow base e size v n cs) {k : Nat} (hk : v.ownBlock = some k) : ∃ cur, w.heap[k]? = some (.cells cur e (0, 0)) := by
  rcases h.2 with ⟨rfl, _⟩ | ⟨g, cap, cur, rfl, _, hg, _⟩
  · cases hk
  · have : g = k := by simpa [Value.ownBlock] using hk
    subst this
    exact ⟨cur, hg⟩
theorem ownsRow_apart {w : World} {base e size n : Nat} {v : Value} {cs : List Value} (h : w.ownsRow base e size v n cs) {e' : Nat} (hne : e ≠ e') : Apart w v.ownBlock e' := fun k hk cur fr hh => by
  obtain ⟨c, hc⟩ := ownsRow_obj h hk
  rw [hc] at hh
  simp only [Option.some.injEq, Obj.cells.injEq] at hh
  exact hne hh.2.1
theorem ownsRow_cells {w : World} {base e size n : Nat} {v : Value} {cs : List Value} (h : w.ownsRow base e size v n cs) : CellsRow w v.ownBlock := fun k hk => by
  obtain ⟨c, hc⟩ := ownsRow_obj h hk
  exact ⟨_, _, _, hc⟩
theorem Bx.apart {w : World} {b : Nat} {cs : Array Value} {T e' : TypeId} (h : Bx w b cs T) (hne : T ≠ e') : Apart w (some b) e' := fun k hk cur fr hh => by
  cases hk
  unfold Bx at h
  rw [h] at hh
  simp only [Option.some.injEq, Obj.cells.injEq] at hh
  exact hne hh.2.1
theorem Bx.cells {w : World} {b : Nat} {cs : Array Value} {T : TypeId} (h : Bx w b cs T) : CellsRow w (some b) := fun k hk => by
  cases hk
  exact ⟨_, _, _, h⟩
theorem MapL.apart {α : Type} {P : Program} {kt e' : TypeId} {enc : α → Value} {w : World} {b : Nat} {L : List (α × Value)} (h : MapL P kt enc w b L) : Apart w (some b) e' := fun k hk cur fr hh => by
  cases hk
  obtain ⟨_, _, es, clock, hb, _⟩ := h
  rw [hb] at hh
  cases hh

theorem ownsRow_grown {w w' : World} {base e size n : Nat} {v : Value} {cs : List Value} {row : Option Nat} (h : w.ownsRow base e size v n cs) (hg : w.grownBy w' row) (ha : Apart w row e) : w'.ownsRow base e size v n cs := by
  have hk : ∀ k, v.ownBlock = some k → w'.heap[k]? = w.heap[k]? := fun k hk => by
    obtain ⟨cur, hc⟩ := ownsRow_obj h hk
    exact hg.block k (h.lt k hk).2 fun hr => ha k hr.symm _ _ hc
  exact (Own.kept (own_of_row h) hk).1
theorem Own.grown {lo hi : Nat} {w w' : World} {e size : Nat} {v : Value} {n : Nat} {cs : List Value} {row : Option Nat} (h : Own lo hi w e size v n cs) (hg : w.grownBy w' row) (ha : Apart w row e) : Own lo hi w' e size v n cs :=
  ⟨ownsRow_grown h.1 hg ha, h.2⟩
theorem OIntSS.grown {es e lo hi : Nat} {w w' : World} {v : Value} {xss : List (List Int)} {row : Option Nat} (h : OIntSS es e lo hi w v xss) (hg : w.grownBy w' row) (h1 : Apart w row es) (h2 : Apart w row e) : OIntSS es e lo hi w' v xss := by
  obtain ⟨vs, a, b, c⟩ := h
  exact ⟨vs, a.grown hg h1, fun i hi => Own.grown (b i hi) hg h2, c⟩
theorem Bx.grown {w w' : World} {b : Nat} {cs : Array Value} {T : TypeId} {row : Option Nat} (h : Bx w b cs T) (hg : w.grownBy w' row) (ha : Apart w row T) : Bx w' b cs T :=
  (hg.block b h.lt fun hr => ha b hr.symm _ _ h).trans h
theorem MapL.grown {α : Type} {P : Program} {kt : TypeId} {enc : α → Value} {w w' : World} {b : Nat} {L : List (α × Value)} {row : Option Nat} (h : MapL P kt enc w b L) (hg : w.grownBy w' row) (ha : CellsRow w row) : MapL P kt enc w' b L :=
  h.kept (hg.block b h.lt fun hr => by
    obtain ⟨cur, e, fr, hc⟩ := ha b hr.symm
    obtain ⟨_, _, es, clock, hb, _⟩ := h
    rw [hb] at hc
    cases hc)
theorem grown_set (w : World) (b j : Nat) (v : Value) : w.grownBy (w.setCell ⟨b, j, none⟩ v) (some b) :=
  ⟨rfl, rfl, rfl, by simp [World.setCell], fun k _ hk => Below.heap_setCell _ _ _ _ (fun e => hk (by rw [e]))⟩
theorem grown_of_below {w w' : World} (h : Below w.heap.size w w') (row : Option Nat) : w.grownBy w' row := ⟨h.os, h.tape, h.output, h.size, fun k hk _ => h.block k hk⟩

/-- A slice of own slices where a block that is none of them is written. -/
theorem OIntSS.far {es e lo hi : Nat} {w : World} {v : Value} {xss : List (List Int)} (h : OIntSS es e lo hi w v xss) {b : Nat} (hb : hi ≤ b) (j : Nat) (u : Value) : OIntSS es e lo hi (w.setCell ⟨b, j, none⟩ u) v xss :=
  h.kept fun k _ h2 _ => Below.heap_setCell _ _ _ _ (show k ≠ b by omega)
/-- A further row. -/
theorem OIntSS.snoc {es e lo hi : Nat} {w w' : World} {v v' rv : Value} {xss : List (List Int)} {vs : List Value} {x : List Int} {lr hr : Nat}
    (h1 : Own lo hi w es 1 v xss.length vs) (h2 : ∀ i, i < xss.length → OInts e lo hi w (vs.getD i undef) (xss.getD i []))
    (h3 : ∀ i j k, i < j → j < xss.length → (vs.getD i undef).ownBlock = some k → (vs.getD j undef).ownBlock ≠ some k)
    (hrow : OInts e lr hr w rv x) (hlr : hi ≤ lr) (hlo : lo ≤ lr) (hne : es ≠ e) (hg : w.grownBy w' v.ownBlock) (hown : w'.ownsRow lo es 1 v' (xss.length + 1) (vs ++ [rv])) :
    OIntSS es e lo w'.heap.size w' v' (xss ++ [x]) := by
  have hl : vs.length = xss.length := by have := h1.1.1; omega
  have ha : Apart w v.ownBlock e := ownsRow_apart h1.1 hne
  have hget : ∀ i, i < xss.length → (vs ++ [rv]).getD i undef = vs.getD i undef := fun i hi => by
    simp only [List.getD_eq_getElem?_getD]; rw [List.getElem?_append_left (by omega)]
  have hgetn : (vs ++ [rv]).getD xss.length undef = rv := by simp [← hl]
  refine ⟨vs ++ [rv], ?_, fun i hi => ?_, fun i j k hij hj hk => ?_⟩
  · rw [List.length_append]
    exact own_of_row hown
  · rw [List.length_append, List.length_singleton] at hi
    by_cases hin : i < xss.length
    · rw [hget i hin]
      have e2 : (xss ++ [x]).getD i [] = xss.getD i [] := by simp only [List.getD_eq_getElem?_getD]; rw [List.getElem?_append_left hin]
      rw [e2]
      exact own_of_row (Own.grown (h2 i hin) hg ha).1
    · obtain rfl : i = xss.length := by omega
      rw [hgetn]
      have e2 : (xss ++ [x]).getD xss.length [] = x := by simp
      rw [e2]
      exact Own.mono (own_of_row (Own.grown hrow hg ha).1) hlo (Nat.le_refl _)
  · rw [List.length_append, List.length_singleton] at hj
    rw [hget i (by omega)] at hk
    by_cases hjn : j < xss.length
    · rw [hget j hjn]
      exact h3 i j k hij hjn hk
    · obtain rfl : j = xss.length := by omega
      rw [hgetn]
      intro hk2
      have a1 := (Own.lt (h2 i hij) k hk).2.1
      have a2 := (Own.lt hrow k hk2).1
      omega
/-- A slice laid whole is the call's own. -/
theorem own_new {w : World} {b n size e base : Nat} {cs : List Value} (h : w.heap[b]? = some (.cells cs.toArray e (0, 0))) (hl : cs.length = n * size) (hb : base ≤ b) (hn : n ≤ maxLen) : w.ownsRow base e size (.slice (some ⟨b, 0, none⟩) n n) n cs :=
  ⟨hl, .inr ⟨b, n, cs.toArray, rfl, hb, h, Nat.le_refl _, hn, by simpa using hl, by simp [← hl]⟩⟩
end Go.Proofs.Ytclhcfmlkfiidaa
