/-
  A map from things to their places in a list.
  No condition: this text speaks of no program.
-/
import Derived.Test.YtclhcfmlkfiidaaMap
import Derived.Test.YtclhcfmlkfiidaaBfs
namespace Go.Proofs.Ytclhcfmlkfiidaa
open Go.RowKit

section
variable {α : Type} [DecidableEq α]
def numbered (l : List α) : List (α × Value) := l.zipIdx.map fun p => (p.1, Value.int .i64 (p.2 : Int))
omit [DecidableEq α] in
theorem numbered_nil : numbered ([] : List α) = [] := rfl
omit [DecidableEq α] in
theorem numbered_snoc (l : List α) (x : α) : numbered (l ++ [x]) = numbered l ++ [(x, Value.int .i64 (l.length : Int))] := by simp [numbered, List.zipIdx_append]
omit [DecidableEq α] in
theorem numbered_keys (l : List α) : (numbered l).map (·.1) = l := by
  simp only [numbered, List.map_map]
  have : ((fun x : α × Value => x.1) ∘ fun p : α × Nat => (p.1, Value.int .i64 (p.2 : Int))) = Prod.fst := rfl
  rw [this, List.zipIdx_map_fst]
theorem look_numbered {l : List α} (hn : l.Nodup) {x : α} (hx : x ∈ l) : look x (numbered l) = some (.int .i64 (placeOf l x : Int)) := by
  refine look_hit (by rw [numbered_keys]; exact hn) (j := placeOf l x) ?_
  have hlt := List.idxOf_lt_length_iff.2 hx
  unfold placeOf
  simp only [numbered, List.getElem?_map, List.getElem?_zipIdx, List.getElem?_eq_getElem hlt, Option.map_some, Nat.zero_add, List.getElem_idxOf]
theorem look_unnumbered {l : List α} {x : α} (hx : x ∉ l) : look x (numbered l) = none :=
  look_miss fun p hp e => hx (by rw [← numbered_keys l, ← e]; exact List.mem_map.2 ⟨p, hp, rfl⟩)
theorem upd_unnumbered {l : List α} {x : α} (hx : x ∉ l) : upd x (.int .i64 (l.length : Int)) (numbered l) = numbered (l ++ [x]) := by
  rw [numbered_snoc]
  exact upd_miss fun p hp e => hx (by rw [← numbered_keys l, ← e]; exact List.mem_map.2 ⟨p, hp, rfl⟩)
end
end Go.Proofs.Ytclhcfmlkfiidaa
