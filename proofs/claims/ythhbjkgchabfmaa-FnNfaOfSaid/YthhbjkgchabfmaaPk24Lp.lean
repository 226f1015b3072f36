/-
  Small facts about slices in memory: what a slice value reads as, and that it still reads so in a later world.
  No condition: this text speaks of no program.
  What a call made for itself: slices in blocks of numbers from lo on and below hi, that may be written.
  No condition: this text speaks of no program.
  A map that a call makes, as a list of keys and values in the order in which the keys came: looking a key up, and storing.
  Conditions: the keys are encoded data that can be keys of the map's type; no key stands there twice.
  What a call made for itself, where one of its slices grows or one of its variables is written: blocks of different types are different blocks.
  No condition: this text speaks of no program.
  The language of an automaton with choices, plain: ways through it, and what joins, repeats, unites and turns languages.
  No condition: this text speaks of no program.
-/
import Derived.Test.YthhbjkgchabfmaaPk03S8
namespace Go.Proofs.Ythhbjkgchabfmaa
open Go.RowKit
















/-! Slices of structs of ints -/



/-! Comparing lists place by place -/
end Go.Proofs.Ythhbjkgchabfmaa
namespace Go.Proofs.Ythhbjkgchabfmaa
open Go.RowKit








theorem RowsTo.step {es e B n k : Nat} {xss : List (List Int)} {w w2 : World} {cs : List Value} {v2 : Value} (h : RowsTo es e B n xss k w cs) (hB : B < w.heap.size) (hk : k < n)
    (hb : Below w.heap.size w w2) (hv : OInts e w.heap.size w2.heap.size w2 v2 (xss.getD k [])) : RowsTo es e B n xss (k + 1) (w2.setCell ⟨B, k, none⟩ v2) (cs.set k v2) := by
  have h' := h.below hb
  obtain ⟨h1, h2, h3⟩ := h'
  have hlen : cs.length = n := by have := h1.1; omega
  have hsz : (w2.setCell ⟨B, k, none⟩ v2).heap.size = w2.heap.size := by simp [World.setCell]
  have hget : ∀ i, i < k → (cs.set k v2).getD i undef = cs.getD i undef := fun i hi => by
    simp [List.getElem?_set_ne (show k ≠ i by omega)]
  have hgetk : (cs.set k v2).getD k undef = v2 := by simp [show k < cs.length by omega]
  have hset : ∀ j, j ≠ B → (w2.setCell ⟨B, k, none⟩ v2).heap[j]? = w2.heap[j]? := fun j hj => Below.heap_setCell _ _ _ _ hj
  refine ⟨(h1.stored k v2).1, fun i hi => ?_, fun i j b hij hj hb1 => ?_⟩
  · rw [hsz]
    by_cases hik : i < k
    · rw [hget i hik]
      exact Own.kept (h2 i hik) fun m hm => hset m (by have := (Own.lt (h2 i hik) m hm).1; omega)
    · obtain rfl : i = k := by omega
      rw [hgetk]
      exact Own.kept (Own.mono hv (by omega) (Nat.le_refl _)) fun m hm => hset m (by have := (Own.lt hv m hm).1; omega)
  · by_cases hjk : j < k
    · rw [hget i (by omega)] at hb1
      rw [hget j hjk]
      exact h3 i j b hij hjk hb1
    · obtain rfl : j = k := by omega
      rw [hget i hij] at hb1
      rw [hgetk]
      intro hb2
      have a1 := (Own.lt (h.2.1 i hij) b hb1).2.1
      have a2 := (Own.lt hv b hb2).1
      omega

end Go.Proofs.Ythhbjkgchabfmaa
namespace Go.Proofs.Ythhbjkgchabfmaa
open Go.RowKit Go.Maps

section
variable {α : Type} [DecidableEq α]


variable {P : Program} {kt : TypeId} {enc : α → Value} {w : World} {b : Nat} {L : List (α × Value)}




end
end Go.Proofs.Ythhbjkgchabfmaa
namespace Go.Proofs.Ythhbjkgchabfmaa
open Go.RowKit




end Go.Proofs.Ythhbjkgchabfmaa

namespace Go.Proofs.Ythhbjkgchabfmaa
open Go.RowKit

/-- A way through an automaton that spells a word. -/
inductive Pth (ms : List (Int × Int × Int)) : Int → List Nat → Int → Prop
  | here (s : Int) : Pth ms s [] s
  | eps {s t u : Int} {w : List Nat} : (s, -1, t) ∈ ms → Pth ms t w u → Pth ms s w u
  | step {s t u : Int} {c : Nat} {w : List Nat} : (s, (c : Int), t) ∈ ms → Pth ms t w u → Pth ms s (c :: w) u

theorem Pth.mono {ms ns : List (Int × Int × Int)} (hs : ∀ m ∈ ms, m ∈ ns) {s t : Int} {x : List Nat} (h : Pth ms s x t) : Pth ns s x t := by
  induction h with
  | here s => exact .here s
  | eps hm _ ih => exact .eps (hs _ hm) ih
  | step hm _ ih => exact .step (hs _ hm) ih
/-- A map of states that keeps moves, but for moves without a letter that it makes to nothing. -/
theorem Pth.map {ms ns : List (Int × Int × Int)} (f : Int → Int) (hs : ∀ m ∈ ms, (f m.1, m.2.1, f m.2.2) ∈ ns ∨ (m.2.1 = -1 ∧ f m.1 = f m.2.2)) {s t : Int} {x : List Nat} (h : Pth ms s x t) : Pth ns (f s) x (f t) := by
  induction h with
  | here s => exact .here _
  | eps hm _ ih =>
    rcases hs _ hm with h | ⟨_, h⟩
    · exact .eps h ih
    · exact h ▸ ih
  | step hm _ ih =>
    rcases hs _ hm with h | ⟨h, _⟩
    · exact .step h ih
    · simp only at h; omega
theorem Pth.in {ms : List (Int × Int × Int)} {n : Nat} (hm : mvIn n ms) {s t : Int} {x : List Nat} (h : Pth ms s x t) (hs : 0 ≤ s ∧ s < (n : Int)) : 0 ≤ t ∧ t < (n : Int) := by
  induction h with
  | here s => exact hs
  | eps h _ ih => exact ih (hm _ h).2
  | step h _ ih => exact ih (hm _ h).2

















end Go.Proofs.Ythhbjkgchabfmaa
