/-
  The walks over impl's firstPair, differ, SameLanguage and MakePairs.
  Conditions: the automata read as such; for the first two they are valid.
-/
import Derived.Test.YtjcegbcmomfgaaaPrd
import Derived.Test.YtjcegbcmomfgaaaFw
namespace Go.Proofs.Ytjcegbcmomfgaaa
open Go.RowKit Go.Maps

/-- The first pair that two automata meet in which one ends and the other does not. -/
def hitK (K : Nat) (a b : DfaD) : Option (List Nat) := firstHit (endsF (fun x y => x != y) a b) (bat (stepP a b) (0, 0) K)
def mostP : Nat := 1600
def hitP (a b : DfaD) : Option (List Nat) := hitK mostP a b
def sameB (a b : DfaD) : Bool := dfaOk a.next a.ends && dfaOk b.next b.ends && (hitP a b).isNone
def allP (n m : Nat) : List (Int × Int) := (List.range n).flatMap fun (i : Nat) => (List.range m).map fun (j : Nat) => ((i : Int), (j : Int))
theorem sum_const (m : Nat) : ∀ l : List Nat, (l.map fun _ => m).sum = l.length * m
  | [] => by simp
  | _ :: l => by simp only [List.map_cons, List.sum_cons, sum_const m l, List.length_cons, Nat.succ_mul]; omega
theorem allP_len (n m : Nat) : (allP n m).length = n * m := by
  unfold allP
  rw [List.length_flatMap]
  simp only [List.length_map, List.length_range]
  rw [sum_const, List.length_range]
theorem metP_len {a b : DfaD} (hda : dfaOk a.next a.ends = true) (hdb : dfaOk b.next b.ends = true) (k : Nat) : (metP a b k).length ≤ 1600 := by
  have h := nodup_le (m := allP a.next.length b.next.length) (bat_good (nx := stepP a b) (a := (0, 0)) k).1 fun x hx => by
    obtain ⟨i, j, rfl, hi, hj⟩ := inPair_nat (bat_all (Q := fun x => inPair a b x = true) (inPair_zero hda hdb) (fun x c hc hx => inPair_step hda hdb hc hx) k x hx)
    unfold allP
    rw [List.mem_flatMap]
    exact ⟨i, List.mem_range.2 hi, List.mem_map.2 ⟨j, List.mem_range.2 hj, rfl⟩⟩
  rw [allP_len] at h
  have h1 := dfaOk_len hda
  have h2 := dfaOk_len hdb
  have := Nat.mul_le_mul h1.2.1 h2.2.1
  unfold metP
  omega


/-- The two forms of a word and whether there is one. -/
theorem wordRes_cases (o : Option (List Nat)) : ∃ s : ByteArray, wordRes o = .returned (.tuple #[.string s, .bool o.isSome]) := by
  cases o with
  | none => exact ⟨_, rfl⟩
  | some l => exact ⟨_, rfl⟩

end Go.Proofs.Ytjcegbcmomfgaaa
