/-
  A queue: a slice of the call's own whose head moves on, 'q = q[1:]', and that grows, 'q = append(q, x)'. Elements of one cell.
  No condition: this text speaks of no program.
  The walk over impl's firstWord: the first word of an automaton in breadth.
  Conditions: the automaton reads as such; every row has three entries, all of them states; there are as many truth values as rows, from 1 to 100000.
-/
import Derived.Test.YthhbjkgchabfmaaPk18Ry
namespace Go.Proofs.Ythhbjkgchabfmaa
open Go.RowKit

theorem Qs.grown {lo : Nat} {w w' : World} {e : TypeId} {v : Value} {xs : List Value} {row : Option Nat} (h : Qs lo w e v xs) (hg : w.grownBy w' row) (ha : Apart w row e) : Qs lo w' e v xs :=
  h.kept fun k hk => by
    obtain ⟨cur, hc⟩ := h.obj hk
    exact hg.block k (Array.getElem?_eq_some_iff.1 hc).1 fun hr => ha k hr.symm _ _ hc
end Go.Proofs.Ythhbjkgchabfmaa

namespace Go.Proofs.Ythhbjkgchabfmaa
open Go.RowKit


theorem FwW.q2 {d : DfaD} {W0 bw bs k : Nat} {bx : Array Value} {w w4 w5 : World} {s : Bs Int} {vq : Value} (h : FwW d W0 bw bs bx w s k vq) (x : Nat) {u v : Value} (_ : bw ≠ bs)
    (h5 : w5 = (w4.setCell ⟨bw, x, none⟩ u).drew) (h4 : w4 = w.setCell ⟨bs, x, none⟩ v) : Qs W0 w5 3 vq ((s.met.drop k).map (Value.int .i64)) := by
  obtain ⟨⟨cs, h1, h2⟩, ⟨ms, h3, h4'⟩, hq, h6⟩ := h
  subst h4
  subst h5
  have a1 : (w.setCell ⟨bs, x, none⟩ v).ownsRow W0 9 1 (.slice (some ⟨bw, 0, none⟩) d.next.length d.next.length) d.next.length cs := ownsRow_grown h1 (grown_set w bs x _) (fun k hk => by cases hk; exact ownsRow_apart (e' := 9) h3 (by decide) bs rfl)
  exact ((hq.grown (grown_set w bs x v) (fun k hk => by cases hk; exact ownsRow_apart (e' := 3) h3 (by decide) bs rfl)).grown (grown_set (w.setCell ⟨bs, x, none⟩ v) bw x u) (fun k hk => by cases hk; exact ownsRow_apart (e' := 3) a1 (by decide) bw rfl)).below (Below.refl _ _).drew

end Go.Proofs.Ythhbjkgchabfmaa
