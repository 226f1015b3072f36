/-
  Automata with choices that lie in the call's own blocks, as readable ones.
  No condition.
-/
import Derived.Test.YthigcohfjoodlaaCv
namespace Go.Proofs.Ythigcohfjoodlaa
open Go.RowKit

theorem nfaR_rows {w0 w : World} {L : List Ent} {n : NfaD} {a1 a2 a3 : Option Addr} {c1 c2 c3 : Nat} (hS : St w0 w L) (i j k : Nat) {t1 t2 t3 : Nat}
    (h1 : L[i]? = some (Ent.row t1 3 (.slice a1 n.moves.length c1) n.moves.length (n.moves.flatMap moveCells))) (h2 : L[j]? = some (Ent.row t2 1 (.slice a2 n.firsts.length c2) n.firsts.length (intCells n.firsts))) (h3 : L[k]? = some (Ent.row t3 1 (.slice a3 n.ends.length c3) n.ends.length (intCells n.ends)))
    (hb1 : -9223372036854775808 ≤ n.states) (hb2 : n.states ≤ 9223372036854775807) : NfaR 0 w (.agg #[.int .i64 n.states, .slice a1 n.moves.length c1, .slice a2 n.firsts.length c2, .slice a3 n.ends.length c3]) n :=
  ⟨_, _, _, rfl, moves_of_row (hS.row i h1), ints_of_row' (hS.row j h2), ints_of_row' (hS.row k h3), hb1, hb2⟩

theorem row_ints {w0 w : World} {L : List Ent} (hS : St w0 w L) (i : Nat) {t c : Nat} {a : Option Addr} {xs : List Int} (hx : L[i]? = some (Ent.row t 1 (.slice a xs.length c) xs.length (intCells xs))) {k : Nat} (hk : k < xs.length) :
    ∃ g, a = some ⟨g, 0, none⟩ ∧ w.cell? ⟨g, k, none⟩ = some (.int .i64 (xs.getD k 0)) := by
  obtain ⟨g, cap, h⟩ := hS.rowform i hx (by omega)
  injection h with h1 h2 h3
  subst h1
  subst h3
  exact ⟨g, rfl, hS.rcell i k hx (by omega) (by simp [intCells, hk])⟩
theorem row_mvs {w0 w : World} {L : List Ent} (hS : St w0 w L) (i : Nat) {t c : Nat} {a : Option Addr} {xs : List (Int × Int × Int)} (hx : L[i]? = some (Ent.row t 3 (.slice a xs.length c) xs.length (xs.flatMap moveCells))) {k : Nat} (hk : k < xs.length) :
    ∃ g o, a = some ⟨g, o, none⟩ ∧ w.cell? ⟨g, o + k * 3, none⟩ = some (.int .i64 (xs.getD k (0, 0, 0)).1) ∧ w.cell? ⟨g, o + k * 3 + 1, none⟩ = some (.int .i64 (xs.getD k (0, 0, 0)).2.1) ∧ w.cell? ⟨g, o + k * 3 + 2, none⟩ = some (.int .i64 (xs.getD k (0, 0, 0)).2.2) := by
  obtain ⟨a', c', hv, -, -, hr⟩ := (moves_of_row (hS.row i hx)).form
  injection hv with h1 _ h3
  subst h1
  obtain ⟨b, o, rfl, -, -, hcs⟩ := hr (by omega)
  exact ⟨b, o, rfl, hcs k hk⟩
end Go.Proofs.Ythigcohfjoodlaa
