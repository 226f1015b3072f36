/-
  Small laws for regions that draw their order and only read.
  No condition: this text speaks of no program.
-/
import Derived.Test.YtclhcfmlkfiidaaLib
import Derived.Deep.RegionHeld3
import Derived.BigQuiet
namespace Go.Proofs.Ytclhcfmlkfiidaa
open Go.RowKit

theorem quiet_eq {P : Program} {f : FuncId} {args : Array Value} {w : World} {n : Nat} {v : Value}
    (h : Calls P f args (w.drewN n) fun e w' => e = .returned v ∧ w.drewN n = w') : Calls P f args (w.drewN n) fun e w'' => e = .returned v ∧ ∃ m, w'' = w.drewN m :=
  h.mono fun _ _ ⟨he, hm⟩ => ⟨he, n, hm.symm⟩
end Go.Proofs.Ytclhcfmlkfiidaa
