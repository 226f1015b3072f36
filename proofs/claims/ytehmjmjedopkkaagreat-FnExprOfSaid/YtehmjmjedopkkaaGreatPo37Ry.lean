/-
  Opening the arguments of the exact laws, and closed facts for their rows.
  No condition.
  Opening an argument of bytes, and closed facts for its rows.
  No condition.
-/
import Derived.Test.YtehmjmjedopkkaaGreatRows
import Derived.Test.YtehmjmjedopkkaaGreatPo14Rdi
set_option maxRecDepth 100000
namespace Go.Proofs.YtehmjmjedopkkaaGreat
open Go.ChangeShapes Go.WideShapes Go.ChangeAt Go.RowKit Go.Joins
theorem Tryz.own:ownKnob Tryz.prog.godebug=none:=by kernel_rfl
section
variable {H:Type} {enc:TypeId × Value→H} {W:World}
end
end Go.Proofs.YtehmjmjedopkkaaGreat
namespace Go.Proofs.YtehmjmjedopkkaaGreat
open Go.ChangeShapes Go.WideShapes Go.ChangeAt Go.RowKit Go.Joins
theorem Tryz.cellsByte:Tryz.prog.cellsOf 5 = 1:=by kernel_rfl
theorem Tryz.recLBytes:Tryz.prog.readableRec 22 = true:=by kernel_rfl
theorem Tryz.rowLBytes:(22:TypeId)<Tryz.prog.types.size:=of_decide_eq_true (by kernel_rfl)
section
variable {H:Type} {enc:TypeId × Value→H} {W:World}
theorem Zgg {held:Bool} {v:Value} {d:DataW H} {p:List MemPlace} (h:DataW.Trod enc Tryz.prog W 0 (fun _=>true) held 22 v d p) (hv:v.cells.toList=[v]):∃ bs,Bytes 0 W v bs:=by obtain⟨fuel,hf⟩:=h;obtain⟨u,bs,hu,hx⟩:=Zi5 Tryz.underlying22 Tryz.underlying5 Tryz.cellsByte hf;rw[hv] at hu;simp only[List.cons.injEq,and_true] at hu;subst hu;exact⟨bs,hx⟩
end
end Go.Proofs.YtehmjmjedopkkaaGreat
