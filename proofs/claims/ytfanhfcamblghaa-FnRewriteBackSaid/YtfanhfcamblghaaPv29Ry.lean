/-
  Opening the arguments of the exact laws, and closed facts for their rows.
  No condition.
  Opening an argument of bytes, and closed facts for its rows.
  No condition.
-/
import Derived.Test.YtfanhfcamblghaaRows
import Derived.Test.YtfanhfcamblghaaPv02Nk
set_option maxRecDepth 100000
namespace Go.Proofs.Ytfanhfcamblghaa
open Go.ChangeShapes Go.WideShapes Go.ChangeAt Go.RowKit Go.Joins
theorem Try.own:ownKnob Try.prog.godebug=none:=by kernel_rfl
section
variable {H:Type} {enc:TypeId × Value→H} {W:World}
end
end Go.Proofs.Ytfanhfcamblghaa
namespace Go.Proofs.Ytfanhfcamblghaa
open Go.ChangeShapes Go.WideShapes Go.ChangeAt Go.RowKit Go.Joins
theorem Try.cellsByte:Try.prog.cellsOf 5 = 1:=by kernel_rfl
theorem Try.recLBytes:Try.prog.readableRec 22 = true:=by kernel_rfl
theorem Try.rowLBytes:(22:TypeId)<Try.prog.types.size:=of_decide_eq_true (by kernel_rfl)
section
variable {H:Type} {enc:TypeId × Value→H} {W:World}
theorem Zd8 {held:Bool} {v:Value} {d:DataW H} {p:List MemPlace} (h:DataW.Trod enc Try.prog W 0 (fun _=>true) held 22 v d p) (hv:v.cells.toList=[v]):∃ bs,Bytes 0 W v bs:=by obtain⟨fuel,hf⟩:=h;obtain⟨u,bs,hu,hx⟩:=Zga Try.underlying22 Try.underlying5 Try.cellsByte hf;rw[hv] at hu;simp only[List.cons.injEq,and_true] at hu;subst hu;exact⟨bs,hx⟩
end
end Go.Proofs.Ytfanhfcamblghaa
