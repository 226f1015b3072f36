/-
  The walk over the law FnExactSmallText.
  Condition: the text is one of bytes.
-/
import Derived.Test.YtncekbbhgipdlaaGreatRows
import Derived.Test.YtncekbbhgipdlaaGreatPs36Stw
set_option maxHeartbeats 4000000
set_option maxRecDepth 100000
namespace Go.Proofs.YtncekbbhgipdlaaGreat
open Go.RowKit
theorem Zd8 (s:List Nat) (w:World) (hs:isT s) :
  Calls Tryz.prog 3 #[.string (txB s)] w fun e w'=>e = .returned (.bool true)∧Below w.heap.size w w':=by
 have hss:=ZaG s;by_cases h1:1048576<(s.length:Int)
 ·go_enter Tryz.func3, Tryz.ntmps3
  go_wp2;go_ret;exact⟨rfl,Below.refl _ _⟩
 obtain⟨T,ok,hA⟩:=ZnY 40 s;have HI:=qh (fun u=>ZeY 40 rfl s T ok hA u hs);have HS:=qh (fun u=>ZeK 40 rfl s T ok hA u hs);obtain⟨q,hq⟩:=eJ (txB T);rw[hq] at HI HS;have hnn:(ok != ok)=false:=by simp
 have hqq:(q.toList==q.toList)=true:=by simp
 have hqn:(q.toList != q.toList)=false:=by simp
 clear hA hq
 go_enter Tryz.func3, Tryz.ntmps3
 go_wp2_with fail;refine(HS.out _).mono ?_;rintro e w1 ⟨rfl,hb1⟩;have HB:=qh hb1;clear hb1;go_wp2_with fail;refine(HI.out _).mono ?_;rintro e w2 ⟨rfl,hb2⟩;have HB2:=qh (HB.out.trans (hb2.mono HB.out.size));clear hb2;go_wp2;go_ret;exact⟨rfl,HB2.out⟩
end Go.Proofs.YtncekbbhgipdlaaGreat
namespace Go.Proofs.YtncekbbhgipdlaaGreat
open Go.ChangeShapes Go.WideShapes Go.ChangeAt Go.RowKit Go.Joins
theorem Tryz.own:ownKnob Tryz.prog.godebug=none:=by kernel_rfl
section
variable {H:Type} {enc:TypeId × Value→H} {W:World}
end
end Go.Proofs.YtncekbbhgipdlaaGreat
namespace Go.Proofs.YtncekbbhgipdlaaGreat
open Go.ChangeShapes Go.WideShapes Go.ChangeAt Go.RowKit Go.Joins
section
variable {H:Type} {enc:TypeId × Value→H} {W:World}
end
end Go.Proofs.YtncekbbhgipdlaaGreat
