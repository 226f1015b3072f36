/-
  The walk over the law FnExactTextAccepts.
  Condition: the texts are ones of bytes.
-/
import Derived.Test.YtfgpkadhegdffaaPt18Ry
set_option maxHeartbeats 4000000
set_option maxRecDepth 100000
namespace Go.Proofs.Ytfgpkadhegdffaa
open Go.RowKit
theorem Zbv (s l:List Nat) (w:World) (hs:isT s) (hl:isT l) :
  Calls Try.prog 6 #[.string (txB s),.string (txB l)] w fun e w'=>e = .returned (.bool true)∧Below w.heap.size w w':=by
 have hss:=Zah s;have hsl:=Zah l;by_cases h1:1048576<(s.length:Int)
 ·go_enter Try.func6, Try.ntmps6
  go_wp2;go_ret;exact⟨rfl,Below.refl _ _⟩
 by_cases h2:1048576<(l.length:Int)
 ·go_enter Try.func6, Try.ntmps6
  go_wp2;go_ret;exact⟨rfl,Below.refl _ _⟩
 obtain⟨r,hr⟩:=ZfU s l;have hlen:l.length≤2000000:=by omega
 have HI:=qh (fun u=>Za1 s l u r hr hs hl hlen);have HS:=qh (fun u=>ZaY s l u r hr hs hl hlen);have hbb:(r != r)=false:=by simp
 clear hr hlen
 go_enter Try.func6, Try.ntmps6
 go_wp2_with fail;refine(HS.out _).mono ?_;rintro e w1 ⟨rfl,hb1⟩;have HB:=qh hb1;clear hb1;go_wp2_with fail;refine(HI.out _).mono ?_;rintro e w2 ⟨rfl,hb2⟩;have HB2:=qh (HB.out.trans (hb2.mono HB.out.size));clear hb2;go_wp2;go_ret;exact⟨rfl,HB2.out⟩
end Go.Proofs.Ytfgpkadhegdffaa
