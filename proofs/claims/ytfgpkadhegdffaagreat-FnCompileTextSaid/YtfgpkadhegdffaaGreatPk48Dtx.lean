/-
  The walks over the reference's draws of texts.
  Condition: the argument reads as bytes.
-/
import Derived.Test.YtfgpkadhegdffaaGreatPk47Jt
set_option maxHeartbeats 4000000
set_option maxRecDepth 100000
namespace Go.Proofs.YtfgpkadhegdffaaGreat
open Go.RowKit
theorem ZcS (bs:List Nat) (v:Value) (w:World) (hb:Bytes 0 w v bs) (hlen:bs.length≤100000000) :
  Calls Tryz.prog 19 #[v] w fun e w'=>(∃ s:List Nat,isT s∧s.length≤300∧e = .returned (.string (txB s)))∧Below w.heap.size w w':=by
 have Hb:=qh hb;clear hb
 go_enter Tryz.func19, Tryz.ntmps19
 go_wp2_with fail;refine(ZlS bs v _ Hb.out hlen).mono ?_;rintro e w1 ⟨vb,bs',hl',hB,rfl,hS'⟩;have HB:=qh hB;have HS1:=qh hS';clear hB hS';go_wp2_with fail;refine(Zk9 bs' vb w.heap.size 0 6 w w1 _ HB.out hl' (by omega) (by omega) (St.pack (A:=[RdE w.heap.size vb 0]) (R:=[]) HS1.out)).mono ?_;rintro e w2 ⟨s,p',hs,hsl,hp,rfl,hS2⟩;have HS2:=qh hS2;have Hs:=qh hs;clear hS2 hs HS1;go_wp2;go_ret;exact⟨⟨s,Hs.out,hsl,rfl⟩,HS2.out.bel⟩
end Go.Proofs.YtfgpkadhegdffaaGreat
