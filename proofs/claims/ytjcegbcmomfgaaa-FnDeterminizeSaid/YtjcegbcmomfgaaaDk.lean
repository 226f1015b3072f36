/-
  The walk over the reference's l20Set: some states are drawn.
  Conditions: the reader is among the things that the call owns; the number of states is small.
  The walk over the reference's DrawNfaClose: an automaton with choices and some states are drawn.
  Condition: the bytes read as such.
-/
import Derived.Test.YtjcegbcmomfgaaaLm
import Derived.Test.YtjcegbcmomfgaaaNj
import Derived.Test.YtjcegbcmomfgaaaDn
import Derived.Test.YtjcegbcmomfgaaaNm
namespace Go.Proofs.Ytjcegbcmomfgaaa
open Go.RowKit

end Go.Proofs.Ytjcegbcmomfgaaa
namespace Go.Proofs.Ytjcegbcmomfgaaa
open Go.RowKit

set_option maxRecDepth 100000 in
set_option maxHeartbeats 4000000 in
theorem open2_any (bs : List Nat) (v : Value) (w : World) (hb : Bytes 0 w v bs) (hlen : bs.length ≤ 100000000) :
    Calls Try.prog 35 #[v] w fun e w' => ∃ vb bs', bs'.length ≤ 2000 ∧ (∀ u : World, Bytes 0 u v bs → Bytes 0 u vb bs') ∧ e = .returned (.pointer (some ⟨w.heap.size, 0, none⟩)) ∧ St w w' [RdE w.heap.size vb 0] := by
  obtain ⟨a, c, rfl, hc1, hc2, -⟩ := hb.form
  have Hb := Lib.hid hb
  clear hb
  by_cases h2 : 2000 < bs.length
  · have q1 : (2000 : Int) < bs.length := by omega
    have q2 : (2000 : Int) ≤ c := by omega
    have hS := (St.start w).alloc _ rfl #[.slice a 2000 c, .int .i64 0] 96
    have HS := Lib.hid hS
    clear hS
    go_enter Try.func35, Try.ntmps35
    go_wp2
    go_ret
    exact ⟨_, bs.take 2000, by rw [List.length_take]; omega, fun u h => h.take (by omega), rfl, HS.out⟩
  · have q1 : (2000 < (bs.length : Int)) = False := by simp; omega
    have hS := (St.start w).alloc _ rfl #[.slice a bs.length c, .int .i64 0] 96
    have HS := Lib.hid hS
    have h2 : bs.length ≤ 2000 := by omega
    clear hS
    go_enter Try.func35, Try.ntmps35
    go_wp2
    go_ret
    exact ⟨_, bs, h2, fun u h => h, rfl, HS.out⟩
end Go.Proofs.Ytjcegbcmomfgaaa
