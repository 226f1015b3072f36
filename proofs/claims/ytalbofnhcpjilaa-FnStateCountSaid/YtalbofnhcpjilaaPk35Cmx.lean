/-
  The walks over the program's CompileExpr and StateCount, and over the reference's StateCount.
  Condition: the list of parts reads as such.
-/
import Derived.Test.YtalbofnhcpjilaaPk32Ry
namespace Go.Proofs.Ytalbofnhcpjilaa
open Go.RowKit
def cntO (o : Option DfaD) : Int :=
  match o with
  | some d => (d.next.length : Int)
  | none => -1
set_option maxRecDepth 100000 in
set_option maxHeartbeats 4000000 in
theorem implStateCount_any (K : Nat) (hK : K = 40) (es : List (Int × Int)) (o : Option DfaD) (ho : CompO K es o) (z : Int) (hz : cntO o = z) (v : Value) (w : World) (h : Pairs 0 w v es) :
    Calls Try.prog 19 #[v] w fun e w' => e = .returned (.int .i64 z) ∧ Below w.heap.size w w' := by
  have Hc := Lib.hid (implCompileExpr_any K hK es o ho v w h)
  clear h ho
  cases o with
  | none =>
    subst hz
    go_enter Try.func19, Try.ntmps19
    go_wp2_with fail
    refine (Hc.out).mono ?_
    rintro e w2 ⟨⟨a1, c1, a2, c2, rfl, -⟩, hb2⟩
    have HS2 := Lib.hid (((St.start w).call hb2).alloc _ rfl #[.slice a1 0 c1, .slice a2 0 c2] 27)
    clear hb2
    go_wp2
    go_ret
    exact ⟨rfl, HS2.out.bel⟩
  | some D =>
    subst hz
    go_enter Try.func19, Try.ntmps19
    go_wp2_with fail
    refine (Hc.out).mono ?_
    rintro e w2 ⟨⟨a1, c1, a2, c2, rfl, -⟩, hb2⟩
    have HS2 := Lib.hid (((St.start w).call hb2).alloc _ rfl #[.slice a1 D.next.length c1, .slice a2 D.ends.length c2] 27)
    have e0 := HS2.out.cell (v := .slice a1 D.next.length c1) 0 0 rfl rfl
    clear hb2
    go_wp2
    go_ret
    exact ⟨rfl, HS2.out.bel⟩
set_option maxRecDepth 100000 in
set_option maxHeartbeats 4000000 in
theorem specStateCount_any (K : Nat) (hK : K = 40) (es : List (Int × Int)) (o : Option DfaD) (ho : CompO K es o) (z : Int) (hz : cntO o = z) (v : Value) (w : World) (hlen : es.length ≤ 2000000) (h : Pairs 0 w v es) :
    Calls Try.prog 18 #[v] w fun e w' => e = .returned (.int .i64 z) ∧ Below w.heap.size w w' := by
  have Hc := Lib.hid (specCompile_any K hK es o ho v w hlen h)
  clear h ho
  cases o with
  | none =>
    subst hz
    go_enter Try.func18, Try.ntmps18
    go_wp2_with fail
    refine (Hc.out).mono ?_
    rintro e w2 ⟨a1, c1, a2, c2, rfl, -, hb2⟩
    have HS2 := Lib.hid (((St.start w).call hb2).alloc _ rfl #[.slice a1 0 c1, .slice a2 0 c2] 27)
    clear hb2
    go_wp2
    go_ret
    exact ⟨rfl, HS2.out.bel⟩
  | some D =>
    subst hz
    go_enter Try.func18, Try.ntmps18
    go_wp2_with fail
    refine (Hc.out).mono ?_
    rintro e w2 ⟨a1, c1, a2, c2, rfl, -, hb2⟩
    have HS2 := Lib.hid (((St.start w).call hb2).alloc _ rfl #[.slice a1 D.next.length c1, .slice a2 D.ends.length c2] 27)
    have e0 := HS2.out.cell (v := .slice a1 D.next.length c1) 0 0 rfl rfl
    clear hb2
    go_wp2
    go_ret
    exact ⟨rfl, HS2.out.bel⟩
end Go.Proofs.Ytalbofnhcpjilaa
