/-
  The walks over the draws of one automaton.
  Condition: the argument reads as bytes.
-/
import Derived.Test.YtalbofnhcpjilaaRows
import Derived.Test.YtalbofnhcpjilaaPk23Dr
namespace Go.Proofs.Ytalbofnhcpjilaa
open Go.RowKit
set_option maxRecDepth 100000 in
set_option maxHeartbeats 4000000 in
theorem openJ_any (bs : List Nat) (v : Value) (w : World) (hb : Bytes 0 w v bs) (hlen : bs.length ≤ 100000000) :
    Calls Try.prog 56 #[v] w fun e w' => ∃ vb bs', bs'.length ≤ 2000 ∧ (∀ u : World, Bytes 0 u v bs → Bytes 0 u vb bs') ∧ e = .returned (.pointer (some ⟨w.heap.size, 0, none⟩)) ∧ St w w' [RdE w.heap.size vb 0] := by
  obtain ⟨a, c, rfl, hc1, hc2, -⟩ := hb.form
  have Hb := Lib.hid hb
  clear hb
  by_cases h2 : 2000 < bs.length
  · have q1 : (2000 : Int) < bs.length := by omega
    have q2 : (2000 : Int) ≤ c := by omega
    have hS := (St.start w).alloc _ rfl #[.slice a 2000 c, .int .i64 0] 117
    have HS := Lib.hid hS
    clear hS
    go_enter Try.func56, Try.ntmps56
    go_wp2
    go_ret
    exact ⟨_, bs.take 2000, by rw [List.length_take]; omega, fun u h => h.take (by omega), rfl, HS.out⟩
  · have q1 : (2000 < (bs.length : Int)) = False := by simp; omega
    have hS := (St.start w).alloc _ rfl #[.slice a bs.length c, .int .i64 0] 117
    have HS := Lib.hid hS
    have h2 : bs.length ≤ 2000 := by omega
    clear hS
    go_enter Try.func56, Try.ntmps56
    go_wp2
    go_ret
    exact ⟨_, bs, h2, fun u h => h, rfl, HS.out⟩
set_option maxRecDepth 100000 in
set_option maxHeartbeats 4000000 in
theorem nfaOfI_any (d : DfaD) (v : Value) (w : World) (hd : dfaOk d.next d.ends = true) (h : DfaR 0 w v d) :
    Calls Try.prog 28 #[v] w fun e w' => RNfaS (nfaOf d) w e w' := by
  have H := Lib.hid h
  obtain ⟨v1, v2, rfl, g1, g2⟩ := h
  have hS0 := ((St.start w).alloc _ rfl #[v1, v2] 27).alloc (w.heap.size + 1) (by simp) #[.int .i64 0, .slice none 0 0, .slice none 0 0, .slice none 0 0] 50
  have e0 := hS0.cell (v := v1) 0 0 rfl rfl
  have e1 := hS0.cell (v := v2) 0 1 rfl rfl
  have hno := fun (u : World) (hu : Below w.heap.size w u) => implNfa_any d (.agg #[v1, v2]) u hd (H.out.below hu)
  obtain ⟨N, hN⟩ : ∃ N, nfaOf d = N := ⟨_, rfl⟩
  rw [hN] at hno
  rw [hN]
  have Hno := Lib.hid hno
  have Hhd := Lib.hid hd; clear hd
  have HhN := Lib.hid hN; clear hN
  have HhS0 := Lib.hid hS0; clear hS0
  clear g1 g2 hno
  go_enter Try.func28, Try.ntmps28
  go_wp2_with fail
  refine (implDfaValid_any d _ _ (H.out.below HhS0.out.bel) _ Hhd.out).mono ?_
  rintro e w1 ⟨rfl, hb1⟩
  have HS1 := Lib.hid (HhS0.out.call hb1)
  clear hb1 e0 e1
  have e0 := HS1.out.cell (v := v1) 0 0 rfl rfl
  have e1 := HS1.out.cell (v := v2) 0 1 rfl rfl
  go_wp2_with fail
  refine (Hno.out _ HS1.out.bel).mono ?_
  rintro e w2 ⟨a1, c1, a2, c2, a3, c3, rfl, hS'⟩
  have HS2 := Lib.hid (HS1.out.cat hS')
  clear hS' e0 e1
  have f0 := HS2.out.fr 1 0 rfl
  have k0 := HS2.out.cell (v := .int .i64 0) 1 0 rfl rfl
  have f1 := HS2.out.fr 1 1 rfl
  have k1 := HS2.out.cell (v := .slice none 0 0) 1 1 rfl rfl
  have f2 := HS2.out.fr 1 2 rfl
  have k2 := HS2.out.cell (v := .slice none 0 0) 1 2 rfl rfl
  have f3 := HS2.out.fr 1 3 rfl
  have k3 := HS2.out.cell (v := .slice none 0 0) 1 3 rfl rfl
  have HS3 := Lib.hid ((((HS2.out.set 1 rfl 0 (.int .i64 N.states)).set 1 rfl 1 (.slice a1 N.moves.length c1)).set 1 rfl 2 (.slice a2 N.firsts.length c2)).set 1 rfl 3 (.slice a3 N.ends.length c3))
  have q0 := HS3.out.cell (v := .int .i64 N.states) 1 0 rfl rfl
  have q1 := HS3.out.cell (v := .slice a1 N.moves.length c1) 1 1 rfl rfl
  have q2 := HS3.out.cell (v := .slice a2 N.firsts.length c2) 1 2 rfl rfl
  have q3 := HS3.out.cell (v := .slice a3 N.ends.length c3) 1 3 rfl rfl
  go_wp2
  refine bodyPost_ret (v := .agg #[.int .i64 N.states, .slice a1 N.moves.length c1, .slice a2 N.firsts.length c2, .slice a3 N.ends.length c3]) (by simp [results, Try.results28, go_sem, q0, q1, q2, q3]) rfl ?_
  exact ⟨a1, c1, a2, c2, a3, c3, rfl, HS3.out.pick [2, 3, 4] (by decide)⟩
def nfaQ (d : DfaD) : NfaD := if dfaOk d.next d.ends = true then nfaOf d else ⟨0, [], [], []⟩
set_option maxRecDepth 100000 in
set_option maxHeartbeats 4000000 in
theorem implNfaOfQ_any (d : DfaD) (N : NfaD) (hN : nfaQ d = N) (v : Value) (w : World) (h : DfaR 0 w v d) :
    Calls Try.prog 28 #[v] w fun e w' => RNfaS N w e w' := by
  cases hok : dfaOk d.next d.ends
  case true =>
    rw [nfaQ, if_pos hok] at hN
    subst hN
    exact nfaOfI_any d v w hok h
  obtain rfl : N = ⟨0, [], [], []⟩ := by rw [← hN, nfaQ, if_neg (by rw [hok]; simp)]
  have H := Lib.hid h
  obtain ⟨v1, v2, rfl, g1, g2⟩ := h
  have hS0 := ((St.start w).alloc _ rfl #[v1, v2] 27).alloc (w.heap.size + 1) (by simp) #[.int .i64 0, .slice none 0 0, .slice none 0 0, .slice none 0 0] 50
  have e0 := hS0.cell (v := v1) 0 0 rfl rfl
  have e1 := hS0.cell (v := v2) 0 1 rfl rfl
  have HhS0 := Lib.hid hS0; clear hS0
  have Hhok := Lib.hid hok; clear hok
  clear g1 g2 hN
  go_enter Try.func28, Try.ntmps28
  go_wp2_with fail
  refine (implDfaValid_any d _ _ (H.out.below HhS0.out.bel) _ Hhok.out).mono ?_
  rintro e w1 ⟨rfl, hb1⟩
  have HS1 := Lib.hid (HhS0.out.call hb1)
  clear hb1 e0 e1
  have f0 := HS1.out.fr 1 0 rfl
  have k0 := HS1.out.cell (v := .int .i64 0) 1 0 rfl rfl
  have f1 := HS1.out.fr 1 1 rfl
  have k1 := HS1.out.cell (v := .slice none 0 0) 1 1 rfl rfl
  have f2 := HS1.out.fr 1 2 rfl
  have k2 := HS1.out.cell (v := .slice none 0 0) 1 2 rfl rfl
  have f3 := HS1.out.fr 1 3 rfl
  have k3 := HS1.out.cell (v := .slice none 0 0) 1 3 rfl rfl
  have HS3 := Lib.hid ((((HS1.out.set 1 rfl 0 (.int .i64 0)).set 1 rfl 1 (.slice none 0 0)).set 1 rfl 2 (.slice none 0 0)).set 1 rfl 3 (.slice none 0 0))
  have q0 := HS3.out.cell (v := .int .i64 0) 1 0 rfl rfl
  have q1 := HS3.out.cell (v := .slice none 0 0) 1 1 rfl rfl
  have q2 := HS3.out.cell (v := .slice none 0 0) 1 2 rfl rfl
  have q3 := HS3.out.cell (v := .slice none 0 0) 1 3 rfl rfl
  go_wp2
  refine bodyPost_ret (v := .agg #[.int .i64 0, .slice none 0 0, .slice none 0 0, .slice none 0 0]) (by simp [results, Try.results28, go_sem, q0, q1, q2, q3]) rfl ?_
  exact ⟨none, 0, none, 0, none, 0, rfl, (((HS3.out.pick [] (by decide)).nilRow _ 3).nilRow _ 1).nilRow _ 1⟩
end Go.Proofs.Ytalbofnhcpjilaa
namespace Go.Proofs.Ytalbofnhcpjilaa
open Go.ChangeShapes Go.WideShapes Go.ChangeAt Go.RowKit Go.Joins
theorem Try.own : ownKnob Try.prog.godebug = none := by kernel_rfl
section
variable {H : Type} {enc : TypeId × Value → H} {W : World}
end
end Go.Proofs.Ytalbofnhcpjilaa
namespace Go.Proofs.Ytalbofnhcpjilaa
open Go.ChangeShapes Go.WideShapes Go.ChangeAt Go.RowKit Go.Joins
theorem Try.cellsByte : Try.prog.cellsOf 5 = 1 := by kernel_rfl
theorem Try.recLBytes : Try.prog.readableRec 38 = true := by kernel_rfl
theorem Try.rowLBytes : (38 : TypeId) < Try.prog.types.size := of_decide_eq_true (by kernel_rfl)
section
variable {H : Type} {enc : TypeId × Value → H} {W : World}
set_option maxRecDepth 100000 in
theorem open_lbytes {held : Bool} {v : Value} {d : DataW H} {p : List MemPlace} (h : DataW.Trod enc Try.prog W 0 (fun _ => true) held 38 v d p) (hv : v.cells.toList = [v]) : ∃ bs, Bytes 0 W v bs := by
  obtain ⟨fuel, hf⟩ := h
  obtain ⟨u, bs, hu, hx⟩ := open_bytes_R Try.underlying38 Try.underlying5 Try.cellsByte hf
  rw [hv] at hu
  simp only [List.cons.injEq, and_true] at hu
  subst hu
  exact ⟨bs, hx⟩
end
end Go.Proofs.Ytalbofnhcpjilaa
