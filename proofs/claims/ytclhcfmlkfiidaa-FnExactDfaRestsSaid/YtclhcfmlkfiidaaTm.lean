/-
  The walks over the program's trim and the functions that it hands to explored.
  Condition: the automaton is valid and reads as such.
-/
import Derived.Test.YtclhcfmlkfiidaaExpT
import Derived.Test.YtclhcfmlkfiidaaPk38
import Derived.Test.YtclhcfmlkfiidaaTy
namespace Go.Proofs.Ytclhcfmlkfiidaa
open Go.RowKit

theorem DfaC.below {w w' : World} {d : DfaD} {b1 o1 cv b2 o2 cw : Nat} (h : DfaC w d b1 o1 cv b2 o2 cw) (hb : Below w.heap.size w w') : DfaC w' d b1 o1 cv b2 o2 cw where
  l1 := h.l1
  l2 := h.l2
  le := h.le
  c1 := h.c1
  c2 := h.c2
  hb1 := Nat.lt_of_lt_of_le h.hb1 hb.size
  hb2 := Nat.lt_of_lt_of_le h.hb2 hb.size
  row := fun i hi => by
    obtain ⟨b3, o3, c3, p1, p2, p3, p4, p5⟩ := h.row i hi
    exact ⟨b3, o3, c3, Nat.lt_of_lt_of_le p1 hb.size, p2, p3, (bcell hb b1 _ h.hb1).trans p4, fun c hc => (bcell hb b3 _ p1).trans (p5 c hc)⟩
  en := fun i hi => (bcell hb b2 _ h.hb2).trans (h.en i hi)
  lt := h.lt
  dx := h.dx
/-- An automaton as a function's result, the call's own. -/
def RDo (D : DfaD) (w : World) (e : Ending) (w' : World) : Prop := ∃ a1 c1 a2 c2, e = .returned (.agg #[.slice a1 D.next.length c1, .slice a2 D.ends.length c2]) ∧
  DfaO 44 3 4 w.heap.size w'.heap.size w' (.agg #[.slice a1 D.next.length c1, .slice a2 D.ends.length c2]) D ∧ Below w.heap.size w w'
set_option maxHeartbeats 1600000 in
theorem trim1_any (d : DfaD) (b1 o1 cv b2 o2 cw bd x c : Nat) (w : World) (hC : DfaC w d b1 o1 cv b2 o2 cw) (hx : x < d.next.length) (hc : c < 3) (hb : Bx w bd #[.slice (some ⟨b1, o1, none⟩) d.next.length cv, .slice (some ⟨b2, o2, none⟩) d.next.length cw] 32) :
    Calls Try.prog 98 #[.int .i64 (x : Nat), .int .i64 (c : Nat), .pointer (some ⟨bd, 0, none⟩)] w fun e w' => e = .returned (.int .i64 (dnx d (x : Int) c)) ∧ Below w.heap.size w w' := by
  have c0 := hb.cell 0
  simp only [List.getElem?_toArray, List.getElem?_cons_zero] at c0
  obtain ⟨b3, o3, c3, p1, p2, p3, p4, p5⟩ := hC.row x hx
  have p6 := p5 c hc
  rw [hC.dx x c hx hc]
  obtain ⟨y, hy⟩ : ∃ y, y = nxD d x c := ⟨_, rfl⟩
  rw [← hy] at p6
  rw [← hy]
  have hc3 : (c : Int) < 3 := by omega
  have hxL : (x : Int) < d.next.length := by omega
  have hl2 := hC.l2
  have Hhy := Lib.hid hy; clear hy
  clear p5 hC hb
  go_enter Try.func98, Try.ntmps98
  go_wp2
  go_ret
  exact ⟨rfl, Below.refl _ _⟩
set_option maxHeartbeats 1600000 in
theorem trim2_any (d : DfaD) (b1 o1 cv b2 o2 cw bd x : Nat) (w : World) (hC : DfaC w d b1 o1 cv b2 o2 cw) (hx : x < d.next.length) (hb : Bx w bd #[.slice (some ⟨b1, o1, none⟩) d.next.length cv, .slice (some ⟨b2, o2, none⟩) d.next.length cw] 32) :
    Calls Try.prog 99 #[.int .i64 (x : Nat), .pointer (some ⟨bd, 0, none⟩)] w fun e w' => e = .returned (.bool (den d (x : Int))) ∧ Below w.heap.size w w' := by
  have c0 := hb.cell 1
  simp only [List.getElem?_toArray, List.getElem?_cons_zero, List.getElem?_cons_succ] at c0
  have p6 := hC.en x hx
  have hz : den d (x : Int) = enD d x := by simp [den, enD]
  rw [hz]
  obtain ⟨y, hy⟩ : ∃ y, y = enD d x := ⟨_, rfl⟩
  rw [← hy] at p6
  rw [← hy]
  have hxL : (x : Int) < d.next.length := by omega
  have hl2 := hC.l2
  have Hhy := Lib.hid hy; clear hy
  have Hhz := Lib.hid hz; clear hz
  clear hC hb
  go_enter Try.func99, Try.ntmps99
  go_wp2
  go_ret
  exact ⟨rfl, Below.refl _ _⟩
set_option maxRecDepth 100000 in
set_option maxHeartbeats 4000000 in
theorem implTrim_any (d : DfaD) (v : Value) (w : World) (hd : dfaOk d.next d.ends = true) (h : DfaR 0 w v d) :
    Calls Try.prog 64 #[v] w fun e w' => RDo (trimD d) w e w' := by
  obtain ⟨b1, o1, cv, b2, o2, cw, rfl, hC⟩ := dfa_open hd h
  have hl1 := hC.l1
  have hl2 := hC.l2
  have hFl := (met_facts (fine_of hd) d.next.length).2
  have hS0 := ((St.start w).alloc _ rfl #[.slice (some ⟨b1, o1, none⟩) d.next.length cv, .slice (some ⟨b2, o2, none⟩) d.next.length cw] 32).alloc (w.heap.size + 1) (by simp) #[.slice none 0 0, .slice none 0 0] 32
  have hex := fun (W : World) (hbx : Bx W w.heap.size #[.slice (some ⟨b1, o1, none⟩) d.next.length cv, .slice (some ⟨b2, o2, none⟩) d.next.length cw] 32) (hb : Below w.heap.size w W) =>
    exploredT_any 0 w.heap.size (dnx d) (den d) (fun x => 0 ≤ x ∧ x < (d.next.length : Int)) d.next.length W ⟨by omega, by omega⟩
      (fun x c hc hx => by
        obtain ⟨n, rfl⟩ : ∃ n : Nat, x = (n : Int) := ⟨x.toNat, by omega⟩
        have h1 := hC.lt n c (by omega) hc
        rw [hC.dx n c (by omega) hc]
        omega)
      (fun x hx => by unfold fitI; omega) (by omega) (by omega) hFl
      (fun x c w' hx hc hb' => by
        obtain ⟨n, rfl⟩ : ∃ n : Nat, x = (n : Int) := ⟨x.toNat, by omega⟩
        exact trim1_any d b1 o1 cv b2 o2 cw w.heap.size n c w' ((hC.below hb).below hb') (by omega) hc (hbx.below hb' hbx.lt))
      (fun x w' hx hb' => by
        obtain ⟨n, rfl⟩ : ∃ n : Nat, x = (n : Int) := ⟨x.toNat, by omega⟩
        exact trim2_any d b1 o1 cv b2 o2 cw w.heap.size n w' ((hC.below hb).below hb') (by omega) (hbx.below hb' hbx.lt))
  obtain ⟨F, hF⟩ : ∃ F, F = (bat (dnx d) 0 d.next.length).met := ⟨_, rfl⟩
  rw [← hF] at hex hFl
  have htr : trimD d = ⟨F.map (numRow (dnx d) F), F.map (den d)⟩ := by unfold trimD; rw [← hF]; rfl
  rw [htr]
  have Hex := Lib.hid hex
  obtain ⟨L, hL⟩ : ∃ L, L = d.next.length := ⟨_, rfl⟩
  rw [← hL] at Hex hS0 hFl hl1 hl2
  rw [← hL]
  have HhS0 := Lib.hid hS0; clear hS0
  have HhF := Lib.hid hF; clear hF
  have Hhtr := Lib.hid htr; clear htr
  have HhL := Lib.hid hL; clear hL
  clear hex hC h
  go_enter Try.func64, Try.ntmps64
  go_wp2_with fail
  refine (Hex.out _ (HhS0.out.box 0 rfl) HhS0.out.bel).mono ?_
  rintro e w2 ⟨a1, c1, a2, c2, a3, c3, vs, rfl, hS'⟩
  have hS2 := (HhS0.out.cat hS').alloc _ rfl #[.slice a1 F.length c1, .slice a2 F.length c2] 32
  have d0 := hS2.cell (v := .slice a1 F.length c1) 5 0 rfl rfl
  have d1 := hS2.cell (v := .slice a2 F.length c2) 5 1 rfl rfl
  have f0 := hS2.fr 1 0 rfl
  have f1 := hS2.fr 1 1 rfl
  have k0 := hS2.cell (v := .slice none 0 0) 1 0 rfl rfl
  have k1 := hS2.cell (v := .slice none 0 0) 1 1 rfl rfl
  have HhS2 := Lib.hid hS2; clear hS2
  clear hS'
  go_wp2
  have hq := (HhS2.out.set 1 rfl 0 (.slice a1 F.length c1)).set 1 rfl 1 (.slice a2 F.length c2)
  have q0 := hq.cell (v := .slice a1 F.length c1) 1 0 rfl rfl
  have q1 := hq.cell (v := .slice a2 F.length c2) 1 1 rfl rfl
  refine bodyPost_ret (v := .agg #[.slice a1 F.length c1, .slice a2 F.length c2]) (by simp [results, Try.results64, go_sem, q0, q1]) rfl ?_
  refine ⟨a1, c1, a2, c2, by simp only [List.length_map], ⟨.slice a1 F.length c1, .slice a2 F.length c2, by simp only [List.length_map], hq.intSS 2 rfl, ?_⟩, hq.bel⟩
  have hb := own_of_row (hq.row 3 rfl)
  unfold OBools
  simpa only [List.length_map] using hb
end Go.Proofs.Ytclhcfmlkfiidaa
