/-
  The walks over the program's first set of states and its test for an end.
  Conditions: the automaton reads as such, its states below 40; the set is a number below 2 to the 40th.
-/
import Derived.Test.YtclhcfmlkfiidaaNc
namespace Go.Proofs.Ytclhcfmlkfiidaa
open Go.RowKit

/-- The first set. -/
def fstV (n : NfaD) : Nat := clV 40 n.moves (setV n.firsts)
/-- Some state of l lies in the set. -/
def endV (n : NfaD) (x : Nat) : Bool := n.ends.any fun s => x.testBit s.toNat
set_option maxRecDepth 100000 in
set_option maxHeartbeats 1600000 in
theorem nfaFirst_any (n : NfaD) (v1 v2 v3 : Value) (w : World) (hm : mvIn 40 n.moves) (hml : n.moves.length ≤ 1000000) (hs : inN 40 n.firsts) (hsl : n.firsts.length ≤ 1000000) (h1 : Moves 0 w v1 n.moves) (h2 : Ints 0 w v2 n.firsts) :
    Calls Try.prog 82 #[.agg (nfaC n v1 v2 v3)] w fun e w' => e = .returned (setC (fstV n)) ∧ Below w.heap.size w w' := by
  obtain ⟨V, hV⟩ : ∃ V, V = fstV n := ⟨_, rfl⟩
  rw [← hV]
  obtain ⟨W, hW⟩ : ∃ W, W = ((w.alloc (.cells (nfaC n v1 v2 v3) 67)).alloc (.cells #[.int .u64 0, .int .u64 0] 99)) := ⟨_, rfl⟩
  have hWB : Below w.heap.size w W := by rw [hW]; exact ((Below.refl _ _).alloc (Nat.le_refl _) _).alloc (by simp) _
  have x0 : Bx W w.heap.size (nfaC n v1 v2 v3) 67 := by rw [hW]; exact (Bx.new w _ _).alloc _
  have x1 : Bx W (w.heap.size + 1) #[.int .u64 0, .int .u64 0] 99 := by
    rw [hW]; simpa using (Bx.new (w.alloc (.cells (nfaC n v1 v2 v3) 67)) #[.int .u64 0, .int .u64 0] 99)
  have hl0 := x0.lt
  have c0 := x0.cell 0
  have c1 := x0.cell 1
  have c2 := x0.cell 2
  have c3 := x0.cell 3
  simp only [nfaC, List.getElem?_toArray, List.getElem?_cons_zero, List.getElem?_cons_succ] at c0 c1 c2 c3
  have Hk := Lib.hid (fun (w' : World) (h : Below W.drew.heap.size W.drew w') => (show w'.cell? ⟨w.heap.size, 0, none⟩ = some (.int .i64 n.states) ∧ w'.cell? ⟨w.heap.size, 1, none⟩ = some v1 ∧ w'.cell? ⟨w.heap.size, 2, none⟩ = some v2 ∧ w'.cell? ⟨w.heap.size, 3, none⟩ = some v3 from ⟨(bcell h _ _ hl0).trans c0, (bcell h _ _ hl0).trans c1, (bcell h _ _ hl0).trans c2, (bcell h _ _ hl0).trans c3⟩))
  have HF := Lib.hid (fun (w' : World) (h : Below W.drew.heap.size W.drew w') => (show Bx w' (w.heap.size + 1) #[.int .u64 0, .int .u64 0] 99 ∧ w'.cell? ⟨w.heap.size + 1, 0, none⟩ = some (.int .u64 0) ∧ w'.cell? ⟨w.heap.size + 1, 1, none⟩ = some (.int .u64 0) ∧ w'.frozen? ⟨w.heap.size + 1, 0, none⟩ = false ∧ w'.frozen? ⟨w.heap.size + 1, 1, none⟩ = false from
    have q := x1.drew.below h x1.lt
    ⟨q, q.cell 0, q.cell 1, q.fr 0, q.fr 1⟩))
  have H1 := Lib.hid (h1.below hWB.drew)
  have H2 := Lib.hid (h2.below hWB.drew)
  have HhV := Lib.hid hV; clear hV
  have Hhm := Lib.hid hm; clear hm
  have Hhs := Lib.hid hs; clear hs
  have HhWB := Lib.hid hWB; clear hWB
  have Hx0W := Lib.hid hW
  clear hW
  have Hx0 := Lib.hid x0; clear x0
  have Hx1 := Lib.hid x1; clear x1
  clear h1 h2
  go_enter Try.func82, Try.ntmps82
  go_wp2_with fail
  rw [← Hx0W.out]
  go_region_held3 (fun w' => w'.cell? ⟨w.heap.size, 0, none⟩ = some (.int .i64 n.states) ∧ w'.cell? ⟨w.heap.size, 1, none⟩ = some v1 ∧ w'.cell? ⟨w.heap.size, 2, none⟩ = some v2 ∧ w'.cell? ⟨w.heap.size, 3, none⟩ = some v3)
    (first | go_keep | exact Hk.out _ hq0 | exact Hk.out _ hq1)
    (first
      | (go_at_call 110; (with_reducible refine (setOf_any n.firsts _ _ Hhs.out hsl H2.out).mono ?_); rintro e u0 ⟨rfl, hq0⟩)
      | (go_at_call 109; (with_reducible refine (nfaClose_any n _ _ _ _ _ Hhm.out hml (setV_lt Hhs.out) (H1.out.below hq0)).mono ?_); rintro e u1 ⟨rfl, hb1⟩; have hq1 := hq0.trans (hb1.mono hq0.size); obtain ⟨y1, g0, g1, i0, i1⟩ := HF.out u1 hq1))
  go_wp2
  have hVe : clV 40 n.moves (setV n.firsts) = V := HhV.out.symm
  rw [hVe]
  have q := (y1.set 0 (.int .u64 (V : Nat))).set 1 (.int .u64 0)
  have q0 := q.cell 0
  have q1 := q.cell 1
  simp only [List.getElem?_toArray, List.getElem?_cons_zero, List.getElem?_cons_succ, List.setIfInBounds_toArray, List.set_cons_zero, List.set_cons_succ] at q0 q1
  refine bodyPost_ret (v := setC V) (by simp [results, Try.results82, go_sem, q0, q1]) rfl ⟨rfl, ?_⟩
  exact ((HhWB.out.drew.trans (hq1.mono HhWB.out.drew.size)).setCell (by simp) _).setCell (by simp) _
theorem endV_has {n : NfaD} {x : Nat} : endV n x = n.ends.any fun s => x.testBit s.toNat := rfl
set_option maxRecDepth 100000 in
set_option maxHeartbeats 1600000 in
theorem indexFuncHas_any (xs : List Int) (v : Value) (x : Nat) (w : World) (hx : x < 2 ^ 40) (hs : inN 40 xs) (h1 : Ints 0 w v xs) :
    Calls Try.prog 108 #[v, .func (.func 111) #[setC x] #[]] w fun e w' => e = .returned (.int .i64 (firstIdx (fun s => x.testBit s.toNat) xs)) ∧ Below w.heap.size w w' := by
  obtain ⟨a1, c1, rfl, hc1, hm1, hr1⟩ := h1.form
  have Hhs := Lib.hid hs; clear hs
  have Hhr1 := Lib.hid hr1; clear hr1
  clear h1
  go_enter Try.func108, Try.ntmps108
  go_wp2
  go_loopw [4, 8] (fun r i wr => ∃ k : Nat, k ≤ xs.length ∧ i = .int .i64 k ∧ (xs.take k).any (fun s => x.testBit s.toNat) = false ∧ Below w.heap.size w wr) (fun _ i _ => xs.length - (intOf i).toNat)
  case atStart => exact ⟨0, Nat.zero_le _, rfl, rfl, Below.refl _ _⟩
  case round =>
    obtain ⟨k, hk, rfl, htk, hb⟩ := hrel
    have Hhtk := Lib.hid htk; clear htk
    by_cases hlt : k < xs.length
    · obtain ⟨b1, o1, rfl, hB1, hbl1, hcs1⟩ := Hhr1.out (by omega)
      have hx1 := (bcell hb b1 (o1 + k) hbl1).trans (hcs1 k hlt)
      have hin := Hhs.out (xs.getD k 0) (memD (d := 0) hlt)
      obtain ⟨s, hss⟩ : ∃ s, s = xs.getD k 0 := ⟨_, rfl⟩
      rw [← hss] at hx1 hin
      obtain ⟨s0, s1⟩ := hin
      obtain ⟨s, rfl⟩ := Int.eq_ofNat_of_zero_le s0
      have Hhss := Lib.hid hss; clear hss
      have Hhb := Lib.hid hb; clear hb
      clear hcs1 hB1
      cases hbd : x.testBit s
      all_goals
        have Hhbd := Lib.hid hbd; clear hbd
        go_wp2_with (go_at_call 111; refine (setHas_any x s hx (by omega) _ _ Hhbd.out).mono ?_; rintro e w' ⟨rfl, hb'⟩; have Hb' := Lib.hid (Hhb.out.trans (hb'.mono Hhb.out.size)); clear hb')
      · go_roundw
        case rel => exact ⟨k + 1, by omega, by go_num, any_snoc (d := 0) hlt Hhtk.out (by rw [← Hhss.out]; exact Hhbd.out), Hb'.out⟩
        case measure => simp [intOf]; omega
      · go_ret
        exact ⟨ret_int (by rw [firstIdx_hit (d := 0) hlt Hhtk.out (by rw [← Hhss.out]; exact Hhbd.out)]), Hb'.out⟩
    · have Hhb := Lib.hid hb; clear hb
      go_wp2
      go_ret
      exact ⟨ret_int (by rw [firstIdx_miss (by omega) Hhtk.out]), Hhb.out⟩
set_option maxHeartbeats 800000 in
theorem containsFuncHas_any (xs : List Int) (v : Value) (x : Nat) (w : World) (hx : x < 2 ^ 40) (hs : inN 40 xs) (h1 : Ints 0 w v xs) (r : Bool) (hr : xs.any (fun s => x.testBit s.toNat) = r) :
    Calls Try.prog 77 #[v, .func (.func 111) #[setC x] #[]] w fun e w' => e = .returned (.bool r) ∧ Below w.heap.size w w' := by
  obtain ⟨a1, c1, hv, -⟩ := h1.form
  have H1 := Lib.hid h1
  subst hv
  clear h1
  have Hhr := Lib.hid hr; clear hr
  go_enter Try.func77, Try.ntmps77
  go_wp2_with (go_at_call 108; refine (indexFuncHas_any xs _ x _ hx hs H1.out).mono ?_; rintro e w' ⟨rfl, hb'⟩; have Hb' := Lib.hid hb'; clear hb')
  go_ret
  exact ⟨ret_bool (by rw [← Hhr.out, firstIdx_any]), Hb'.out⟩
set_option maxRecDepth 100000 in
set_option maxHeartbeats 1600000 in
theorem nfaEnds_any (n : NfaD) (x : Nat) (v1 v2 v3 : Value) (w : World) (hx : x < 2 ^ 40) (hs : inN 40 n.ends) (h3 : Ints 0 w v3 n.ends) (r : Bool) (hr : endV n x = r) :
    Calls Try.prog 84 #[.agg (nfaC n v1 v2 v3), setC x] w fun e w' => e = .returned (.bool r) ∧ Below w.heap.size w w' := by
  have H3 := Lib.hid h3
  have Hhr := Lib.hid hr; clear hr
  have Hhs := Lib.hid hs; clear hs
  clear h3
  go_enter Try.func84, Try.ntmps84
  go_wp2_with (go_at_call 77; refine (containsFuncHas_any n.ends v3 x _ hx Hhs.out (H3.out.below (((Below.refl _ _).alloc (Nat.le_refl _) _).alloc (by simp) _)) _ Hhr.out).mono ?_; rintro e w' ⟨rfl, hb'⟩; have Hb' := Lib.hid hb'; clear hb')
  go_ret
  exact ⟨rfl, (((Below.refl _ _).alloc (Nat.le_refl _) _).alloc (by simp) _).trans (Hb'.out.mono (by simp; omega))⟩
end Go.Proofs.Ytclhcfmlkfiidaa
