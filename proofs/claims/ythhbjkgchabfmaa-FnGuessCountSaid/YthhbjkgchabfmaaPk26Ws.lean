/-
  The walks over the program's letters, runs and answers of automata at words.
  Conditions: the automaton is valid and reads as such; the word has letters below three, at most 1000000.
-/
import Derived.Test.YthhbjkgchabfmaaPk21Ry
namespace Go.Proofs.Ythhbjkgchabfmaa
open Go.RowKit
theorem wdB_at {l : List Nat} {i : Nat} (hi : i < l.length) (hw : isW l) (h : i < (wdB l).size) : (((wdB l)[i]'h).toNat : Int) = 97 + (l.getD i 0 : Nat) := by
  have hc : l.getD i 0 < 3 := hw _ (memD hi)
  have e : (wdB l)[i]'h = UInt8.ofNat (97 + l.getD i 0) := by
    show (wdB l).data[i] = _
    simp [wdB, hi]
  rw [e, UInt8.toNat_ofNat']
  omega
set_option maxHeartbeats 800000 in
theorem letter_any (l : List Nat) (i : Nat) (hi : i < l.length) (hw : isW l) (w : World) : Calls Try.prog 104 #[.string (wdB l), .int .i64 i] w fun e w' => e = .returned (.int .i64 (l.getD i 0 : Nat)) ∧ w = w' := by
  have hc : l.getD i 0 < 3 := hw _ (memD hi)
  have hs : (wdB l).size = l.length := wdB_size l
  have hat := fun h => wdB_at hi hw h
  obtain ⟨c, hcc⟩ : ∃ c, c = l.getD i 0 := ⟨_, rfl⟩
  rw [← hcc] at hc hat
  rw [← hcc]
  have hrun : ∀ w' : World, (Instr.index 9 (.string (wdB l)) (.int .i64 (i : Int))).run Try.prog w' = .ok (.int .u8 (97 + (c : Int))) w' := fun w' => by
    rw [run_index_string w' 9 (wdB l) .i64 i Try.underlying9, dif_pos (by omega)]
    congr 2
    exact hat _
  have hw8 : IntKind.u8.wrap (97 + (c : Int) - 97) = (c : Int) := by
    obtain rfl | rfl | rfl : c = 0 ∨ c = 1 ∨ c = 2 := by omega
    all_goals rfl
  have hw9 : IntKind.i64.wrap (c : Int) = (c : Int) := IntWalk.i64_in _ (by omega)
  have Hhcc := Lib.hid hcc; clear hcc
  clear hat
  go_enter Try.func104, Try.ntmps104
  go_wp2
  go_ret
  exact ⟨rfl, rfl⟩
theorem runD_snoc (d : DfaD) (s : Int) {l : List Nat} {k : Nat} (hk : k < l.length) : runD d s (l.take (k + 1)) = dnx d (runD d s (l.take k)) (l.getD k 0) := by
  rw [List.take_succ_eq_append_getElem hk, runD_append]
  simp [runD, hk]
set_option maxHeartbeats 1600000 in
theorem runD_any (d : DfaD) (q : Nat) (l : List Nat) (v : Value) (w : World) (hd : dfaOk d.next d.ends = true) (hq : q < d.next.length) (hw : isW l) (hl : l.length ≤ 1000000) (h : DfaR 0 w v d) :
    Calls Try.prog 122 #[v, .int .i64 q, .string (wdB l)] w fun e w' => e = .returned (.int .i64 (runD d q l)) ∧ Below w.heap.size w w' := by
  obtain ⟨v1, v2, rfl, g1, g2⟩ := h
  have hlen := dfaOk_len hd
  have hS0 := (St.start w).alloc _ rfl #[v1, v2] 26
  have hs : (wdB l).size = l.length := wdB_size l
  have G1 := Lib.hid g1
  have Hhd := Lib.hid hd; clear hd
  have Hhw := Lib.hid hw; clear hw
  have HhS0 := Lib.hid hS0; clear hS0
  clear g1 g2
  go_enter Try.func122, Try.ntmps122
  go_wp2
  go_loopw [1, 10] (fun fr i wr => ∃ k p : Nat, fr = .int .i64 p ∧ i = .int .i64 k ∧ k ≤ l.length ∧ p < d.next.length ∧ (p : Int) = runD d q (l.take k) ∧ St w wr [Ent.box w.heap.size #[v1, v2] 26]) (fun _ i _ => l.length - (intOf i).toNat)
  case atStart => exact ⟨0, q, rfl, rfl, Nat.zero_le _, hq, rfl, HhS0.out⟩
  case round =>
    obtain ⟨k, p, rfl, rfl, hk, hp, hrun, hS⟩ := hrel
    by_cases hlt : k < l.length
    · have hc : l.getD k 0 < 3 := Hhw.out _ (memD hlt)
      obtain ⟨b1, o1, cap1, z, t, s, rfl, hc1, hc2, k1, hs1, hs2, k2, hb1, hb2⟩ := dfa_cell (G1.out.below hS.bel) Hhd.out hp hc
      have e0 := hS.cell (v := .slice (some ⟨b1, o1, none⟩) d.next.length cap1) 0 0 rfl rfl
      have hnx := (dfaOk_row Hhd.out hp).2 _ hc
      have hsn := runD_snoc d q hlt
      rw [← hrun] at hsn
      obtain ⟨x, hx⟩ : ∃ x, x = (d.next.getD p []).getD (l.getD k 0) 0 := ⟨_, rfl⟩
      have hdx : dnx d (p : Int) (l.getD k 0) = x := by rw [hx]; rfl
      rw [hdx] at hsn
      rw [← hx] at k2 hnx
      obtain ⟨x0, x1⟩ := hnx
      obtain ⟨x, rfl⟩ := Int.eq_ofNat_of_zero_le x0
      have hlet := fun (w : World) => letter_any l k hlt Hhw.out w
      obtain ⟨c, hcc⟩ : ∃ c, c = l.getD k 0 := ⟨_, rfl⟩
      rw [← hcc] at hc k2 hlet
      have hp2 : (p : Int) < d.next.length := by omega
      have hc3 : (c : Int) < 3 := by omega
      have hkl : (k : Int) < l.length := by omega
      have Hlet := Lib.hid hlet
      have HhS := Lib.hid hS; clear hS
      have Hhx := Lib.hid hx; clear hx
      have Hhdx := Lib.hid hdx; clear hdx
      have Hhsn := Lib.hid hsn; clear hsn
      have Hhcc := Lib.hid hcc; clear hcc
      have Hhrun := Lib.hid hrun; clear hrun
      clear hlet
      go_wp2
      go_quiet (((go_at_call 104; with_reducible exact quiet_eq (Hlet.out _))))
      go_wp2
      go_roundw
      case rel => exact ⟨k + 1, x, rfl, by go_num, by omega, by omega, Hhsn.out.symm, HhS.out.drewN _⟩
      case measure => simp [intOf]; omega
    · obtain rfl : k = l.length := by omega
      rw [List.take_length] at hrun
      have HhS := Lib.hid hS; clear hS
      have Hhrun := Lib.hid hrun; clear hrun
      go_wp2
      go_ret
      exact ⟨ret_int Hhrun.out, HhS.out.bel⟩
set_option maxHeartbeats 1600000 in
theorem accepts_any (d : DfaD) (l : List Nat) (v : Value) (w : World) (hd : dfaOk d.next d.ends = true) (hw : isW l) (hl : l.length ≤ 1000000) (h : DfaR 0 w v d) :
    Calls Try.prog 83 #[v, .string (wdB l)] w fun e w' => e = .returned (.bool (accD d l)) ∧ Below w.heap.size w w' := by
  have HD := Lib.hid h
  obtain ⟨v1, v2, rfl, g1, g2⟩ := h
  obtain ⟨h1, h2, h3⟩ := dfaOk_len hd
  obtain ⟨q, hq⟩ := Int.eq_ofNat_of_zero_le (runD_in hd hw (s := 0) (by omega) (by omega)).1
  have hqn : q < d.ends.length := by have := (runD_in hd hw (s := 0) (by omega) (by omega)).2; omega
  have hS0 := (St.start w).alloc _ rfl #[v1, v2] 26
  obtain ⟨b2, o2, cap2, rfl, hc1, hc2, k2, hb2⟩ := bool_cell g2 hqn
  have hacc : accD d l = d.ends.getD q false := by
    unfold accD den
    rw [hq, Int.toNat_natCast]
  have e0 := hS0.cell (v := v1) 0 0 rfl rfl
  have e1 := hS0.cell (v := .slice (some ⟨b2, o2, none⟩) d.ends.length cap2) 0 1 rfl rfl
  have hl0 := (hS0.boxlt 0 rfl).2
  have hk2 := (bcell hS0.bel b2 (o2 + q) hb2).trans k2
  have hb2' := Nat.lt_of_lt_of_le hb2 hS0.size
  obtain ⟨W, hW⟩ : ∃ W, W = w.alloc (.cells #[v1, .slice (some ⟨b2, o2, none⟩) d.ends.length cap2] 26) := ⟨_, rfl⟩
  rw [← hW] at e0 e1 hl0 hk2 hb2' hS0
  have hrun : ∀ w' : World, Below w.heap.size w w' → Calls Try.prog 122 #[.agg #[v1, .slice (some ⟨b2, o2, none⟩) d.ends.length cap2], .int .i64 0, .string (wdB l)] w' fun e w2 => e = .returned (.int .i64 (runD d 0 l)) ∧ Below w'.heap.size w' w2 := fun w' hb => runD_any d 0 l (.agg #[v1, .slice (some ⟨b2, o2, none⟩) d.ends.length cap2]) w' hd (by omega) hw hl (HD.out.below hb)
  rw [hq] at hrun
  have Hrun := Lib.hid hrun
  have Hk := Lib.hid (fun (w' : World) (h : Below W.drew.heap.size W.drew w') => (show w'.cell? ⟨w.heap.size, 0, none⟩ = some v1 ∧ w'.cell? ⟨w.heap.size, 1, none⟩ = some (.slice (some ⟨b2, o2, none⟩) d.ends.length cap2) ∧ w'.cell? ⟨b2, o2 + q, none⟩ = some (.bool (d.ends.getD q false)) from ⟨(bcell h _ _ hl0).trans e0, (bcell h _ _ hl0).trans e1, (bcell h _ _ hb2').trans hk2⟩))
  obtain ⟨r, hr⟩ : ∃ r, r = d.ends.getD q false := ⟨_, rfl⟩
  rw [← hr] at hacc hk2 Hk
  rw [hacc]
  have hqi : (q : Int) < d.ends.length := by omega
  have HBd := Lib.hid hS0.bel.drew
  have HhS0 := Lib.hid hS0; clear hS0
  have Hhd := Lib.hid hd; clear hd
  have Hhw := Lib.hid hw; clear hw
  have Hhq := Lib.hid hq; clear hq
  have Hhr := Lib.hid hr; clear hr
  have Hhacc := Lib.hid hacc; clear hacc
  have HW := Lib.hid hW
  clear hW g1 g2 k2 hrun h3
  go_enter Try.func83, Try.ntmps83
  go_wp2_with fail
  rw [← HW.out]
  go_region_held3 (fun w' => w'.cell? ⟨w.heap.size, 0, none⟩ = some v1 ∧ w'.cell? ⟨w.heap.size, 1, none⟩ = some (.slice (some ⟨b2, o2, none⟩) d.ends.length cap2) ∧ w'.cell? ⟨b2, o2 + q, none⟩ = some (.bool r))
    (first | go_keep | exact Hk.out _ hq0)
    (first
      | (go_at_call 122; (with_reducible refine (Hrun.out _ HBd.out).mono ?_); rintro e u0 ⟨rfl, hq0⟩))
  go_wp2
  go_ret
  exact ⟨rfl, HBd.out.trans (hq0.mono HBd.out.size)⟩
end Go.Proofs.Ythhbjkgchabfmaa
