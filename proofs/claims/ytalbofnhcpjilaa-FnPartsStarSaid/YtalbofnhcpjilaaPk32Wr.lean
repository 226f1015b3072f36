/-
  The walks over the two checks of an automaton without choices: the program's and the reference's.
  Conditions: the argument reads as lists.
  Small laws for regions that draw their order and only read.
  No condition: this text speaks of no program.
  The walk over the reference's search for a pair in a list.
  Conditions: the list of pairs reads as a list.
  The walk over the program's check of an automaton without choices, and the walk over the reference's search for a pair in a list.
  Conditions: the argument reads as an automaton; a list of pairs reads as a list.
-/
import Derived.Test.YtalbofnhcpjilaaPk12Nu
import Derived.Test.YtalbofnhcpjilaaPk23Dr
namespace Go.Proofs.Ytalbofnhcpjilaa
open Go.RowKit
end Go.Proofs.Ytalbofnhcpjilaa
namespace Go.Proofs.Ytalbofnhcpjilaa
open Go.RowKit
theorem quiet_eq {P : Program} {f : FuncId} {args : Array Value} {w : World} {n : Nat} {v : Value}
    (h : Calls P f args (w.drewN n) fun e w' => e = .returned v ∧ w.drewN n = w') : Calls P f args (w.drewN n) fun e w'' => e = .returned v ∧ ∃ m, w'' = w.drewN m :=
  h.mono fun _ _ ⟨he, hm⟩ => ⟨he, n, hm.symm⟩
end Go.Proofs.Ytalbofnhcpjilaa
namespace Go.Proofs.Ytalbofnhcpjilaa
open Go.RowKit
end Go.Proofs.Ytalbofnhcpjilaa
namespace Go.Proofs.Ytalbofnhcpjilaa
open Go.RowKit
section
variable {w0 w w' : World} {L : List Ent}
theorem St.rowlt (h : St w0 w L) (i : Nat) {e size g n cap : Nat} {cs : List Value} (hx : L[i]? = some (Ent.row e size (.slice (some ⟨g, 0, none⟩) n cap) n cs)) : w0.heap.size ≤ g ∧ g < w.heap.size := (h.has i _ hx).2 g rfl
end
/-! Many things as one. -/
/-! What is read above a block stays where a block below is written. -/
theorem dfa_cell {w : World} {v1 : Value} {next : List (List Int)} {ends : List Bool} (h : IntSS 0 w v1 next) (hd : dfaOk next ends = true) {i c : Nat} (hi : i < next.length) (hc : c < 3) :
    ∃ q o cap z t s, v1 = .slice (some ⟨q, o, none⟩) next.length cap ∧ next.length ≤ cap ∧ cap ≤ 9223372036854775807 ∧ w.cell? ⟨q, o + i, none⟩ = some (.slice (some ⟨z, t, none⟩) 3 s) ∧ 3 ≤ s ∧ s ≤ 9223372036854775807 ∧
      w.cell? ⟨z, t + c, none⟩ = some (.int .i64 ((next.getD i []).getD c 0)) ∧ q < w.heap.size ∧ z < w.heap.size := by
  obtain ⟨a, cap, rfl, h1, h2, h3⟩ := h.form
  obtain ⟨q, o, rfl, _, hq, hr⟩ := h3 (by omega)
  obtain ⟨a', s, e1, e2, e3, e4⟩ := hr i hi
  obtain ⟨hl, _⟩ := dfaOk_row hd hi
  rw [hl] at e1 e2 e4
  obtain ⟨z, t, rfl, _, hz, e5⟩ := e4 (by omega)
  exact ⟨q, o, cap, z, t, s, rfl, h1, h2, e1, e2, e3, e5 c hc, hq, hz⟩
theorem bool_cell {w : World} {v1 : Value} {xs : List Bool} (h : Bools 0 w v1 xs) {i : Nat} (hi : i < xs.length) :
    ∃ q o cap, v1 = .slice (some ⟨q, o, none⟩) xs.length cap ∧ xs.length ≤ cap ∧ cap ≤ 9223372036854775807 ∧ w.cell? ⟨q, o + i, none⟩ = some (.bool (xs.getD i false)) ∧ q < w.heap.size := by
  obtain ⟨a, cap, rfl, h1, h2, h3⟩ := h.form
  obtain ⟨q, o, rfl, _, hq, hr⟩ := h3 (by omega)
  exact ⟨q, o, cap, rfl, h1, h2, hr i hi, hq⟩
theorem wdB_size (l : List Nat) : (wdB l).size = l.length := by simp [wdB, ByteArray.size]
theorem wdB_at {l : List Nat} {i : Nat} (hi : i < l.length) (hw : isW l) (h : i < (wdB l).size) : (((wdB l)[i]'h).toNat : Int) = 97 + (l.getD i 0 : Nat) := by
  have hc : l.getD i 0 < 3 := hw _ (memD hi)
  have e : (wdB l)[i]'h = UInt8.ofNat (97 + l.getD i 0) := by
    show (wdB l).data[i] = _
    simp [wdB, hi]
  rw [e, UInt8.toNat_ofNat']
  omega
set_option maxHeartbeats 800000 in
theorem letter_any (l : List Nat) (i : Nat) (hi : i < l.length) (hw : isW l) (w : World) : Calls Try.prog 106 #[.string (wdB l), .int .i64 i] w fun e w' => e = .returned (.int .i64 (l.getD i 0 : Nat)) ∧ w = w' := by
  have hc : l.getD i 0 < 3 := hw _ (memD hi)
  have hs : (wdB l).size = l.length := wdB_size l
  have hat := fun h => wdB_at hi hw h
  obtain ⟨c, hcc⟩ : ∃ c, c = l.getD i 0 := ⟨_, rfl⟩
  rw [← hcc] at hc hat
  rw [← hcc]
  have hrun : ∀ w' : World, (Instr.index 9 (.string (wdB l)) (.int .i64 (i : Int))).run Try.prog w' = .ok (.int .u8 (97 + (c : Int))) w' := fun w' => by
    rw [run_index_string w' 9 (wdB l) .i64 i Try.underlying9, dif_pos (by omega)]
    congr 2
    exact hat _
  have hw8 : IntKind.u8.wrap (97 + (c : Int) - 97) = (c : Int) := by
    obtain rfl | rfl | rfl : c = 0 ∨ c = 1 ∨ c = 2 := by omega
    all_goals rfl
  have hw9 : IntKind.i64.wrap (c : Int) = (c : Int) := IntWalk.i64_in _ (by omega)
  have Hhcc := Lib.hid hcc; clear hcc
  clear hat
  go_enter Try.func106, Try.ntmps106
  go_wp2
  go_ret
  exact ⟨rfl, rfl⟩
theorem runD_snoc (d : DfaD) (s : Int) {l : List Nat} {k : Nat} (hk : k < l.length) : runD d s (l.take (k + 1)) = dnx d (runD d s (l.take k)) (l.getD k 0) := by
  rw [List.take_succ_eq_append_getElem hk, runD_append]
  simp [runD, hk]
set_option maxHeartbeats 1600000 in
theorem runD_any (d : DfaD) (q : Nat) (l : List Nat) (v : Value) (w : World) (hd : dfaOk d.next d.ends = true) (hq : q < d.next.length) (hw : isW l) (hl : l.length ≤ 1000000) (h : DfaR 0 w v d) :
    Calls Try.prog 126 #[v, .int .i64 q, .string (wdB l)] w fun e w' => e = .returned (.int .i64 (runD d q l)) ∧ Below w.heap.size w w' := by
  obtain ⟨v1, v2, rfl, g1, g2⟩ := h
  have hlen := dfaOk_len hd
  have hS0 := (St.start w).alloc _ rfl #[v1, v2] 27
  have hs : (wdB l).size = l.length := wdB_size l
  have G1 := Lib.hid g1
  have Hhd := Lib.hid hd; clear hd
  have Hhw := Lib.hid hw; clear hw
  have HhS0 := Lib.hid hS0; clear hS0
  clear g1 g2
  go_enter Try.func126, Try.ntmps126
  go_wp2
  go_loopw [1, 10] (fun fr i wr => ∃ k p : Nat, fr = .int .i64 p ∧ i = .int .i64 k ∧ k ≤ l.length ∧ p < d.next.length ∧ (p : Int) = runD d q (l.take k) ∧ St w wr [Ent.box w.heap.size #[v1, v2] 27]) (fun _ i _ => l.length - (intOf i).toNat)
  case atStart => exact ⟨0, q, rfl, rfl, Nat.zero_le _, hq, rfl, HhS0.out⟩
  case round =>
    obtain ⟨k, p, rfl, rfl, hk, hp, hrun, hS⟩ := hrel
    by_cases hlt : k < l.length
    · have hc : l.getD k 0 < 3 := Hhw.out _ (memD hlt)
      obtain ⟨b1, o1, cap1, z, t, s, rfl, hc1, hc2, k1, hs1, hs2, k2, hb1, hb2⟩ := dfa_cell (G1.out.below hS.bel) Hhd.out hp hc
      have e0 := hS.cell (v := .slice (some ⟨b1, o1, none⟩) d.next.length cap1) 0 0 rfl rfl
      have hnx := (dfaOk_row Hhd.out hp).2 _ hc
      have hsn := runD_snoc d q hlt
      rw [← hrun] at hsn
      obtain ⟨x, hx⟩ : ∃ x, x = (d.next.getD p []).getD (l.getD k 0) 0 := ⟨_, rfl⟩
      have hdx : dnx d (p : Int) (l.getD k 0) = x := by rw [hx]; rfl
      rw [hdx] at hsn
      rw [← hx] at k2 hnx
      obtain ⟨x0, x1⟩ := hnx
      obtain ⟨x, rfl⟩ := Int.eq_ofNat_of_zero_le x0
      have hlet := fun (w : World) => letter_any l k hlt Hhw.out w
      obtain ⟨c, hcc⟩ : ∃ c, c = l.getD k 0 := ⟨_, rfl⟩
      rw [← hcc] at hc k2 hlet
      have hp2 : (p : Int) < d.next.length := by omega
      have hc3 : (c : Int) < 3 := by omega
      have hkl : (k : Int) < l.length := by omega
      have Hlet := Lib.hid hlet
      have HhS := Lib.hid hS; clear hS
      have Hhx := Lib.hid hx; clear hx
      have Hhdx := Lib.hid hdx; clear hdx
      have Hhsn := Lib.hid hsn; clear hsn
      have Hhcc := Lib.hid hcc; clear hcc
      have Hhrun := Lib.hid hrun; clear hrun
      clear hlet
      go_wp2
      go_quiet (((go_at_call 106; with_reducible exact quiet_eq (Hlet.out _))))
      go_wp2
      go_roundw
      case rel => exact ⟨k + 1, x, rfl, by go_num, by omega, by omega, Hhsn.out.symm, HhS.out.drewN _⟩
      case measure => simp [intOf]; omega
    · obtain rfl : k = l.length := by omega
      rw [List.take_length] at hrun
      have HhS := Lib.hid hS; clear hS
      have Hhrun := Lib.hid hrun; clear hrun
      go_wp2
      go_ret
      exact ⟨ret_int Hhrun.out, HhS.out.bel⟩
set_option maxHeartbeats 1600000 in
theorem accepts_any (d : DfaD) (l : List Nat) (v : Value) (w : World) (hd : dfaOk d.next d.ends = true) (hw : isW l) (hl : l.length ≤ 1000000) (h : DfaR 0 w v d) :
    Calls Try.prog 75 #[v, .string (wdB l)] w fun e w' => e = .returned (.bool (accD d l)) ∧ Below w.heap.size w w' := by
  have HD := Lib.hid h
  obtain ⟨v1, v2, rfl, g1, g2⟩ := h
  obtain ⟨h1, h2, h3⟩ := dfaOk_len hd
  obtain ⟨q, hq⟩ := Int.eq_ofNat_of_zero_le (runD_in hd hw (s := 0) (by omega) (by omega)).1
  have hqn : q < d.ends.length := by have := (runD_in hd hw (s := 0) (by omega) (by omega)).2; omega
  have hS0 := (St.start w).alloc _ rfl #[v1, v2] 27
  obtain ⟨b2, o2, cap2, rfl, hc1, hc2, k2, hb2⟩ := bool_cell g2 hqn
  have hacc : accD d l = d.ends.getD q false := by
    unfold accD den
    rw [hq, Int.toNat_natCast]
  have e0 := hS0.cell (v := v1) 0 0 rfl rfl
  have e1 := hS0.cell (v := .slice (some ⟨b2, o2, none⟩) d.ends.length cap2) 0 1 rfl rfl
  have hl0 := (hS0.boxlt 0 rfl).2
  have hk2 := (bcell hS0.bel b2 (o2 + q) hb2).trans k2
  have hb2' := Nat.lt_of_lt_of_le hb2 hS0.size
  obtain ⟨W, hW⟩ : ∃ W, W = w.alloc (.cells #[v1, .slice (some ⟨b2, o2, none⟩) d.ends.length cap2] 27) := ⟨_, rfl⟩
  rw [← hW] at e0 e1 hl0 hk2 hb2' hS0
  have hrun : ∀ w' : World, Below w.heap.size w w' → Calls Try.prog 126 #[.agg #[v1, .slice (some ⟨b2, o2, none⟩) d.ends.length cap2], .int .i64 0, .string (wdB l)] w' fun e w2 => e = .returned (.int .i64 (runD d 0 l)) ∧ Below w'.heap.size w' w2 := fun w' hb => runD_any d 0 l (.agg #[v1, .slice (some ⟨b2, o2, none⟩) d.ends.length cap2]) w' hd (by omega) hw hl (HD.out.below hb)
  rw [hq] at hrun
  have Hrun := Lib.hid hrun
  have Hk := Lib.hid (fun (w' : World) (h : Below W.drew.heap.size W.drew w') => (show w'.cell? ⟨w.heap.size, 0, none⟩ = some v1 ∧ w'.cell? ⟨w.heap.size, 1, none⟩ = some (.slice (some ⟨b2, o2, none⟩) d.ends.length cap2) ∧ w'.cell? ⟨b2, o2 + q, none⟩ = some (.bool (d.ends.getD q false)) from ⟨(bcell h _ _ hl0).trans e0, (bcell h _ _ hl0).trans e1, (bcell h _ _ hb2').trans hk2⟩))
  obtain ⟨r, hr⟩ : ∃ r, r = d.ends.getD q false := ⟨_, rfl⟩
  rw [← hr] at hacc hk2 Hk
  rw [hacc]
  have hqi : (q : Int) < d.ends.length := by omega
  have HBd := Lib.hid hS0.bel.drew
  have HhS0 := Lib.hid hS0; clear hS0
  have Hhd := Lib.hid hd; clear hd
  have Hhw := Lib.hid hw; clear hw
  have Hhq := Lib.hid hq; clear hq
  have Hhr := Lib.hid hr; clear hr
  have Hhacc := Lib.hid hacc; clear hacc
  have HW := Lib.hid hW
  clear hW g1 g2 k2 hrun h3
  go_enter Try.func75, Try.ntmps75
  go_wp2_with fail
  rw [← HW.out]
  go_region_held3 (fun w' => w'.cell? ⟨w.heap.size, 0, none⟩ = some v1 ∧ w'.cell? ⟨w.heap.size, 1, none⟩ = some (.slice (some ⟨b2, o2, none⟩) d.ends.length cap2) ∧ w'.cell? ⟨b2, o2 + q, none⟩ = some (.bool r))
    (first | go_keep | exact Hk.out _ hq0)
    (first
      | (go_at_call 126; (with_reducible refine (Hrun.out _ HBd.out).mono ?_); rintro e u0 ⟨rfl, hq0⟩))
  go_wp2
  go_ret
  exact ⟨rfl, HBd.out.trans (hq0.mono HBd.out.size)⟩
set_option maxHeartbeats 1600000 in
theorem specWordValid_any (l : List Nat) (w : World) (ht : isT l) (hl : l.length ≤ 1000000) (r : Bool) (hr : wdOk l = r) :
    Calls Try.prog 30 #[.string (txB l)] w fun e w' => e = .returned (.bool r) ∧ w = w' := by
  have hs : (txB l).size = l.length := txB_size l
  have Hhr := Lib.hid hr; clear hr
  have Hht := Lib.hid ht; clear ht
  go_enter Try.func30, Try.ntmps30
  go_wp2
  go_loopw [3] (fun i wr => ∃ k : Nat, i = .int .i64 k ∧ k ≤ l.length ∧ okT l k = true ∧ w = wr) (fun i _ => l.length - (intOf i).toNat)
  case atStart => exact ⟨0, rfl, Nat.zero_le _, rfl, rfl⟩
  case round =>
    obtain ⟨k, rfl, hk, hok, rfl⟩ := hrel
    by_cases hlt : k < l.length
    · have hkl : (k : Int) < l.length := by omega
      have hrun := txB_index hlt Hht.out
      have hb := Hht.out _ (getD_memT hlt)
      obtain ⟨c, hcc⟩ : ∃ c, c = l.getD k 0 := ⟨_, rfl⟩
      rw [← hcc] at hrun hb
      have hw9 : IntKind.i64.wrap (c : Int) = (c : Int) := IntWalk.i64_in _ (by omega)
      have Hhok := Lib.hid hok; clear hok
      have Hhcc := Lib.hid hcc; clear hcc
      cases hin : inB (c : Int) 97 99
      · have Hhin := Lib.hid hin; clear hin
        go_wp2_with (go_at_call 73; refine (l1In_any _ _ _ _ _ Hhin.out).mono ?_; rintro e w' ⟨rfl, rfl⟩)
        go_ret
        exact ⟨by rw [← Hhr.out, okT_bad hlt (by rw [← Hhcc.out]; exact Hhin.out)]; rfl, rfl⟩
      · have Hhin := Lib.hid hin; clear hin
        go_wp2_with (go_at_call 73; refine (l1In_any _ _ _ _ _ Hhin.out).mono ?_; rintro e w' ⟨rfl, rfl⟩)
        go_roundw
        case rel => exact ⟨k + 1, by go_num, by omega, okT_succ Hhok.out (by rw [← Hhcc.out]; exact Hhin.out), trivial⟩
        case measure => simp [intOf]; omega
    · obtain rfl : k = l.length := by omega
      have hrr : decide ((l.length : Int) ≤ 8) = r := by
        rw [← Hhr.out]
        unfold wdOk
        rw [hok, Bool.true_and]
        exact decide_eq_decide.2 (by omega)
      have Hhok := Lib.hid hok; clear hok
      have Hhrr := Lib.hid hrr; clear hrr
      go_wp2
      go_ret
      exact ⟨by rw [← Hhrr.out]; rfl, rfl⟩
def lets (l : List Nat) : List Nat := l.map (· - 97)
theorem okT_at {l : List Nat} {k : Nat} (h : okT l l.length = true) (hk : k < l.length) : 97 ≤ l.getD k 0 ∧ l.getD k 0 ≤ 99 := by
  unfold okT at h
  have := List.all_eq_true.1 h k (List.mem_range.2 hk)
  simp only [inB, Bool.and_eq_true, decide_eq_true_eq] at this
  omega
theorem wdOk_parts {l : List Nat} (h : wdOk l = true) : okT l l.length = true ∧ l.length ≤ 8 := by
  unfold wdOk at h
  simp only [Bool.and_eq_true, decide_eq_true_eq] at h
  exact h
end Go.Proofs.Ytalbofnhcpjilaa
namespace Go.Proofs.Ytalbofnhcpjilaa
open Go.RowKit
theorem wdOk_iff {l : List Nat} : wdOk l = true ↔ (∀ b ∈ l, 97 ≤ b ∧ b ≤ 99) ∧ l.length ≤ 8 := by
  constructor
  · intro h
    obtain ⟨h1, h2⟩ := wdOk_parts h
    refine ⟨fun b hb => ?_, h2⟩
    obtain ⟨k, hk, e⟩ := List.getElem_of_mem hb
    have := okT_at h1 hk
    rw [getD_at hk, e] at this
    exact this
  · rintro ⟨h1, h2⟩
    unfold wdOk okT
    rw [Bool.and_eq_true, List.all_eq_true, decide_eq_true_eq]
    refine ⟨fun k hk => ?_, h2⟩
    have hk := List.mem_range.1 hk
    have := h1 _ (getD_memT hk)
    simp only [inB, Bool.and_eq_true, decide_eq_true_eq]
    omega
end Go.Proofs.Ytalbofnhcpjilaa
namespace Go.Proofs.Ytalbofnhcpjilaa
open Go.RowKit
theorem lets_isW {l : List Nat} (h : wdOk l = true) : isW (lets l) := fun c hc => by
  obtain ⟨b, hb, rfl⟩ := List.mem_map.1 hc
  have := (wdOk_iff.1 h).1 b hb
  omega
end Go.Proofs.Ytalbofnhcpjilaa
namespace Go.Proofs.Ytalbofnhcpjilaa
open Go.RowKit
end Go.Proofs.Ytalbofnhcpjilaa
namespace Go.Proofs.Ytalbofnhcpjilaa
structure Bs40 where
  (b0 b1 b2 b3 b4 b5 b6 b7 b8 b9 b10 b11 b12 b13 b14 b15 b16 b17 b18 b19 b20 b21 b22 b23 b24 b25 b26 b27 b28 b29 b30 b31 b32 b33 b34 b35 b36 b37 b38 b39 : Bool)
end Go.Proofs.Ytalbofnhcpjilaa
namespace Go.Proofs.Ytalbofnhcpjilaa
open Go.RowKit
theorem txB_append (u v : List Nat) : txB u ++ txB v = txB (u ++ v) := by
  apply ByteArray.ext
  simp [txB, ByteArray.data_append]
theorem txB_cat (u : List Nat) {v : ByteArray} {l : List Nat} (hv : v = txB l) : txB u ++ v = txB (u ++ l) := by rw [hv, txB_append]
theorem strOfNums_let (c : Nat) (hc : c < 3) : strOfNums [97 + (c : Int)] = txB [97 + c] := by
  obtain rfl | rfl | rfl : c = 0 ∨ c = 1 ∨ c = 2 := by omega
  all_goals rfl
theorem conv_let (c : Nat) (hc : c < 3) (w : World) (b cap : Nat) (h : w.cell? ⟨b, 0, none⟩ = some (.int .u8 (97 + (c : Int)))) :
    (convert 38 9 (.slice (some ⟨b, 0, none⟩) 1 cap)).run Try.prog w = .ok (.string (txB [97 + c])) w := by
  rw [← strOfNums_let c hc]
  exact run_convert_bytes_arg w 38 5 Try.underlying38 Try.underlying5 b 0 1 cap [97 + (c : Int)] rfl (fun i hi => by
    obtain rfl : i = 0 := by omega
    simpa using h) 9 Try.underlying9
theorem wrap8_let (c : Nat) (hc : c < 3) : IntKind.u8.wrap (97 + (c : Int)) = 97 + (c : Int) := by
  obtain rfl | rfl | rfl : c = 0 ∨ c = 1 ∨ c = 2 := by omega
  all_goals rfl
theorem add_tx (u : List Nat) (v : ByteArray) (hu : u.length ≤ 1000) (hv : v.size ≤ 1000) : (∀ w' : World, (Op.stringOp .add (txB u) v).run Try.prog w' = .ok (.string (txB u ++ v)) w') ∧ ¬ 9223372036854775807 < (txB u).size + v.size := by
  have h := txB_size u
  exact ⟨fun w' => run_string_add_sum w' _ _ (by omega), by omega⟩
theorem isT_snoc {l : List Nat} {c : Nat} (h : isT l) (hc : c < 256) : isT (l ++ [c]) := fun b hb => by
  rcases List.mem_append.1 hb with hb | hb
  · exact h b hb
  · rw [List.mem_singleton.1 hb]; exact hc
set_option maxRecDepth 100000 in
set_option maxHeartbeats 8000000 in
theorem l20Word_any (bs : List Nat) (vb : Value) (b p n : Nat) (w0 w : World) (X : Ent) (hb : Bytes 0 w0 vb bs) (hlen : bs.length ≤ 2000) (hp : p ≤ 10000) (hn1 : n ≤ 10000) (hS : St w0 w [RdE b vb p, X]) :
    Calls Try.prog 72 #[.pointer (some ⟨b, 0, none⟩), .int .i64 ((n : Nat) : Int)] w fun e w' => ∃ (l : List Nat) (p' : Nat), isT l ∧ l.length ≤ 10 ∧ e = .returned (.string (txB l)) ∧ St w0 w' [RdE b vb p', X] := by
  have Hb := Lib.hid hb
  have HS := Lib.hid hS
  clear hb hS
  go_enter Try.func72, Try.ntmps72
  go_wp2_with fail
  refine (pick_any bs vb b p 9 w0 _ _ Hb.out hlen (by omega) (by omega) (by omega) HS.out).mono ?_
  rintro e w1 ⟨k0, hk0, rfl, hS1⟩
  have HS1 := Lib.hid hS1
  clear hS1
  go_wp2
  go_loopw [5, 6] (fun vs vk wr => ∃ (k pq : Nat) (l : List Nat), vk = .int .i64 k ∧ vs = .string (txB l) ∧ l.length + k ≤ 8 ∧ pq + k ≤ p + 9 ∧ isT l ∧ St w0 wr [RdE b vb pq, X])
    (fun _ vk _ => (intOf vk).toNat)
  case atStart => exact ⟨k0, p + 1, [], rfl, rfl, by simp; omega, by omega, (fun b hb => by cases hb), HS1.out⟩
  case round =>
    obtain ⟨k, pq, l, rfl, rfl, hk, hpq, ht, hS⟩ := hrel
    have HS2 := Lib.hid hS
    have Ht := Lib.hid ht
    clear hS ht
    by_cases hlt : 0 < k
    · go_wp2_with fail
      refine (pick_any bs vb b pq 3 w0 _ _ Hb.out hlen (by omega) (by omega) (by omega) HS2.out).mono ?_
      rintro e w2 ⟨c, hc, rfl, hS3⟩
      have HS3 := Lib.hid (hS3.alloc_ (.cells #[.int .u8 (97 + (c : Int))] 5))
      have hw1 : IntKind.i64.wrap (97 + (c : Int)) = 97 + (c : Int) := IntWalk.i64_in _ (by omega)
      have hw2 := wrap8_let c hc
      have hcv := conv_let c hc (w2.alloc (.cells #[.int .u8 (97 + (c : Int))] 5)) w2.heap.size 1 (alloc_cell _ _ _ 0)
      obtain ⟨hadd, hnlt⟩ := add_tx l (txB [97 + c]) (by omega) (by rw [txB_size]; simp)
      clear hS3
      go_wp2
      go_roundw
      case rel =>
        refine ⟨k - 1, pq + 1, l ++ [97 + c], by congr 1; omega, by rw [txB_append], by rw [List.length_append]; simp; omega, by omega, isT_snoc Ht.out (by omega), HS3.out⟩
      case measure => simp [intOf]; omega
    · have hz : ((0 : Int) < (k : Int)) = False := by simp; omega
      have hz2 : (0 < k) = False := by simp; omega
      clear hlt
      go_wp2_with fail
      refine (odd_any bs vb b pq n w0 _ _ Hb.out hlen (by omega) hn1 HS2.out).mono ?_
      rintro e w2 ⟨q, p2, hp2, rfl, hS3⟩
      have HS3 := Lib.hid hS3
      clear hS3
      cases q
      · go_wp2
        go_ret
        exact ⟨l, p2, Ht.out, by omega, rfl, HS3.out⟩
      · obtain ⟨hadd1, hnlt1⟩ := add_tx l { data := #[100] } (by omega) (by decide)
        obtain ⟨hadd2, hnlt2⟩ := add_tx l { data := #[65] } (by omega) (by decide)
        obtain ⟨u1, hu1⟩ : ∃ u1, u1 = txB l ++ { data := #[100] } := ⟨_, rfl⟩
        obtain ⟨u2, hu2⟩ : ∃ u2, u2 = txB l ++ { data := #[65] } := ⟨_, rfl⟩
        rw [← hu1] at hadd1
        rw [← hu2] at hadd2
        have he1 : u1 = txB (l ++ [100]) := by rw [hu1]; exact txB_cat l rfl
        have he2 : u2 = txB (l ++ [65]) := by rw [hu2]; exact txB_cat l rfl
        have HS4 := Lib.hid (HS3.out.alloc _ rfl #[.string u1, .string u2, .string { data := #[97, 97, 97, 97, 97, 97, 97, 97, 97] }] 9)
        have Hhu1 := Lib.hid hu1; clear hu1
        have Hhu2 := Lib.hid hu2; clear hu2
        have Hhe1 := Lib.hid he1; clear he1
        have Hhe2 := Lib.hid he2; clear he2
        go_wp2_with fail
        refine (pick_any bs vb b p2 3 w0 _ _ Hb.out hlen (by omega) (by omega) (by omega) (St.pack (A := [RdE b vb p2]) (R := [X, Ent.box w2.heap.size #[.string u1, .string u2, .string { data := #[97, 97, 97, 97, 97, 97, 97, 97, 97] }] 9]) HS4.out)).mono ?_
        rintro e w5 ⟨j, hj, rfl, hSp⟩
        have HS5 := Lib.hid (St.unpack (A := [RdE b vb p2]) (A' := [RdE b vb (p2 + 1)]) (R := [X, Ent.box w2.heap.size #[.string u1, .string u2, .string { data := #[97, 97, 97, 97, 97, 97, 97, 97, 97] }] 9]) HS4.out hSp)
        have c0 := HS5.out.cell (v := .string u1) 2 0 rfl rfl
        have c1 := HS5.out.cell (v := .string u2) 2 1 rfl rfl
        have c2 := HS5.out.cell (v := .string { data := #[97, 97, 97, 97, 97, 97, 97, 97, 97] }) 2 2 rfl rfl
        clear hSp
        obtain rfl | rfl | rfl : j = 0 ∨ j = 1 ∨ j = 2 := by omega
        · go_wp2
          go_ret
          exact ⟨l ++ [100], p2 + 1, isT_snoc Ht.out (by omega), by rw [List.length_append]; simp; omega, by rw [Hhe1.out]; rfl, HS5.out.pick [0, 1] (by decide)⟩
        · go_wp2
          go_ret
          exact ⟨l ++ [65], p2 + 1, isT_snoc Ht.out (by omega), by rw [List.length_append]; simp; omega, by rw [Hhe2.out]; rfl, HS5.out.pick [0, 1] (by decide)⟩
        · go_wp2
          go_ret
          exact ⟨[97, 97, 97, 97, 97, 97, 97, 97, 97], p2 + 1, (fun b hb => by simp at hb; omega), by decide, rfl, HS5.out.pick [0, 1] (by decide)⟩
end Go.Proofs.Ytalbofnhcpjilaa
