/-
  The walks over the draws of two automata and pairs.
  Condition: the argument reads as bytes.
-/
import Derived.Test.YthhbjkgchabfmaaRows
import Derived.Test.YthhbjkgchabfmaaPk19Jk
namespace Go.Proofs.Ythhbjkgchabfmaa
open Go.RowKit
def RThree (w : World) (e : Ending) (w' : World) : Prop := ∃ (G B : DfaD) (ps : List (Int × Int)) (a1 a2 b1 b2 : Option Addr) (c1 c2 d1 d2 : Nat) (al : Option Addr) (cl : Nat), SmallD G ∧ SmallD B ∧ ps.length ≤ 1601 ∧ e = .returned (.tuple #[.agg #[.slice a1 G.next.length c1, .slice a2 G.ends.length c2], .agg #[.slice b1 B.next.length d1, .slice b2 B.ends.length d2], .slice al ps.length cl]) ∧ DfaR 0 w' (.agg #[.slice a1 G.next.length c1, .slice a2 G.ends.length c2]) G ∧ DfaR 0 w' (.agg #[.slice b1 B.next.length d1, .slice b2 B.ends.length d2]) B ∧ Pairs 0 w' (.slice al ps.length cl) ps ∧ Below w.heap.size w w'
def txB (l : List Nat) : ByteArray := ⟨(l.map UInt8.ofNat).toArray⟩
def isT (l : List Nat) : Prop := ∀ b ∈ l, b < 256
theorem txB_size (l : List Nat) : (txB l).size = l.length := by simp [txB, ByteArray.size]
theorem getD_memT {l : List Nat} {i : Nat} (hi : i < l.length) : l.getD i 0 ∈ l := by
  rw [List.getD_eq_getElem?_getD, List.getElem?_eq_getElem hi]
  exact List.getElem_mem hi
theorem txB_at {l : List Nat} {i : Nat} (hi : i < l.length) (ht : isT l) (h : i < (txB l).size) : (((txB l)[i]'h).toNat : Int) = (l.getD i 0 : Nat) := by
  have hc : l.getD i 0 < 256 := ht _ (getD_memT hi)
  have e : (txB l)[i]'h = UInt8.ofNat (l.getD i 0) := by
    show (txB l).data[i] = _
    simp [txB, hi]
  rw [e, UInt8.toNat_ofNat']
  omega
theorem txB_index {l : List Nat} {i : Nat} (hi : i < l.length) (ht : isT l) (w : World) : (Instr.index 9 (.string (txB l)) (.int .i64 (i : Int))).run Try.prog w = .ok (.int .u8 ((l.getD i 0 : Nat) : Int)) w := by
  have hs : (txB l).size = l.length := txB_size l
  rw [run_index_string w 9 (txB l) .i64 i Try.underlying9, dif_pos (by omega)]
  congr 2
  exact txB_at hi ht _
def okT (l : List Nat) (k : Nat) : Bool := (List.range k).all fun i => inB ((l.getD i 0 : Nat) : Int) 97 99
def wdOk (l : List Nat) : Bool := okT l l.length && decide (l.length ≤ 8)
theorem okT_succ {l : List Nat} {k : Nat} (h : okT l k = true) (h1 : inB ((l.getD k 0 : Nat) : Int) 97 99 = true) : okT l (k + 1) = true := range_snoc h h1
theorem okT_bad {l : List Nat} {k : Nat} (hk : k < l.length) (h1 : inB ((l.getD k 0 : Nat) : Int) 97 99 = false) : wdOk l = false := by
  unfold wdOk okT
  have : ((List.range l.length).all fun i => inB ((l.getD i 0 : Nat) : Int) 97 99) = false := by
    rw [List.all_eq_false]
    exact ⟨k, List.mem_range.2 hk, by rw [h1]; simp⟩
  rw [this]
  rfl
set_option maxHeartbeats 1600000 in
theorem areLetters_any (l : List Nat) (w : World) (ht : isT l) (hl : l.length ≤ 1000000) (r : Bool) (hr : wdOk l = r) :
    Calls Try.prog 121 #[.string (txB l), .int .i64 8] w fun e w' => e = .returned (.bool r) ∧ w = w' := by
  have hs : (txB l).size = l.length := txB_size l
  have Hhr := Lib.hid hr; clear hr
  have Hht := Lib.hid ht; clear ht
  go_enter Try.func121, Try.ntmps121
  go_wp2
  go_loopw [8] (fun i wr => ∃ k : Nat, i = .int .i64 k ∧ k ≤ l.length ∧ okT l k = true ∧ w = wr) (fun i _ => l.length - (intOf i).toNat)
  case atStart => exact ⟨0, rfl, Nat.zero_le _, rfl, rfl⟩
  case round =>
    obtain ⟨k, rfl, hk, hok, rfl⟩ := hrel
    by_cases hlt : k < l.length
    · have hkl : (k : Int) < l.length := by omega
      have hrun := txB_index hlt Hht.out
      have hb := Hht.out _ (getD_memT hlt)
      obtain ⟨c, hcc⟩ : ∃ c, c = l.getD k 0 := ⟨_, rfl⟩
      rw [← hcc] at hrun hb
      have hw9 : IntKind.i64.wrap (c : Int) = (c : Int) := IntWalk.i64_in _ (by omega)
      have Hhok := Lib.hid hok; clear hok
      have Hhcc := Lib.hid hcc; clear hcc
      cases hin : inB (c : Int) 97 99
      · have Hhin := Lib.hid hin; clear hin
        go_wp2_with (go_at_call 68; refine (within_any _ _ _ _ _ Hhin.out).mono ?_; rintro e w' ⟨rfl, rfl⟩)
        go_ret
        exact ⟨by rw [← Hhr.out, okT_bad hlt (by rw [← Hhcc.out]; exact Hhin.out)]; rfl, rfl⟩
      · have Hhin := Lib.hid hin; clear hin
        go_wp2_with (go_at_call 68; refine (within_any _ _ _ _ _ Hhin.out).mono ?_; rintro e w' ⟨rfl, rfl⟩)
        go_roundw
        case rel => exact ⟨k + 1, by go_num, by omega, okT_succ Hhok.out (by rw [← Hhcc.out]; exact Hhin.out), trivial⟩
        case measure => simp [intOf]; omega
    · obtain rfl : k = l.length := by omega
      have hrr : decide ((l.length : Int) ≤ 8) = r := by
        rw [← Hhr.out]
        unfold wdOk
        rw [hok, Bool.true_and]
        exact decide_eq_decide.2 (by omega)
      have Hhok := Lib.hid hok; clear hok
      have Hhrr := Lib.hid hrr; clear hrr
      go_wp2
      go_ret
      exact ⟨by rw [← Hhrr.out]; rfl, rfl⟩
set_option maxHeartbeats 1600000 in
theorem implWordValid_any (l : List Nat) (w : World) (ht : isT l) (hl : l.length ≤ 1000000) (r : Bool) (hr : wdOk l = r) :
    Calls Try.prog 82 #[.string (txB l)] w fun e w' => e = .returned (.bool r) ∧ w = w' := by
  have Hhr := Lib.hid hr; clear hr
  have Hht := Lib.hid ht; clear ht
  go_enter Try.func82, Try.ntmps82
  go_wp2_with (go_at_call 121; refine (areLetters_any l _ Hht.out hl _ Hhr.out).mono ?_; rintro e w' ⟨rfl, rfl⟩)
  go_ret
  exact ⟨rfl, rfl⟩
set_option maxHeartbeats 800000 in
theorem letterT_any (l : List Nat) (i : Nat) (hi : i < l.length) (ht : isT l) (hlo : 97 ≤ l.getD i 0) (w : World) : Calls Try.prog 104 #[.string (txB l), .int .i64 i] w fun e w' => e = .returned (.int .i64 ((l.getD i 0 - 97 : Nat) : Int)) ∧ w = w' := by
  have hb := ht _ (getD_memT hi)
  have hrun := txB_index hi ht
  obtain ⟨c, hcc⟩ : ∃ c, c = l.getD i 0 - 97 := ⟨_, rfl⟩
  have hc2 : ((l.getD i 0 : Nat) : Int) = 97 + (c : Int) := by omega
  rw [hc2] at hrun
  rw [← hcc]
  have hw8 : IntKind.u8.wrap (97 + (c : Int) - 97) = (c : Int) := by
    have : 97 + (c : Int) - 97 = (c : Int) := by omega
    rw [this]
    exact IntWalk.u8_in _ (by omega)
  have hw9 : IntKind.i64.wrap (c : Int) = (c : Int) := IntWalk.i64_in _ (by omega)
  have Hhcc := Lib.hid hcc; clear hcc
  clear hc2 hlo hb
  go_enter Try.func104, Try.ntmps104
  go_wp2
  go_ret
  exact ⟨rfl, rfl⟩
def shF : Nat → Nat
  | 0 => 0
  | k + 1 => shF k + 3 ^ k
theorem pow3_le {k : Nat} (h : k ≤ 9) : 3 ^ k ≤ 19683 := Nat.pow_le_pow_right (by omega) h
theorem shF_le : ∀ k, shF k ≤ 3 ^ k
  | 0 => by decide
  | k + 1 => by
    show shF k + 3 ^ k ≤ 3 ^ (k + 1)
    have := shF_le k
    rw [Nat.pow_succ]
    omega
set_option maxHeartbeats 1600000 in
theorem wordsOf_any (n : Nat) (w : World) (hn : n ≤ 9) : Calls Try.prog 145 #[.int .i64 n] w fun e w' => e = .returned (.int .i64 ((3 ^ n : Nat) : Int)) ∧ w = w' := by
  go_enter Try.func145, Try.ntmps145
  go_wp2
  go_loopw [3, 5] (fun p i wr => ∃ k q : Nat, i = .int .i64 k ∧ p = .int .i64 q ∧ k ≤ n ∧ 3 ^ k = q ∧ w = wr) (fun _ i _ => n - (intOf i).toNat)
  case atStart => exact ⟨0, 1, rfl, rfl, Nat.zero_le _, rfl, rfl⟩
  case round =>
    obtain ⟨k, q, rfl, rfl, hk, hq, rfl⟩ := hrel
    have hq2 := pow3_le (k := k) (by omega)
    rw [hq] at hq2
    by_cases hlt : k < n
    · have hkl : (k : Int) < n := by omega
      have Hhq := Lib.hid hq; clear hq
      go_wp2
      go_roundw
      case rel => exact ⟨k + 1, q * 3, by go_num, by go_num, by omega, by rw [Nat.pow_succ, Hhq.out], trivial⟩
      case measure => simp [intOf]; omega
    · obtain rfl : k = n := by omega
      have Hhq := Lib.hid hq; clear hq
      go_wp2
      go_ret
      exact ⟨by rw [Hhq.out]; rfl, rfl⟩
set_option maxHeartbeats 1600000 in
theorem shorter_any (n : Nat) (w : World) (hn : n ≤ 9) : Calls Try.prog 105 #[.int .i64 n] w fun e w' => e = .returned (.int .i64 ((shF n : Nat) : Int)) ∧ w = w' := by
  go_enter Try.func105, Try.ntmps105
  go_wp2
  go_loopw [3, 6] (fun p i wr => ∃ k q : Nat, i = .int .i64 k ∧ p = .int .i64 q ∧ k ≤ n ∧ shF k = q ∧ w = wr) (fun _ i _ => n - (intOf i).toNat)
  case atStart => exact ⟨0, 0, rfl, rfl, Nat.zero_le _, rfl, rfl⟩
  case round =>
    obtain ⟨k, q, rfl, rfl, hk, hq, rfl⟩ := hrel
    have hq2 := pow3_le (k := k) (by omega)
    have hq3 := shF_le k
    rw [hq] at hq3
    obtain ⟨t, hT⟩ : ∃ t, 3 ^ k = t := ⟨_, rfl⟩
    rw [hT] at hq2 hq3
    by_cases hlt : k < n
    · have hkl : (k : Int) < n := by omega
      have Hhq := Lib.hid hq; clear hq
      have HhT := Lib.hid hT; clear hT
      go_wp2_with (go_at_call 145; refine (wordsOf_any k _ (by omega)).mono ?_; rintro e w' ⟨rfl, rfl⟩; rw [HhT.out])
      go_roundw
      case rel => exact ⟨k + 1, q + t, by go_num, by go_num, by omega, by rw [← Hhq.out, ← HhT.out]; rfl, trivial⟩
      case measure => simp [intOf]; omega
    · obtain rfl : k = n := by omega
      have Hhq := Lib.hid hq; clear hq
      have HhT := Lib.hid hT; clear hT
      go_wp2
      go_ret
      exact ⟨by rw [Hhq.out]; rfl, rfl⟩
set_option maxHeartbeats 1600000 in
theorem rankAb_any (w : World) : Calls Try.prog 66 #[.string { data := #[97, 98] }] w fun e w' => e = .returned (.int .i64 5) ∧ w = w' := by
  have hab : ({ data := #[97, 98] } : ByteArray) = txB [97, 98] := rfl
  have hab2 : isT [97, 98] := fun b hb => by simp at hb; omega
  have hsz : (txB [97, 98]).size = 2 := rfl
  have l0 := fun w => letterT_any [97, 98] 0 (by decide) hab2 (by decide) w
  have l1 := fun w => letterT_any [97, 98] 1 (by decide) hab2 (by decide) w
  have sh : ∀ w, Calls Try.prog 105 #[.int .i64 2] w fun e w' => e = .returned (.int .i64 4) ∧ w = w' := fun w => shorter_any 2 w (by omega)
  have hv := fun w => implWordValid_any [97, 98] w hab2 (by decide) true rfl
  rw [hab]
  have L0 := Lib.hid l0
  have L1 := Lib.hid l1
  have Sh := Lib.hid sh
  have Hv := Lib.hid hv
  clear l0 l1 sh hab hab2 hv
  go_enter Try.func66, Try.ntmps66
  go_wp2_with (go_at_call 82; refine (Hv.out _).mono ?_; rintro e w' ⟨rfl, rfl⟩)
  go_loopw [3, 10] (fun n i wr => ∃ k q : Nat, i = .int .i64 k ∧ n = .int .i64 q ∧ k ≤ 2 ∧ q ≤ 1 ∧ (k < 2 → q = 0) ∧ (k = 2 → q = 1) ∧ w = wr) (fun _ i _ => 2 - (intOf i).toNat)
  case atStart => exact ⟨0, 0, rfl, rfl, by omega, by omega, fun _ => rfl, fun h => by omega, rfl⟩
  case round =>
    obtain ⟨k, q, rfl, rfl, hk, hq1, hq2, hq3, rfl⟩ := hrel
    obtain rfl | rfl | rfl : k = 0 ∨ k = 1 ∨ k = 2 := by omega
    · obtain rfl := hq2 (by omega)
      clear hq1 hq2 hq3 hk
      go_wp2_with (go_at_call 104; refine (L0.out _).mono ?_; rintro e w' ⟨rfl, rfl⟩)
      go_roundw
      case rel => exact ⟨1, 0, rfl, rfl, by omega, by omega, fun _ => rfl, fun h => by omega, trivial⟩
      case measure => simp [intOf]
    · obtain rfl := hq2 (by omega)
      clear hq1 hq2 hq3 hk
      go_wp2_with (go_at_call 104; refine (L1.out _).mono ?_; rintro e w' ⟨rfl, rfl⟩)
      go_roundw
      case rel => exact ⟨2, 1, rfl, rfl, by omega, by omega, fun h => by omega, fun _ => rfl, trivial⟩
      case measure => simp [intOf]
    · obtain rfl := hq3 rfl
      clear hq1 hq2 hq3 hk
      go_wp2_with (go_at_call 105; refine (Sh.out _).mono ?_; rintro e w' ⟨rfl, rfl⟩)
      go_ret
      exact ⟨rfl, rfl⟩
set_option maxHeartbeats 1600000 in
theorem alive_any (w : World) : Calls Try.prog 20 #[] w fun e w' => e = .returned (.bool true) ∧ w = w' := by
  go_enter Try.func20, Try.ntmps20
  go_wp2_with (go_at_call 66; refine (rankAb_any _).mono ?_; rintro e w' ⟨rfl, rfl⟩)
  go_ret
  exact ⟨rfl, rfl⟩
end Go.Proofs.Ythhbjkgchabfmaa
namespace Go.Proofs.Ythhbjkgchabfmaa
open Go.ChangeShapes Go.WideShapes Go.ChangeAt Go.RowKit Go.Joins
theorem Try.own : ownKnob Try.prog.godebug = none := by kernel_rfl
section
variable {H : Type} {enc : TypeId × Value → H} {W : World}
end
end Go.Proofs.Ythhbjkgchabfmaa
namespace Go.Proofs.Ythhbjkgchabfmaa
open Go.ChangeShapes Go.WideShapes Go.ChangeAt Go.RowKit Go.Joins
theorem Try.cellsByte : Try.prog.cellsOf 5 = 1 := by kernel_rfl
theorem Try.recLBytes : Try.prog.readableRec 22 = true := by kernel_rfl
theorem Try.rowLBytes : (22 : TypeId) < Try.prog.types.size := of_decide_eq_true (by kernel_rfl)
section
variable {H : Type} {enc : TypeId × Value → H} {W : World}
set_option maxRecDepth 100000 in
theorem open_lbytes {held : Bool} {v : Value} {d : DataW H} {p : List MemPlace} (h : DataW.Trod enc Try.prog W 0 (fun _ => true) held 22 v d p) (hv : v.cells.toList = [v]) : ∃ bs, Bytes 0 W v bs := by
  obtain ⟨fuel, hf⟩ := h
  obtain ⟨u, bs, hu, hx⟩ := open_bytes_R Try.underlying22 Try.underlying5 Try.cellsByte hf
  rw [hv] at hu
  simp only [List.cons.injEq, and_true] at hu
  subst hu
  exact ⟨bs, hx⟩
end
end Go.Proofs.Ythhbjkgchabfmaa
