/-
  The walk over the reference's l20Word: a text is drawn, most often a word (weak: some text of at most ten bytes).
  Conditions: the reader is at hand, its bytes read as such.
-/
import Derived.Test.YtjcegbcmomfgaaaDr
import Derived.Test.YtjcegbcmomfgaaaLm
import Derived.Test.YtjcegbcmomfgaaaTb
namespace Go.Proofs.Ytjcegbcmomfgaaa
open Go.RowKit

theorem txB_append (u v : List Nat) : txB u ++ txB v = txB (u ++ v) := by
  apply ByteArray.ext
  simp [txB, ByteArray.data_append]
theorem txB_cat (u : List Nat) {v : ByteArray} {l : List Nat} (hv : v = txB l) : txB u ++ v = txB (u ++ l) := by rw [hv, txB_append]
theorem strOfNums_let (c : Nat) (hc : c < 3) : strOfNums [97 + (c : Int)] = txB [97 + c] := by
  obtain rfl | rfl | rfl : c = 0 ∨ c = 1 ∨ c = 2 := by omega
  all_goals rfl
theorem conv_let (c : Nat) (hc : c < 3) (w : World) (b cap : Nat) (h : w.cell? ⟨b, 0, none⟩ = some (.int .u8 (97 + (c : Int)))) :
    (convert 22 9 (.slice (some ⟨b, 0, none⟩) 1 cap)).run Try.prog w = .ok (.string (txB [97 + c])) w := by
  rw [← strOfNums_let c hc]
  exact run_convert_bytes_arg w 22 5 Try.underlying22 Try.underlying5 b 0 1 cap [97 + (c : Int)] rfl (fun i hi => by
    obtain rfl : i = 0 := by omega
    simpa using h) 9 Try.underlying9
theorem wrap8_let (c : Nat) (hc : c < 3) : IntKind.u8.wrap (97 + (c : Int)) = 97 + (c : Int) := by
  obtain rfl | rfl | rfl : c = 0 ∨ c = 1 ∨ c = 2 := by omega
  all_goals rfl
theorem add_tx (u : List Nat) (v : ByteArray) (hu : u.length ≤ 1000) (hv : v.size ≤ 1000) : (∀ w' : World, (Op.stringOp .add (txB u) v).run Try.prog w' = .ok (.string (txB u ++ v)) w') ∧ ¬ 9223372036854775807 < (txB u).size + v.size := by
  have h := txB_size u
  exact ⟨fun w' => run_string_add_sum w' _ _ (by omega), by omega⟩
theorem isT_snoc {l : List Nat} {c : Nat} (h : isT l) (hc : c < 256) : isT (l ++ [c]) := fun b hb => by
  rcases List.mem_append.1 hb with hb | hb
  · exact h b hb
  · rw [List.mem_singleton.1 hb]; exact hc

set_option maxRecDepth 100000 in
set_option maxHeartbeats 8000000 in
theorem l20Word_any (bs : List Nat) (vb : Value) (b p n : Nat) (w0 w : World) (X : Ent) (hb : Bytes 0 w0 vb bs) (hlen : bs.length ≤ 2000) (hp : p ≤ 10000) (hn1 : n ≤ 10000) (hS : St w0 w [RdE b vb p, X]) :
    Calls Try.prog 42 #[.pointer (some ⟨b, 0, none⟩), .int .i64 ((n : Nat) : Int)] w fun e w' => ∃ (l : List Nat) (p' : Nat), isT l ∧ l.length ≤ 10 ∧ e = .returned (.string (txB l)) ∧ St w0 w' [RdE b vb p', X] := by
  have Hb := Lib.hid hb
  have HS := Lib.hid hS
  clear hb hS
  go_enter Try.func42, Try.ntmps42
  go_wp2_with fail
  refine (pick_any bs vb b p 9 w0 _ _ Hb.out hlen (by omega) (by omega) (by omega) HS.out).mono ?_
  rintro e w1 ⟨k0, hk0, rfl, hS1⟩
  have HS1 := Lib.hid hS1
  clear hS1
  go_wp2
  go_loopw [5, 6] (fun vs vk wr => ∃ (k pq : Nat) (l : List Nat), vk = .int .i64 k ∧ vs = .string (txB l) ∧ l.length + k ≤ 8 ∧ pq + k ≤ p + 9 ∧ isT l ∧ St w0 wr [RdE b vb pq, X])
    (fun _ vk _ => (intOf vk).toNat)
  case atStart => exact ⟨k0, p + 1, [], rfl, rfl, by simp; omega, by omega, (fun b hb => by cases hb), HS1.out⟩
  case round =>
    obtain ⟨k, pq, l, rfl, rfl, hk, hpq, ht, hS⟩ := hrel
    have HS2 := Lib.hid hS
    have Ht := Lib.hid ht
    clear hS ht
    by_cases hlt : 0 < k
    · go_wp2_with fail
      refine (pick_any bs vb b pq 3 w0 _ _ Hb.out hlen (by omega) (by omega) (by omega) HS2.out).mono ?_
      rintro e w2 ⟨c, hc, rfl, hS3⟩
      have HS3 := Lib.hid (hS3.alloc_ (.cells #[.int .u8 (97 + (c : Int))] 5))
      have hw1 : IntKind.i64.wrap (97 + (c : Int)) = 97 + (c : Int) := IntWalk.i64_in _ (by omega)
      have hw2 := wrap8_let c hc
      have hcv := conv_let c hc (w2.alloc (.cells #[.int .u8 (97 + (c : Int))] 5)) w2.heap.size 1 (alloc_cell _ _ _ 0)
      obtain ⟨hadd, hnlt⟩ := add_tx l (txB [97 + c]) (by omega) (by rw [txB_size]; simp)
      clear hS3
      go_wp2
      go_roundw
      case rel =>
        refine ⟨k - 1, pq + 1, l ++ [97 + c], by congr 1; omega, by rw [txB_append], by rw [List.length_append]; simp; omega, by omega, isT_snoc Ht.out (by omega), HS3.out⟩
      case measure => simp [intOf]; omega
    · have hz : ((0 : Int) < (k : Int)) = False := by simp; omega
      have hz2 : (0 < k) = False := by simp; omega
      clear hlt
      go_wp2_with fail
      refine (odd_any bs vb b pq n w0 _ _ Hb.out hlen (by omega) hn1 HS2.out).mono ?_
      rintro e w2 ⟨q, p2, hp2, rfl, hS3⟩
      have HS3 := Lib.hid hS3
      clear hS3
      cases q
      · go_wp2
        go_ret
        exact ⟨l, p2, Ht.out, by omega, rfl, HS3.out⟩
      · obtain ⟨hadd1, hnlt1⟩ := add_tx l { data := #[100] } (by omega) (by decide)
        obtain ⟨hadd2, hnlt2⟩ := add_tx l { data := #[65] } (by omega) (by decide)
        obtain ⟨u1, hu1⟩ : ∃ u1, u1 = txB l ++ { data := #[100] } := ⟨_, rfl⟩
        obtain ⟨u2, hu2⟩ : ∃ u2, u2 = txB l ++ { data := #[65] } := ⟨_, rfl⟩
        rw [← hu1] at hadd1
        rw [← hu2] at hadd2
        have he1 : u1 = txB (l ++ [100]) := by rw [hu1]; exact txB_cat l rfl
        have he2 : u2 = txB (l ++ [65]) := by rw [hu2]; exact txB_cat l rfl
        have HS4 := Lib.hid (HS3.out.alloc _ rfl #[.string u1, .string u2, .string { data := #[97, 97, 97, 97, 97, 97, 97, 97, 97] }] 9)
        have Hhu1 := Lib.hid hu1; clear hu1
        have Hhu2 := Lib.hid hu2; clear hu2
        have Hhe1 := Lib.hid he1; clear he1
        have Hhe2 := Lib.hid he2; clear he2
        go_wp2_with fail
        refine (pick_any bs vb b p2 3 w0 _ _ Hb.out hlen (by omega) (by omega) (by omega) (St.pack (A := [RdE b vb p2]) (R := [X, Ent.box w2.heap.size #[.string u1, .string u2, .string { data := #[97, 97, 97, 97, 97, 97, 97, 97, 97] }] 9]) HS4.out)).mono ?_
        rintro e w5 ⟨j, hj, rfl, hSp⟩
        have HS5 := Lib.hid (St.unpack (A := [RdE b vb p2]) (A' := [RdE b vb (p2 + 1)]) (R := [X, Ent.box w2.heap.size #[.string u1, .string u2, .string { data := #[97, 97, 97, 97, 97, 97, 97, 97, 97] }] 9]) HS4.out hSp)
        have c0 := HS5.out.cell (v := .string u1) 2 0 rfl rfl
        have c1 := HS5.out.cell (v := .string u2) 2 1 rfl rfl
        have c2 := HS5.out.cell (v := .string { data := #[97, 97, 97, 97, 97, 97, 97, 97, 97] }) 2 2 rfl rfl
        clear hSp
        obtain rfl | rfl | rfl : j = 0 ∨ j = 1 ∨ j = 2 := by omega
        · go_wp2
          go_ret
          exact ⟨l ++ [100], p2 + 1, isT_snoc Ht.out (by omega), by rw [List.length_append]; simp; omega, by rw [Hhe1.out]; rfl, HS5.out.pick [0, 1] (by decide)⟩
        · go_wp2
          go_ret
          exact ⟨l ++ [65], p2 + 1, isT_snoc Ht.out (by omega), by rw [List.length_append]; simp; omega, by rw [Hhe2.out]; rfl, HS5.out.pick [0, 1] (by decide)⟩
        · go_wp2
          go_ret
          exact ⟨[97, 97, 97, 97, 97, 97, 97, 97, 97], p2 + 1, (fun b hb => by simp at hb; omega), by decide, rfl, HS5.out.pick [0, 1] (by decide)⟩
set_option maxRecDepth 100000 in
set_option maxHeartbeats 4000000 in
theorem drawWord_any (bs : List Nat) (v : Value) (w : World) (hb : Bytes 0 w v bs) (hlen : bs.length ≤ 100000000) :
    Calls Try.prog 20 #[v] w fun e w' => ∃ l : List Nat, isT l ∧ l.length ≤ 10 ∧ e = .returned (.string (txB l)) ∧ Below w.heap.size w w' := by
  have Hb := Lib.hid hb
  clear hb
  go_enter Try.func20, Try.ntmps20
  go_wp2_with fail
  refine (open_any bs v _ Hb.out hlen).mono ?_
  rintro e w1 ⟨vb, bs', hl', hB, rfl, hS'⟩
  have HB := Lib.hid hB
  have HS1 := Lib.hid hS'
  clear hB hS'
  go_wp2_with fail
  refine (l20Word_any bs' vb w.heap.size 0 9 w w1 _ HB.out hl' (by omega) (by omega) (St.pack (A := [RdE w.heap.size vb 0]) (R := []) HS1.out)).mono ?_
  rintro e w2 ⟨l, p', ht, hl, rfl, hS2⟩
  have HS2 := Lib.hid hS2
  have Ht := Lib.hid ht
  clear hS2 ht
  go_wp2
  go_ret
  exact ⟨l, Ht.out, hl, rfl, HS2.out.bel⟩
end Go.Proofs.Ytjcegbcmomfgaaa
