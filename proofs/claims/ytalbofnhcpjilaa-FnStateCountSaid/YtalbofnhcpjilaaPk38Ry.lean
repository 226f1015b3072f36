/-
  What a call has made for itself, as a list of things that lie in different blocks: one step of the walk turns the whole list at once.
  No condition: this text speaks of no program.
-/
import Derived.Test.YtalbofnhcpjilaaRows
import Derived.Test.YtalbofnhcpjilaaPk32Ry
namespace Go.Proofs.Ytalbofnhcpjilaa
open Go.RowKit
section
variable {w0 w w' : World} {L : List Ent}
end
/-! Many things as one. -/
theorem St.unpack {w0 w w' : World} {A A' R : List Ent} (h : St w0 w (A ++ R)) (h' : St w0 w' (A' ++ [Ent.all R])) : St w0 w' (A' ++ R) := by
  have hX : (A' ++ [Ent.all R])[A'.length]? = some (Ent.all R) := by simp
  have hXh := h'.has _ _ hX
  have key : ∀ i x, (A' ++ R)[i]? = some x → (i < A'.length ∧ (A' ++ [Ent.all R])[i]? = some x) ∨ (A'.length ≤ i ∧ R[i - A'.length]? = some x) := fun i x hx => by
    rw [List.getElem?_append] at hx
    split at hx
    · rename_i hl
      exact Or.inl ⟨hl, by rw [List.getElem?_append_left hl]; exact hx⟩
    · exact Or.inr ⟨by omega, hx⟩
  refine ⟨h'.bel, fun i x hx => ?_, fun i j x y hij hx hy => ?_⟩
  · rcases key i x hx with ⟨-, h1⟩ | ⟨-, h1⟩
    · exact h'.has i x h1
    · have hm := List.mem_of_getElem? h1
      exact ⟨hXh.1 x hm, fun k hk => hXh.2 k ⟨x, hm, hk⟩⟩
  · rcases key i x hx with ⟨hi, h1⟩ | ⟨hi, h1⟩
    · rcases key j y hy with ⟨hj, h2⟩ | ⟨hj, h2⟩
      · exact h'.far i j x y hij h1 h2
      · intro k hk hk2
        exact h'.far i A'.length x _ (by omega) h1 hX k hk ⟨y, List.mem_of_getElem? h2, hk2⟩
    · rcases key j y hy with ⟨hj, h2⟩ | ⟨hj, h2⟩
      · intro k hk hk2
        exact h'.far A'.length j _ y (by omega) hX h2 k ⟨x, List.mem_of_getElem? h1, hk⟩ hk2
      · refine h.far (A.length + (i - A'.length)) (A.length + (j - A'.length)) x y (by omega) ?_ ?_
        · rw [List.getElem?_append_right (by omega)]; simpa using h1
        · rw [List.getElem?_append_right (by omega)]; simpa using h2
/-! What is read above a block stays where a block below is written. -/
theorem range_snoc {p : Nat → Bool} {k : Nat} (h : (List.range k).all p = true) (hp : p k = true) : (List.range (k + 1)).all p = true := by
  rw [List.range_succ, List.all_append, h]
  simp [hp]
end Go.Proofs.Ytalbofnhcpjilaa
namespace Go.Proofs.Ytalbofnhcpjilaa
open Go.RowKit
end Go.Proofs.Ytalbofnhcpjilaa
namespace Go.Proofs.Ytalbofnhcpjilaa
open Go.RowKit
end Go.Proofs.Ytalbofnhcpjilaa
namespace Go.Proofs.Ytalbofnhcpjilaa
open Go.RowKit Go.Maps
end Go.Proofs.Ytalbofnhcpjilaa
namespace Go.Proofs.Ytalbofnhcpjilaa
open Go.RowKit
section
variable {P : Program} (w : World)
end
theorem on_prs {xs : List (Int × Int)} : ∀ u ∈ xs.flatMap pairCells, u.oneCell' = true := fun u hu => by
  obtain ⟨x, -, hx⟩ := List.mem_flatMap.1 hu
  simp only [pairCells, List.mem_cons, List.not_mem_nil, or_false] at hx
  rcases hx with rfl | rfl <;> simp [Value.oneCell']
theorem Qs.append {P : Program} {lo : Nat} {w : World} {e : TypeId} {v : Value} {xs : List Value} (h : Qs lo w e v xs) (t ty : TypeId) (i : TypeInfo) (z : Value) (bytes : Nat) (ht : P.underlying t = some (.slice e)) (hi : P.info? e = some i) (hz : i.zero = some z) (hsize : i.size = 1) (hby : i.bytes = bytes) (hzs : z.cells.size = 1)
    (ad : Addr) (c : Nat) (x : Value) (hx : w.cell? ad = some x) (had : ad.add 0 = ad) (h1 : x.oneCell' = true) (h63 : xs.length + 1 ≤ 1000000) (hb : bytes ≤ 100) (hlo : lo ≤ w.heap.size) :
    ∃ v' w', (Builtin.append_ #[t, t] ty #[v, .slice (some ad) 1 c]).run P w = .ok v' w' ∧ Qs lo w' e v' (xs ++ [x]) ∧ w.grownBy w' v.ownBlock := by
  obtain ⟨g, off, cap, cur, rfl, hg0, hg, h2, h3, h4, h5⟩ := h
  have hnews : ∀ j u, [x][j]? = some u → w.cell? (ad.add j) = some u := fun j u hu => by
    cases j with
    | zero => simp at hu; subst hu; rw [had]; exact hx
    | succ j => simp at hu
  by_cases hroom : xs.length + 1 ≤ cap
  · have hf := run_firstCells_some (P := P) w i.size 1 ad 1 c [x] (by simp [hsize]) hnews
    have hst := run_storeCells_at P g (off + xs.length) e [x] 0 cur w hg (by simp; omega) (by simpa using h1)
    have hadd : (⟨g, off, none⟩ : Addr).add xs.length = ⟨g, off + xs.length, none⟩ := by unfold Addr.add; split <;> simp_all
    simp only [Nat.add_zero, List.length_singleton] at hst
    rw [hsize] at hf
    have hcl : off + xs.length < cur.toList.length := by simp; omega
    have ht1 : (List.take (off + xs.length) cur.toList).length = off + xs.length := by rw [List.length_take]; omega
    obtain ⟨cs, hcs⟩ : ∃ cs : Array Value, cs = (List.take (off + xs.length) cur.toList ++ [x] ++ List.drop (off + xs.length + 1) cur.toList).toArray := ⟨_, rfl⟩
    rw [← hcs] at hst
    have hrow := setRow_heap w g cur cs e (0, 0) hg
    refine ⟨.slice (some ⟨g, off, none⟩) (xs.length + 1) cap, w.setRow g cs, by simp [Builtin.append_, run_underlying ht, sizeOf, typeInfo, hi, hsize, Builtin.lenOf, hroom, hf, hadd, hst], ?_, ?_⟩
    · refine ⟨g, off, cap, cs, by simp, hg0, hrow, by simpa using hroom, h3, ?_, fun j hj => ?_⟩
      · rw [hcs]
        simp only [List.size_toArray, List.length_append, List.length_singleton, List.length_drop, ht1, Array.length_toList]
        omega
      · simp only [List.length_append, List.length_singleton] at hj
        rw [hcs]
        simp only [List.getElem?_toArray]
        by_cases hjn : j < xs.length
        · rw [List.append_assoc, List.getElem?_append_left (by omega), List.getElem?_append_left hjn, List.getElem?_take, if_pos (by omega), Array.getElem?_toList]
          exact h5 j hjn
        · obtain rfl : j = xs.length := by omega
          rw [List.append_assoc, List.getElem?_append_right (by omega), ht1]
          simp
    · exact ⟨rfl, rfl, rfl, by simp, fun k _ hk => setRow_other w g k cs (fun e => hk (by rw [e]; rfl))⟩
  · have hgr := run_append_grow (P := P) w t ty e i z ht hi hz ⟨g, off, none⟩ xs.length cap xs (by rw [hsize]; omega)
      (fun j u hu => by
        have hj : j < xs.length := (List.getElem?_eq_some_iff.1 hu).1
        have hadd : (⟨g, off, none⟩ : Addr).add j = ⟨g, off + j, none⟩ := by unfold Addr.add; split <;> simp_all
        rw [hadd, cell_of_row w g _ cur e (0, 0) hg, h5 j hj, hu]) ad 1 c [x] (by simp [hsize]) hnews (by omega) (by omega)
      (by
        have := nextslicecap_le_wide (need := xs.length + 1) (old := cap) (by omega)
        have hm := Nat.mul_le_mul this (show i.bytes ≤ 100 by omega)
        omega)
    have hcm := grownCap_le_maxLen w (xs.length + 1) cap e (by unfold maxLen; omega)
    have hge := grownCap_ge w (xs.length + 1) cap e
    have hnew := heap_alloc_new w.drew (.cells (xs.toArray ++ [x].toArray ++ Builtin.zeroCells z.cells (grownCap w (xs.length + 1) cap e - (xs.length + 1))) e)
    refine ⟨_, _, hgr, ⟨w.heap.size, 0, _, _, by simp, hlo, hnew, by simpa using hge, hcm, ?_, fun j hj => ?_⟩, ?_⟩
    · simp [size_zeroCells, hzs]
      omega
    · simp only [Nat.zero_add]
      rw [← List.getElem?_toArray]
      have : (xs ++ [x]).toArray = xs.toArray ++ [x].toArray := by simp
      rw [this, Array.getElem?_append_left (by simpa using hj)]
    · exact ⟨rfl, rfl, rfl, by simp [World.alloc], fun k hk _ => Below.heap_alloc w.drew _ k hk⟩
def txB (l : List Nat) : ByteArray := ⟨(l.map UInt8.ofNat).toArray⟩
def isT (l : List Nat) : Prop := ∀ b ∈ l, b < 256
theorem txB_size (l : List Nat) : (txB l).size = l.length := by simp [txB, ByteArray.size]
theorem getD_memT {l : List Nat} {i : Nat} (hi : i < l.length) : l.getD i 0 ∈ l := by
  rw [List.getD_eq_getElem?_getD, List.getElem?_eq_getElem hi]
  exact List.getElem_mem hi
theorem txB_at {l : List Nat} {i : Nat} (hi : i < l.length) (ht : isT l) (h : i < (txB l).size) : (((txB l)[i]'h).toNat : Int) = (l.getD i 0 : Nat) := by
  have hc : l.getD i 0 < 256 := ht _ (getD_memT hi)
  have e : (txB l)[i]'h = UInt8.ofNat (l.getD i 0) := by
    show (txB l).data[i] = _
    simp [txB, hi]
  rw [e, UInt8.toNat_ofNat']
  omega
theorem txB_index {l : List Nat} {i : Nat} (hi : i < l.length) (ht : isT l) (w : World) : (Instr.index 9 (.string (txB l)) (.int .i64 (i : Int))).run Try.prog w = .ok (.int .u8 ((l.getD i 0 : Nat) : Int)) w := by
  have hs : (txB l).size = l.length := txB_size l
  rw [run_index_string w 9 (txB l) .i64 i Try.underlying9, dif_pos (by omega)]
  congr 2
  exact txB_at hi ht _
def okT (l : List Nat) (k : Nat) : Bool := (List.range k).all fun i => inB ((l.getD i 0 : Nat) : Int) 97 99
def wdOk (l : List Nat) : Bool := okT l l.length && decide (l.length ≤ 8)
theorem okT_succ {l : List Nat} {k : Nat} (h : okT l k = true) (h1 : inB ((l.getD k 0 : Nat) : Int) 97 99 = true) : okT l (k + 1) = true := range_snoc h h1
theorem okT_bad {l : List Nat} {k : Nat} (hk : k < l.length) (h1 : inB ((l.getD k 0 : Nat) : Int) 97 99 = false) : wdOk l = false := by
  unfold wdOk okT
  have : ((List.range l.length).all fun i => inB ((l.getD i 0 : Nat) : Int) 97 99) = false := by
    rw [List.all_eq_false]
    exact ⟨k, List.mem_range.2 hk, by rw [h1]; simp⟩
  rw [this]
  rfl
set_option maxHeartbeats 1600000 in
theorem areLetters_any (l : List Nat) (w : World) (ht : isT l) (hl : l.length ≤ 1000000) (r : Bool) (hr : wdOk l = r) :
    Calls Try.prog 125 #[.string (txB l), .int .i64 8] w fun e w' => e = .returned (.bool r) ∧ w = w' := by
  have hs : (txB l).size = l.length := txB_size l
  have Hhr := Lib.hid hr; clear hr
  have Hht := Lib.hid ht; clear ht
  go_enter Try.func125, Try.ntmps125
  go_wp2
  go_loopw [8] (fun i wr => ∃ k : Nat, i = .int .i64 k ∧ k ≤ l.length ∧ okT l k = true ∧ w = wr) (fun i _ => l.length - (intOf i).toNat)
  case atStart => exact ⟨0, rfl, Nat.zero_le _, rfl, rfl⟩
  case round =>
    obtain ⟨k, rfl, hk, hok, rfl⟩ := hrel
    by_cases hlt : k < l.length
    · have hkl : (k : Int) < l.length := by omega
      have hrun := txB_index hlt Hht.out
      have hb := Hht.out _ (getD_memT hlt)
      obtain ⟨c, hcc⟩ : ∃ c, c = l.getD k 0 := ⟨_, rfl⟩
      rw [← hcc] at hrun hb
      have hw9 : IntKind.i64.wrap (c : Int) = (c : Int) := IntWalk.i64_in _ (by omega)
      have Hhok := Lib.hid hok; clear hok
      have Hhcc := Lib.hid hcc; clear hcc
      cases hin : inB (c : Int) 97 99
      · have Hhin := Lib.hid hin; clear hin
        go_wp2_with (go_at_call 86; refine (within_any _ _ _ _ _ Hhin.out).mono ?_; rintro e w' ⟨rfl, rfl⟩)
        go_ret
        exact ⟨by rw [← Hhr.out, okT_bad hlt (by rw [← Hhcc.out]; exact Hhin.out)]; rfl, rfl⟩
      · have Hhin := Lib.hid hin; clear hin
        go_wp2_with (go_at_call 86; refine (within_any _ _ _ _ _ Hhin.out).mono ?_; rintro e w' ⟨rfl, rfl⟩)
        go_roundw
        case rel => exact ⟨k + 1, by go_num, by omega, okT_succ Hhok.out (by rw [← Hhcc.out]; exact Hhin.out), trivial⟩
        case measure => simp [intOf]; omega
    · obtain rfl : k = l.length := by omega
      have hrr : decide ((l.length : Int) ≤ 8) = r := by
        rw [← Hhr.out]
        unfold wdOk
        rw [hok, Bool.true_and]
        exact decide_eq_decide.2 (by omega)
      have Hhok := Lib.hid hok; clear hok
      have Hhrr := Lib.hid hrr; clear hrr
      go_wp2
      go_ret
      exact ⟨by rw [← Hhrr.out]; rfl, rfl⟩
set_option maxHeartbeats 1600000 in
theorem implWordValid_any (l : List Nat) (w : World) (ht : isT l) (hl : l.length ≤ 1000000) (r : Bool) (hr : wdOk l = r) :
    Calls Try.prog 74 #[.string (txB l)] w fun e w' => e = .returned (.bool r) ∧ w = w' := by
  have Hhr := Lib.hid hr; clear hr
  have Hht := Lib.hid ht; clear ht
  go_enter Try.func74, Try.ntmps74
  go_wp2_with (go_at_call 125; refine (areLetters_any l _ Hht.out hl _ Hhr.out).mono ?_; rintro e w' ⟨rfl, rfl⟩)
  go_ret
  exact ⟨rfl, rfl⟩
set_option maxHeartbeats 800000 in
theorem letterT_any (l : List Nat) (i : Nat) (hi : i < l.length) (ht : isT l) (hlo : 97 ≤ l.getD i 0) (w : World) : Calls Try.prog 106 #[.string (txB l), .int .i64 i] w fun e w' => e = .returned (.int .i64 ((l.getD i 0 - 97 : Nat) : Int)) ∧ w = w' := by
  have hb := ht _ (getD_memT hi)
  have hrun := txB_index hi ht
  obtain ⟨c, hcc⟩ : ∃ c, c = l.getD i 0 - 97 := ⟨_, rfl⟩
  have hc2 : ((l.getD i 0 : Nat) : Int) = 97 + (c : Int) := by omega
  rw [hc2] at hrun
  rw [← hcc]
  have hw8 : IntKind.u8.wrap (97 + (c : Int) - 97) = (c : Int) := by
    have : 97 + (c : Int) - 97 = (c : Int) := by omega
    rw [this]
    exact IntWalk.u8_in _ (by omega)
  have hw9 : IntKind.i64.wrap (c : Int) = (c : Int) := IntWalk.i64_in _ (by omega)
  have Hhcc := Lib.hid hcc; clear hcc
  clear hc2 hlo hb
  go_enter Try.func106, Try.ntmps106
  go_wp2
  go_ret
  exact ⟨rfl, rfl⟩
def shF : Nat → Nat
  | 0 => 0
  | k + 1 => shF k + 3 ^ k
theorem pow3_le {k : Nat} (h : k ≤ 9) : 3 ^ k ≤ 19683 := Nat.pow_le_pow_right (by omega) h
theorem shF_le : ∀ k, shF k ≤ 3 ^ k
  | 0 => by decide
  | k + 1 => by
    show shF k + 3 ^ k ≤ 3 ^ (k + 1)
    have := shF_le k
    rw [Nat.pow_succ]
    omega
set_option maxHeartbeats 1600000 in
theorem wordsOf_any (n : Nat) (w : World) (hn : n ≤ 9) : Calls Try.prog 140 #[.int .i64 n] w fun e w' => e = .returned (.int .i64 ((3 ^ n : Nat) : Int)) ∧ w = w' := by
  go_enter Try.func140, Try.ntmps140
  go_wp2
  go_loopw [3, 5] (fun p i wr => ∃ k q : Nat, i = .int .i64 k ∧ p = .int .i64 q ∧ k ≤ n ∧ 3 ^ k = q ∧ w = wr) (fun _ i _ => n - (intOf i).toNat)
  case atStart => exact ⟨0, 1, rfl, rfl, Nat.zero_le _, rfl, rfl⟩
  case round =>
    obtain ⟨k, q, rfl, rfl, hk, hq, rfl⟩ := hrel
    have hq2 := pow3_le (k := k) (by omega)
    rw [hq] at hq2
    by_cases hlt : k < n
    · have hkl : (k : Int) < n := by omega
      have Hhq := Lib.hid hq; clear hq
      go_wp2
      go_roundw
      case rel => exact ⟨k + 1, q * 3, by go_num, by go_num, by omega, by rw [Nat.pow_succ, Hhq.out], trivial⟩
      case measure => simp [intOf]; omega
    · obtain rfl : k = n := by omega
      have Hhq := Lib.hid hq; clear hq
      go_wp2
      go_ret
      exact ⟨by rw [Hhq.out]; rfl, rfl⟩
set_option maxHeartbeats 1600000 in
theorem shorter_any (n : Nat) (w : World) (hn : n ≤ 9) : Calls Try.prog 107 #[.int .i64 n] w fun e w' => e = .returned (.int .i64 ((shF n : Nat) : Int)) ∧ w = w' := by
  go_enter Try.func107, Try.ntmps107
  go_wp2
  go_loopw [3, 6] (fun p i wr => ∃ k q : Nat, i = .int .i64 k ∧ p = .int .i64 q ∧ k ≤ n ∧ shF k = q ∧ w = wr) (fun _ i _ => n - (intOf i).toNat)
  case atStart => exact ⟨0, 0, rfl, rfl, Nat.zero_le _, rfl, rfl⟩
  case round =>
    obtain ⟨k, q, rfl, rfl, hk, hq, rfl⟩ := hrel
    have hq2 := pow3_le (k := k) (by omega)
    have hq3 := shF_le k
    rw [hq] at hq3
    obtain ⟨t, hT⟩ : ∃ t, 3 ^ k = t := ⟨_, rfl⟩
    rw [hT] at hq2 hq3
    by_cases hlt : k < n
    · have hkl : (k : Int) < n := by omega
      have Hhq := Lib.hid hq; clear hq
      have HhT := Lib.hid hT; clear hT
      go_wp2_with (go_at_call 140; refine (wordsOf_any k _ (by omega)).mono ?_; rintro e w' ⟨rfl, rfl⟩; rw [HhT.out])
      go_roundw
      case rel => exact ⟨k + 1, q + t, by go_num, by go_num, by omega, by rw [← Hhq.out, ← HhT.out]; rfl, trivial⟩
      case measure => simp [intOf]; omega
    · obtain rfl : k = n := by omega
      have Hhq := Lib.hid hq; clear hq
      have HhT := Lib.hid hT; clear hT
      go_wp2
      go_ret
      exact ⟨by rw [Hhq.out]; rfl, rfl⟩
set_option maxHeartbeats 1600000 in
theorem rankAb_any (w : World) : Calls Try.prog 57 #[.string { data := #[97, 98] }] w fun e w' => e = .returned (.int .i64 5) ∧ w = w' := by
  have hab : ({ data := #[97, 98] } : ByteArray) = txB [97, 98] := rfl
  have hab2 : isT [97, 98] := fun b hb => by simp at hb; omega
  have hsz : (txB [97, 98]).size = 2 := rfl
  have l0 := fun w => letterT_any [97, 98] 0 (by decide) hab2 (by decide) w
  have l1 := fun w => letterT_any [97, 98] 1 (by decide) hab2 (by decide) w
  have sh : ∀ w, Calls Try.prog 107 #[.int .i64 2] w fun e w' => e = .returned (.int .i64 4) ∧ w = w' := fun w => shorter_any 2 w (by omega)
  have hv := fun w => implWordValid_any [97, 98] w hab2 (by decide) true rfl
  rw [hab]
  have L0 := Lib.hid l0
  have L1 := Lib.hid l1
  have Sh := Lib.hid sh
  have Hv := Lib.hid hv
  clear l0 l1 sh hab hab2 hv
  go_enter Try.func57, Try.ntmps57
  go_wp2_with (go_at_call 74; refine (Hv.out _).mono ?_; rintro e w' ⟨rfl, rfl⟩)
  go_loopw [3, 10] (fun n i wr => ∃ k q : Nat, i = .int .i64 k ∧ n = .int .i64 q ∧ k ≤ 2 ∧ q ≤ 1 ∧ (k < 2 → q = 0) ∧ (k = 2 → q = 1) ∧ w = wr) (fun _ i _ => 2 - (intOf i).toNat)
  case atStart => exact ⟨0, 0, rfl, rfl, by omega, by omega, fun _ => rfl, fun h => by omega, rfl⟩
  case round =>
    obtain ⟨k, q, rfl, rfl, hk, hq1, hq2, hq3, rfl⟩ := hrel
    obtain rfl | rfl | rfl : k = 0 ∨ k = 1 ∨ k = 2 := by omega
    · obtain rfl := hq2 (by omega)
      clear hq1 hq2 hq3 hk
      go_wp2_with (go_at_call 106; refine (L0.out _).mono ?_; rintro e w' ⟨rfl, rfl⟩)
      go_roundw
      case rel => exact ⟨1, 0, rfl, rfl, by omega, by omega, fun _ => rfl, fun h => by omega, trivial⟩
      case measure => simp [intOf]
    · obtain rfl := hq2 (by omega)
      clear hq1 hq2 hq3 hk
      go_wp2_with (go_at_call 106; refine (L1.out _).mono ?_; rintro e w' ⟨rfl, rfl⟩)
      go_roundw
      case rel => exact ⟨2, 1, rfl, rfl, by omega, by omega, fun h => by omega, fun _ => rfl, trivial⟩
      case measure => simp [intOf]
    · obtain rfl := hq3 rfl
      clear hq1 hq2 hq3 hk
      go_wp2_with (go_at_call 107; refine (Sh.out _).mono ?_; rintro e w' ⟨rfl, rfl⟩)
      go_ret
      exact ⟨rfl, rfl⟩
set_option maxHeartbeats 1600000 in
theorem alive_any (w : World) : Calls Try.prog 21 #[] w fun e w' => e = .returned (.bool true) ∧ w = w' := by
  go_enter Try.func21, Try.ntmps21
  go_wp2_with (go_at_call 57; refine (rankAb_any _).mono ?_; rintro e w' ⟨rfl, rfl⟩)
  go_ret
  exact ⟨rfl, rfl⟩
theorem Pth.append {ms : List (Int × Int × Int)} {s t u : Int} {x y : List Nat} (h : Pth ms s x t) (h' : Pth ms t y u) : Pth ms s (x ++ y) u := by
  induction h with
  | here s => exact h'
  | eps hm _ ih => exact .eps hm (ih h')
  | step hm _ ih => exact .step hm (ih h')
end Go.Proofs.Ytalbofnhcpjilaa
namespace Go.Proofs.Ytalbofnhcpjilaa
open Go.RowKit Go.Deep Go.ChangeShapes Go.ChangeAt
section
variable {H : Type} {enc : TypeId × Value → H} {P : Program} {w : World} {held : Bool}
theorem sl_of_cells {a : Addr} {len cap : Nat} {cs : List Value} (hl : cs.length = len) (hle : len ≤ cap) (hm : cap ≤ maxLen) (hc : ∀ i, i < len → w.cell? (a.add i) = cs[i]?) : Sl 0 w (.slice (some a) len cap) len 1 cs := by
  refine ⟨by omega, _, cap, rfl, hle, hm, fun h0 => ?_⟩
  obtain ⟨u, hu⟩ : ∃ u, cs[0]? = some u := ⟨cs[0]'(by omega), by simp [show 0 < cs.length by omega]⟩
  obtain ⟨b, off, rfl⟩ := addr_plain ((hc 0 h0).trans hu)
  refine ⟨b, off, rfl, Nat.zero_le _, World.block_lt_of_cell? w _ ((hc 0 h0).trans hu), fun j hj => ?_⟩
  rw [← hc j (by omega), ← Go.WideShapes.add_plain]
end
end Go.Proofs.Ytalbofnhcpjilaa
namespace Go.Proofs.Ytalbofnhcpjilaa
open Go.RowKit Go.Deep Go.ChangeShapes Go.ChangeAt
def Bytes (B : Nat) (w : World) (v : Value) (bs : List Nat) : Prop := (∀ b ∈ bs, b < 256) ∧ Sl B w v bs.length 1 (bs.map fun (b : Nat) => Value.int .u8 (b : Int))
theorem Bytes.below {B : Nat} {w w' : World} {v : Value} {bs : List Nat} (h : Bytes B w v bs) (he : Below w.heap.size w w') : Bytes B w' v bs := ⟨h.1, Sl.below h.2 he⟩
theorem Bytes.form {B : Nat} {w : World} {v : Value} {bs : List Nat} (h : Bytes B w v bs) : ∃ a cap, v = .slice a bs.length cap ∧ bs.length ≤ cap ∧ cap ≤ 9223372036854775807 ∧
    (0 < bs.length → ∃ b off, a = some ⟨b, off, none⟩ ∧ B ≤ b ∧ b < w.heap.size ∧ ∀ j, j < bs.length → w.cell? ⟨b, off + j, none⟩ = some (.int .u8 (bs.getD j 0 : Nat)) ∧ bs.getD j 0 < 256) := by
  obtain ⟨h0, hl, a, cap, hv, h1, h2, h3⟩ := h
  refine ⟨a, cap, hv, h1, h2, fun hn => ?_⟩
  obtain ⟨b, off, ha, hb, hlt, hc⟩ := h3 hn
  refine ⟨b, off, ha, hb, hlt, fun j hj => ⟨?_, h0 _ (by rw [show bs.getD j 0 = bs[j] by simp [hj]]; exact List.getElem_mem hj)⟩⟩
  rw [hc j (by omega)]
  simp [hj]
section
variable {H : Type} {enc : TypeId × Value → H} {P : Program} {w : World} {held : Bool}
theorem wf_u8 {n : Int} (h : (Lit.int .u8 n).wf = true) : 0 ≤ n ∧ n ≤ 255 := by
  have e1 : IntKind.u8.min = 0 := rfl
  have e2 : IntKind.u8.max = 255 := rfl
  simp only [Lit.wf, Bool.and_eq_true, decide_eq_true_eq, e1, e2] at h
  exact h
theorem open_bytes_R {t e : TypeId} {fuel : Nat} {cs : List Value} {x : DataW H × List MemPlace} (ht : P.underlying t = some (.slice e)) (he : P.underlying e = some (.int .u8)) (hc : P.cellsOf e = 1)
    (h : DataW.trod enc P w 0 (fun _ => true) held fuel t cs = some x) : ∃ v bs, cs = [v] ∧ Bytes 0 w v bs := by
  rcases open_ints ht he hc h with ⟨hcs, -⟩ | ⟨a, len, cap, zs, hcs, -, hl, hm, hz, -, hcell, hwf⟩
  · exact ⟨_, [], hcs, fun b hb => by simp at hb, by simp, none, 0, rfl, Nat.le_refl _, Nat.zero_le _, fun h => by simp at h⟩
  · simp only [if_true] at hz
    refine ⟨_, (zs.take len).map Int.toNat, hcs, fun b hb => ?_, ?_⟩
    · obtain ⟨z, hz1, rfl⟩ := List.mem_map.1 hb
      have := wf_u8 (hwf z (List.mem_of_mem_take hz1))
      omega
    · have hlen : ((zs.take len).map Int.toNat).length = len := by simp; omega
      rw [hlen]
      refine sl_of_cells (by simp; omega) hl hm fun i hi => ?_
      rw [hcell i (by omega)]
      have hzi : i < zs.length := by omega
      have := wf_u8 (hwf _ (List.getElem_mem hzi))
      simp [hi, hzi]
      omega
end
theorem ofInt_i64 (a : Nat) (ha : a < 1099511627776) : (BitVec.ofInt 64 (a : Int)).toNat = a := by
  rw [BitVec.ofInt_natCast, BitVec.toNat_ofNat]; exact Nat.mod_eq_of_lt (by omega)
theorem i64_xor_nat (a b : Nat) (ha : a < 1099511627776) (hb : b < 1099511627776) : bits .xor .i64 (a : Int) (b : Int) = ((a ^^^ b : Nat) : Int) := by
  have hx : a ^^^ b < 2 ^ 40 := Nat.xor_lt_two_pow (by omega) (by omega)
  show IntKind.i64.wrap ((BitVec.ofInt 64 (a : Int) ^^^ BitVec.ofInt 64 (b : Int)).toNat : Int) = _
  rw [BitVec.toNat_xor, ofInt_i64 a ha, ofInt_i64 b hb]
  exact IntWalk.i64_in _ (by omega)
end Go.Proofs.Ytalbofnhcpjilaa
namespace Go.Proofs.Ytalbofnhcpjilaa
open Go.RowKit
def RdE (b : Nat) (vb : Value) (p : Nat) : Ent := Ent.box b #[vb, .int .i64 ((p : Nat) : Int)] 117
theorem Bytes.take {w : World} {a : Option Addr} {len cap : Nat} {bs : List Nat} (h : Bytes 0 w (.slice a len cap) bs) {n : Nat} (hn : n ≤ bs.length) : Bytes 0 w (.slice a n cap) (bs.take n) := by
  obtain ⟨h0, hl, a', cap', hv, h1, h2, h3⟩ := h
  simp only [Value.slice.injEq] at hv
  obtain ⟨rfl, rfl, rfl⟩ := hv
  have e : (bs.take n).length = n := by rw [List.length_take]; omega
  refine ⟨fun b hb => h0 b (List.mem_of_mem_take hb), ?_⟩
  rw [e]
  refine ⟨by rw [List.length_map, e]; omega, a, cap, rfl, by omega, h2, fun hn0 => ?_⟩
  obtain ⟨b, off, ha, hb, hlt, hc⟩ := h3 (by omega)
  refine ⟨b, off, ha, hb, hlt, fun j hj => ?_⟩
  rw [hc j (by omega), List.map_take, List.getElem?_take_of_lt (by omega)]
set_option maxRecDepth 100000 in
set_option maxHeartbeats 4000000 in
theorem pick_any (bs : List Nat) (vb : Value) (b p n : Nat) (w0 w : World) (X : Ent) (hb : Bytes 0 w0 vb bs) (hlen : bs.length ≤ 2000) (hp : p ≤ 1000000) (hn0 : 1 ≤ n) (hn1 : n ≤ 10000) (hS : St w0 w [RdE b vb p, X]) :
    Calls Try.prog 103 #[.pointer (some ⟨b, 0, none⟩), .int .i64 ((n : Nat) : Int)] w fun e w' => ∃ k : Nat, k < n ∧ e = .returned (.int .i64 ((k : Nat) : Int)) ∧ St w0 w' [RdE b vb (p + 1), X] := by
  obtain ⟨a, c, rfl, hc1, hc2, hr⟩ := hb.form
  have e0 := hS.cell (v := .slice a bs.length c) 0 0 rfl rfl
  have e1 := hS.cell (v := .int .i64 ((p : Nat) : Int)) 0 1 rfl rfl
  have f1 := hS.fr 0 1 rfl
  have hS1 := hS.set 0 rfl 1 (.int .i64 ((p : Int) + 1))
  have HS1 := Lib.hid hS1
  have Hr := Lib.hid hr
  have hnI : (1 : Int) ≤ n := by omega
  have hn2 : ((n : Int) < 1) = False := by simp; omega
  have hp1 : (p : Int) + 1 - 1 = p := by omega
  clear hb hS hr hS1
  by_cases h0 : bs.length = 0
  · have q1 : ((bs.length : Int) == 0) = true := by rw [h0]; rfl
    have q2 : ((bs.length : Int) = 0) = True := by simp [h0]
    go_enter Try.func103, Try.ntmps103
    go_wp2
    go_ret
    exact ⟨0, by omega, rfl, HS1.out⟩
  · have q0 : (bs.length : Int) ≠ 0 := by omega
    have q1 : ((bs.length : Int) == 0) = false := by rw [beq_eq_false_iff_ne]; exact q0
    have q2 : ((bs.length : Int) = 0) = False := eq_false q0
    clear q0
    obtain ⟨b1, o1, rfl, -, hb1, hcs⟩ := Hr.out (by omega)
    by_cases hlt : p < bs.length
    · have hlt2 : (p : Int) < bs.length := by omega
      have e3 := (bcell HS1.out.bel b1 _ hb1).trans (hcs p hlt).1
      obtain ⟨v, hv⟩ : ∃ v, v = bs.getD p 0 := ⟨_, rfl⟩
      have hv2 := (hcs p hlt).2
      rw [← hv] at e3 hv2
      have Hhv := Lib.hid hv; clear hv
      clear hcs h0
      go_enter Try.func103, Try.ntmps103
      go_wp2
      go_ret
      have hvn : ((v : Int) % (n : Int)) = ((v % n : Nat) : Int) := by omega
      exact ⟨v % n, Nat.mod_lt _ (by omega), by rw [← hvn]; rfl, HS1.out⟩
    · have hlt2 : ((p : Int) < bs.length) = False := by simp; omega
      have hm1 : p % bs.length < bs.length := Nat.mod_lt _ (by omega)
      have hm2 : (p * 7 + 3) % bs.length < bs.length := Nat.mod_lt _ (by omega)
      have e3 := (bcell HS1.out.bel b1 _ hb1).trans (hcs _ hm1).1
      have e4 := (bcell HS1.out.bel b1 _ hb1).trans (hcs _ hm2).1
      have hv1 := (hcs _ hm1).2
      have hv2 := (hcs _ hm2).2
      have i1 : (p : Int) % (bs.length : Int) = ((p % bs.length : Nat) : Int) := by omega
      have i2 : ((p : Int) * 7 + 3) % (bs.length : Int) = (((p * 7 + 3) % bs.length : Nat) : Int) := by
        rw [Int.natCast_emod]
        congr 1
      have i3 : (p : Int) / (bs.length : Int) = ((p / bs.length : Nat) : Int) := by rw [Int.natCast_ediv]
      have hdv : p / bs.length ≤ 1000000 := Nat.le_trans (Nat.div_le_self _ _) hp
      obtain ⟨u1, hu1⟩ : ∃ u, u = bs.getD (p % bs.length) 0 := ⟨_, rfl⟩
      obtain ⟨u2, hu2⟩ : ∃ u, u = bs.getD ((p * 7 + 3) % bs.length) 0 := ⟨_, rfl⟩
      obtain ⟨m1, hmm1⟩ : ∃ m, m = p % bs.length := ⟨_, rfl⟩
      obtain ⟨m2, hmm2⟩ : ∃ m, m = (p * 7 + 3) % bs.length := ⟨_, rfl⟩
      obtain ⟨m3, hmm3⟩ : ∃ m, m = p / bs.length := ⟨_, rfl⟩
      rw [← hu1] at e3 hv1
      rw [← hu2] at e4 hv2
      rw [← hmm1] at e3 i1 hm1
      rw [← hmm2] at e4 i2 hm2
      rw [← hmm3] at i3 hdv
      have j1 : (m1 : Int) < bs.length := by omega
      have j2 : (m2 : Int) < bs.length := by omega
      have Hhu1 := Lib.hid hu1; clear hu1
      have Hhu2 := Lib.hid hu2; clear hu2
      have Hhmm1 := Lib.hid hmm1; clear hmm1
      have Hhmm2 := Lib.hid hmm2; clear hmm2
      have Hhmm3 := Lib.hid hmm3; clear hmm3
      clear hcs h0 hlt
      go_enter Try.func103, Try.ntmps103
      go_wp2
      go_quiet (fail)
      go_wp2
      have ea : ((u1 : Int) * 131 + (u2 : Int) * 1117 + (p : Int) * 29 + (m3 : Int) * 53) = ((u1 * 131 + u2 * 1117 + p * 29 + m3 * 53 : Nat) : Int) := by omega
      obtain ⟨A, hA⟩ : ∃ A, A = u1 * 131 + u2 * 1117 + p * 29 + m3 * 53 := ⟨_, rfl⟩
      have hAl : A < 1099511627776 := by omega
      rw [← hA] at ea
      have hx : (bits BinOp.xor IntKind.i64 ((u1 : Int) * 131 + (u2 : Int) * 1117 + (p : Int) * 29 + (m3 : Int) * 53) (((u1 : Int) * 131 + (u2 : Int) * 1117 + (p : Int) * 29 + (m3 : Int) * 53) / 64)).tmod (n : Int) = (((A ^^^ (A / 64)) % n : Nat) : Int) := by
        rw [ea, show ((A : Nat) : Int) / 64 = ((A / 64 : Nat) : Int) by omega, i64_xor_nat A (A / 64) hAl (by omega)]
        exact (Int.ofNat_tmod _ _).symm
      go_ret
      exact ⟨(A ^^^ (A / 64)) % n, Nat.mod_lt _ (by omega), by rw [← hx]; rfl, HS1.out.drewN _⟩
set_option maxRecDepth 100000 in
set_option maxHeartbeats 4000000 in
theorem odd_any (bs : List Nat) (vb : Value) (b p n : Nat) (w0 w : World) (X : Ent) (hb : Bytes 0 w0 vb bs) (hlen : bs.length ≤ 2000) (hp : p ≤ 1000000) (hn1 : n ≤ 10000) (hS : St w0 w [RdE b vb p, X]) :
    Calls Try.prog 104 #[.pointer (some ⟨b, 0, none⟩), .int .i64 ((n : Nat) : Int)] w fun e w' => ∃ (q : Bool) (p' : Nat), p' ≤ p + 1 ∧ e = .returned (.bool q) ∧ St w0 w' [RdE b vb p', X] := by
  have HS := Lib.hid hS
  have Hb := Lib.hid hb
  clear hS hb
  by_cases h0 : n = 0
  · subst h0
    go_enter Try.func104, Try.ntmps104
    go_wp2
    go_ret
    exact ⟨_, p, by omega, rfl, HS.out⟩
  · have hnI : (0 : Int) < n := by omega
    go_enter Try.func104, Try.ntmps104
    go_wp2_with fail
    refine (pick_any bs vb b p n w0 _ X Hb.out hlen hp (by omega) hn1 HS.out).mono ?_
    rintro e w1 ⟨k, hk, rfl, hS1⟩
    have HS1 := Lib.hid hS1
    clear hS1
    by_cases hkn : (k : Int) = (n : Int) - 1
    · have g1 : ((k : Int) == (n : Int) - 1) = true := by rw [hkn]; simp
      have g2 : ((k : Int) = (n : Int) - 1) = True := eq_true hkn
      clear hkn
      go_wp2
      go_ret
      exact ⟨_, p + 1, Nat.le_refl _, rfl, HS1.out⟩
    · have g1 : ((k : Int) == (n : Int) - 1) = false := by rw [beq_eq_false_iff_ne]; exact hkn
      have g2 : ((k : Int) = (n : Int) - 1) = False := eq_false hkn
      clear hkn
      go_wp2
      go_ret
      exact ⟨_, p + 1, Nat.le_refl _, rfl, HS1.out⟩
end Go.Proofs.Ytalbofnhcpjilaa
namespace Go.Proofs.Ytalbofnhcpjilaa
open Go.ChangeShapes Go.WideShapes Go.ChangeAt Go.RowKit Go.Joins
section
variable {H : Type} {enc : TypeId × Value → H} {W : World}
end
end Go.Proofs.Ytalbofnhcpjilaa
namespace Go.Proofs.Ytalbofnhcpjilaa
open Go.ChangeShapes Go.WideShapes Go.ChangeAt Go.RowKit Go.Joins
theorem Try.cellsByte : Try.prog.cellsOf 5 = 1 := by kernel_rfl
theorem Try.recLBytes : Try.prog.readableRec 38 = true := by kernel_rfl
theorem Try.rowLBytes : (38 : TypeId) < Try.prog.types.size := of_decide_eq_true (by kernel_rfl)
section
variable {H : Type} {enc : TypeId × Value → H} {W : World}
set_option maxRecDepth 100000 in
theorem open_lbytes {held : Bool} {v : Value} {d : DataW H} {p : List MemPlace} (h : DataW.Trod enc Try.prog W 0 (fun _ => true) held 38 v d p) (hv : v.cells.toList = [v]) : ∃ bs, Bytes 0 W v bs := by
  obtain ⟨fuel, hf⟩ := h
  obtain ⟨u, bs, hu, hx⟩ := open_bytes_R Try.underlying38 Try.underlying5 Try.cellsByte hf
  rw [hv] at hu
  simp only [List.cons.injEq, and_true] at hu
  subst hu
  exact ⟨bs, hx⟩
end
end Go.Proofs.Ytalbofnhcpjilaa
