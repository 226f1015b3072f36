/-
  The walks over the functions that copy an argument of a law into new memory.
  Conditions: the argument reads as a list; its length is at most 1048576.
  What lies in memory while states are explored: the states met, their numbers in a map, the automaton that grows.
  Conditions: the things met lie in blocks of a type of their own.
  The walks over the functions of the laws that write numbers into what a call has handed back, and look for them again.
  Conditions: what is written is the call's own; the numbers stay below ten thousand million.
-/
import Derived.Test.YtalbofnhcpjilaaPk33Ry
import Derived.Test.YtalbofnhcpjilaaPk34Jf
namespace Go.Proofs.Ytalbofnhcpjilaa
open Go.RowKit
end Go.Proofs.Ytalbofnhcpjilaa
namespace Go.Proofs.Ytalbofnhcpjilaa
open Go.RowKit Go.Maps
section
variable {α : Type}
variable {kt sz B B1 B2 B4 hi : Nat} {enc : α → Value} {cel : α → List Value} {w w' : World} {met : List α} {rows : List (List Int)} {ends : List Bool} {vm vn ve : Value}
end
end Go.Proofs.Ytalbofnhcpjilaa
namespace Go.Proofs.Ytalbofnhcpjilaa
open Go.RowKit
def upFrom (k : Int) (n : Nat) : List Int := (List.range n).map fun (i : Nat) => k + i
def upBools (k : Int) (n : Nat) : List Bool := (List.range n).map fun (i : Nat) => (k + i) % 3 == 0
def sumLen (xss : List (List Int)) : Nat := (xss.map List.length).sum
def upRows (k : Int) (xss : List (List Int)) : List (List Int) := (List.range xss.length).map fun i => upFrom (k + sumLen (xss.take i)) (xss.getD i []).length
theorem upFrom_len (k : Int) (n : Nat) : (upFrom k n).length = n := by simp [upFrom]
theorem upBools_len (k : Int) (n : Nat) : (upBools k n).length = n := by simp [upBools]
theorem upRows_len (k : Int) (xss : List (List Int)) : (upRows k xss).length = xss.length := by simp [upRows]
theorem upFrom_at {k : Int} {n j : Nat} (h : j < n) : (intCells (upFrom k n))[j]? = some (.int .i64 (k + j)) := by simp [upFrom, h]
theorem upBools_at {k : Int} {n j : Nat} (h : j < n) : (boolCells (upBools k n))[j]? = some (.bool ((k + j) % 3 == 0)) := by simp [upBools, h]
theorem upFrom_getD {k : Int} {n j : Nat} (h : j < n) : (upFrom k n).getD j 0 = k + j := by simp [upFrom, h]
theorem upBools_getD {k : Int} {n j : Nat} (h : j < n) : (upBools k n).getD j false = ((k + j) % 3 == 0) := by simp [upBools, h]
theorem upRows_getD {k : Int} {xss : List (List Int)} {j : Nat} (h : j < xss.length) : (upRows k xss).getD j [] = upFrom (k + sumLen (xss.take j)) (xss.getD j []).length := by
  simp [upRows, h]
theorem sumLen_succ {xss : List (List Int)} {j : Nat} (h : j < xss.length) : sumLen (xss.take (j + 1)) = sumLen (xss.take j) + (xss.getD j []).length := by
  unfold sumLen
  rw [List.take_succ_eq_append_getElem h, List.map_append, List.sum_append]
  simp only [List.map_cons, List.map_nil, List.sum_cons, List.sum_nil, Nat.add_zero]
  simp [h]
theorem sumLen_le (xss : List (List Int)) (j : Nat) : sumLen (xss.take j) ≤ sumLen xss := by
  unfold sumLen
  have : (xss.map List.length).sum = ((xss.take j).map List.length).sum + ((xss.drop j).map List.length).sum := by
    rw [← List.sum_append, ← List.map_append, List.take_append_drop]
  omega
theorem Touch.of_grown {e lo hi size n : Nat} {w w' : World} {v : Value} {cs : List Value} (h : Own lo hi w e size v n cs) (hg : w.grownBy w' v.ownBlock) : Touch e lo hi w w' := by
  refine ⟨hg.os, hg.tape, hg.output, hg.size, fun k hk hh => hg.block k hk fun hr => ?_⟩
  obtain ⟨l1, l2, l3⟩ := h.lt k hr.symm
  rcases hh with hh | hh
  · omega
  · obtain ⟨cu, hcu⟩ := ownsRow_obj h.1 hr.symm
    exact hh _ _ hcu
theorem Own.touch {e e' lo hi lo' hi' size n : Nat} {w w' : World} {v : Value} {cs : List Value} (h : Own lo hi w e' size v n cs) (ht : Touch e lo' hi' w w') (hne : e' ≠ e) : Own lo hi w' e' size v n cs :=
  h.kept fun k hk => ht.block k (h.lt k hk).2.2 (.inr fun cur fr hc => by
    obtain ⟨cu, hcu⟩ := ownsRow_obj h.1 hk
    rw [hcu] at hc
    simp only [Option.some.injEq, Obj.cells.injEq] at hc
    exact hne hc.2.1)
theorem Bx.touch {e lo hi T b : Nat} {w w' : World} {cs : Array Value} (h : Bx w b cs T) (ht : Touch e lo hi w w') (hne : T ≠ e) : Bx w' b cs T :=
  (ht.block b h.lt (.inr fun cur fr hc => by
    unfold Bx at h
    rw [h] at hc
    simp only [Option.some.injEq, Obj.cells.injEq] at hc
    exact hne hc.2.1)).trans h
def markD (k : Int) (d : DfaD) : DfaD := ⟨upRows k d.next, upBools (k + sumLen d.next) d.ends.length⟩
def totD (d : DfaD) : Nat := sumLen d.next + d.ends.length
set_option maxHeartbeats 800000 in
theorem markInts_any (xs : List Int) (k : Int) (lo hi : Nat) (v : Value) (w : World) (hk0 : 0 ≤ k) (hk1 : k ≤ 10000000000) (hx : xs.length ≤ 100000000) (h : OInts 3 lo hi w v xs) :
    Calls Try.prog 100 #[v, .int .i64 k] w fun en w' => en = .returned (.int .i64 (k + xs.length)) ∧ OInts 3 lo hi w' v (upFrom k xs.length) ∧ w.grownBy w' v.ownBlock := by
  obtain ⟨n, hn⟩ : ∃ n, n = xs.length := ⟨_, rfl⟩
  unfold OInts at h
  rw [← hn] at h hx
  rw [← hn]
  by_cases h0 : n = 0
  · subst h0
    obtain ⟨a1, c1, rfl, -⟩ := (Own.sl h (by omega)).form
    go_enter Try.func100, Try.ntmps100
    go_wp2
    go_loop [1, 5] (fun kv i => kv = .int .i64 k ∧ i = .int .i64 0) (fun _ _ => 0)
    case atStart => exact ⟨rfl, rfl⟩
    case round =>
      obtain ⟨rfl, rfl⟩ := hrel
      have Hh := Lib.hid h
      clear h hn
      go_wp2
      go_ret
      refine ⟨ret_int (by simp), ?_, World.grownBy.refl _ _⟩
      have hl := Hh.out.1.1
      have : _ = [] := List.eq_nil_of_length_eq_zero (by simpa using hl)
      have h2 := Hh.out
      rw [this] at h2
      simpa [upFrom, OInts] using h2
  · obtain ⟨g, cap, rfl, hg0, hg1⟩ := h.1.form (by omega)
    have Hh := Lib.hid h
    have Hhn := Lib.hid hn; clear hn
    clear h
    go_enter Try.func100, Try.ntmps100
    go_wp2
    go_loopw [1, 5] (fun kv i wr => ∃ j : Nat, j ≤ n ∧ i = .int .i64 j ∧ kv = .int .i64 (k + j) ∧ w.grownBy wr (some g) ∧ ∃ cs, wr.ownsRow lo 3 1 (.slice (some ⟨g, 0, none⟩) n cap) n cs ∧ cs.take j = (intCells (upFrom k n)).take j)
      (fun _ i _ => n - (intOf i).toNat)
    case atStart => exact ⟨0, Nat.zero_le _, rfl, by simp, World.grownBy.refl _ _, _, Hh.out.1, rfl⟩
    case round =>
      obtain ⟨j, hj, rfl, rfl, hgr, cs, hown, htk⟩ := hrel
      have hlen := hown.1
      have Hhtk := Lib.hid htk; clear htk
      have Hhown := Lib.hid hown; clear hown
      have Hhgr := Lib.hid hgr; clear hgr
      by_cases hlt : j < n
      · obtain ⟨u0, hold⟩ := row_some Hhown.out j (by omega)
        have hfr : wr.frozen? ⟨g, j, none⟩ = false := Hhown.out.frozenAt j
        have hkj0 : 0 ≤ k + (j : Int) := by omega
        have hkj1 : k + (j : Int) ≤ 20000000000 := by omega
        have Hhlen := Lib.hid hlen; clear hlen
        go_wp2
        go_roundw
        case rel =>
          refine ⟨j + 1, by omega, by go_num, by go_num, Hhgr.out.trans (grown_set _ _ _ _), _, (Hhown.out.stored j _).1, ?_⟩
          exact cells_set (n := n) (by have := Hhlen.out; omega) (by simp [upFrom]) hlt Hhtk.out (upFrom_at hlt)
        case measure => simp [intOf]; omega
      · obtain rfl : j = n := by omega
        have Hhlen := Lib.hid hlen; clear hlen
        go_wp2
        go_ret
        have he : cs = intCells (upFrom k j) := by
          have h := Hhtk.out
          rwa [List.take_of_length_le (by have := Hhlen.out; omega), List.take_of_length_le (by simp [upFrom])] at h
        refine ⟨rfl, ?_, Hhgr.out⟩
        unfold OInts
        rw [upFrom_len, ← he]
        exact ⟨Hhown.out, Hh.out.2⟩
set_option maxHeartbeats 800000 in
theorem heldInts_any (n : Nat) (k : Int) (B : Nat) (v : Value) (w : World) (hk0 : 0 ≤ k) (hk1 : k ≤ 10000000000) (hx : n ≤ 100000000) (h : Ints B w v (upFrom k n)) :
    Calls Try.prog 101 #[v, .int .i64 k] w fun en w' => en = .returned (.int .i64 (k + n)) ∧ w = w' := by
  obtain ⟨a1, c1, hv, hc1, hm1, hr1⟩ := h.form
  rw [upFrom_len] at hv hc1 hr1
  subst hv
  clear h
  have Hhr1 := Lib.hid hr1; clear hr1
  go_enter Try.func101, Try.ntmps101
  go_wp2
  go_loop [1, 4, 5] (fun kv r i => ∃ j : Nat, j ≤ n ∧ i = .int .i64 j ∧ kv = .int .i64 (k + j)) (fun _ _ i => n - (intOf i).toNat)
  case atStart => exact ⟨0, Nat.zero_le _, rfl, by simp⟩
  case round =>
    obtain ⟨j, hj, rfl, rfl⟩ := hrel
    by_cases hlt : j < n
    · obtain ⟨b1, o1, rfl, -, -, hcs⟩ := Hhr1.out (by omega)
      have hc := hcs j hlt
      rw [upFrom_getD hlt] at hc
      have hkj0 : 0 ≤ k + (j : Int) := by omega
      have hkj1 : k + (j : Int) ≤ 20000000000 := by omega
      clear hcs
      go_wp2
      go_round
      case rel => exact ⟨j + 1, by omega, by go_num, by go_num⟩
      case measure => simp [intOf]; omega
    · obtain rfl : j = n := by omega
      go_wp2
      go_ret
      exact ⟨rfl, rfl⟩
set_option maxHeartbeats 800000 in
theorem markBools_any (xs : List Bool) (k : Int) (lo hi : Nat) (v : Value) (w : World) (hk0 : 0 ≤ k) (hk1 : k ≤ 10000000000) (hx : xs.length ≤ 100000000) (h : OBools 4 lo hi w v xs) :
    Calls Try.prog 52 #[v, .int .i64 k] w fun en w' => en = .returned (.int .i64 (k + xs.length)) ∧ OBools 4 lo hi w' v (upBools k xs.length) ∧ w.grownBy w' v.ownBlock := by
  obtain ⟨n, hn⟩ : ∃ n, n = xs.length := ⟨_, rfl⟩
  unfold OBools at h
  rw [← hn] at h hx
  rw [← hn]
  by_cases h0 : n = 0
  · subst h0
    obtain ⟨a1, c1, rfl, -⟩ := (Own.sl h (by omega)).form
    go_enter Try.func52, Try.ntmps52
    go_wp2
    go_loop [1, 5] (fun kv i => kv = .int .i64 k ∧ i = .int .i64 0) (fun _ _ => 0)
    case atStart => exact ⟨rfl, rfl⟩
    case round =>
      obtain ⟨rfl, rfl⟩ := hrel
      have Hh := Lib.hid h
      clear h hn
      go_wp2
      go_ret
      refine ⟨ret_int (by simp), ?_, World.grownBy.refl _ _⟩
      have hl := Hh.out.1.1
      have : _ = [] := List.eq_nil_of_length_eq_zero (by simpa using hl)
      have h2 := Hh.out
      rw [this] at h2
      simpa [upBools, OBools] using h2
  · obtain ⟨g, cap, rfl, hg0, hg1⟩ := h.1.form (by omega)
    have Hh := Lib.hid h
    have Hhn := Lib.hid hn; clear hn
    clear h
    go_enter Try.func52, Try.ntmps52
    go_wp2
    go_loopw [1, 5] (fun kv i wr => ∃ j : Nat, j ≤ n ∧ i = .int .i64 j ∧ kv = .int .i64 (k + j) ∧ w.grownBy wr (some g) ∧ ∃ cs, wr.ownsRow lo 4 1 (.slice (some ⟨g, 0, none⟩) n cap) n cs ∧ cs.take j = (boolCells (upBools k n)).take j)
      (fun _ i _ => n - (intOf i).toNat)
    case atStart => exact ⟨0, Nat.zero_le _, rfl, by simp, World.grownBy.refl _ _, _, Hh.out.1, rfl⟩
    case round =>
      obtain ⟨j, hj, rfl, rfl, hgr, cs, hown, htk⟩ := hrel
      have hlen := hown.1
      have Hhtk := Lib.hid htk; clear htk
      have Hhown := Lib.hid hown; clear hown
      have Hhgr := Lib.hid hgr; clear hgr
      by_cases hlt : j < n
      · obtain ⟨u0, hold⟩ := row_some Hhown.out j (by omega)
        have hfr : wr.frozen? ⟨g, j, none⟩ = false := Hhown.out.frozenAt j
        have hkj0 : 0 ≤ k + (j : Int) := by omega
        have hkj1 : k + (j : Int) ≤ 20000000000 := by omega
        have Hhlen := Lib.hid hlen; clear hlen
        go_wp2
        go_roundw
        case rel =>
          refine ⟨j + 1, by omega, by go_num, by go_num, Hhgr.out.trans (grown_set _ _ _ _), _, (Hhown.out.stored j _).1, ?_⟩
          exact cells_set (n := n) (by have := Hhlen.out; omega) (by simp [upBools]) hlt Hhtk.out (upBools_at hlt)
        case measure => simp [intOf]; omega
      · obtain rfl : j = n := by omega
        have Hhlen := Lib.hid hlen; clear hlen
        go_wp2
        go_ret
        have he : cs = boolCells (upBools k j) := by
          have h := Hhtk.out
          rwa [List.take_of_length_le (by have := Hhlen.out; omega), List.take_of_length_le (by simp [upBools])] at h
        refine ⟨rfl, ?_, Hhgr.out⟩
        unfold OBools
        rw [upBools_len, ← he]
        exact ⟨Hhown.out, Hh.out.2⟩
set_option maxHeartbeats 800000 in
theorem heldBools_any (n : Nat) (k : Int) (B : Nat) (v : Value) (w : World) (hk0 : 0 ≤ k) (hk1 : k ≤ 10000000000) (hx : n ≤ 100000000) (h : Bools B w v (upBools k n)) :
    Calls Try.prog 54 #[v, .int .i64 k] w fun en w' => en = .returned (.int .i64 (k + n)) ∧ w = w' := by
  obtain ⟨a1, c1, hv, hc1, hm1, hr1⟩ := h.form
  rw [upBools_len] at hv hc1 hr1
  subst hv
  clear h
  have Hhr1 := Lib.hid hr1; clear hr1
  go_enter Try.func54, Try.ntmps54
  go_wp2
  go_loop [1, 4, 5] (fun kv r i => ∃ j : Nat, j ≤ n ∧ i = .int .i64 j ∧ kv = .int .i64 (k + j)) (fun _ _ i => n - (intOf i).toNat)
  case atStart => exact ⟨0, Nat.zero_le _, rfl, by simp⟩
  case round =>
    obtain ⟨j, hj, rfl, rfl⟩ := hrel
    by_cases hlt : j < n
    · obtain ⟨b1, o1, rfl, -, -, hcs⟩ := Hhr1.out (by omega)
      have hc := hcs j hlt
      rw [upBools_getD hlt] at hc
      have hkj0 : 0 ≤ k + (j : Int) := by omega
      have hkj1 : k + (j : Int) ≤ 20000000000 := by omega
      clear hcs
      go_wp2
      go_round
      case rel => exact ⟨j + 1, by omega, by go_num, by go_num⟩
      case measure => simp [intOf]; omega
    · obtain rfl : j = n := by omega
      go_wp2
      go_ret
      exact ⟨rfl, rfl⟩
set_option maxRecDepth 100000 in
set_option maxHeartbeats 1600000 in
theorem markIntSS_any (xss : List (List Int)) (k : Int) (lo hi : Nat) (v : Value) (w : World) (hk0 : 0 ≤ k) (hk1 : k ≤ 5000000000) (hx : xss.length ≤ 100000000) (hs : sumLen xss ≤ 100000000) (h : OIntSS 48 3 lo hi w v xss) :
    Calls Try.prog 51 #[v, .int .i64 k] w fun en w' => en = .returned (.int .i64 (k + sumLen xss)) ∧ OIntSS 48 3 lo hi w' v (upRows k xss) ∧ Touch 3 lo hi w w' := by
  obtain ⟨vs, h1, h2, h3⟩ := h
  obtain ⟨a1, c1, hv, hc1, hm1, hr1⟩ := (Own.sl h1 (by omega)).form
  have Hh1 := Lib.hid h1
  have Hh2 := Lib.hid h2
  have Hh3 := Lib.hid h3
  have hsl := fun j => sumLen_le xss j
  subst hv
  have Hhsl := Lib.hid hsl; clear hsl
  have Hhr1 := Lib.hid hr1; clear hr1
  clear h1 h2 h3
  go_enter Try.func51, Try.ntmps51
  go_wp2
  go_loopw [1, 5] (fun kv i wr => ∃ j : Nat, j ≤ xss.length ∧ i = .int .i64 j ∧ kv = .int .i64 (k + sumLen (xss.take j)) ∧ Touch 3 lo hi w wr ∧ ∃ yss : List (List Int), yss.length = xss.length ∧ (∀ i, i < j → yss.getD i [] = (upRows k xss).getD i []) ∧ (∀ i, j ≤ i → yss.getD i [] = xss.getD i []) ∧
      Own lo hi wr 48 1 (.slice a1 xss.length c1) yss.length vs ∧ (∀ i, i < yss.length → OInts 3 lo hi wr (vs.getD i undef) (yss.getD i [])) ∧ (∀ i j k, i < j → j < yss.length → (vs.getD i undef).ownBlock = some k → (vs.getD j undef).ownBlock ≠ some k))
    (fun _ i _ => xss.length - (intOf i).toNat)
  case atStart => exact ⟨0, Nat.zero_le _, rfl, by simp [sumLen], Touch.refl _ _ _ _, xss, rfl, fun i hi => absurd hi (by omega), fun _ _ => rfl, Hh1.out, Hh2.out, Hh3.out⟩
  case round =>
    obtain ⟨j, hj, rfl, rfl, hto, yss, hyl, hy1, hy2, g1, g2, g3⟩ := hrel
    have hsj := Hhsl.out j
    by_cases hlt : j < xss.length
    · have hrj := g2 j (by omega)
      rw [hy2 j (Nat.le_refl _)] at hrj
      have hrl := sumLen_succ hlt
      have hs1 := Hhsl.out (j + 1)
      obtain ⟨b1, o1, rfl, -, -, hcs⟩ := Hhr1.out (by omega)
      have hbx : o1 = 0 := by
        have hh := Hh1.out.1.form (by omega)
        obtain ⟨g, cap, hv, -⟩ := hh
        simp only [Value.slice.injEq, Option.some.injEq, Addr.mk.injEq] at hv
        exact hv.1.2.1
      subst hbx
      have g1' := g1.1
      rw [hyl] at g1'
      have hcell := g1'.cellAt j (by omega)
      have hvl : vs.length = xss.length := by have := g1'.1; omega
      obtain ⟨rv, hrv⟩ : ∃ rv, rv = vs.getD j undef := ⟨_, rfl⟩
      have hcell2 : wr.cell? ⟨b1, 0 + j, none⟩ = some rv := by
        rw [Nat.zero_add, hrv]
        rw [hcell]
        simp [hvl, hlt]
      obtain ⟨x, hxx⟩ : ∃ x, x = xss.getD j [] := ⟨_, rfl⟩
      rw [← hxx] at hrj hrl
      obtain ⟨ar, cr, hvr, -⟩ := (OInts.ints hrj).form
      rw [← hrv] at hrj hvr
      have hrow : x.length ≤ 100000000 := by omega
      obtain ⟨S, hS⟩ : ∃ S, S = sumLen (xss.take j) := ⟨_, rfl⟩
      rw [← hS] at hrl hsj
      rw [← hS]
      have hkS0 : 0 ≤ k + (S : Int) := by omega
      have hkS1 : k + (S : Int) ≤ 10000000000 := by omega
      simp only [Nat.zero_add] at hcell2
      have Hhrl := Lib.hid hrl; clear hrl
      have Hhxx := Lib.hid hxx; clear hxx
      have HhS := Lib.hid hS; clear hS
      have Hhrj := Lib.hid hrj; clear hrj
      have Hhrv := Lib.hid hrv; clear hrv
      have Hhto := Lib.hid hto; clear hto
      have Hhyl := Lib.hid hyl; clear hyl
      have Hhy1 := Lib.hid hy1; clear hy1
      have Hhy2 := Lib.hid hy2; clear hy2
      have Hg1 := Lib.hid g1; clear g1
      have Hg2 := Lib.hid g2; clear g2
      have Hg3 := Lib.hid g3; clear g3
      have Hhvl := Lib.hid hvl; clear hvl
      subst hvr
      clear hcell hcs g1'
      go_wp2_with fail
      refine (markInts_any x (k + S) lo hi _ _ hkS0 hkS1 hrow Hhrj.out).mono ?_
      rintro e w2 ⟨rfl, ho2, hg2⟩
      have Hho2 := Lib.hid ho2; clear ho2
      have Hhg2 := Lib.hid hg2; clear hg2
      go_wp2
      go_roundw
      case rel =>
        have hyj : j < yss.length := by rw [Hhyl.out]; exact hlt
        have R := OIntSS.row (w' := w2) (x := upFrom (k + S) x.length) (by decide) Hg1.out Hg2.out Hg3.out hyj (by rw [← Hhrv.out]; exact Hho2.out) (by rw [← Hhrv.out]; exact Hhg2.out)
        refine ⟨j + 1, by omega, by go_num, by rw [Hhrl.out]; congr 1; push_cast; omega, Hhto.out.trans (Touch.of_grown Hhrj.out Hhg2.out), yss.set j (upFrom (k + S) x.length), by rw [List.length_set]; exact Hhyl.out, fun i hi => ?_, fun i hi => ?_, R⟩
        · by_cases hij : j = i
          · subst hij
            rw [upRows_getD hlt, ← HhS.out, ← Hhxx.out]
            simp [hyj]
          · have : (yss.set j (upFrom (k + S) x.length)).getD i [] = yss.getD i [] := by simp [List.getElem?_set_ne hij]
            rw [this]
            exact Hhy1.out i (by omega)
        · have : (yss.set j (upFrom (k + S) x.length)).getD i [] = yss.getD i [] := by simp [List.getElem?_set_ne (show j ≠ i by omega)]
          rw [this]
          exact Hhy2.out i (by omega)
      case measure => simp [intOf]; omega
    · obtain rfl : j = xss.length := by omega
      have hye : yss = upRows k xss := by
        apply List.ext_getElem
        · rw [hyl, upRows_len]
        · intro i h1 h2
          have := hy1 i (by omega)
          simpa [h1, h2] using this
      subst hye
      have Hhyl := Lib.hid hyl; clear hyl
      have Hhy1 := Lib.hid hy1; clear hy1
      have Hhy2 := Lib.hid hy2; clear hy2
      have Hg1 := Lib.hid g1; clear g1
      have Hg2 := Lib.hid g2; clear g2
      have Hg3 := Lib.hid g3; clear g3
      have Hhto := Lib.hid hto; clear hto
      go_wp2
      go_ret
      refine ⟨by first | rfl | rw [List.take_length], ⟨vs, ?_, Hg2.out, Hg3.out⟩, Hhto.out⟩
      exact Hg1.out
set_option maxRecDepth 100000 in
set_option maxHeartbeats 1600000 in
theorem heldIntSS_any (xss : List (List Int)) (k : Int) (B : Nat) (v : Value) (w : World) (hk0 : 0 ≤ k) (hk1 : k ≤ 5000000000) (hx : xss.length ≤ 100000000) (hs : sumLen xss ≤ 100000000) (h : IntSS B w v (upRows k xss)) :
    Calls Try.prog 53 #[v, .int .i64 k] w fun en w' => en = .returned (.int .i64 (k + sumLen xss)) ∧ w = w' := by
  obtain ⟨a1, c1, hv, hc1, hm1, hr1⟩ := h.formI
  rw [upRows_len] at hv hc1 hr1
  subst hv
  have hsl := fun j => sumLen_le xss j
  have Hhsl := Lib.hid hsl; clear hsl
  have Hhr1 := Lib.hid hr1; clear hr1
  clear h
  go_enter Try.func53, Try.ntmps53
  go_wp2
  go_loop [1, 4, 5] (fun kv r i => ∃ j : Nat, j ≤ xss.length ∧ i = .int .i64 j ∧ kv = .int .i64 (k + sumLen (xss.take j))) (fun _ _ i => xss.length - (intOf i).toNat)
  case atStart => exact ⟨0, Nat.zero_le _, rfl, by simp [sumLen]⟩
  case round =>
    obtain ⟨j, hj, rfl, rfl⟩ := hrel
    have hsj := Hhsl.out j
    by_cases hlt : j < xss.length
    · have hrl := sumLen_succ hlt
      have hs1 := Hhsl.out (j + 1)
      obtain ⟨b1, o1, rfl, -, -, hcs⟩ := Hhr1.out (by omega)
      obtain ⟨ar, cr, hc, hcl, hcm, hri⟩ := hcs j hlt
      rw [upRows_getD hlt] at hc hcl hri
      rw [upFrom_len] at hc hcl hri
      have hrow : (xss.getD j []).length ≤ 100000000 := by omega
      obtain ⟨S, hS⟩ : ∃ S, S = sumLen (xss.take j) := ⟨_, rfl⟩
      rw [← hS] at hrl hsj hri
      rw [← hS]
      have hkS0 : 0 ≤ k + (S : Int) := by omega
      have hkS1 : k + (S : Int) ≤ 10000000000 := by omega
      have hkS2 : 0 ≤ k + (S : Int) + ((xss.getD j []).length : Int) := by omega
      obtain ⟨n, hn⟩ : ∃ n, n = (xss.getD j []).length := ⟨_, rfl⟩
      rw [← hn] at hc hcl hri hrow hkS2 hrl
      have Hhrl := Lib.hid hrl; clear hrl
      have HhS := Lib.hid hS; clear hS
      have Hhri := Lib.hid hri; clear hri
      have Hhn := Lib.hid hn; clear hn
      clear hcs
      go_wp2_with fail
      refine (heldInts_any n (k + S) B _ _ hkS0 hkS1 hrow Hhri.out).mono ?_
      rintro e w2 ⟨rfl, rfl⟩
      go_wp2
      go_round
      case rel => exact ⟨j + 1, by omega, by go_num, by rw [Hhrl.out]; congr 1; push_cast; omega⟩
      case measure => simp [intOf]; omega
    · obtain rfl : j = xss.length := by omega
      go_wp2
      go_ret
      exact ⟨by first | rfl | rw [List.take_length], rfl⟩
set_option maxRecDepth 100000 in
set_option maxHeartbeats 1600000 in
theorem markDfa_any (d : DfaD) (k : Int) (lo hi : Nat) (v : Value) (w : World) (hk0 : 0 ≤ k) (hk1 : k ≤ 4000000000) (hx : d.next.length ≤ 100000000) (hs : sumLen d.next ≤ 100000000) (he : d.ends.length ≤ 100000000) (_ : hi ≤ w.heap.size) (h : DfaO 48 3 4 lo hi w v d) :
    Calls Try.prog 16 #[v, .int .i64 k] w fun en w' => en = .returned (.int .i64 (k + totD d)) ∧ DfaO 48 3 4 lo hi w' v (markD k d) ∧ Only lo hi w w' := by
  obtain ⟨u1, u2, rfl, g1, g2⟩ := h
  have hb : Below w.heap.size w (w.alloc (.cells #[u1, u2] 27)) := (Below.refl _ _).alloc (Nat.le_refl _) _
  have x0 := Bx.new w #[u1, u2] 27
  have f1 := g1.below hb
  have f2 := Own.below g2 hb
  have Hon : Hid (Only lo hi w (w.alloc (.cells #[u1, u2] 27))) := Lib.hid (Only.of_below hb)
  have Hx0 := Lib.hid x0; clear x0
  have Hf1 := Lib.hid f1; clear f1
  have Hf2 := Lib.hid f2; clear f2
  clear g1 g2 hb
  go_enter Try.func16, Try.ntmps16
  go_wp2_with fail
  refine (markIntSS_any d.next k lo hi _ _ hk0 (by omega) hx hs Hf1.out).mono ?_
  rintro e w2 ⟨rfl, ho2, ht2⟩
  have y0 := Hx0.out.touch ht2 (by decide)
  have g2 := Hf2.out.touch ht2 (by decide)
  have hon := Hon.out.trans ht2.only
  have c1 := y0.cell 1
  simp only [List.getElem?_toArray, List.getElem?_cons_zero, List.getElem?_cons_succ] at c1
  have Hho2 := Lib.hid ho2; clear ho2
  have Hht2 := Lib.hid ht2; clear ht2
  have Hy0 := Lib.hid y0; clear y0
  have Hg2 := Lib.hid g2; clear g2
  have Hhon := Lib.hid hon; clear hon
  go_wp2_with fail
  refine (markBools_any d.ends (k + sumLen d.next) lo hi _ _ (by omega) (by omega) he Hg2.out).mono ?_
  rintro e w3 ⟨rfl, ho3, hg3⟩
  have Hho3 := Lib.hid ho3; clear ho3
  have Hhg3 := Lib.hid hg3; clear hg3
  go_wp2
  go_ret
  have ht3 := Touch.of_grown Hg2.out Hhg3.out
  refine ⟨ret_int (by unfold totD; push_cast; omega), ⟨_, _, rfl, ?_, Hho3.out⟩, Hhon.out.trans ht3.only⟩
  obtain ⟨vs, a1, a2, a3⟩ := Hho2.out
  exact ⟨vs, a1.touch ht3 (by decide), fun i hi => Own.touch (a2 i hi) ht3 (by decide), a3⟩
set_option maxRecDepth 100000 in
set_option maxHeartbeats 1600000 in
theorem heldDfa_any (d : DfaD) (k : Int) (B : Nat) (v : Value) (w : World) (hk0 : 0 ≤ k) (hk1 : k ≤ 4000000000) (hx : d.next.length ≤ 100000000) (hs : sumLen d.next ≤ 100000000) (he : d.ends.length ≤ 100000000) (h : DfaR B w v (markD k d)) :
    Calls Try.prog 17 #[v, .int .i64 k] w fun en w' => en = .returned (.int .i64 (k + totD d)) ∧ Below w.heap.size w w' := by
  obtain ⟨u1, u2, rfl, g1, g2⟩ := h
  have hb : Below w.heap.size w (w.alloc (.cells #[u1, u2] 27)) := (Below.refl _ _).alloc (Nat.le_refl _) _
  have x0 := Bx.new w #[u1, u2] 27
  have f1 := g1.below hb
  have f2 := g2.below hb
  have c1 := x0.cell 1
  simp only [List.getElem?_toArray, List.getElem?_cons_zero, List.getElem?_cons_succ] at c1
  have hq : 0 ≤ k + (sumLen d.next : Int) := by omega
  have hq2 : 0 ≤ k + (sumLen d.next : Int) + (d.ends.length : Int) := by omega
  have Hf1 := Lib.hid f1; clear f1
  have Hf2 := Lib.hid f2; clear f2
  have Hhb := Lib.hid hb; clear hb
  clear g1 g2 x0
  go_enter Try.func17, Try.ntmps17
  go_wp2_with fail
  refine (heldIntSS_any d.next k B _ _ hk0 (by omega) hx hs Hf1.out).mono ?_
  rintro e w2 ⟨rfl, rfl⟩
  go_wp2_with fail
  refine (heldBools_any d.ends.length (k + sumLen d.next) B _ _ (by omega) (by omega) he Hf2.out).mono ?_
  rintro e w3 ⟨rfl, rfl⟩
  go_wp2
  go_ret
  exact ⟨ret_int (by unfold totD; push_cast; omega), Hhb.out⟩
def upPairs (k : Int) (n : Nat) : List (Int × Int) := (List.range n).map fun (i : Nat) => (k + 2 * i, k + 2 * i + 1)
theorem upPairs_len (k : Int) (n : Nat) : (upPairs k n).length = n := by simp [upPairs]
theorem upPairs_getD {k : Int} {n j : Nat} (h : j < n) : (upPairs k n).getD j (0, 0) = (k + 2 * j, k + 2 * j + 1) := by simp [upPairs, h]
structure SmallD (D : DfaD) : Prop where
  n : D.next.length ≤ 40
  e : D.ends.length ≤ 40
  r : ∀ x ∈ D.next, x.length ≤ 3
theorem SmallD.sum {D : DfaD} (h : SmallD D) : sumLen D.next ≤ 120 := by
  have key : ∀ xss : List (List Int), (∀ x ∈ xss, x.length ≤ 3) → sumLen xss ≤ 3 * xss.length := fun xss => by
    induction xss with
    | nil => intro _; simp [sumLen]
    | cons x l ih =>
      intro hr
      have h1 := hr x (by simp)
      have h2 := ih fun y hy => hr y (by simp [hy])
      simp only [sumLen, List.map_cons, List.sum_cons, List.length_cons] at h2 ⊢
      omega
  have := key D.next h.r
  have := h.n
  omega
theorem small_dfa {D : DfaD} (h : dfaOk D.next D.ends = true) : SmallD D := by
  have hl := dfaOk_len h
  refine ⟨hl.2.1, by omega, fun x hx => ?_⟩
  obtain ⟨i, hi, rfl⟩ := List.getElem_of_mem hx
  have := (dfaOk_row h hi).1
  rw [getD_at hi] at this
  omega
set_option maxHeartbeats 800000 in
theorem eqIntS_any (xs ys : List Int) (v1 v2 : Value) (w : World) (h1 : Ints 0 w v1 xs) (h2 : Ints 0 w v2 ys) (r : Bool) (hr : decide (xs = ys) = r) :
    Calls Try.prog 99 #[v1, v2] w fun e w' => e = .returned (.bool r) ∧ Below w.heap.size w w' := by
  obtain ⟨a1, c1, rfl, hc1, hm1, hr1⟩ := h1.form
  obtain ⟨a2, c2, rfl, hc2, hm2, hr2⟩ := h2.form
  clear h1 h2
  have Hhr := Lib.hid hr; clear hr
  by_cases hlen : xs.length = ys.length
  · have hl : ((xs.length : Int) != ys.length) = false := by rw [bne_len]; simpa using hlen
    have Hhlen := Lib.hid hlen; clear hlen
    go_enter Try.func99, Try.ntmps99
    go_wp2
    go_loopw [4, 5] (fun r i wr => ∃ k : Nat, k ≤ xs.length ∧ i = .int .i64 k ∧ xs.take k = ys.take k ∧ Below w.heap.size w wr) (fun _ i _ => xs.length - (intOf i).toNat)
    case atStart => exact ⟨0, Nat.zero_le _, rfl, rfl, Below.refl _ _⟩
    case round =>
      obtain ⟨k, hk, rfl, htk, hb⟩ := hrel
      have Hhtk := Lib.hid htk; clear htk
      by_cases hlt : k < xs.length
      · have hlt2 : k < ys.length := by have := Hhlen.out; omega
        obtain ⟨b1, o1, rfl, hB1, hbl1, hcs1⟩ := hr1 (by omega)
        obtain ⟨b2, o2, rfl, hB2, hbl2, hcs2⟩ := hr2 (by omega)
        have hx1 := (bcell hb b1 (o1 + k) hbl1).trans (hcs1 k hlt)
        have hx2 := (bcell hb b2 (o2 + k) hbl2).trans (hcs2 k hlt2)
        obtain ⟨x, hx⟩ : ∃ x, x = xs.getD k 0 := ⟨_, rfl⟩
        obtain ⟨y, hy⟩ : ∃ y, y = ys.getD k 0 := ⟨_, rfl⟩
        rw [← hx] at hx1
        rw [← hy] at hx2
        have Hhx := Lib.hid hx; clear hx
        have Hhy := Lib.hid hy; clear hy
        have Hhb := Lib.hid hb; clear hb
        clear hcs1 hcs2 hr1 hr2
        by_cases he : x = y
        · have hne : (x != y) = false := by simpa using he
          have hne' : (!(x == y)) = false := by simpa using he
          have Hhe := Lib.hid he; clear he
          go_wp2
          go_quiet (fail)
          go_wp2
          go_roundw
          case rel => exact ⟨k + 1, by omega, by go_num, take_snoc_eq (d := 0) hlt hlt2 Hhtk.out (by rw [← Hhx.out, ← Hhy.out]; exact Hhe.out), below_drewN Hhb.out _⟩
          case measure => simp [intOf]; omega
        · have hne : (x != y) = true := by simpa using he
          have hne' : (!(x == y)) = true := by simpa using he
          have Hhe := Lib.hid he; clear he
          go_wp2
          go_quiet (fail)
          go_wp2
          go_ret
          exact ⟨by rw [← Hhr.out, decide_eq_false (ne_of_getD (k := k) (d := 0) (by rw [← Hhx.out, ← Hhy.out]; exact Hhe.out))]; rfl, below_drewN Hhb.out _⟩
      · clear hr1 hr2
        have Hhb := Lib.hid hb; clear hb
        go_wp2
        go_ret
        exact ⟨by rw [← Hhr.out, decide_eq_true (eq_of_take Hhlen.out (by omega) Hhtk.out)]; rfl, Hhb.out⟩
  · have hl : ((xs.length : Int) != ys.length) = true := by rw [bne_len]; simpa using hlen
    have Hhlen := Lib.hid hlen; clear hlen
    clear hr1 hr2
    go_enter Try.func99, Try.ntmps99
    go_wp2
    go_ret
    exact ⟨by rw [← Hhr.out, decide_eq_false (fun h => Hhlen.out (by rw [h]))]; rfl, Below.refl _ _⟩
set_option maxHeartbeats 800000 in
theorem eqBoolS_any (xs ys : List Bool) (v1 v2 : Value) (w : World) (h1 : Bools 0 w v1 xs) (h2 : Bools 0 w v2 ys) (r : Bool) (hr : decide (xs = ys) = r) :
    Calls Try.prog 49 #[v1, v2] w fun e w' => e = .returned (.bool r) ∧ Below w.heap.size w w' := by
  obtain ⟨a1, c1, rfl, hc1, hm1, hr1⟩ := h1.form
  obtain ⟨a2, c2, rfl, hc2, hm2, hr2⟩ := h2.form
  clear h1 h2
  have Hhr := Lib.hid hr; clear hr
  by_cases hlen : xs.length = ys.length
  · have hl : ((xs.length : Int) != ys.length) = false := by rw [bne_len]; simpa using hlen
    have Hhlen := Lib.hid hlen; clear hlen
    go_enter Try.func49, Try.ntmps49
    go_wp2
    go_loopw [4, 5] (fun r i wr => ∃ k : Nat, k ≤ xs.length ∧ i = .int .i64 k ∧ xs.take k = ys.take k ∧ Below w.heap.size w wr) (fun _ i _ => xs.length - (intOf i).toNat)
    case atStart => exact ⟨0, Nat.zero_le _, rfl, rfl, Below.refl _ _⟩
    case round =>
      obtain ⟨k, hk, rfl, htk, hb⟩ := hrel
      have Hhtk := Lib.hid htk; clear htk
      by_cases hlt : k < xs.length
      · have hlt2 : k < ys.length := by have := Hhlen.out; omega
        obtain ⟨b1, o1, rfl, hB1, hbl1, hcs1⟩ := hr1 (by omega)
        obtain ⟨b2, o2, rfl, hB2, hbl2, hcs2⟩ := hr2 (by omega)
        have hx1 := (bcell hb b1 (o1 + k) hbl1).trans (hcs1 k hlt)
        have hx2 := (bcell hb b2 (o2 + k) hbl2).trans (hcs2 k hlt2)
        obtain ⟨x, hx⟩ : ∃ x, x = xs.getD k false := ⟨_, rfl⟩
        obtain ⟨y, hy⟩ : ∃ y, y = ys.getD k false := ⟨_, rfl⟩
        rw [← hx] at hx1
        rw [← hy] at hx2
        have Hhx := Lib.hid hx; clear hx
        have Hhy := Lib.hid hy; clear hy
        have Hhb := Lib.hid hb; clear hb
        clear hcs1 hcs2 hr1 hr2
        by_cases he : x = y
        · have hne : (x != y) = false := by simpa using he
          have hne' : (!(x == y)) = false := by simpa using he
          have Hhe := Lib.hid he; clear he
          go_wp2
          go_quiet (fail)
          go_wp2
          go_roundw
          case rel => exact ⟨k + 1, by omega, by go_num, take_snoc_eq (d := false) hlt hlt2 Hhtk.out (by rw [← Hhx.out, ← Hhy.out]; exact Hhe.out), below_drewN Hhb.out _⟩
          case measure => simp [intOf]; omega
        · have hne : (x != y) = true := by simpa using he
          have hne' : (!(x == y)) = true := by simpa using he
          have Hhe := Lib.hid he; clear he
          go_wp2
          go_quiet (fail)
          go_wp2
          go_ret
          exact ⟨by rw [← Hhr.out, decide_eq_false (ne_of_getD (k := k) (d := false) (by rw [← Hhx.out, ← Hhy.out]; exact Hhe.out))]; rfl, below_drewN Hhb.out _⟩
      · clear hr1 hr2
        have Hhb := Lib.hid hb; clear hb
        go_wp2
        go_ret
        exact ⟨by rw [← Hhr.out, decide_eq_true (eq_of_take Hhlen.out (by omega) Hhtk.out)]; rfl, Hhb.out⟩
  · have hl : ((xs.length : Int) != ys.length) = true := by rw [bne_len]; simpa using hlen
    have Hhlen := Lib.hid hlen; clear hlen
    clear hr1 hr2
    go_enter Try.func49, Try.ntmps49
    go_wp2
    go_ret
    exact ⟨by rw [← Hhr.out, decide_eq_false (fun h => Hhlen.out (by rw [h]))]; rfl, Below.refl _ _⟩
set_option maxHeartbeats 800000 in
theorem eqIntSS_any (xs ys : List (List Int)) (v1 v2 : Value) (w : World) (h1 : IntSS 0 w v1 xs) (h2 : IntSS 0 w v2 ys) (r : Bool) (hr : decide (xs = ys) = r) :
    Calls Try.prog 48 #[v1, v2] w fun e w' => e = .returned (.bool r) ∧ Below w.heap.size w w' := by
  obtain ⟨a1, c1, rfl, hc1, hm1, hr1⟩ := h1.formI
  obtain ⟨a2, c2, rfl, hc2, hm2, hr2⟩ := h2.formI
  clear h1 h2
  have Hhr := Lib.hid hr; clear hr
  by_cases hlen : xs.length = ys.length
  · have hl : ((xs.length : Int) != ys.length) = false := by rw [bne_len]; simpa using hlen
    have Hhlen := Lib.hid hlen; clear hlen
    go_enter Try.func48, Try.ntmps48
    go_wp2
    go_loopw [4, 5] (fun r i wr => ∃ k : Nat, k ≤ xs.length ∧ i = .int .i64 k ∧ xs.take k = ys.take k ∧ Below w.heap.size w wr) (fun _ i _ => xs.length - (intOf i).toNat)
    case atStart => exact ⟨0, Nat.zero_le _, rfl, rfl, Below.refl _ _⟩
    case round =>
      obtain ⟨k, hk, rfl, htk, hb⟩ := hrel
      have Hhtk := Lib.hid htk; clear htk
      by_cases hlt : k < xs.length
      · have hlt2 : k < ys.length := by have := Hhlen.out; omega
        obtain ⟨b1, o1, rfl, hB1, hbl1, hcs1⟩ := hr1 (by omega)
        obtain ⟨b2, o2, rfl, hB2, hbl2, hcs2⟩ := hr2 (by omega)
        obtain ⟨ax, cx, hxc, hxl, hxm, hxi⟩ := hcs1 k hlt
        obtain ⟨ay, cy, hyc, hyl, hym, hyi⟩ := hcs2 k hlt2
        have hx1 := (bcell hb b1 (o1 + k) hbl1).trans hxc
        have hx2 := (bcell hb b2 (o2 + k) hbl2).trans hyc
        obtain ⟨x, hx⟩ : ∃ x, x = xs.getD k [] := ⟨_, rfl⟩
        obtain ⟨y, hy⟩ : ∃ y, y = ys.getD k [] := ⟨_, rfl⟩
        rw [← hx] at hx1 hxi hxl
        rw [← hy] at hx2 hyi hyl
        have Hxi := Lib.hid (hxi.below hb).drew
        have Hyi := Lib.hid (hyi.below hb).drew
        clear hxc hyc hxi hyi
        have Hhx := Lib.hid hx; clear hx
        have Hhy := Lib.hid hy; clear hy
        have Hhb := Lib.hid hb; clear hb
        clear hcs1 hcs2 hr1 hr2
        have hd1 : b1 < wr.drew.heap.size := Nat.lt_of_lt_of_le hbl1 Hhb.out.size
        have hd2 : b2 < wr.drew.heap.size := Nat.lt_of_lt_of_le hbl2 Hhb.out.size
        cases he : decide (x = y)
        all_goals
          have Hhe := Lib.hid he; clear he
          go_wp2
          go_region_held3 (fun w' => w'.cell? ⟨b1, o1 + k, none⟩ = some (.slice ax x.length cx) ∧ w'.cell? ⟨b2, o2 + k, none⟩ = some (.slice ay y.length cy))
            (first | go_keep | exact ⟨(bcell hb2 b1 (o1 + k) hd1).trans hx1, (bcell hb2 b2 (o2 + k) hd2).trans hx2⟩)
            (first | (go_at_call 99; refine (eqIntS_any x y _ _ _ Hxi.out Hyi.out _ Hhe.out).mono ?_; rintro e w2 ⟨rfl, hb2⟩))
          have Hb2 := Lib.hid hb2; clear hb2
          go_wp2
        · go_ret
          exact ⟨by rw [← Hhr.out, decide_eq_false (ne_of_getD (k := k) (d := []) (by rw [← Hhx.out, ← Hhy.out]; exact of_decide_eq_false Hhe.out))]; rfl, (Hhb.out.drew.trans (Hb2.out.mono (by have := Hhb.out.size; simpa using this)))⟩
        · go_roundw
          case rel => exact ⟨k + 1, by omega, by go_num, take_snoc_eq (d := []) hlt hlt2 Hhtk.out (by rw [← Hhx.out, ← Hhy.out]; exact of_decide_eq_true Hhe.out), (Hhb.out.drew.trans (Hb2.out.mono (by have := Hhb.out.size; simpa using this)))⟩
          case measure => simp [intOf]; omega
      · clear hr1 hr2
        have Hhb := Lib.hid hb; clear hb
        go_wp2
        go_ret
        exact ⟨by rw [← Hhr.out, decide_eq_true (eq_of_take Hhlen.out (by omega) Hhtk.out)]; rfl, Hhb.out⟩
  · have hl : ((xs.length : Int) != ys.length) = true := by rw [bne_len]; simpa using hlen
    have Hhlen := Lib.hid hlen; clear hlen
    clear hr1 hr2
    go_enter Try.func48, Try.ntmps48
    go_wp2
    go_ret
    exact ⟨by rw [← Hhr.out, decide_eq_false (fun h => Hhlen.out (by rw [h]))]; rfl, Below.refl _ _⟩
end Go.Proofs.Ytalbofnhcpjilaa
namespace Go.Proofs.Ytalbofnhcpjilaa
open Go.RowKit
set_option maxRecDepth 100000 in
set_option maxHeartbeats 1600000 in
theorem markParts_any (xs : List (Int × Int)) (k : Int) (lo hi : Nat) (v : Value) (w : World) (hk0 : 0 ≤ k) (hk1 : k ≤ 10000000000) (hx : xs.length ≤ 100000000) (h : OPairs 42 lo hi w v xs) :
    Calls Try.prog 15 #[v, .int .i64 k] w fun en w' => en = .returned (.int .i64 (k + 2 * xs.length)) ∧ OPairs 42 lo hi w' v (upPairs k xs.length) ∧ w.grownBy w' v.ownBlock := by
  obtain ⟨n, hn⟩ : ∃ n, n = xs.length := ⟨_, rfl⟩
  unfold OPairs at h
  rw [← hn] at h hx
  rw [← hn]
  by_cases hx0 : n = 0
  · subst hx0
    obtain ⟨a1, c1, rfl, -⟩ := (Own.sl h (by omega)).form
    go_enter Try.func15, Try.ntmps15
    go_wp2
    go_loop [1, 5] (fun kv i => kv = .int .i64 k ∧ i = .int .i64 0) (fun _ _ => 0)
    case atStart => exact ⟨rfl, rfl⟩
    case round =>
      obtain ⟨rfl, rfl⟩ := hrel
      have Hh := Lib.hid h
      clear h hn
      go_wp2
      go_ret
      refine ⟨ret_int (by simp), ?_, World.grownBy.refl _ _⟩
      have hl := Hh.out.1.1
      have : xs.flatMap pairCells = [] := List.eq_nil_of_length_eq_zero (by omega)
      have h2 := Hh.out
      rw [this] at h2
      simpa [upPairs, OPairs] using h2
  obtain ⟨g, cap, rfl, hg0, hg1⟩ := h.1.form (by omega)
  have Hh := Lib.hid h
  have Hhn := Lib.hid hn; clear hn
  clear h
  go_enter Try.func15, Try.ntmps15
  go_wp2
  go_loopw [1, 5] (fun kv i wr => ∃ j : Nat, j ≤ n ∧ i = .int .i64 j ∧ kv = .int .i64 (k + 2 * j) ∧ w.grownBy wr (some g) ∧ ∃ cs, wr.ownsRow lo 42 2 (.slice (some ⟨g, 0, none⟩) n cap) n cs ∧ cs.take (j * 2) = ((upPairs k n).flatMap pairCells).take (j * 2))
    (fun _ i _ => n - (intOf i).toNat)
  case atStart => exact ⟨0, Nat.zero_le _, rfl, by simp, World.grownBy.refl _ _, _, Hh.out.1, rfl⟩
  case round =>
    obtain ⟨j, hj, rfl, rfl, hgr, cs, hown, htk⟩ := hrel
    have hlen := hown.1
    have Hhtk := Lib.hid htk; clear htk
    have Hhown := Lib.hid hown; clear hown
    have Hhgr := Lib.hid hgr; clear hgr
    by_cases hlt : j < n
    · obtain ⟨u0, hold⟩ := row_some Hhown.out (j * 2) (by omega)
      obtain ⟨u1, hold1⟩ := row_some Hhown.out (j * 2 + 1) (by omega)
      have hfr : wr.frozen? ⟨g, j * 2, none⟩ = false := Hhown.out.frozenAt _
      have hfr1 : wr.frozen? ⟨g, j * 2 + 1, none⟩ = false := Hhown.out.frozenAt _
      have hkj0 : 0 ≤ k + 2 * (j : Int) := by omega
      have hkj1 : k + 2 * (j : Int) ≤ 20000000000 := by omega
      have Hhlen := Lib.hid hlen; clear hlen
      go_wp2
      go_roundw
      case rel =>
        refine ⟨j + 1, by omega, by go_num, by first | go_num | (congr 1; push_cast; omega), (Hhgr.out.trans (grown_set _ _ _ _)).trans (grown_set _ _ _ _), _, (((Hhown.out.stored (j * 2) _).1).stored (j * 2 + 1) _).1, ?_⟩
        have hf := flatP_get (upPairs k n) j (by rw [upPairs_len]; exact hlt)
        rw [upPairs_getD hlt] at hf
        have s1 := cells_set (n := n * 2) (k := j * 2) Hhlen.out (by rw [flatP_len, upPairs_len]) (by omega) Hhtk.out hf.1
        have s2 := cells_set (n := n * 2) (k := j * 2 + 1) (by simpa using Hhlen.out) (by rw [flatP_len, upPairs_len]) (by omega) s1 hf.2
        rw [show (j + 1) * 2 = j * 2 + 1 + 1 from by omega]
        exact s2
      case measure => simp [intOf]; omega
    · obtain rfl : j = n := by omega
      have Hhlen := Lib.hid hlen; clear hlen
      go_wp2
      go_ret
      have he : cs = (upPairs k j).flatMap pairCells := by
        have h := Hhtk.out
        rwa [List.take_of_length_le (by have := Hhlen.out; omega), List.take_of_length_le (by rw [flatP_len, upPairs_len]; exact Nat.le_refl _)] at h
      refine ⟨rfl, ?_, Hhgr.out⟩
      unfold OPairs
      rw [upPairs_len, ← he]
      exact ⟨Hhown.out, Hh.out.2⟩
theorem dfa_eq {d1 d2 : DfaD} : d1 = d2 ↔ d1.next = d2.next ∧ d1.ends = d2.ends := by
  obtain ⟨a, b⟩ := d1; obtain ⟨c, d⟩ := d2; simp
set_option maxHeartbeats 1600000 in
theorem eqDfa_any (d1 d2 : DfaD) (v1 v2 : Value) (w : World) (h1 : DfaR 0 w v1 d1) (h2 : DfaR 0 w v2 d2) (r : Bool) (hr : decide (d1 = d2) = r) :
    Calls Try.prog 13 #[v1, v2] w fun e w' => e = .returned (.bool r) ∧ Below w.heap.size w w' := by
  obtain ⟨u1, u2, rfl, g1, g2⟩ := h1
  obtain ⟨u3, u4, rfl, g3, g4⟩ := h2
  have H1 := Lib.hid g1
  have H2 := Lib.hid g2
  have H3 := Lib.hid g3
  have H4 := Lib.hid g4
  obtain ⟨a1, c1, rfl, -⟩ := g1.form
  obtain ⟨a2, c2, rfl, -⟩ := g2.form
  obtain ⟨a3, c3, rfl, -⟩ := g3.form
  obtain ⟨a4, c4, rfl, -⟩ := g4.form
  clear g1 g2 g3 g4
  have Hhr := Lib.hid hr; clear hr
  cases hn : decide (d1.next = d2.next)
  · have Hhn := Lib.hid hn; clear hn
    go_enter Try.func13, Try.ntmps13
    go_wp2_with fail
    refine (eqIntSS_any d1.next d2.next _ _ _ (H1.out.below (((Below.refl _ _).alloc (Nat.le_refl _) _).alloc (by simp) _)) (H3.out.below (((Below.refl _ _).alloc (Nat.le_refl _) _).alloc (by simp) _)) _ Hhn.out).mono ?_
    rintro e w2 ⟨rfl, hb2⟩
    have Hhb2 := Lib.hid hb2; clear hb2
    go_wp2
    go_ret
    exact ⟨by rw [← Hhr.out, decide_eq_false (fun h => of_decide_eq_false Hhn.out (dfa_eq.1 h).1)]; rfl, (((Below.refl _ _).alloc (Nat.le_refl _) _).alloc (by simp) _).trans (Hhb2.out.mono (by simp; omega))⟩
  · have Hhn := Lib.hid hn; clear hn
    cases he : decide (d1.ends = d2.ends)
    all_goals
      have Hhe := Lib.hid he; clear he
      go_enter Try.func13, Try.ntmps13
      go_wp2_with fail
      refine (eqIntSS_any d1.next d2.next _ _ _ (H1.out.below (((Below.refl _ _).alloc (Nat.le_refl _) _).alloc (by simp) _)) (H3.out.below (((Below.refl _ _).alloc (Nat.le_refl _) _).alloc (by simp) _)) _ Hhn.out).mono ?_
      rintro e w2 ⟨rfl, hb2⟩
      have hbw : Below w.heap.size w w2 := (((Below.refl _ _).alloc (Nat.le_refl _) _).alloc (by simp) _).trans (hb2.mono (by simp; omega))
      have x0 := (((Bx.new w _ _).alloc _).below hb2 (by simp; omega)).cell 1
      have x1 := ((Bx.new (w.alloc _) _ _).below hb2 (by simp)).cell 1
      simp only [List.getElem?_toArray, List.getElem?_cons_zero, List.getElem?_cons_succ, World.size_alloc] at x0 x1
      have Hhb2 := Lib.hid hb2; clear hb2
      have Hhbw := Lib.hid hbw; clear hbw
      go_wp2_with fail
      refine (eqBoolS_any d1.ends d2.ends _ _ _ (H2.out.below Hhbw.out) (H4.out.below Hhbw.out) _ Hhe.out).mono ?_
      rintro e w3 ⟨rfl, hb3⟩
      have Hhb3 := Lib.hid hb3; clear hb3
      go_wp2
      go_ret
    · exact ⟨by rw [← Hhr.out, decide_eq_false (fun h => of_decide_eq_false Hhe.out (dfa_eq.1 h).2)]; rfl, Hhbw.out.trans (Hhb3.out.mono Hhbw.out.size)⟩
    · exact ⟨by rw [← Hhr.out, decide_eq_true (dfa_eq.2 ⟨of_decide_eq_true Hhn.out, of_decide_eq_true Hhe.out⟩)]; rfl, Hhbw.out.trans (Hhb3.out.mono Hhbw.out.size)⟩
end Go.Proofs.Ytalbofnhcpjilaa
namespace Go.Proofs.Ytalbofnhcpjilaa
open Go.RowKit Go.Maps
theorem comp_small {K : Nat} (hK : K = 40) {es : List (Int × Int)} {o : Option DfaD} (h : CompO K es o) : (o.getD zeroD).next.length ≤ 40 ∧ sumLen (o.getD zeroD).next ≤ 120 ∧ (o.getD zeroD).ends.length ≤ 40 := by
  cases o with
  | none => exact ⟨Nat.zero_le _, by decide, Nat.zero_le _⟩
  | some d =>
    have hs := small_dfa (compO_ok hK h)
    exact ⟨hs.n, hs.sum, hs.e⟩
set_option maxRecDepth 100000 in
set_option maxHeartbeats 16000000 in
theorem exactCompileExpr_walk (a : List (Int × Int)) (v1 : Value) (w : World) (h1 : Pairs 0 w v1 a) :
    Calls Try.prog 3 #[v1] w fun e w' => e = .returned (.bool true) ∧ Below w.heap.size w w' := by
  have H1 := Lib.hid h1
  obtain ⟨a1, ac1, rfl, hla, hma, -⟩ := h1.form
  obtain ⟨K, hK⟩ : ∃ K : Nat, K = 40 := ⟨_, rfl⟩
  obtain ⟨o, ho⟩ := compO_ex K a
  have hDs := comp_small hK ho
  obtain ⟨D, hD⟩ : ∃ D, o.getD zeroD = D := ⟨_, rfl⟩
  obtain ⟨fb, hfb⟩ : ∃ fb, o.isSome = fb := ⟨_, rfl⟩
  rw [hD] at hDs
  have Hsp := Lib.hid (show ∀ (v : Value) (u : World), a.length ≤ 2000000 → Pairs 0 u v a → Calls Try.prog 10 #[v] u fun e w' => ∃ a1 c1 a2 c2, e = .returned (.tuple #[.agg #[.slice a1 D.next.length c1, .slice a2 D.ends.length c2], .bool fb]) ∧ DfaR u.heap.size w' (.agg #[.slice a1 D.next.length c1, .slice a2 D.ends.length c2]) D ∧ Below u.heap.size u w' from fun v u hl h => by
    rw [← hD, ← hfb]
    exact specCompile_any K hK a o ho v u hl h)
  have Him := Lib.hid (show ∀ (v : Value) (u : World), Pairs 0 u v a → Calls Try.prog 12 #[v] u fun e w' => RTt D fb u.heap.size e w' ∧ Below u.heap.size u w' from fun v u h => by
    rw [← hD, ← hfb]
    exact implCompileExpr_any K hK a o ho v u h)
  have HhDs := Lib.hid hDs; clear hDs
  have HS : Hid (St w w []) := Lib.hid (St.start w)
  clear h1 ho hK hD hfb
  go_enter Try.func3, Try.ntmps3
  go_wp2_with fail
  by_cases hN : 1048576 < (a.length : Int)
  · refine (szPartS_any _ _ _ (by omega) _ (by omega) (by omega) _ _ (szV_no (by omega))).mono ?_
    rintro e w1 ⟨rfl, rfl⟩
    go_wp2
    go_ret
    exact ⟨rfl, HS.out.bel⟩
  have hS0 : (a.length : Int) ≤ 1048576 := by omega
  refine (szPartS_any _ _ _ (by omega) _ (by omega) (by omega) _ _ (szV_yes hS0)).mono ?_
  rintro e wz ⟨rfl, rfl⟩
  have hL0 : 0 ≤ 1048576 - (a.length : Int) := by omega
  have hm : a.length ≤ 1048576 := by omega
  have Hhm := Lib.hid hm; clear hm
  go_wp2_with fail
  refine (toPartS_any a _ _ Hhm.out (H1.out.below HS.out.bel)).mono ?_
  rintro e y1 ⟨⟨s1, sc1, rfl, ho⟩, hb⟩
  replace HS := Lib.hid (HS.out.call hb)
  have hR := Lib.hid ((OPairs.pairs ho).mono (Nat.zero_le _))
  clear ho hb
  go_wp2_with fail
  refine (Hsp.out _ _ (by have := Hhm.out; omega) hR.out).mono ?_
  rintro e y2 ⟨b1, bc1, b2, bc2, rfl, hwr, hb⟩
  replace HS := Lib.hid (HS.out.call hb)
  clear hb hR
  have hw2 := HS.out.size
  have HW := Lib.hid hwr
  have HD : Hid (Below y2.heap.size y2 y2) := Lib.hid (Below.refl _ _)
  clear hwr
  have hb := (Below.refl y2.heap.size y2).alloc (Nat.le_refl _) (.cells #[.slice b1 D.next.length bc1, .slice b2 D.ends.length bc2] 27)
  replace HD := Lib.hid (HD.out.trans (hb.mono HD.out.size))
  clear hb
  replace HS : Hid (St w (y2.alloc (.cells #[.slice b1 D.next.length bc1, .slice b2 D.ends.length bc2] 27)) [Ent.box y2.heap.size #[.slice b1 D.next.length bc1, .slice b2 D.ends.length bc2] 27]) := Lib.hid (HS.out.alloc _ rfl _ _)
  go_wp2_with fail
  refine (toPartS_any a _ _ Hhm.out (H1.out.below HS.out.bel)).mono ?_
  rintro e y3 ⟨⟨s1, sc1, rfl, ho⟩, hb⟩
  have hn3 := hb.size
  simp only [World.size_alloc] at ho hn3
  replace HS := Lib.hid (HS.out.call hb)
  replace HD := Lib.hid (HD.out.trans (hb.mono HD.out.size))
  have HO := Lib.hid ho
  clear ho hb
  go_wp2_with fail
  refine (Him.out _ _ ((OPairs.pairs HO.out).mono (Nat.zero_le _))).mono ?_
  rintro e y4 ⟨⟨g1, gc1, g2, gc2, rfl, hog⟩, hb⟩
  have hn4 := hb.size
  replace HS := Lib.hid (HS.out.call hb)
  replace HD := Lib.hid (HD.out.trans (hb.mono HD.out.size))
  replace HO := Lib.hid (HO.out.below hb)
  have HG := Lib.hid hog
  clear hog
  clear hb
  have hb := (Below.refl y4.heap.size y4).alloc (Nat.le_refl _) (.cells #[.slice g1 D.next.length gc1, .slice g2 D.ends.length gc2] 27)
  replace HD := Lib.hid (HD.out.trans (hb.mono HD.out.size))
  replace HO := Lib.hid (HO.out.below hb)
  replace HG := Lib.hid (HG.out.below hb)
  clear hb
  replace HS : Hid (St w (y4.alloc (.cells #[.slice g1 D.next.length gc1, .slice g2 D.ends.length gc2] 27)) [Ent.box y2.heap.size #[.slice b1 D.next.length bc1, .slice b2 D.ends.length bc2] 27, Ent.box y4.heap.size #[.slice g1 D.next.length gc1, .slice g2 D.ends.length gc2] 27]) := Lib.hid (HS.out.alloc _ rfl _ _)
  have hbb : (fb != fb) = false := by simp
  have c10 := HS.out.cell (v := .slice g1 D.next.length gc1) 1 0 rfl rfl
  have c11 := HS.out.cell (v := .slice g2 D.ends.length gc2) 1 1 rfl rfl
  have c00 := HS.out.cell (v := .slice b1 D.next.length bc1) 0 0 rfl rfl
  have c01 := HS.out.cell (v := .slice b2 D.ends.length bc2) 0 1 rfl rfl
  go_wp2_with fail
  refine (eqDfa_any D D _ _ _ (HG.out.r.mono (Nat.zero_le _)) (HW.out.below HD.out |> fun z => z.mono (Nat.zero_le _)) true (by simp)).mono ?_
  rintro e y5 ⟨rfl, hb⟩
  clear c00 c01 c10 c11
  replace HS := Lib.hid (HS.out.call hb)
  replace HD := Lib.hid (HD.out.trans (hb.mono HD.out.size))
  replace HO := Lib.hid (HO.out.below hb)
  replace HG := Lib.hid (HG.out.below hb)
  clear hb
  go_wp2_with fail
  refine (toPartS_any a _ _ Hhm.out (H1.out.below HS.out.bel)).mono ?_
  rintro e u0 ⟨⟨m1, mc1, rfl, ho0⟩, hb⟩
  replace HS := Lib.hid (HS.out.call hb)
  replace HD := Lib.hid (HD.out.trans (hb.mono HD.out.size))
  replace HO := Lib.hid (HO.out.below hb)
  replace HG := Lib.hid (HG.out.below hb)
  have HR0 := Lib.hid ((OPairs.pairs ho0).mono (Nat.zero_le _))
  clear hb ho0
  go_wp2_with fail
  refine (eqPartS_any a a _ _ _ ((OPairs.pairs HO.out).mono (Nat.zero_le _)) HR0.out true (by simp)).mono ?_
  rintro e k0 ⟨rfl, hb⟩
  replace HS := Lib.hid (HS.out.call hb)
  replace HD := Lib.hid (HD.out.trans (hb.mono HD.out.size))
  replace HO := Lib.hid (HO.out.below hb)
  replace HG := Lib.hid (HG.out.below hb)
  clear hb HR0
  have hsW : y4.heap.size ≤ k0.heap.size := by have := (HS.out.boxlt 1 rfl).2; omega
  go_wp2_with fail
  refine (markParts_any a 1 (y2.heap.size + 1) (y3.heap.size) _ _ (by omega) (by omega) (by have := Hhm.out; omega) HO.out).mono ?_
  rintro e l0 ⟨rfl, -, hmk⟩
  replace hmk := (Touch.of_grown HO.out hmk).only
  replace HS := Lib.hid (HS.out.only hmk (by omega) (by
    intro x hx
    simp only [List.mem_cons, List.not_mem_nil, or_false] at hx
    rcases hx with rfl | rfl <;> (intro k hk; have hk : k = _ := hk; subst hk; omega)))
  replace HD := Lib.hid (HD.out.trans ((hmk.below (by omega)).mono (by omega)))
  replace HG := Lib.hid (DfaO.only HG.out hmk (by omega))
  have hnl := hmk.size
  clear hmk HO
  have hk0 : 0 ≤ 1 + 2 * (a.length : Int) := by omega
  have c10 := HS.out.cell (v := .slice g1 D.next.length gc1) 1 0 rfl rfl
  have c11 := HS.out.cell (v := .slice g2 D.ends.length gc2) 1 1 rfl rfl
  have c00 := HS.out.cell (v := .slice b1 D.next.length bc1) 0 0 rfl rfl
  have c01 := HS.out.cell (v := .slice b2 D.ends.length bc2) 0 1 rfl rfl
  go_wp2_with fail
  refine (eqDfa_any D D _ _ _ (HG.out.r.mono (Nat.zero_le _)) (HW.out.below HD.out |> fun z => z.mono (Nat.zero_le _)) true (by simp)).mono ?_
  rintro e y6 ⟨rfl, hb⟩
  clear c00 c01 c10 c11
  replace HS := Lib.hid (HS.out.call hb)
  replace HD := Lib.hid (HD.out.trans (hb.mono HD.out.size))
  replace HG := Lib.hid (HG.out.below hb)
  clear hb
  have c10 := HS.out.cell (v := .slice g1 D.next.length gc1) 1 0 rfl rfl
  have c11 := HS.out.cell (v := .slice g2 D.ends.length gc2) 1 1 rfl rfl
  have hsz6 := (HS.out.boxlt 1 rfl).2
  go_wp2_with fail
  refine (markDfa_any D 1 (y3.heap.size) (y4.heap.size) _ _ (by omega) (by omega) (by have := HhDs.out; omega) (by have := HhDs.out; omega) (by have := HhDs.out; omega) (by omega) HG.out).mono ?_
  rintro e l1 ⟨rfl, hg, hmk⟩
  clear c10 c11
  replace HS := Lib.hid (HS.out.only hmk (by omega) (by
    intro x hx
    simp only [List.mem_cons, List.not_mem_nil, or_false] at hx
    rcases hx with rfl | rfl <;> (intro k hk; have hk : k = _ := hk; subst hk; omega)))
  replace HD := Lib.hid (HD.out.trans ((hmk.below (by omega)).mono (by omega)))
  replace HG := Lib.hid hg
  clear hmk hg
  have hkq : (1 + (totD D : Int) != 1 + (totD D : Int)) = false := by simp
  have hk1 : 0 ≤ 1 + (totD D : Int) := by omega
  have c10 := HS.out.cell (v := .slice g1 D.next.length gc1) 1 0 rfl rfl
  have c11 := HS.out.cell (v := .slice g2 D.ends.length gc2) 1 1 rfl rfl
  go_wp2_with fail
  refine (heldDfa_any D 1 0 _ _ (by omega) (by omega) (by have := HhDs.out; omega) (by have := HhDs.out; omega) (by have := HhDs.out; omega) (HG.out.r.mono (Nat.zero_le _))).mono ?_
  rintro e y7 ⟨rfl, hb⟩
  clear c10 c11
  replace HS := Lib.hid (HS.out.call hb)
  replace HD := Lib.hid (HD.out.trans (hb.mono HD.out.size))
  replace HG := Lib.hid (HG.out.below hb)
  clear hb
  go_wp2_with fail
  refine (toPartS_any a _ _ Hhm.out (H1.out.below HS.out.bel)).mono ?_
  rintro e y8 ⟨⟨t1, tc1, rfl, ho⟩, hb⟩
  replace HS := Lib.hid (HS.out.call hb)
  replace HD := Lib.hid (HD.out.trans (hb.mono HD.out.size))
  replace HG := Lib.hid (HG.out.below hb)
  have hR := Lib.hid ((OPairs.pairs ho).mono (Nat.zero_le _))
  clear ho hb
  go_wp2_with fail
  refine (Him.out _ _ hR.out).mono ?_
  rintro e y9 ⟨⟨h1, hc1, h2, hc2, rfl, hog⟩, hb⟩
  replace HS := Lib.hid (HS.out.call hb)
  replace HD := Lib.hid (HD.out.trans (hb.mono HD.out.size))
  replace HG := Lib.hid (HG.out.below hb)
  have HH := Lib.hid hog
  clear hog hb hR
  have hb := (Below.refl y9.heap.size y9).alloc (Nat.le_refl _) (.cells #[.slice h1 D.next.length hc1, .slice h2 D.ends.length hc2] 27)
  replace HD := Lib.hid (HD.out.trans (hb.mono HD.out.size))
  replace HG := Lib.hid (HG.out.below hb)
  replace HH := Lib.hid (HH.out.below hb)
  clear hb
  replace HS : Hid (St w (y9.alloc (.cells #[.slice h1 D.next.length hc1, .slice h2 D.ends.length hc2] 27)) [Ent.box y2.heap.size #[.slice b1 D.next.length bc1, .slice b2 D.ends.length bc2] 27, Ent.box y4.heap.size #[.slice g1 D.next.length gc1, .slice g2 D.ends.length gc2] 27, Ent.box y9.heap.size #[.slice h1 D.next.length hc1, .slice h2 D.ends.length hc2] 27]) := Lib.hid (HS.out.alloc _ rfl _ _)
  have c20 := HS.out.cell (v := .slice h1 D.next.length hc1) 2 0 rfl rfl
  have c21 := HS.out.cell (v := .slice h2 D.ends.length hc2) 2 1 rfl rfl
  have c00 := HS.out.cell (v := .slice b1 D.next.length bc1) 0 0 rfl rfl
  have c01 := HS.out.cell (v := .slice b2 D.ends.length bc2) 0 1 rfl rfl
  go_wp2_with fail
  refine (eqDfa_any D D _ _ _ (HH.out.r.mono (Nat.zero_le _)) (HW.out.below HD.out |> fun z => z.mono (Nat.zero_le _)) true (by simp)).mono ?_
  rintro e y10 ⟨rfl, hb⟩
  clear c00 c01 c20 c21
  replace HS := Lib.hid (HS.out.call hb)
  replace HD := Lib.hid (HD.out.trans (hb.mono HD.out.size))
  replace HG := Lib.hid (HG.out.below hb)
  clear hb HH
  have c10 := HS.out.cell (v := .slice g1 D.next.length gc1) 1 0 rfl rfl
  have c11 := HS.out.cell (v := .slice g2 D.ends.length gc2) 1 1 rfl rfl
  go_wp2_with fail
  refine (heldDfa_any D 1 0 _ _ (by omega) (by omega) (by have := HhDs.out; omega) (by have := HhDs.out; omega) (by have := HhDs.out; omega) (HG.out.r.mono (Nat.zero_le _))).mono ?_
  rintro e y11 ⟨rfl, hb⟩
  clear c10 c11
  replace HS := Lib.hid (HS.out.call hb)
  clear hb
  go_wp2
  go_ret
  exact ⟨rfl, HS.out.bel⟩
end Go.Proofs.Ytalbofnhcpjilaa
