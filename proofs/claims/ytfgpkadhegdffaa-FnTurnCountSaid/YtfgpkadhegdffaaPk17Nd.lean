/-
  The walks over Index among truth values and Equal of integers.
  Conditions: the lists read as such; the value looked for is in the list.
-/
import Derived.Test.YtfgpkadhegdffaaPk12Tuf
import Derived.Test.YtfgpkadhegdffaaPk14Tus
import Derived.Test.YtfgpkadhegdffaaPk15Jy
import Derived.Test.YtfgpkadhegdffaaPk16Jw
namespace Go.Proofs.Ytfgpkadhegdffaa
open Go.RowKit
set_option maxHeartbeats 1600000 in
theorem indexB_any (xs : List Bool) (y : Bool) (p : Nat) (v : Value) (w : World) (h1 : Bools 0 w v xs) (hp : p < xs.length) (hy : xs.getD p false = y) (hno : ∀ j, j < p → xs.getD j false ≠ y) :
    Calls Try.prog 109 #[v, .bool y] w fun e w' => e = .returned (.int .i64 (p : Nat)) ∧ Below w.heap.size w w' := by
  obtain ⟨a1, c1, rfl, hc1, hm1, hr1⟩ := h1.form
  obtain ⟨b1, o1, rfl, -, hbl1, hcs1⟩ := hr1 (by omega)
  have Hcs := Lib.hid hcs1
  have Hno := Lib.hid hno
  have Hhy := Lib.hid hy; clear hy
  clear hr1 hcs1 hno h1
  go_enter Try.func109, Try.ntmps109
  go_wp2
  go_loopw [4, 8] (fun r i wr => ∃ k : Nat, k ≤ p ∧ i = .int .i64 k ∧ Below w.heap.size w wr) (fun _ i _ => p + 1 - (intOf i).toNat)
  case atStart => exact ⟨0, Nat.zero_le _, rfl, Below.refl _ _⟩
  case round =>
    obtain ⟨k, hk, rfl, hb⟩ := hrel
    have hkl : (k : Int) < xs.length := by omega
    have k1 := (bcell hb b1 (o1 + k) hbl1).trans (Hcs.out k (by omega))
    obtain ⟨z, hz⟩ : ∃ z, z = xs.getD k false := ⟨_, rfl⟩
    rw [← hz] at k1
    have Hhb := Lib.hid hb; clear hb
    by_cases he : k = p
    · subst he
      have hzy : z = y := by rw [hz]; exact Hhy.out
      subst hzy
      have Hhz := Lib.hid hz; clear hz
      go_wp2
      go_ret
      exact ⟨rfl, Hhb.out⟩
    · have hne : z ≠ y := by rw [hz]; exact Hno.out k (by omega)
      have g1 : (y == z) = false := by simpa using hne.symm
      have g2 : (z == y) = false := by simpa using hne
      have Hhz := Lib.hid hz; clear hz
      have Hhne := Lib.hid hne; clear hne
      go_wp2
      go_roundw
      case rel => exact ⟨k + 1, by omega, by go_num, Hhb.out⟩
      case measure => simp [intOf]; omega
set_option maxHeartbeats 1600000 in
theorem equalI_any (xs ys : List Int) (n : Nat) (v1 v2 : Value) (w : World) (hx : xs.length = n) (hy : ys.length = n) (h1 : Ints 0 w v1 xs) (h2 : Ints 0 w v2 ys) (r : Bool) (hr : decide (xs = ys) = r) :
    Calls Try.prog 111 #[v1, v2] w fun e w' => e = .returned (.bool r) ∧ Below w.heap.size w w' := by
  obtain ⟨a1, c1, rfl, hc1, hm1, hr1⟩ := h1.form
  obtain ⟨a2, c2, rfl, hc2, hm2, hr2⟩ := h2.form
  rw [hx] at hc1 hr1
  rw [hy] at hc2 hr2
  rw [hx, hy]
  have hnn : ((n : Int) != n) = false := by simp
  have Hhx := Lib.hid hx; clear hx
  have Hhy := Lib.hid hy; clear hy
  have Hhr := Lib.hid hr; clear hr
  clear h1 h2
  go_enter Try.func111, Try.ntmps111
  go_wp2
  go_loopw [4, 13] (fun r i wr => ∃ k : Nat, k ≤ n ∧ i = .int .i64 k ∧ xs.take k = ys.take k ∧ Below w.heap.size w wr) (fun _ i _ => n - (intOf i).toNat)
  case atStart => exact ⟨0, Nat.zero_le _, rfl, rfl, Below.refl _ _⟩
  case round =>
    obtain ⟨k, hk, rfl, htk, hb⟩ := hrel
    have Hhtk := Lib.hid htk; clear htk
    by_cases hlt : k < n
    · obtain ⟨b1, o1, rfl, -, hbl1, hcs1⟩ := hr1 (by omega)
      obtain ⟨b2, o2, rfl, -, hbl2, hcs2⟩ := hr2 (by omega)
      have k1 := (bcell hb b1 (o1 + k) hbl1).trans (hcs1 k hlt)
      have k2 := (bcell hb b2 (o2 + k) hbl2).trans (hcs2 k hlt)
      obtain ⟨p, hp⟩ : ∃ p, p = xs.getD k 0 := ⟨_, rfl⟩
      obtain ⟨q, hq⟩ : ∃ q, q = ys.getD k 0 := ⟨_, rfl⟩
      rw [← hp] at k1
      rw [← hq] at k2
      have Hhp := Lib.hid hp; clear hp
      have Hhq := Lib.hid hq; clear hq
      have Hhb := Lib.hid hb; clear hb
      clear hcs1 hcs2 hr1 hr2
      by_cases hpq : p = q
      · have g1 : (p != q) = false := by simpa using hpq
        have g2 : (!(p == q)) = false := by simpa using hpq
        have g3 : (p = q) = True := by simpa using hpq
        have Hhpq := Lib.hid hpq; clear hpq
        go_wp2
        go_quiet (fail)
        go_wp2
        go_roundw
        case rel => exact ⟨k + 1, by omega, by go_num, take_snoc_eq (d := 0) (by rw [Hhx.out]; exact hlt) (by rw [Hhy.out]; exact hlt) Hhtk.out (by rw [← Hhp.out, ← Hhq.out]; exact Hhpq.out), below_drewN Hhb.out _⟩
        case measure => simp [intOf]; omega
      · have g1 : (p != q) = true := by simpa using hpq
        have g2 : (!(p == q)) = true := by simpa using hpq
        have g3 : (p = q) = False := by simpa using hpq
        have Hhpq := Lib.hid hpq; clear hpq
        go_wp2
        go_quiet (fail)
        go_wp2
        go_ret
        exact ⟨by rw [← Hhr.out, decide_eq_false (ne_of_getD (k := k) (d := 0) (by rw [← Hhp.out, ← Hhq.out]; exact Hhpq.out))]; rfl, below_drewN Hhb.out _⟩
    · obtain rfl : k = n := by omega
      have Hhb := Lib.hid hb; clear hb
      clear hr1 hr2
      go_wp2
      go_ret
      refine ⟨?_, Hhb.out⟩
      have h := Hhtk.out
      rw [List.take_of_length_le (by rw [Hhx.out]; exact Nat.le_refl _), List.take_of_length_le (by rw [Hhy.out]; exact Nat.le_refl _)] at h
      rw [← Hhr.out, decide_eq_true h]
      rfl
def natAt (w : World) (b j : Nat) : Nat := match w.cell? ⟨b, j, none⟩ with
  | some v => (intOf v).toNat
  | none => 0
theorem natAt_of {w : World} {b j t : Nat} (h : w.cell? ⟨b, j, none⟩ = some (.int .i64 ((t : Nat) : Int))) : natAt w b j = t := by
  unfold natAt
  rw [h]
  simp [intOf]
def repsW (w : World) (b n : Nat) : Nat := ((List.range n).filter fun s => decide (natAt w b s = s)).length
theorem repsW_of {w : World} {b n : Nat} {cl : Nat → Nat} (h : ∀ s, s < n → w.cell? ⟨b, s, none⟩ = some (.int .i64 ((cl s : Nat) : Int))) : repsW w b n = reps n cl := by
  unfold repsW reps
  congr 1
  refine List.filter_congr fun s hs => ?_
  rw [natAt_of (h s (List.mem_range.1 hs))]
def blockOf : Value → Nat
  | .slice (some a) _ _ => a.block
  | _ => 0
def isYes : Value → Bool
  | .bool b => b
  | _ => false
def RCl (d : DfaD) (w : World) (e : Ending) (w' : World) : Prop := ∃ b c, e = .returned (.slice (some ⟨b, 0, none⟩) d.next.length c) ∧ St w w' [Ent.row 3 1 (.slice (some ⟨b, 0, none⟩) d.next.length c) d.next.length (intCells (clsL d.next.length (clD d)))]
set_option maxRecDepth 100000 in
set_option maxHeartbeats 8000000 in
theorem sameStates_any (d : DfaD) (v : Value) (w : World) (hd : dfaOk d.next d.ends = true) (h : DfaR 0 w v d) :
    Calls Try.prog 84 #[v] w fun e w' => RCl d w e w' := by
  have HR := Lib.hid h
  obtain ⟨b1, o1, cv, b2, o2, cw, rfl, hC⟩ := dfa_open hd h
  have hnx : ∀ s c, s < d.next.length → c < 3 → nxD d s c < d.next.length := fun s c hs hc => hC.lt s c hs hc
  obtain ⟨N, hN, hNs, hNo⟩ := stays_ex (n := d.next.length) (nx := nxD d) (enD d)
  obtain ⟨C, hCC⟩ : ∃ C, C = clAt d.next.length (nxD d) (enD d) := ⟨_, rfl⟩
  have hfin : ∀ s, s < d.next.length → C (N + 1) s = clD d s := fun s hs => by
    rw [hCC, hNs s hs]
    exact (clEnd_at hnx hN hNs hs).symm
  have hgood : ∀ i, GoodC d.next.length (C i) := fun i => by rw [hCC]; exact clAt_good (enD d) i
  have hc0 : ∀ s, s < d.next.length → C 0 s ≤ s ∧ enD d (C 0 s) = enD d s ∧ ∀ j, j < C 0 s → enD d j ≠ enD d s := fun s hs => by rw [hCC]; exact cl0_facts hs
  have hcs : ∀ i s, s < d.next.length → C (i + 1) s ≤ s ∧ sameAt (nxD d) (C i) (C (i + 1) s) s = true ∧ ∀ j, j < C (i + 1) s → sameAt (nxD d) (C i) j s = false := fun i s hs => by rw [hCC]; exact refine_facts hs
  have hsd : ∀ i, clsL d.next.length (C (i + 1)) = clsL d.next.length (C i) ↔ stays d.next.length (nxD d) (enD d) i := fun i => by
    rw [clsL_inj, hCC]
    exact Iff.rfl
  obtain ⟨L, hL⟩ : ∃ L, L = d.next.length := ⟨_, rfl⟩
  have hl1 := hC.l1
  have hl2 := hC.l2
  have hS0 := (St.start w).alloc _ rfl #[.slice (some ⟨b1, o1, none⟩) L cv, .slice (some ⟨b2, o2, none⟩) L cw] 30
  unfold RCl
  rw [← hL] at hl1 hl2 HR hN hgood hc0 hcs hsd hfin
  rw [← hL]
  obtain ⟨i0, hi, hz0, hz1, hz2⟩ := info_parts Try.infoInt
  have HC := Lib.hid hC
  have Hgood := Lib.hid hgood
  have Hc0 := Lib.hid hc0
  have Hcs := Lib.hid hcs
  have Hsd := Lib.hid hsd
  have Hfin := Lib.hid hfin
  have HNo := Lib.hid hNo
  have HNs := Lib.hid hNs
  have HhS0 := Lib.hid hS0; clear hS0
  have HhL := Lib.hid hL; clear hL
  have HhCC := Lib.hid hCC; clear hCC
  have Hhi := Lib.hid hi; clear hi
  have Hhz0 := Lib.hid hz0; clear hz0
  have Hhz1 := Lib.hid hz1; clear hz1
  have Hhz2 := Lib.hid hz2; clear hz2
  clear hC hgood hc0 hcs hsd hfin hNo hNs hnx h
  go_enter Try.func84, Try.ntmps84
  have HD := Lib.hid (show ∀ w1 : World, w1.ownsRow (w.alloc (.cells #[.slice (some ⟨b1, o1, none⟩) L cv, .slice (some ⟨b2, o2, none⟩) L cw] 30)).heap.size 3 1 (.slice (some ⟨w.heap.size + 1, 0, none⟩) L L) L (intCells (padL L 0 (C 0))) → Below (w.alloc (.cells #[.slice (some ⟨b1, o1, none⟩) L cv, .slice (some ⟨b2, o2, none⟩) L cw] 30)).heap.size (w.alloc (.cells #[.slice (some ⟨b1, o1, none⟩) L cv, .slice (some ⟨b2, o2, none⟩) L cw] 30)) w1 →
      St w w1 [Ent.box w.heap.size #[.slice (some ⟨b1, o1, none⟩) L cv, .slice (some ⟨b2, o2, none⟩) L cw] 30, Ent.row 3 1 (.slice (some ⟨w.heap.size + 1, 0, none⟩) L L) L (intCells (padL L 0 (C 0)))] from fun w1 h1 h2 => HhS0.out.made h2 h1)
  go_wp2_with (at_make; refine wpList_make_full _ rfl _ _ 60 rfl _ 3 i0 (.int .i64 0) 1 Try.underlying60 Hhi.out Hhz0.out Hhz1.out .i64 .i64 _ _ L rfl rfl rfl rfl (by rw [Hhz2.out]; omega) (by unfold maxLen; omega) (Nat.le_refl _) ?_; intro w1 hown hgrow; have hm := made_ints (C 0) hown; simp only [World.size_alloc] at hm; have HS1 := Lib.hid (HD.out w1 (by simpa only [World.size_alloc] using hm) ((Below.refl _ _).grown hgrow (Nat.le_refl _) (fun _ h => by cases h))); clear hown hgrow hm)
  go_loopw [14] (fun i wr => ∃ s : Nat, i = .int .i64 s ∧ s ≤ L ∧ St w wr [Ent.box w.heap.size #[.slice (some ⟨b1, o1, none⟩) L cv, .slice (some ⟨b2, o2, none⟩) L cw] 30, Ent.row 3 1 (.slice (some ⟨w.heap.size + 1, 0, none⟩) L L) L (intCells (padL L s (C 0)))]) (fun i _ => L - (intOf i).toNat)
  case atStart => exact ⟨0, rfl, Nat.zero_le _, HS1.out⟩
  case round =>
    obtain ⟨s, rfl, hs, hS⟩ := hrel
    by_cases hlt : s < L
    · have hlt2 : (s : Int) < L := by omega
      have hsn : s < d.next.length := by have := HhL.out; omega
      have hen := HC.out.en s hsn
      have hci := Hc0.out s hlt
      have hpad := padT_end (n := L) (s := s) (C 0)
      have hset := padT_set (n := L) (s := s) (C 0) 0 (C 0 s)
      rw [padL_T (C 0) hlt] at hS
      rw [hpad] at hset
      have hat := padT_at (n := L) (s := s) (C 0) 0
      have hix := fun (w' : World) (hb : Below w.heap.size w w') (z : Bool) (hz : z = enD d s) => indexB_any d.ends z (C 0 s) (.slice (some ⟨b2, o2, none⟩) L cw) w' (by
        obtain ⟨u1, u2, hq, -, h2⟩ := HR.out
        simp only [Value.agg.injEq, Array.mk.injEq, List.cons.injEq, and_true] at hq
        rw [hq.2]
        exact h2.below hb) (by have := HC.out.le; omega) (by rw [hz]; exact hci.2.1) (fun j hj => by rw [hz]; exact hci.2.2 j hj)
      obtain ⟨z, hz⟩ : ∃ z, z = enD d s := ⟨_, rfl⟩
      rw [← hz] at hen
      obtain ⟨p, hp⟩ : ∃ p, p = C 0 s := ⟨_, rfl⟩
      rw [← hp] at hset hix
      have Hix := Lib.hid fun (w' : World) (hb : Below w.heap.size w w') => hix w' hb z hz
      have Hen := Lib.hid hen
      obtain ⟨X0, hX0⟩ : ∃ X0, X0 = intCells (padT L s (C 0) 0) := ⟨_, rfl⟩
      obtain ⟨X1, hX1⟩ : ∃ X1, X1 = intCells (padL L (s + 1) (C 0)) := ⟨_, rfl⟩
      rw [← hX0, ← hX1] at hset
      rw [← hX0] at hS hat
      have HS := Lib.hid hS
      have Hhz := Lib.hid hz; clear hz
      have Hhp := Lib.hid hp; clear hp
      have Hhset := Lib.hid hset; clear hset
      have Hhat := Lib.hid hat; clear hat
      have HhX0 := Lib.hid hX0; clear hX0
      have HhX1 := Lib.hid hX1; clear hX1
      clear hS hix hen hci hpad
      go_wp2
      refine wp_region_any (by kernel_rfl) ?_
      refine wpAny_invA (fun A listed a w' => ∃ (l0 l1 l2 l3 l4 l5 l6 l7 l8 l9 l10 l11 : Bool) , listed = #[l0, l1, l2, l3, l4, l5, l6, l7, l8, l9, l10, l11] ∧
          a = ⟨(((((((((((A.tmps.setIfInBounds 17 (if l0 = true then .slice (some ⟨w.heap.size + 1, 0, none⟩) L L else A.tmps.getD 17 undef)).setIfInBounds 18 (if l1 = true then .int .i64 (s : Int) else A.tmps.getD 18 undef)).setIfInBounds 19 (if l2 = true then .pointer (some ⟨w.heap.size, 1, none⟩) else A.tmps.getD 19 undef)).setIfInBounds 20 (if l3 = true then .slice (some ⟨b2, o2, none⟩) L cw else A.tmps.getD 20 undef)).setIfInBounds 21 (if l4 = true then .pointer (some ⟨w.heap.size, 1, none⟩) else A.tmps.getD 21 undef)).setIfInBounds 22 (if l5 = true then .slice (some ⟨b2, o2, none⟩) L cw else A.tmps.getD 22 undef)).setIfInBounds 23 (if l6 = true then .int .i64 (s : Int) else A.tmps.getD 23 undef)).setIfInBounds 24 (if l7 = true then .pointer (some ⟨b2, o2 + s, none⟩) else A.tmps.getD 24 undef)).setIfInBounds 25 (if l8 = true then .bool z else A.tmps.getD 25 undef)).setIfInBounds 26 (if l9 = true then .int .i64 (p : Int) else A.tmps.getD 26 undef)).setIfInBounds 27 (if l10 = true then .pointer (some ⟨w.heap.size + 1, s, none⟩) else A.tmps.getD 27 undef)), A.defers⟩ ∧
          St w w' [Ent.box w.heap.size #[.slice (some ⟨b1, o1, none⟩) L cv, .slice (some ⟨b2, o2, none⟩) L cw] 30, Ent.row 3 1 (.slice (some ⟨w.heap.size + 1, 0, none⟩) L L) L (if l11 = true then X1 else X0)]) ?_ ?_ ?_
      · rintro listed a w' ⟨l0, l1, l2, l3, l4, l5, l6, l7, l8, l9, l10, l11, rfl, rfl, hS⟩ i hi
        obtain ⟨hun, o, ho, hall⟩ := mem_ready.1 hi
        have hlt := (Array.getElem?_eq_some_iff.1 ho).1
        refine wpOp_step ho (fun K hK => ?_)
        clear hi
        have HS := Lib.hid hS
        clear hS
        simp only [List.setIfInBounds_toArray, List.set_cons_zero, List.set_cons_succ, Array.getD_eq_getD_getElem?, List.getElem?_toArray, List.getElem?_cons_zero, List.getElem?_cons_succ, Option.getD_some]
        obtain h | h | h | h | h | h | h | h | h | h | h | h : i = 0 ∨ i = 1 ∨ i = 2 ∨ i = 3 ∨ i = 4 ∨ i = 5 ∨ i = 6 ∨ i = 7 ∨ i = 8 ∨ i = 9 ∨ i = 10 ∨ i = 11 := by simp at hlt; omega
        all_goals subst h
        all_goals simp only [List.getElem?_toArray, List.getElem?_cons_zero, List.getElem?_cons_succ, Option.some.injEq] at ho
        all_goals subst ho
        all_goals simp [Region.binds] at hun hall
        · subst hun
          go_simp
          exact hK _ _ ⟨true, l1, l2, l3, l4, l5, l6, l7, l8, l9, l10, l11, rfl, (by simp), HS.out⟩
        · subst hun
          go_simp
          exact hK _ _ ⟨l0, true, l2, l3, l4, l5, l6, l7, l8, l9, l10, l11, rfl, (by simp), HS.out⟩
        · subst hun
          go_simp
          exact hK _ _ ⟨l0, l1, true, l3, l4, l5, l6, l7, l8, l9, l10, l11, rfl, (by simp), HS.out⟩
        · obtain rfl := hall
          subst hun
          have e0 := HS.out.cell (v := .slice (some ⟨b2, o2, none⟩) L cw) 0 1 rfl rfl
          go_simp
          exact hK _ _ ⟨l0, l1, true, true, l4, l5, l6, l7, l8, l9, l10, l11, rfl, (by simp), HS.out⟩
        · subst hun
          go_simp
          exact hK _ _ ⟨l0, l1, l2, l3, true, l5, l6, l7, l8, l9, l10, l11, rfl, (by simp), HS.out⟩
        · obtain rfl := hall
          subst hun
          have e0 := HS.out.cell (v := .slice (some ⟨b2, o2, none⟩) L cw) 0 1 rfl rfl
          go_simp
          exact hK _ _ ⟨l0, l1, l2, l3, true, true, l6, l7, l8, l9, l10, l11, rfl, (by simp), HS.out⟩
        · subst hun
          go_simp
          exact hK _ _ ⟨l0, l1, l2, l3, l4, l5, true, l7, l8, l9, l10, l11, rfl, (by simp), HS.out⟩
        · obtain ⟨rfl, rfl⟩ := hall
          subst hun
          go_simp
          exact hK _ _ ⟨l0, l1, l2, l3, l4, true, true, true, l8, l9, l10, l11, rfl, (by simp), HS.out⟩
        · obtain rfl := hall
          subst hun
          have e0 := (bcell HS.out.bel b2 _ HC.out.hb2).trans Hen.out
          go_simp
          exact hK _ _ ⟨l0, l1, l2, l3, l4, l5, l6, true, true, l9, l10, l11, rfl, (by simp), HS.out⟩
        · obtain ⟨rfl, rfl⟩ := hall
          subst hun
          go_simp
          go_at_call 109
          refine (Hix.out _ HS.out.bel).mono ?_
          rintro e u1 ⟨rfl, hbx⟩
          have hS2 := HS.out.call hbx
          have HhS2 := Lib.hid hS2; clear hS2
          go_simp
          exact hK _ _ ⟨l0, l1, l2, true, l4, l5, l6, l7, true, true, l10, l11, rfl, (by simp), HhS2.out⟩
        · obtain ⟨rfl, rfl, -, -, rfl, rfl, rfl, rfl, rfl, rfl, rfl, rfl⟩ := hall
          subst hun
          go_simp
          exact hK _ _ ⟨true, true, true, true, true, true, true, true, true, true, true, l11, rfl, (by simp only [↓reduceIte, List.setIfInBounds_toArray, List.set_cons_zero, List.set_cons_succ]), HS.out⟩
        · obtain ⟨rfl, rfl, rfl, rfl, rfl, rfl, rfl, rfl, rfl, rfl, rfl, -⟩ := hall
          subst hun
          have f0 := HS.out.rfr 1 s rfl
          have k0 := HS.out.rcell (v := .int .i64 ((0 : Nat) : Int)) 1 s rfl (by omega) Hhat.out
          have hS2 := HS.out.store 1 rfl s (.int .i64 (p : Int))
          simp only [List.set_cons_succ, List.set_cons_zero, Bool.false_eq_true, ↓reduceIte, Hhset.out] at hS2
          go_simp
          exact hK _ _ ⟨true, true, true, true, true, true, true, true, true, true, true, true, rfl, (by simp only [↓reduceIte, List.setIfInBounds_toArray, List.set_cons_zero, List.set_cons_succ]), hS2⟩
      · rintro listed a w' ⟨l0, l1, l2, l3, l4, l5, l6, l7, l8, l9, l10, l11, rfl, rfl, hS⟩ hr
        have hall := ready_nil (by kernel_rfl) rfl hr
        obtain rfl : l0 = true := by simpa using hall 0 (by simp)
        obtain rfl : l1 = true := by simpa using hall 1 (by simp)
        obtain rfl : l2 = true := by simpa using hall 2 (by simp)
        obtain rfl : l3 = true := by simpa using hall 3 (by simp)
        obtain rfl : l4 = true := by simpa using hall 4 (by simp)
        obtain rfl : l5 = true := by simpa using hall 5 (by simp)
        obtain rfl : l6 = true := by simpa using hall 6 (by simp)
        obtain rfl : l7 = true := by simpa using hall 7 (by simp)
        obtain rfl : l8 = true := by simpa using hall 8 (by simp)
        obtain rfl : l9 = true := by simpa using hall 9 (by simp)
        obtain rfl : l10 = true := by simpa using hall 10 (by simp)
        obtain rfl : l11 = true := by simpa using hall 11 (by simp)
        clear hall hr 
        simp only [↓reduceIte] at hS ⊢
        simp only [List.setIfInBounds_toArray, List.set_cons_zero, List.set_cons_succ]
        have HS9 := Lib.hid hS
        clear hS
        go_wp2
        go_roundw
        case rel =>
          refine ⟨s + 1, by go_num, by omega, ?_⟩
          rw [← HhX1.out]
          exact HS9.out
        case measure => simp [intOf]; omega
      · refine ⟨false, false, false, false, false, false, false, false, false, false, false, false, rfl, (by simp), ?_⟩
        exact HS.out.drew
    · obtain rfl : L = s := by omega
      rw [padL_end] at hS
      have HS2 := Lib.hid hS
      clear hS
      go_wp2
      go_loopw [3, 5] (fun vc va wr => ∃ (i gc cc : Nat) (ag : Bool), vc = .slice (some ⟨gc, 0, none⟩) L cc ∧ va = .bool ag ∧ ((ag = true ∧ i ≤ N) ∨ (ag = false ∧ i = N + 1)) ∧
          St w wr [Ent.box w.heap.size #[.slice (some ⟨b1, o1, none⟩) L cv, .slice (some ⟨b2, o2, none⟩) L cw] 30, Ent.row 3 1 (.slice (some ⟨gc, 0, none⟩) L cc) L (intCells (clsL L (C i)))])
        (fun vc va wr => if isYes va = true then L + 1 - repsW wr (blockOf vc) L else 0)
      case atStart => exact ⟨0, _, _, true, rfl, rfl, Or.inl ⟨rfl, Nat.zero_le _⟩, HS2.out⟩
      case round =>
        obtain ⟨i, gc, cc, ag, rfl, rfl, hag, hS⟩ := hrel
        obtain ⟨wo, hwo⟩ : ∃ wo : World, wo = wr := ⟨_, rfl⟩
        subst hwo
        rcases hag with ⟨rfl, hiN⟩ | ⟨rfl, rfl⟩
        · have HS3 := Lib.hid hS
          clear hS
          go_wp2_with (at_make; refine wpList_make_full _ rfl _ _ 60 rfl _ 3 i0 (.int .i64 0) 1 Try.underlying60 Hhi.out Hhz0.out Hhz1.out .i64 .i64 _ _ L rfl rfl rfl rfl (by rw [Hhz2.out]; omega) (by unfold maxLen; omega) (Nat.le_refl _) ?_; intro w1 hown hgrow; have HS4 := Lib.hid (HS3.out.made ((Below.refl _ _).grown hgrow (Nat.le_refl _) (fun _ h => by cases h)) (made_ints (C (i + 1)) hown)); clear hown hgrow)
          go_loopw [35] (fun j wi => ∃ s : Nat, j = .int .i64 s ∧ s ≤ L ∧ St w wi [Ent.box w.heap.size #[.slice (some ⟨b1, o1, none⟩) L cv, .slice (some ⟨b2, o2, none⟩) L cw] 30, Ent.row 3 1 (.slice (some ⟨gc, 0, none⟩) L cc) L (intCells (clsL L (C i))), Ent.row 3 1 (.slice (some ⟨wo.heap.size, 0, none⟩) L L) L (intCells (padL L s (C (i + 1))))]) (fun j _ => L - (intOf j).toNat)
          case atStart => exact ⟨0, rfl, Nat.zero_le _, HS4.out⟩
          case round =>
            obtain ⟨s, rfl, hs, hS⟩ := hrel
            by_cases hlt : s < L
            · have hlt2 : (s : Int) < L := by omega
              have hsn : s < d.next.length := by have := HhL.out; omega
              have hci := Hcs.out i s hlt
              have hcis := hci.1
              rw [padL_T _ hlt] at hS
              have HS5 := Lib.hid hS
              have Hci := Lib.hid hci
              clear hS hci
              go_wp2
              go_loopw [] (fun wi => ∃ t : Nat, t ≤ C (i + 1) s ∧ (∀ j, j < t → sameAt (nxD d) (C i) j s = false) ∧ St w wi [Ent.box w.heap.size #[.slice (some ⟨b1, o1, none⟩) L cv, .slice (some ⟨b2, o2, none⟩) L cw] 30, Ent.row 3 1 (.slice (some ⟨gc, 0, none⟩) L cc) L (intCells (clsL L (C i))), Ent.row 3 1 (.slice (some ⟨wo.heap.size, 0, none⟩) L L) L (intCells (padT L s (C (i + 1)) t))]) (fun wi => L + 1 - natAt wi wo.heap.size s)
              case atStart => exact ⟨0, Nat.zero_le _, fun j hj => absurd hj (by omega), HS5.out⟩
              case round =>
                obtain ⟨t, ht, hno, hS⟩ := hrel
                have htL : t < L := by omega
                have htL2 : (t : Int) < L := by omega
                have htn : t < d.next.length := by have := HhL.out; omega
                have c1 := hS.rcell (v := .int .i64 ((t : Nat) : Int)) 2 s rfl (by omega) (padT_at (C (i + 1)) t)
                have c2 := hS.rcell (v := .int .i64 ((C i t : Nat) : Int)) 1 t rfl (by omega) (clsL_cell (C i) htL)
                have c3 := hS.rcell (v := .int .i64 ((C i s : Nat) : Int)) 1 s rfl (by omega) (clsL_cell (C i) hlt)
                have f1 := hS.rfr 2 s rfl
                have hset := padT_set (n := L) (s := s) (C (i + 1)) t (t + 1)
                have hsr := sameAt_R d (C i) t s
                have Hc1 := Lib.hid c1
                have HS6 := Lib.hid hS
                have Hno := Lib.hid hno
                have Hset := Lib.hid hset
                obtain ⟨p, hp⟩ : ∃ p, p = C i t := ⟨_, rfl⟩
                obtain ⟨q, hq⟩ : ∃ q, q = C i s := ⟨_, rfl⟩
                rw [← hp] at c2 hsr
                rw [← hq] at c3 hsr
                have Hhp := Lib.hid hp; clear hp
                have Hhq := Lib.hid hq; clear hq
                clear hno hset
                by_cases he : p = q
                · have g1 : ((p : Int) != (q : Int)) = false := by rw [he]; simp
                  have g2 : ((p : Int) = (q : Int)) = True := by simp [he]
                  have g3 : (!((p : Int) == (q : Int))) = false := by rw [he]; simp
                  rw [decide_eq_true he, Bool.true_and] at hsr
                  have b0 := hS.cell (v := .slice (some ⟨b1, o1, none⟩) L cv) 0 0 rfl rfl
                  have b3 := hS.cell (v := .slice (some ⟨b2, o2, none⟩) L cw) 0 1 rfl rfl
                  have hk := fun (w' : World) (hb : Below wr.heap.size wr w') => (show w'.cell? ⟨wo.heap.size, s, none⟩ = some (.int .i64 (t : Nat)) ∧ w'.cell? ⟨gc, t, none⟩ = some (.int .i64 (p : Nat)) ∧ w'.cell? ⟨gc, s, none⟩ = some (.int .i64 (q : Nat)) ∧ w'.cell? ⟨w.heap.size, 0, none⟩ = some (.slice (some ⟨b1, o1, none⟩) L cv) ∧ w'.cell? ⟨w.heap.size, 1, none⟩ = some (.slice (some ⟨b2, o2, none⟩) L cw) from
                    ⟨(bcell hb _ _ (hS.rowlt 2 rfl).2).trans c1, (bcell hb _ _ (hS.rowlt 1 rfl).2).trans c2, (bcell hb _ _ (hS.rowlt 1 rfl).2).trans c3, (bcell hb _ _ (hS.boxlt 0 rfl).2).trans b0, (bcell hb _ _ (hS.boxlt 0 rfl).2).trans b3⟩)
                  have Hk := Lib.hid hk
                  cases hr : sameR d (C i) t s 3
                  all_goals
                    have hsw := fun (w' : World) (hb : Below wr.heap.size wr w') => sameRow_any d (C i) t s (.agg #[.slice (some ⟨b1, o1, none⟩) L cv, .slice (some ⟨b2, o2, none⟩) L cw]) (.slice (some ⟨gc, 0, none⟩) L cc) w' hd htn hsn (fun x hx => Nat.lt_of_le_of_lt ((Hgood.out i).le x (by rw [HhL.out]; exact hx)) hx) (HR.out.below (HS6.out.call hb).bel) (by rw [← HhL.out]; exact (HS6.out.call hb).intsC 1 rfl) _ hr
                    rw [hr] at hsr
                    have Hsw := Lib.hid hsw
                    have Hsm := Lib.hid hsr
                    have Hhr := Lib.hid hr; clear hr
                    have Hhe := Lib.hid he; clear he
                    clear hS hk hsw hsr
                    go_wp2
                    go_region_held3 (fun w' => w'.cell? ⟨wo.heap.size, s, none⟩ = some (.int .i64 (t : Nat)) ∧ w'.cell? ⟨gc, t, none⟩ = some (.int .i64 (p : Nat)) ∧ w'.cell? ⟨gc, s, none⟩ = some (.int .i64 (q : Nat)) ∧ w'.cell? ⟨w.heap.size, 0, none⟩ = some (.slice (some ⟨b1, o1, none⟩) L cv) ∧ w'.cell? ⟨w.heap.size, 1, none⟩ = some (.slice (some ⟨b2, o2, none⟩) L cw))
                      (first | go_keep | exact Hk.out _ hq0)
                      (first
                        | (go_at_call 110; (with_reducible refine (Hsw.out _ (Below.refl _ _).drew).mono ?_); rintro e v3 ⟨rfl, hq0'⟩; have hq0 : Below wr.heap.size wr v3 := ((Below.refl _ _).drew).trans hq0'))
                  · have HS6 := Lib.hid (HS6.out.call hq0)
                    have z1 := HS6.out.rcell (v := .int .i64 ((t : Nat) : Int)) 2 s rfl (by omega) (padT_at (C (i + 1)) t)
                    have z2 := HS6.out.rfr 2 s rfl
                    clear hq0 hq0' b0 b3 c1 c2 c3 f1
                    go_wp2
                    go_roundw
                    case rel =>
                      refine ⟨t + 1, ?_, ?_, ?_⟩
                      · rcases Nat.lt_or_ge t (C (i + 1) s) with h | h
                        · exact h
                        · have he : t = C (i + 1) s := Nat.le_antisymm ht h
                          have h2 := Hci.out.2.1
                          rw [← he, Hsm.out] at h2
                          exact absurd h2 (by simp)
                      · intro j hj
                        by_cases e : j = t
                        · rw [e]
                          exact Hsm.out
                        · exact Hno.out j (by omega)
                      · have h := HS6.out.store 2 rfl s (.int .i64 ((t : Int) + 1))
                        rw [show ((t : Int) + 1) = ((t + 1 : Nat) : Int) by omega] at h
                        simp only [List.set_cons_succ, List.set_cons_zero, Hset.out] at h
                        exact h
                    case measure =>
                      have h := HS6.out.store 2 rfl s (.int .i64 ((t : Int) + 1))
                      rw [show ((t : Int) + 1) = ((t + 1 : Nat) : Int) by omega] at h
                      simp only [List.set_cons_succ, List.set_cons_zero, Hset.out] at h
                      rw [show ((t : Int) + 1) = ((t + 1 : Nat) : Int) by omega, natAt_of (h.rcell (v := .int .i64 ((t + 1 : Nat) : Int)) 2 s rfl (by omega) (padT_at (C (i + 1)) (t + 1))), natAt_of Hc1.out]
                      omega
                  · have HS6 := Lib.hid (HS6.out.call hq0)
                    clear hq0 hq0' b0 b3 c1 c2 c3 f1
                    go_wp2
                    go_roundw
                    case rel =>
                      refine ⟨s + 1, by go_num, by omega, ?_⟩
                      have e : t = C (i + 1) s := by
                        rcases Nat.lt_or_ge t (C (i + 1) s) with h | h
                        · have h2 := Hci.out.2.2 t h
                          rw [Hsm.out] at h2
                          exact absurd h2 (by simp)
                        · exact Nat.le_antisymm ht h
                      have h := HS6.out
                      rw [e, padT_end] at h
                      exact h
                    case measure => simp [intOf]; omega
                · have g1 : ((p : Int) != (q : Int)) = true := by simp; omega
                  have g2 : ((p : Int) = (q : Int)) = False := by simp; omega
                  have g3 : (!((p : Int) == (q : Int))) = true := by simp; omega
                  rw [decide_eq_false he, Bool.false_and] at hsr
                  have Hsm := Lib.hid hsr
                  have Hhe := Lib.hid he; clear he
                  clear hS hsr
                  go_wp2
                  go_quiet (fail)
                  have HS6 := Lib.hid (HS6.out.drewN nq)
                  go_wp2
                  go_roundw
                  case rel =>
                    refine ⟨t + 1, ?_, ?_, ?_⟩
                    · rcases Nat.lt_or_ge t (C (i + 1) s) with h | h
                      · exact h
                      · have he : t = C (i + 1) s := Nat.le_antisymm ht h
                        have h2 := Hci.out.2.1
                        rw [← he, Hsm.out] at h2
                        exact absurd h2 (by simp)
                    · intro j hj
                      by_cases e : j = t
                      · rw [e]
                        exact Hsm.out
                      · exact Hno.out j (by omega)
                    · have h := HS6.out.store 2 rfl s (.int .i64 ((t : Int) + 1))
                      rw [show ((t : Int) + 1) = ((t + 1 : Nat) : Int) by omega] at h
                      simp only [List.set_cons_succ, List.set_cons_zero, Hset.out] at h
                      exact h
                  case measure =>
                    have h := HS6.out.store 2 rfl s (.int .i64 ((t : Int) + 1))
                    rw [show ((t : Int) + 1) = ((t + 1 : Nat) : Int) by omega] at h
                    simp only [List.set_cons_succ, List.set_cons_zero, Hset.out] at h
                    rw [show ((t : Int) + 1) = ((t + 1 : Nat) : Int) by omega, natAt_of (h.rcell (v := .int .i64 ((t + 1 : Nat) : Int)) 2 s rfl (by omega) (padT_at (C (i + 1)) (t + 1))), natAt_of Hc1.out]
                    omega
            · obtain rfl : L = s := by omega
              rw [padL_end] at hS
              have HS5 := Lib.hid hS
              clear hS
              have hreq : ∀ (r : Bool), decide (clsL L (C (i + 1)) = clsL L (C i)) = r → Calls Try.prog 111 #[.slice (some ⟨wo.heap.size, 0, none⟩) L L, .slice (some ⟨gc, 0, none⟩) L cc] wr fun e w' => e = .returned (.bool r) ∧ Below wr.heap.size wr w' :=
                fun r hr => equalI_any (clsL L (C (i + 1))) (clsL L (C i)) L _ _ wr (clsL_len _ _) (clsL_len _ _) (HS5.out.intsC 2 rfl) (HS5.out.intsC 1 rfl) r hr
              have hm0 := repsW_of (w := wo) (b := gc) (n := L) (cl := C i) fun x hx => HS3.out.rcell 1 x rfl (by omega) (clsL_cell (C i) hx)
              by_cases hiN : i = N
              · have h1 := hreq true (by rw [decide_eq_true_eq, Hsd.out i, hiN, HhL.out]; exact HNs.out)
                have H1 := Lib.hid h1
                have Hm0 := Lib.hid hm0
                clear hreq h1 hm0
                go_wp2_with fail
                refine H1.out.mono ?_
                rintro e v3 ⟨rfl, hb3⟩
                have HS6 := Lib.hid (HS5.out.call hb3)
                clear hb3
                go_wp2
                go_roundw
                case rel => exact ⟨i + 1, _, _, false, rfl, rfl, Or.inr ⟨rfl, by omega⟩, HS6.out.pick [0, 2] (by decide)⟩
                case measure =>
                  have := reps_le L (C i)
                  simp only [isYes, blockOf, ↓reduceIte, Bool.false_eq_true, Hm0.out]
                  omega
              · have hns := HNo.out i (by omega)
                have h1 := hreq false (by rw [decide_eq_false_iff_not, Hsd.out i, HhL.out]; exact hns)
                have hmore : reps L (C i) < reps L (C (i + 1)) := by
                  have hex : ∃ x, x < L ∧ C (i + 1) x ≠ C i x := by
                    apply Classical.byContradiction
                    intro hc
                    refine hns fun x hx => ?_
                    rw [← HhCC.out]
                    apply Classical.byContradiction
                    intro hcx
                    exact hc ⟨x, by rw [HhL.out]; exact hx, hcx⟩
                  obtain ⟨x, hx, hxne⟩ := hex
                  have hst : C (i + 1) = refineC L (nxD d) (C i) := by rw [HhCC.out, HhL.out]; rfl
                  rw [hst] at hxne ⊢
                  exact refine_more (Hgood.out i) hx hxne
                have H1 := Lib.hid h1
                have Hm0 := Lib.hid hm0
                have Hmore := Lib.hid hmore
                have Hhns := Lib.hid hns; clear hns
                clear hreq h1 hm0 hmore
                go_wp2_with fail
                refine H1.out.mono ?_
                rintro e v3 ⟨rfl, hb3⟩
                have HS6 := Lib.hid (HS5.out.call hb3)
                clear hb3
                go_wp2
                go_roundw
                case rel => exact ⟨i + 1, _, _, true, rfl, rfl, Or.inl ⟨rfl, by omega⟩, HS6.out.pick [0, 2] (by decide)⟩
                case measure =>
                  have h2 := repsW_of (w := v3) (b := wo.heap.size) (n := L) (cl := C (i + 1)) fun x hx => HS6.out.rcell 2 x rfl (by omega) (clsL_cell (C (i + 1)) hx)
                  have h3 := Hmore.out
                  have h4 := reps_le L (C i)
                  simp only [isYes, blockOf, ↓reduceIte, Hm0.out, h2]
                  omega
        · have hcl : intCells (clsL L (C (N + 1))) = intCells (clsL L (clD d)) := by rw [clsL_congr Hfin.out]
          rw [hcl] at hS
          have HS3 := Lib.hid hS
          have Hhcl := Lib.hid hcl; clear hcl
          clear hS
          go_wp2
          go_ret
          exact ⟨gc, cc, rfl, HS3.out.pick [1] (by decide)⟩
def CompO (K : Nat) (es : List (Int × Int)) (o : Option DfaD) : Prop := (exOk es = true ∧ ∃ t : Ex, t.post = es ∧ compE K t = o) ∨ (exOk es = false ∧ o = none)
theorem compO_ex (K : Nat) (es : List (Int × Int)) : ∃ o, CompO K es o := by
  cases h : exOk es with
  | true =>
    obtain ⟨t, ht⟩ := parse h
    exact ⟨compE K t, .inl ⟨h, t, ht, rfl⟩⟩
  | false => exact ⟨none, .inr ⟨h, rfl⟩⟩
set_option maxRecDepth 100000 in
set_option maxHeartbeats 4000000 in
theorem openJ_any (bs : List Nat) (v : Value) (w : World) (hb : Bytes 0 w v bs) (hlen : bs.length ≤ 100000000) :
    Calls Try.prog 31 #[v] w fun e w' => ∃ vb bs', bs'.length ≤ 2000 ∧ (∀ u : World, Bytes 0 u v bs → Bytes 0 u vb bs') ∧ e = .returned (.pointer (some ⟨w.heap.size, 0, none⟩)) ∧ St w w' [RdE w.heap.size vb 0] := by
  obtain ⟨a, c, rfl, hc1, hc2, -⟩ := hb.form
  have Hb := Lib.hid hb
  clear hb
  by_cases h2 : 2000 < bs.length
  · have q1 : (2000 : Int) < bs.length := by omega
    have q2 : (2000 : Int) ≤ c := by omega
    have hS := (St.start w).alloc _ rfl #[.slice a 2000 c, .int .i64 0] 85
    have HS := Lib.hid hS
    clear hS
    go_enter Try.func31, Try.ntmps31
    go_wp2
    go_ret
    exact ⟨_, bs.take 2000, by rw [List.length_take]; omega, fun u h => h.take (by omega), rfl, HS.out⟩
  · have q1 : (2000 < (bs.length : Int)) = False := by simp; omega
    have hS := (St.start w).alloc _ rfl #[.slice a bs.length c, .int .i64 0] 85
    have HS := Lib.hid hS
    have h2 : bs.length ≤ 2000 := by omega
    clear hS
    go_enter Try.func31, Try.ntmps31
    go_wp2
    go_ret
    exact ⟨_, bs, h2, fun u h => h, rfl, HS.out⟩
def RDrawE (w : World) (e : Ending) (w' : World) : Prop := ∃ (es : List (Int × Int)) (v : Value), es.length ≤ 100 ∧ e = .returned v ∧ Pairs 0 w' v es ∧ Below w.heap.size w w'
set_option maxHeartbeats 4000000 in
theorem implTurnExpr_any (es : List (Int × Int)) (v : Value) (w : World) (h : Pairs 0 w v es) : Calls Try.prog 9 #[v] w fun e w' => RPo (turnE es) w e w' := by
  cases hr : exOk es with
  | true =>
    obtain ⟨t, rfl⟩ := parse hr
    have h60 : t.post.length ≤ 60 := (exOk_facts hr).2.2.2
    rw [turnE_tree h60]
    have HT := Lib.hid (show ∀ (v : Value) (w : World), Pairs 0 w v t.post → Calls Try.prog 32 #[v] w fun e w' => ∃ a c, e = .returned (.slice a (turnX t).post.length c) ∧ St w w' [Ent.row 39 2 (.slice a (turnX t).post.length c) (turnX t).post.length ((turnX t).post.flatMap pairCells)] from turned_all t h60)
    have Hh := Lib.hid h
    have Hhr := Lib.hid hr; clear hr
    clear h
    go_enter Try.func9, Try.ntmps9
    go_wp2_with (first
      | (go_at_call 25; refine (implExprValid_any _ _ _ Hh.out true Hhr.out).mono ?_; rintro e w1 ⟨rfl, hb1⟩; have HB1 := Lib.hid hb1; have HP := Lib.hid (Hh.out.below hb1); clear hb1)
      | (go_at_call 32; refine (HT.out _ _ HP.out).mono ?_; rintro e w2 ⟨a, c, rfl, hS⟩; have HS := Lib.hid (((St.start w).call HB1.out).cat hS); clear hS))
    go_ret
    exact ⟨a, c, rfl, HS.out⟩
  | false =>
    rw [turnE_bad hr]
    have Hh := Lib.hid h
    have Hhr := Lib.hid hr; clear hr
    clear h
    go_enter Try.func9, Try.ntmps9
    go_wp2_with (go_at_call 25; refine (implExprValid_any _ _ _ Hh.out false Hhr.out).mono ?_; rintro e w1 ⟨rfl, hb1⟩; have HS := Lib.hid ((St.start w).call hb1); clear hb1)
    go_ret
    exact ⟨none, 0, rfl, HS.out.nilRow 39 2⟩
set_option maxRecDepth 100000 in
set_option maxHeartbeats 4000000 in
theorem drawTurnExpr_any (bs : List Nat) (v : Value) (w : World) (hb : Bytes 0 w v bs) (hlen : bs.length ≤ 100000000) :
    Calls Try.prog 8 #[v] w fun e w' => RDrawE w e w' := by
  have Hb := Lib.hid hb
  clear hb
  go_enter Try.func8, Try.ntmps8
  go_wp2_with fail
  refine (openJ_any bs v _ Hb.out hlen).mono ?_
  rintro e w1 ⟨vb, bs', hl', hB, rfl, hS'⟩
  have hB1 := hB w Hb.out
  have HB := Lib.hid hB1
  have HS1 := Lib.hid (hS'.add (Below.refl _ _) Ent.nil trivial fun k hk => hk.elim)
  clear hS' hB hB1
  go_wp2_with fail
  refine (expr_any bs' vb w.heap.size 0 12 w w1 _ HB.out hl' (by omega) (by omega) HS1.out).mono ?_
  rintro e w2 ⟨v2, es, E, pn, hel, hpn, hh, rfl, hS2⟩
  have HS := Lib.hid hS2
  have HH := Lib.hid hh
  clear hS2 hh
  go_wp2
  go_ret
  exact ⟨es, v2, hel, rfl, HH.out.r HS.out 2 rfl, HS.out.bel⟩
set_option maxRecDepth 100000 in
set_option maxHeartbeats 4000000 in
theorem sameParts_any (es : List (Int × Int)) (v1 v2 : Value) (w : World) (hlen : es.length ≤ 1000) (h1 : Pairs 0 w v1 es) (h2 : Pairs 0 w v2 es) :
    Calls Try.prog 10 #[v1, v2] w fun e w' => e = .returned (.bool true) ∧ Below w.heap.size w w' := by
  obtain ⟨a1, c1, rfl, hc1, hc2, hr1⟩ := h1.form
  obtain ⟨a2, c2, rfl, hd1, hd2, hr2⟩ := h2.form
  obtain ⟨n, hn⟩ : ∃ n, n = es.length := ⟨_, rfl⟩
  have Hr1 := Lib.hid hr1
  have Hr2 := Lib.hid hr2
  clear h1 h2 hc1 hc2 hd1 hd2 hr1 hr2
  go_enter Try.func10, Try.ntmps10
  go_wp2
  go_loopw [5] (fun vi wr => ∃ i : Nat, vi = .int .i64 (i : Int) ∧ i ≤ es.length ∧ Below w.heap.size w wr) (fun vi _ => es.length - (intOf vi).toNat)
  case atStart => exact ⟨0, rfl, Nat.zero_le _, Below.refl _ _⟩
  case round =>
    obtain ⟨i, rfl, hi, hb⟩ := hrel
    have Hb := Lib.hid hb
    clear hb
    by_cases hlt : i < es.length
    · have hi1 : (i : Int) < (es.length : Int) := by omega
      have hw1 : IntKind.i64.wrap ((i : Int) + 1) = (i : Int) + 1 := IntWalk.i64_in _ (by omega)
      obtain ⟨b1, o1, rfl, -, hl1, g1⟩ := Hr1.out (by omega)
      obtain ⟨b2, o2, rfl, -, hl2, g2⟩ := Hr2.out (by omega)
      have k1 := (bcell Hb.out b1 _ hl1).trans (g1 i hlt).1
      have k2 := (bcell Hb.out b1 _ hl1).trans (g1 i hlt).2
      have k3 := (bcell Hb.out b2 _ hl2).trans (g2 i hlt).1
      have k4 := (bcell Hb.out b2 _ hl2).trans (g2 i hlt).2
      obtain ⟨p, hp⟩ : ∃ p, p = es.getD i (0, 0) := ⟨_, rfl⟩
      rw [← hp] at k1 k2 k3 k4
      obtain ⟨x, y⟩ := p
      simp only at k1 k2 k3 k4
      have Hhp := Lib.hid hp; clear hp
      clear g1 g2
      go_wp2
      go_region
      go_wp2
      go_roundw
      case rel => exact ⟨i + 1, by simp, by omega, Hb.out.drew⟩
      case measure => simp [intOf]; omega
    · have hi1 : ¬ (i : Int) < (es.length : Int) := by omega
      go_wp2
      go_ret
      exact ⟨rfl, Hb.out⟩
end Go.Proofs.Ytfgpkadhegdffaa
namespace Go.Proofs.Ytfgpkadhegdffaa
open Go.RowKit
def subV (v u : Nat) : Prop := ∀ s, v.testBit s = true → u.testBit s = true
theorem subV_refl (v : Nat) : subV v v := fun _ h => h
theorem subV_trans {a b c : Nat} (h : subV a b) (h' : subV b c) : subV a c := fun s hs => h' s (h s hs)
theorem subV_eq {a b : Nat} (h : subV a b) (h' : subV b a) : a = b := by
  apply Nat.eq_of_testBit_eq
  intro i
  have h1 := h i
  have h2 := h' i
  cases ha : a.testBit i <;> cases hb : b.testBit i <;> simp_all
theorem subV_adj (v s : Nat) : subV v (adj v s) := fun t ht => by rw [has_adj, ht]; rfl
theorem clMove_sub (v : Nat) (m : Int × Int × Int) : subV v (clMove v m) := by
  unfold clMove
  split
  · exact subV_adj _ _
  · exact subV_refl _
theorem clFold_sub : ∀ (ms : List (Int × Int × Int)) (v : Nat), subV v (ms.foldl clMove v)
  | [], v => subV_refl v
  | m :: ms, v => subV_trans (clMove_sub v m) (clFold_sub ms _)
theorem clIt_sub (ms : List (Int × Int × Int)) (v : Nat) : ∀ k, subV v (clIt ms v k)
  | 0 => subV_refl v
  | k + 1 => subV_trans (clIt_sub ms v k) (clFold_sub ms _)
def closedV (ms : List (Int × Int × Int)) (u : Nat) : Prop := ∀ m ∈ ms, m.2.1 = -1 → u.testBit m.1.toNat = true → u.testBit m.2.2.toNat = true
theorem clMove_in {ms : List (Int × Int × Int)} {u v : Nat} (hu : closedV ms u) (h : subV v u) {m : Int × Int × Int} (hm : m ∈ ms) : subV (clMove v m) u := by
  unfold clMove
  split
  · rename_i hc
    simp only [Bool.and_eq_true, decide_eq_true_eq] at hc
    intro s hs
    rw [has_adj, Bool.or_eq_true] at hs
    rcases hs with hs | hs
    · exact h s hs
    · rw [← of_decide_eq_true hs]
      exact hu m hm hc.1.1 (h _ hc.1.2)
  · exact h
theorem clFold_in {ms : List (Int × Int × Int)} {u : Nat} (hu : closedV ms u) : ∀ (l : List (Int × Int × Int)) (v : Nat), (∀ m ∈ l, m ∈ ms) → subV v u → subV (l.foldl clMove v) u
  | [], _, _, h => h
  | m :: l, v, hl, h => clFold_in hu l _ (fun x hx => hl x (by simp [hx])) (clMove_in hu h (hl m (by simp)))
theorem clIt_in {ms : List (Int × Int × Int)} {u v : Nat} (hu : closedV ms u) (h : subV v u) : ∀ k, subV (clIt ms v k) u
  | 0 => h
  | k + 1 => clFold_in hu ms _ (fun _ hx => hx) (clIt_in hu h k)
theorem clV_fix {n : Nat} {ms : List (Int × Int × Int)} (h : mvIn n ms) (v : Nat) : clPass ms (clV n ms v) = clV n ms v := by
  rcases clIt_drop h v n with h1 | h1
  · exact h1
  · have := clr_le n v
    omega
theorem fold_fix : ∀ {l : List (Int × Int × Int)} {v : Nat}, l.foldl clMove v = v → ∀ m ∈ l, clMove v m = v
  | [], _, _, _, hm => by cases hm
  | m :: l, v, h, x, hx => by
    have h1 : clMove v m = v := subV_eq (by have := clFold_sub l (clMove v m); rw [List.foldl_cons] at h; rw [h] at this; exact this) (clMove_sub v m)
    rw [List.foldl_cons, h1] at h
    rcases List.mem_cons.1 hx with rfl | hx
    · exact h1
    · exact fold_fix h x hx
theorem clV_closed {n : Nat} {ms : List (Int × Int × Int)} (h : mvIn n ms) (v : Nat) : closedV ms (clV n ms v) := by
  intro m hm hl hf
  have h1 := fold_fix (clV_fix h v) m hm
  cases ht : (clV n ms v).testBit m.2.2.toNat with
  | true => rfl
  | false =>
    exfalso
    unfold clMove at h1
    rw [if_pos (by simp [hl, hf, ht])] at h1
    have := has_adj (clV n ms v) m.2.2.toNat m.2.2.toNat
    rw [h1, ht] at this
    simp at this
theorem clV_sub (n : Nat) (ms : List (Int × Int × Int)) (v : Nat) : subV v (clV n ms v) := clIt_sub ms v n
theorem clV_in {n : Nat} {ms : List (Int × Int × Int)} {u v : Nat} (hu : closedV ms u) (h : subV v u) : subV (clV n ms v) u := clIt_in hu h n
theorem clV_idem {n : Nat} {ms : List (Int × Int × Int)} {u : Nat} (hu : closedV ms u) : clV n ms u = u := subV_eq (clV_in hu (subV_refl u)) (clV_sub n ms u)
theorem setV_has : ∀ (l : List Int) (v t : Nat), (l.foldl (fun v s => adj v s.toNat) v).testBit t = (v.testBit t || l.any fun s => decide (s.toNat = t))
  | [], v, t => by simp
  | s :: l, v, t => by
    rw [List.foldl_cons, setV_has l, has_adj, List.any_cons, Bool.or_assoc]
theorem setV_bit (l : List Int) (t : Nat) : (setV l).testBit t = l.any fun s => decide (s.toNat = t) := by
  unfold setV
  rw [setV_has]
  simp
theorem setV_mem {l : List Int} {x : Int} (hx : x ∈ l) : (setV l).testBit x.toNat = true := by
  rw [setV_bit, List.any_eq_true]
  exact ⟨x, hx, by simp⟩
section
variable {α : Type} [DecidableEq α] {nx : α → Nat → α} {a : α} {en : α → Bool} {K : Nat}
theorem placeOf_at {F : List α} {x : α} (h : x ∈ F) (d : α) : F.getD (placeOf F x) d = x := by
  have h1 := placeOf_lt h
  rw [getD_at h1]
  exact List.getElem_idxOf h1
theorem run_num (hK : (bat nx a K).met.length ≤ K) : ∀ (w : List Nat), isW w → ∀ x ∈ (bat nx a K).met, w.foldl nx x ∈ (bat nx a K).met ∧ runD (numDfa nx en (bat nx a K).met) (placeOf (bat nx a K).met x : Nat) w = (placeOf (bat nx a K).met (w.foldl nx x) : Nat)
  | [], _, x, hx => ⟨hx, rfl⟩
  | c :: w, hw, x, hx => by
    have hc : c < 3 := hw c (by simp)
    have hx2 := bat_closed hK hx hc
    have h1 := placeOf_lt hx
    obtain ⟨h2, h3⟩ := run_num hK w (fun b hb => hw b (by simp [hb])) (nx x c) hx2
    refine ⟨h2, ?_⟩
    unfold runD at *
    rw [List.foldl_cons, List.foldl_cons, ← h3, dnx_num (a := a) (by omega) (by omega) hc]
    unfold numNext
    rw [Int.toNat_natCast, placeOf_at hx]
theorem accD_num (hK : (bat nx a K).met.length ≤ K) {w : List Nat} (hw : isW w) : accD (numDfa nx en (bat nx a K).met) w = en (w.foldl nx a) := by
  have h0 := bat_mem_first (nx := nx) (a := a) K
  obtain ⟨h1, h2⟩ := run_num (en := en) hK w hw a h0
  have h3 : placeOf (bat nx a K).met a = 0 := by
    have hp := bat_pos (nx := nx) (a := a) K
    have hf := bat_first (nx := nx) (a := a) K
    have hn := (bat_good (nx := nx) (a := a) K).1
    rw [getD_at hp] at hf
    have := List.Nodup.idxOf_getElem hn 0 hp
    rw [hf] at this
    exact this
  rw [h3] at h2
  unfold accD
  rw [show ((0 : Nat) : Int) = 0 from rfl] at h2
  rw [h2, den_num (placeOf_lt h1)]
  congr 1
  exact List.getElem_idxOf _
end
end Go.Proofs.Ytfgpkadhegdffaa
namespace Go.Proofs.Ytfgpkadhegdffaa
open Go.RowKit Go.Maps
def hitK (K : Nat) (a b : DfaD) : Option (List Nat) := firstHit (endsF (fun x y => x != y) a b) (bat (stepP a b) (0, 0) K)
def mostP : Nat := 1600
def hitP (a b : DfaD) : Option (List Nat) := hitK mostP a b
end Go.Proofs.Ytfgpkadhegdffaa
namespace Go.Proofs.Ytfgpkadhegdffaa
open Go.RowKit
section
variable {α β : Type} [DecidableEq α] [DecidableEq β] {nx : α → Nat → α} {nx' : β → Nat → β} {a : α} {f : α → β}
theorem bvisit_map (hf : ∀ x y, f x = f y → x = y) (hn : ∀ x c, f (nx x c) = nx' (f x) c) (x : α) (wd : List Nat) (s : Bs α) (c : Nat) : bvisit nx' (f x) wd ⟨s.met.map f, s.words⟩ c = ⟨(bvisit nx x wd s c).met.map f, (bvisit nx x wd s c).words⟩ := by
  have hm : nx' (f x) c ∈ s.met.map f ↔ nx x c ∈ s.met := by
    rw [← hn]
    constructor
    · intro h
      obtain ⟨y, hy, e⟩ := List.mem_map.1 h
      rw [← hf _ _ e]
      exact hy
    · exact fun h => List.mem_map.2 ⟨_, h, rfl⟩
  unfold bvisit
  by_cases h : nx x c ∈ s.met
  · rw [if_pos h, if_pos (hm.2 h)]
  · rw [if_neg h, if_neg (fun h2 => h (hm.1 h2))]
    simp [hn]
theorem brow_map (hf : ∀ x y, f x = f y → x = y) (hn : ∀ x c, f (nx x c) = nx' (f x) c) (x : α) (wd : List Nat) (s : Bs α) : ∀ n, brow nx' (f x) wd ⟨s.met.map f, s.words⟩ n = ⟨(brow nx x wd s n).met.map f, (brow nx x wd s n).words⟩
  | 0 => rfl
  | n + 1 => by
    show bvisit nx' (f x) wd (brow nx' (f x) wd ⟨s.met.map f, s.words⟩ n) n = _
    rw [brow_map hf hn x wd s n, bvisit_map hf hn]
    rfl
theorem bat_map (hf : ∀ x y, f x = f y → x = y) (hn : ∀ x c, f (nx x c) = nx' (f x) c) : ∀ k, bat nx' (f a) k = ⟨(bat nx a k).met.map f, (bat nx a k).words⟩
  | 0 => rfl
  | k + 1 => by
    have ih := bat_map hf hn k
    have hl : (bat nx' (f a) k).met.length = (bat nx a k).met.length := by rw [ih]; simp
    by_cases h : k < (bat nx a k).met.length
    · rw [bat_succ h, bat_succ (by rw [hl]; exact h)]
      unfold bpart
      rw [ih]
      have hx : ((bat nx a k).met.map f).getD k (f a) = f ((bat nx a k).met.getD k a) := by simp [h]
      simp only [hx]
      exact brow_map hf hn _ _ _ 3
    · rw [bat_stay (by omega), bat_stay (by omega), ih]
theorem bat_words (k : Nat) : ∀ i, i < (bat nx a k).met.length → ((bat nx a k).words.getD i []).foldl nx a = (bat nx a k).met.getD i a ∧ isW ((bat nx a k).words.getD i []) := by
  have h := bat_ind (nx := nx) (a := a) (fun s => s.words.length = s.met.length ∧ ∀ i, i < s.met.length → (s.words.getD i []).foldl nx a = s.met.getD i a ∧ isW (s.words.getD i [])) ⟨rfl, fun i hi => by
    obtain rfl : i = 0 := by simpa using hi
    exact ⟨rfl, fun c hc => by simp at hc⟩⟩ (fun s k hk t c hc hs ht => by
      unfold bvisit
      split
      · exact ht
      · refine ⟨by simp [ht.1], fun i hi => ?_⟩
        simp only [List.length_append, List.length_singleton] at hi
        by_cases hit : i < t.met.length
        · have h1 := ht.2 i hit
          have e1 : (t.words ++ [s.words.getD k [] ++ [c]]).getD i [] = t.words.getD i [] := by
            simp only [List.getD_eq_getElem?_getD]; rw [List.getElem?_append_left (by rw [ht.1]; exact hit)]
          have e2 : (t.met ++ [nx (s.met.getD k a) c]).getD i a = t.met.getD i a := by
            simp only [List.getD_eq_getElem?_getD]; rw [List.getElem?_append_left hit]
          show ((t.words ++ [s.words.getD k [] ++ [c]]).getD i []).foldl nx a = (t.met ++ [nx (s.met.getD k a) c]).getD i a ∧ isW ((t.words ++ [s.words.getD k [] ++ [c]]).getD i [])
          rw [e1, e2]
          exact h1
        · obtain rfl : i = t.met.length := by omega
          have h2 := hs.2 k hk
          have e1 : (t.words ++ [s.words.getD k [] ++ [c]]).getD t.met.length [] = s.words.getD k [] ++ [c] := by simp [← ht.1]
          have e2 : (t.met ++ [nx (s.met.getD k a) c]).getD t.met.length a = nx (s.met.getD k a) c := by simp
          show ((t.words ++ [s.words.getD k [] ++ [c]]).getD t.met.length []).foldl nx a = (t.met ++ [nx (s.met.getD k a) c]).getD t.met.length a ∧ isW ((t.words ++ [s.words.getD k [] ++ [c]]).getD t.met.length [])
          rw [e1, e2, List.foldl_append, h2.1]
          exact ⟨rfl, isW_append h2.2 (isW_one hc)⟩) k
  exact h.2
end
theorem firstHit_some {α : Type} {en : α → Bool} {s : Bs α} {w : List Nat} {d : α} (hl : s.words.length = s.met.length) (h : firstHit en s = some w) : ∃ i, i < s.met.length ∧ s.words.getD i [] = w ∧ en (s.met.getD i d) = true := by
  unfold firstHit at h
  rw [Option.map_eq_some_iff] at h
  obtain ⟨p, hp, rfl⟩ := h
  obtain ⟨h1, i, hi, hpi, -⟩ := List.find?_eq_some_iff_getElem.1 hp
  rw [List.length_zip] at hi
  have him : i < s.met.length := by omega
  have hiw : i < s.words.length := by omega
  rw [List.getElem_zip] at hpi
  refine ⟨i, him, ?_, ?_⟩
  · rw [getD_at hiw, ← hpi]
  · rw [getD_at him]
    rw [← hpi] at h1
    exact h1
theorem stepP_fold (a b : DfaD) : ∀ (w : List Nat) (s t : Int), w.foldl (stepP a b) (s, t) = (runD a s w, runD b t w)
  | [], _, _ => rfl
  | c :: w, s, t => stepP_fold a b w (dnx a s c) (dnx b t c)
theorem hit_says {K : Nat} {a b : DfaD} {w : List Nat} (h : hitK K a b = some w) : isW w ∧ accD a w ≠ accD b w := by
  have hg := (bat_good (nx := stepP a b) (a := ((0, 0) : Int × Int)) K).2.1
  obtain ⟨i, hi, hw, he⟩ := firstHit_some (d := ((0, 0) : Int × Int)) hg h
  obtain ⟨h1, h2⟩ := bat_words (nx := stepP a b) (a := ((0, 0) : Int × Int)) K i hi
  rw [hw] at h1 h2
  rw [stepP_fold] at h1
  refine ⟨h2, fun e => ?_⟩
  unfold endsF at he
  rw [← h1] at he
  unfold accD den at e
  simp only at he
  rw [e] at he
  simp at he
def shM (d : Int) (m : Int × Int × Int) : Int × Int × Int := (m.1 + d, m.2.1, m.2.2 + d)
def shN (n : NfaD) (d : Int) : NfaD := ⟨n.states + d, n.moves.map (shM d), n.firsts.map (· + d), n.ends.map (· + d)⟩
theorem take_map_snoc {α β : Type} (f : α → β) {l : List α} {k : Nat} {d x : α} (hk : k < l.length) (hx : x = l.getD k d) : (l.take (k + 1)).map f = (l.take k).map f ++ [f x] := by
  rw [List.take_succ_eq_append_getElem hk, List.map_append, hx]
  simp [hk]
def starN (n : NfaD) : NfaD := ⟨n.states + 1, n.moves ++ (n.firsts.map fun t => (n.states, -1, t)) ++ (n.ends.map fun s => (s, -1, n.states)), [n.states], [n.states]⟩
def joinN (p q : NfaD) : NfaD := ⟨(shN q p.states).states, p.moves ++ (shN q p.states).moves ++ (p.ends.flatMap fun s => (shN q p.states).firsts.map fun t => (s, -1, t)), p.firsts, (shN q p.states).ends⟩
end Go.Proofs.Ytfgpkadhegdffaa
