/-
  The walk over the program's sameStates.
  Condition: the automaton is valid and reads as such.
-/
import Derived.Test.YtalbofnhcpjilaaPk11Dx
import Derived.Test.YtalbofnhcpjilaaPk14Ix
namespace Go.Proofs.Ytalbofnhcpjilaa
open Go.RowKit
def natAt (w : World) (b j : Nat) : Nat := match w.cell? ⟨b, j, none⟩ with
 | some v => (intOf v).toNat
 | none => 0
theorem natAt_of {w : World} {b j t : Nat} (h : w.cell? ⟨b, j, none⟩ = some (.int .i64 ((t : Nat) : Int))) : natAt w b j = t := by
 unfold natAt
 rw [h]
 simp [intOf]
def repsW (w : World) (b n : Nat) : Nat := ((List.range n).filter fun s => decide (natAt w b s = s)).length
theorem repsW_of {w : World} {b n : Nat} {cl : Nat → Nat} (h : ∀ s, s < n → w.cell? ⟨b, s, none⟩ = some (.int .i64 ((cl s : Nat) : Int))) : repsW w b n = reps n cl := by
 unfold repsW reps
 congr 1
 refine List.filter_congr fun s hs => ?_
 rw [natAt_of (h s (List.mem_range.1 hs))]
def blockOf : Value → Nat
 | .slice (some a) _ _ => a.block
 | _ => 0
def isYes : Value → Bool
 | .bool b => b
 | _ => false
def RCl (d : DfaD) (w : World) (e : Ending) (w' : World) : Prop := ∃ b c, e = .returned (.slice (some ⟨b, 0, none⟩) d.next.length c) ∧ St w w' [Ent.row 3 1 (.slice (some ⟨b, 0, none⟩) d.next.length c) d.next.length (intCells (clsL d.next.length (clD d)))]
set_option maxRecDepth 100000 in
set_option maxHeartbeats 8000000 in
theorem sameStates_any (d : DfaD) (v : Value) (w : World) (hd : dfaOk d.next d.ends = true) (h : DfaR 0 w v d) :
  Calls Try.prog 127 #[v] w fun e w' => RCl d w e w' := by
 have HR := Lib.hid h
 obtain ⟨b1, o1, cv, b2, o2, cw, rfl, hC⟩ := dfa_open hd h
 have hnx : ∀ s c, s < d.next.length → c < 3 → nxD d s c < d.next.length := fun s c hs hc => hC.lt s c hs hc
 obtain ⟨N, hN, hNs, hNo⟩ := stays_ex (n := d.next.length) (nx := nxD d) (enD d)
 obtain ⟨C, hCC⟩ : ∃ C, C = clAt d.next.length (nxD d) (enD d) := ⟨_, rfl⟩
 have hfin : ∀ s, s < d.next.length → C (N + 1) s = clD d s := fun s hs => by
  rw [hCC, hNs s hs]
  exact (clEnd_at hnx hN hNs hs).symm
 have hgood : ∀ i, GoodC d.next.length (C i) := fun i => by rw [hCC]; exact clAt_good (enD d) i
 have hc0 : ∀ s, s < d.next.length → C 0 s ≤ s ∧ enD d (C 0 s) = enD d s ∧ ∀ j, j < C 0 s → enD d j ≠ enD d s := fun s hs => by rw [hCC]; exact cl0_facts hs
 have hcs : ∀ i s, s < d.next.length → C (i + 1) s ≤ s ∧ sameAt (nxD d) (C i) (C (i + 1) s) s = true ∧ ∀ j, j < C (i + 1) s → sameAt (nxD d) (C i) j s = false := fun i s hs => by rw [hCC]; exact refine_facts hs
 have hsd : ∀ i, clsL d.next.length (C (i + 1)) = clsL d.next.length (C i) ↔ stays d.next.length (nxD d) (enD d) i := fun i => by
  rw [clsL_inj, hCC]
  exact Iff.rfl
 obtain ⟨L, hL⟩ : ∃ L, L = d.next.length := ⟨_, rfl⟩
 have hl1 := hC.l1
 have hl2 := hC.l2
 have hS0 := (St.start w).alloc _ rfl #[.slice (some ⟨b1, o1, none⟩) L cv, .slice (some ⟨b2, o2, none⟩) L cw] 27
 unfold RCl
 rw [← hL] at hl1 hl2 HR hN hgood hc0 hcs hsd hfin
 rw [← hL]
 obtain ⟨i0, hi, hz0, hz1, hz2⟩ := info_parts Try.infoInt
 have HC := Lib.hid hC
 have Hgood := Lib.hid hgood
 have Hc0 := Lib.hid hc0
 have Hcs := Lib.hid hcs
 have Hsd := Lib.hid hsd
 have Hfin := Lib.hid hfin
 have HNo := Lib.hid hNo
 have HNs := Lib.hid hNs
 have HhS0 := Lib.hid hS0; clear hS0
 have HhL := Lib.hid hL; clear hL
 have HhCC := Lib.hid hCC; clear hCC
 have Hhi := Lib.hid hi; clear hi
 have Hhz0 := Lib.hid hz0; clear hz0
 have Hhz1 := Lib.hid hz1; clear hz1
 have Hhz2 := Lib.hid hz2; clear hz2
 clear hC hgood hc0 hcs hsd hfin hNo hNs hnx h
 go_enter Try.func127, Try.ntmps127
 have HD := Lib.hid (show ∀ w1 : World, w1.ownsRow (w.alloc (.cells #[.slice (some ⟨b1, o1, none⟩) L cv, .slice (some ⟨b2, o2, none⟩) L cw] 27)).heap.size 3 1 (.slice (some ⟨w.heap.size + 1, 0, none⟩) L L) L (intCells (padL L 0 (C 0))) → Below (w.alloc (.cells #[.slice (some ⟨b1, o1, none⟩) L cv, .slice (some ⟨b2, o2, none⟩) L cw] 27)).heap.size (w.alloc (.cells #[.slice (some ⟨b1, o1, none⟩) L cv, .slice (some ⟨b2, o2, none⟩) L cw] 27)) w1 →
   St w w1 [Ent.box w.heap.size #[.slice (some ⟨b1, o1, none⟩) L cv, .slice (some ⟨b2, o2, none⟩) L cw] 27, Ent.row 3 1 (.slice (some ⟨w.heap.size + 1, 0, none⟩) L L) L (intCells (padL L 0 (C 0)))] from fun w1 h1 h2 => HhS0.out.made h2 h1)
 go_wp2_with (at_make; refine wpList_make_full _ rfl _ _ 48 rfl _ 3 i0 (.int .i64 0) 1 Try.underlying48 Hhi.out Hhz0.out Hhz1.out .i64 .i64 _ _ L rfl rfl rfl rfl (by rw [Hhz2.out]; omega) (by unfold maxLen; omega) (Nat.le_refl _) ?_; intro w1 hown hgrow; have hm := made_ints (C 0) hown; simp only [World.size_alloc] at hm; have HS1 := Lib.hid (HD.out w1 (by simpa only [World.size_alloc] using hm) ((Below.refl _ _).grown hgrow (Nat.le_refl _) (fun _ h => by cases h))); clear hown hgrow hm)
 go_loopw [14] (fun i wr => ∃ s : Nat, i = .int .i64 s ∧ s ≤ L ∧ St w wr [Ent.box w.heap.size #[.slice (some ⟨b1, o1, none⟩) L cv, .slice (some ⟨b2, o2, none⟩) L cw] 27, Ent.row 3 1 (.slice (some ⟨w.heap.size + 1, 0, none⟩) L L) L (intCells (padL L s (C 0)))]) (fun i _ => L - (intOf i).toNat)
 case atStart => exact ⟨0, rfl, Nat.zero_le _, HS1.out⟩
 case round =>
  obtain ⟨s, rfl, hs, hS⟩ := hrel
  by_cases hlt : s < L
  ·have hlt2 : (s : Int) < L := by omega
   have hsn : s < d.next.length := by have := HhL.out; omega
   have hen := HC.out.en s hsn
   have hci := Hc0.out s hlt
   have hpad := padT_end (n := L) (s := s) (C 0)
   have hset := padT_set (n := L) (s := s) (C 0) 0 (C 0 s)
   rw [padL_T (C 0) hlt] at hS
   rw [hpad] at hset
   have hat := padT_at (n := L) (s := s) (C 0) 0
   have hix := fun (w' : World) (hb : Below w.heap.size w w') (z : Bool) (hz : z = enD d s) => indexB_any d.ends z (C 0 s) (.slice (some ⟨b2, o2, none⟩) L cw) w' (by
    obtain ⟨u1, u2, hq, -, h2⟩ := HR.out
    simp only [Value.agg.injEq, Array.mk.injEq, List.cons.injEq, and_true] at hq
    rw [hq.2]
    exact h2.below hb) (by have := HC.out.le; omega) (by rw [hz]; exact hci.2.1) (fun j hj => by rw [hz]; exact hci.2.2 j hj)
   obtain ⟨z, hz⟩ : ∃ z, z = enD d s := ⟨_, rfl⟩
   rw [← hz] at hen
   obtain ⟨p, hp⟩ : ∃ p, p = C 0 s := ⟨_, rfl⟩
   rw [← hp] at hset hix
   have Hix := Lib.hid fun (w' : World) (hb : Below w.heap.size w w') => hix w' hb z hz
   have Hen := Lib.hid hen
   obtain ⟨X0, hX0⟩ : ∃ X0, X0 = intCells (padT L s (C 0) 0) := ⟨_, rfl⟩
   obtain ⟨X1, hX1⟩ : ∃ X1, X1 = intCells (padL L (s + 1) (C 0)) := ⟨_, rfl⟩
   rw [← hX0, ← hX1] at hset
   rw [← hX0] at hS hat
   have HS := Lib.hid hS
   have Hhz := Lib.hid hz; clear hz
   have Hhp := Lib.hid hp; clear hp
   have Hhset := Lib.hid hset; clear hset
   have Hhat := Lib.hid hat; clear hat
   have HhX0 := Lib.hid hX0; clear hX0
   have HhX1 := Lib.hid hX1; clear hX1
   clear hS hix hen hci hpad
   go_wp2
   refine wp_region_any (by kernel_rfl) ?_
   refine wpAny_invA (fun A listed a w' => ∃ (l0 l1 l2 l3 l4 l5 l6 l7 l8 l9 l10 l11 : Bool) , listed = #[l0, l1, l2, l3, l4, l5, l6, l7, l8, l9, l10, l11] ∧
     a = ⟨(((((((((((A.tmps.setIfInBounds 17 (if l0 = true then .slice (some ⟨w.heap.size + 1, 0, none⟩) L L else A.tmps.getD 17 undef)).setIfInBounds 18 (if l1 = true then .int .i64 (s : Int) else A.tmps.getD 18 undef)).setIfInBounds 19 (if l2 = true then .pointer (some ⟨w.heap.size, 1, none⟩) else A.tmps.getD 19 undef)).setIfInBounds 20 (if l3 = true then .slice (some ⟨b2, o2, none⟩) L cw else A.tmps.getD 20 undef)).setIfInBounds 21 (if l4 = true then .pointer (some ⟨w.heap.size, 1, none⟩) else A.tmps.getD 21 undef)).setIfInBounds 22 (if l5 = true then .slice (some ⟨b2, o2, none⟩) L cw else A.tmps.getD 22 undef)).setIfInBounds 23 (if l6 = true then .int .i64 (s : Int) else A.tmps.getD 23 undef)).setIfInBounds 24 (if l7 = true then .pointer (some ⟨b2, o2 + s, none⟩) else A.tmps.getD 24 undef)).setIfInBounds 25 (if l8 = true then .bool z else A.tmps.getD 25 undef)).setIfInBounds 26 (if l9 = true then .int .i64 (p : Int) else A.tmps.getD 26 undef)).setIfInBounds 27 (if l10 = true then .pointer (some ⟨w.heap.size + 1, s, none⟩) else A.tmps.getD 27 undef)), A.defers⟩ ∧
     St w w' [Ent.box w.heap.size #[.slice (some ⟨b1, o1, none⟩) L cv, .slice (some ⟨b2, o2, none⟩) L cw] 27, Ent.row 3 1 (.slice (some ⟨w.heap.size + 1, 0, none⟩) L L) L (if l11 = true then X1 else X0)]) ?_ ?_ ?_
   ·rintro listed a w' ⟨l0, l1, l2, l3, l4, l5, l6, l7, l8, l9, l10, l11, rfl, rfl, hS⟩ i hi
    obtain ⟨hun, o, ho, hall⟩ := mem_ready.1 hi
    have hlt := (Array.getElem?_eq_some_iff.1 ho).1
    refine wpOp_step ho (fun K hK => ?_)
    clear hi
    have HS := Lib.hid hS
    clear hS
    simp only [List.setIfInBounds_toArray, List.set_cons_zero, List.set_cons_succ, Array.getD_eq_getD_getElem?, List.getElem?_toArray, List.getElem?_cons_zero, List.getElem?_cons_succ, Option.getD_some]
    obtain h | h | h | h | h | h | h | h | h | h | h | h : i = 0 ∨ i = 1 ∨ i = 2 ∨ i = 3 ∨ i = 4 ∨ i = 5 ∨ i = 6 ∨ i = 7 ∨ i = 8 ∨ i = 9 ∨ i = 10 ∨ i = 11 := by simp at hlt; omega
    all_goals subst h
    all_goals simp only [List.getElem?_toArray, List.getElem?_cons_zero, List.getElem?_cons_succ, Option.some.injEq] at ho
    all_goals subst ho
    all_goals simp [Region.binds] at hun hall
    ·subst hun
     go_simp
     exact hK _ _ ⟨true, l1, l2, l3, l4, l5, l6, l7, l8, l9, l10, l11, rfl, (by simp), HS.out⟩
    ·subst hun
     go_simp
     exact hK _ _ ⟨l0, true, l2, l3, l4, l5, l6, l7, l8, l9, l10, l11, rfl, (by simp), HS.out⟩
    ·subst hun
     go_simp
     exact hK _ _ ⟨l0, l1, true, l3, l4, l5, l6, l7, l8, l9, l10, l11, rfl, (by simp), HS.out⟩
    ·obtain rfl := hall
     subst hun
     have e0 := HS.out.cell (v := .slice (some ⟨b2, o2, none⟩) L cw) 0 1 rfl rfl
     go_simp
     exact hK _ _ ⟨l0, l1, true, true, l4, l5, l6, l7, l8, l9, l10, l11, rfl, (by simp), HS.out⟩
    ·subst hun
     go_simp
     exact hK _ _ ⟨l0, l1, l2, l3, true, l5, l6, l7, l8, l9, l10, l11, rfl, (by simp), HS.out⟩
    ·obtain rfl := hall
     subst hun
     have e0 := HS.out.cell (v := .slice (some ⟨b2, o2, none⟩) L cw) 0 1 rfl rfl
     go_simp
     exact hK _ _ ⟨l0, l1, l2, l3, true, true, l6, l7, l8, l9, l10, l11, rfl, (by simp), HS.out⟩
    ·subst hun
     go_simp
     exact hK _ _ ⟨l0, l1, l2, l3, l4, l5, true, l7, l8, l9, l10, l11, rfl, (by simp), HS.out⟩
    ·obtain ⟨rfl, rfl⟩ := hall
     subst hun
     go_simp
     exact hK _ _ ⟨l0, l1, l2, l3, l4, true, true, true, l8, l9, l10, l11, rfl, (by simp), HS.out⟩
    ·obtain rfl := hall
     subst hun
     have e0 := (bcell HS.out.bel b2 _ HC.out.hb2).trans Hen.out
     go_simp
     exact hK _ _ ⟨l0, l1, l2, l3, l4, l5, l6, true, true, l9, l10, l11, rfl, (by simp), HS.out⟩
    ·obtain ⟨rfl, rfl⟩ := hall
     subst hun
     go_simp
     go_at_call 150
     refine (Hix.out _ HS.out.bel).mono ?_
     rintro e u1 ⟨rfl, hbx⟩
     have hS2 := HS.out.call hbx
     have HhS2 := Lib.hid hS2; clear hS2
     go_simp
     exact hK _ _ ⟨l0, l1, l2, true, l4, l5, l6, l7, true, true, l10, l11, rfl, (by simp), HhS2.out⟩
    ·obtain ⟨rfl, rfl, -, -, rfl, rfl, rfl, rfl, rfl, rfl, rfl, rfl⟩ := hall
     subst hun
     go_simp
     exact hK _ _ ⟨true, true, true, true, true, true, true, true, true, true, true, l11, rfl, (by simp only [↓reduceIte, List.setIfInBounds_toArray, List.set_cons_zero, List.set_cons_succ]), HS.out⟩
    ·obtain ⟨rfl, rfl, rfl, rfl, rfl, rfl, rfl, rfl, rfl, rfl, rfl, -⟩ := hall
     subst hun
     have f0 := HS.out.rfr 1 s rfl
     have k0 := HS.out.rcell (v := .int .i64 ((0 : Nat) : Int)) 1 s rfl (by omega) Hhat.out
     have hS2 := HS.out.store 1 rfl s (.int .i64 (p : Int))
     simp only [List.set_cons_succ, List.set_cons_zero, Bool.false_eq_true, ↓reduceIte, Hhset.out] at hS2
     go_simp
     exact hK _ _ ⟨true, true, true, true, true, true, true, true, true, true, true, true, rfl, (by simp only [↓reduceIte, List.setIfInBounds_toArray, List.set_cons_zero, List.set_cons_succ]), hS2⟩
   ·rintro listed a w' ⟨l0, l1, l2, l3, l4, l5, l6, l7, l8, l9, l10, l11, rfl, rfl, hS⟩ hr
    have hall := ready_nil (by kernel_rfl) rfl hr
    obtain rfl : l0 = true := by simpa using hall 0 (by simp)
    obtain rfl : l1 = true := by simpa using hall 1 (by simp)
    obtain rfl : l2 = true := by simpa using hall 2 (by simp)
    obtain rfl : l3 = true := by simpa using hall 3 (by simp)
    obtain rfl : l4 = true := by simpa using hall 4 (by simp)
    obtain rfl : l5 = true := by simpa using hall 5 (by simp)
    obtain rfl : l6 = true := by simpa using hall 6 (by simp)
    obtain rfl : l7 = true := by simpa using hall 7 (by simp)
    obtain rfl : l8 = true := by simpa using hall 8 (by simp)
    obtain rfl : l9 = true := by simpa using hall 9 (by simp)
    obtain rfl : l10 = true := by simpa using hall 10 (by simp)
    obtain rfl : l11 = true := by simpa using hall 11 (by simp)
    clear hall hr 
    simp only [↓reduceIte] at hS ⊢
    simp only [List.setIfInBounds_toArray, List.set_cons_zero, List.set_cons_succ]
    have HS9 := Lib.hid hS
    clear hS
    go_wp2
    go_roundw
    case rel =>
     refine ⟨s + 1, by go_num, by omega, ?_⟩
     rw [← HhX1.out]
     exact HS9.out
    case measure => simp [intOf]; omega
   ·refine ⟨false, false, false, false, false, false, false, false, false, false, false, false, rfl, (by simp), ?_⟩
    exact HS.out.drew
  ·obtain rfl : L = s := by omega
   rw [padL_end] at hS
   have HS2 := Lib.hid hS
   clear hS
   go_wp2
   go_loopw [3, 5] (fun vc va wr => ∃ (i gc cc : Nat) (ag : Bool), vc = .slice (some ⟨gc, 0, none⟩) L cc ∧ va = .bool ag ∧ ((ag = true ∧ i ≤ N) ∨ (ag = false ∧ i = N + 1)) ∧
     St w wr [Ent.box w.heap.size #[.slice (some ⟨b1, o1, none⟩) L cv, .slice (some ⟨b2, o2, none⟩) L cw] 27, Ent.row 3 1 (.slice (some ⟨gc, 0, none⟩) L cc) L (intCells (clsL L (C i)))])
    (fun vc va wr => if isYes va = true then L + 1 - repsW wr (blockOf vc) L else 0)
   case atStart => exact ⟨0, _, _, true, rfl, rfl, Or.inl ⟨rfl, Nat.zero_le _⟩, HS2.out⟩
   case round =>
    obtain ⟨i, gc, cc, ag, rfl, rfl, hag, hS⟩ := hrel
    obtain ⟨wo, hwo⟩ : ∃ wo : World, wo = wr := ⟨_, rfl⟩
    subst hwo
    rcases hag with ⟨rfl, hiN⟩ | ⟨rfl, rfl⟩
    ·have HS3 := Lib.hid hS
     clear hS
     go_wp2_with (at_make; refine wpList_make_full _ rfl _ _ 48 rfl _ 3 i0 (.int .i64 0) 1 Try.underlying48 Hhi.out Hhz0.out Hhz1.out .i64 .i64 _ _ L rfl rfl rfl rfl (by rw [Hhz2.out]; omega) (by unfold maxLen; omega) (Nat.le_refl _) ?_; intro w1 hown hgrow; have HS4 := Lib.hid (HS3.out.made ((Below.refl _ _).grown hgrow (Nat.le_refl _) (fun _ h => by cases h)) (made_ints (C (i + 1)) hown)); clear hown hgrow)
     go_loopw [35] (fun j wi => ∃ s : Nat, j = .int .i64 s ∧ s ≤ L ∧ St w wi [Ent.box w.heap.size #[.slice (some ⟨b1, o1, none⟩) L cv, .slice (some ⟨b2, o2, none⟩) L cw] 27, Ent.row 3 1 (.slice (some ⟨gc, 0, none⟩) L cc) L (intCells (clsL L (C i))), Ent.row 3 1 (.slice (some ⟨wo.heap.size, 0, none⟩) L L) L (intCells (padL L s (C (i + 1))))]) (fun j _ => L - (intOf j).toNat)
     case atStart => exact ⟨0, rfl, Nat.zero_le _, HS4.out⟩
     case round =>
      obtain ⟨s, rfl, hs, hS⟩ := hrel
      by_cases hlt : s < L
      ·have hlt2 : (s : Int) < L := by omega
       have hsn : s < d.next.length := by have := HhL.out; omega
       have hci := Hcs.out i s hlt
       have hcis := hci.1
       rw [padL_T _ hlt] at hS
       have HS5 := Lib.hid hS
       have Hci := Lib.hid hci
       clear hS hci
       go_wp2
       go_loopw [] (fun wi => ∃ t : Nat, t ≤ C (i + 1) s ∧ (∀ j, j < t → sameAt (nxD d) (C i) j s = false) ∧ St w wi [Ent.box w.heap.size #[.slice (some ⟨b1, o1, none⟩) L cv, .slice (some ⟨b2, o2, none⟩) L cw] 27, Ent.row 3 1 (.slice (some ⟨gc, 0, none⟩) L cc) L (intCells (clsL L (C i))), Ent.row 3 1 (.slice (some ⟨wo.heap.size, 0, none⟩) L L) L (intCells (padT L s (C (i + 1)) t))]) (fun wi => L + 1 - natAt wi wo.heap.size s)
       case atStart => exact ⟨0, Nat.zero_le _, fun j hj => absurd hj (by omega), HS5.out⟩
       case round =>
        obtain ⟨t, ht, hno, hS⟩ := hrel
        have htL : t < L := by omega
        have htL2 : (t : Int) < L := by omega
        have htn : t < d.next.length := by have := HhL.out; omega
        have c1 := hS.rcell (v := .int .i64 ((t : Nat) : Int)) 2 s rfl (by omega) (padT_at (C (i + 1)) t)
        have c2 := hS.rcell (v := .int .i64 ((C i t : Nat) : Int)) 1 t rfl (by omega) (clsL_cell (C i) htL)
        have c3 := hS.rcell (v := .int .i64 ((C i s : Nat) : Int)) 1 s rfl (by omega) (clsL_cell (C i) hlt)
        have f1 := hS.rfr 2 s rfl
        have hset := padT_set (n := L) (s := s) (C (i + 1)) t (t + 1)
        have hsr := sameAt_R d (C i) t s
        have Hc1 := Lib.hid c1
        have HS6 := Lib.hid hS
        have Hno := Lib.hid hno
        have Hset := Lib.hid hset
        obtain ⟨p, hp⟩ : ∃ p, p = C i t := ⟨_, rfl⟩
        obtain ⟨q, hq⟩ : ∃ q, q = C i s := ⟨_, rfl⟩
        rw [← hp] at c2 hsr
        rw [← hq] at c3 hsr
        have Hhp := Lib.hid hp; clear hp
        have Hhq := Lib.hid hq; clear hq
        clear hno hset
        by_cases he : p = q
        ·have g1 : ((p : Int) != (q : Int)) = false := by rw [he]; simp
         have g2 : ((p : Int) = (q : Int)) = True := by simp [he]
         have g3 : (!((p : Int) == (q : Int))) = false := by rw [he]; simp
         rw [decide_eq_true he, Bool.true_and] at hsr
         have b0 := hS.cell (v := .slice (some ⟨b1, o1, none⟩) L cv) 0 0 rfl rfl
         have b3 := hS.cell (v := .slice (some ⟨b2, o2, none⟩) L cw) 0 1 rfl rfl
         have hk := fun (w' : World) (hb : Below wr.heap.size wr w') => (show w'.cell? ⟨wo.heap.size, s, none⟩ = some (.int .i64 (t : Nat)) ∧ w'.cell? ⟨gc, t, none⟩ = some (.int .i64 (p : Nat)) ∧ w'.cell? ⟨gc, s, none⟩ = some (.int .i64 (q : Nat)) ∧ w'.cell? ⟨w.heap.size, 0, none⟩ = some (.slice (some ⟨b1, o1, none⟩) L cv) ∧ w'.cell? ⟨w.heap.size, 1, none⟩ = some (.slice (some ⟨b2, o2, none⟩) L cw) from
          ⟨(bcell hb _ _ (hS.rowlt 2 rfl).2).trans c1, (bcell hb _ _ (hS.rowlt 1 rfl).2).trans c2, (bcell hb _ _ (hS.rowlt 1 rfl).2).trans c3, (bcell hb _ _ (hS.boxlt 0 rfl).2).trans b0, (bcell hb _ _ (hS.boxlt 0 rfl).2).trans b3⟩)
         have Hk := Lib.hid hk
         cases hr : sameR d (C i) t s 3
         all_goals
          have hsw := fun (w' : World) (hb : Below wr.heap.size wr w') => sameRow_any d (C i) t s (.agg #[.slice (some ⟨b1, o1, none⟩) L cv, .slice (some ⟨b2, o2, none⟩) L cw]) (.slice (some ⟨gc, 0, none⟩) L cc) w' hd htn hsn (fun x hx => Nat.lt_of_le_of_lt ((Hgood.out i).le x (by rw [HhL.out]; exact hx)) hx) (HR.out.below (HS6.out.call hb).bel) (by rw [← HhL.out]; exact (HS6.out.call hb).intsC 1 rfl) _ hr
          rw [hr] at hsr
          have Hsw := Lib.hid hsw
          have Hsm := Lib.hid hsr
          have Hhr := Lib.hid hr; clear hr
          have Hhe := Lib.hid he; clear he
          clear hS hk hsw hsr
          go_wp2
          go_region_held3 (fun w' => w'.cell? ⟨wo.heap.size, s, none⟩ = some (.int .i64 (t : Nat)) ∧ w'.cell? ⟨gc, t, none⟩ = some (.int .i64 (p : Nat)) ∧ w'.cell? ⟨gc, s, none⟩ = some (.int .i64 (q : Nat)) ∧ w'.cell? ⟨w.heap.size, 0, none⟩ = some (.slice (some ⟨b1, o1, none⟩) L cv) ∧ w'.cell? ⟨w.heap.size, 1, none⟩ = some (.slice (some ⟨b2, o2, none⟩) L cw))
           (first | go_keep | exact Hk.out _ hq0)
           (first
            | (go_at_call 151; (with_reducible refine (Hsw.out _ (Below.refl _ _).drew).mono ?_); rintro e v3 ⟨rfl, hq0'⟩; have hq0 : Below wr.heap.size wr v3 := ((Below.refl _ _).drew).trans hq0'))
         ·have HS6 := Lib.hid (HS6.out.call hq0)
          have z1 := HS6.out.rcell (v := .int .i64 ((t : Nat) : Int)) 2 s rfl (by omega) (padT_at (C (i + 1)) t)
          have z2 := HS6.out.rfr 2 s rfl
          clear hq0 hq0' b0 b3 c1 c2 c3 f1
          go_wp2
          go_roundw
          case rel =>
           refine ⟨t + 1, ?_, ?_, ?_⟩
           ·rcases Nat.lt_or_ge t (C (i + 1) s) with h | h
            ·exact h
            ·have he : t = C (i + 1) s := Nat.le_antisymm ht h
             have h2 := Hci.out.2.1
             rw [← he, Hsm.out] at h2
             exact absurd h2 (by simp)
           ·intro j hj
            by_cases e : j = t
            ·rw [e]
             exact Hsm.out
            ·exact Hno.out j (by omega)
           ·have h := HS6.out.store 2 rfl s (.int .i64 ((t : Int) + 1))
            rw [show ((t : Int) + 1) = ((t + 1 : Nat) : Int) by omega] at h
            simp only [List.set_cons_succ, List.set_cons_zero, Hset.out] at h
            exact h
          case measure =>
           have h := HS6.out.store 2 rfl s (.int .i64 ((t : Int) + 1))
           rw [show ((t : Int) + 1) = ((t + 1 : Nat) : Int) by omega] at h
           simp only [List.set_cons_succ, List.set_cons_zero, Hset.out] at h
           rw [show ((t : Int) + 1) = ((t + 1 : Nat) : Int) by omega, natAt_of (h.rcell (v := .int .i64 ((t + 1 : Nat) : Int)) 2 s rfl (by omega) (padT_at (C (i + 1)) (t + 1))), natAt_of Hc1.out]
           omega
         ·have HS6 := Lib.hid (HS6.out.call hq0)
          clear hq0 hq0' b0 b3 c1 c2 c3 f1
          go_wp2
          go_roundw
          case rel =>
           refine ⟨s + 1, by go_num, by omega, ?_⟩
           have e : t = C (i + 1) s := by
            rcases Nat.lt_or_ge t (C (i + 1) s) with h | h
            ·have h2 := Hci.out.2.2 t h
             rw [Hsm.out] at h2
             exact absurd h2 (by simp)
            ·exact Nat.le_antisymm ht h
           have h := HS6.out
           rw [e, padT_end] at h
           exact h
          case measure => simp [intOf]; omega
        ·have g1 : ((p : Int) != (q : Int)) = true := by simp; omega
         have g2 : ((p : Int) = (q : Int)) = False := by simp; omega
         have g3 : (!((p : Int) == (q : Int))) = true := by simp; omega
         rw [decide_eq_false he, Bool.false_and] at hsr
         have Hsm := Lib.hid hsr
         have Hhe := Lib.hid he; clear he
         clear hS hsr
         go_wp2
         go_quiet (fail)
         have HS6 := Lib.hid (HS6.out.drewN nq)
         go_wp2
         go_roundw
         case rel =>
          refine ⟨t + 1, ?_, ?_, ?_⟩
          ·rcases Nat.lt_or_ge t (C (i + 1) s) with h | h
           ·exact h
           ·have he : t = C (i + 1) s := Nat.le_antisymm ht h
            have h2 := Hci.out.2.1
            rw [← he, Hsm.out] at h2
            exact absurd h2 (by simp)
          ·intro j hj
           by_cases e : j = t
           ·rw [e]
            exact Hsm.out
           ·exact Hno.out j (by omega)
          ·have h := HS6.out.store 2 rfl s (.int .i64 ((t : Int) + 1))
           rw [show ((t : Int) + 1) = ((t + 1 : Nat) : Int) by omega] at h
           simp only [List.set_cons_succ, List.set_cons_zero, Hset.out] at h
           exact h
         case measure =>
          have h := HS6.out.store 2 rfl s (.int .i64 ((t : Int) + 1))
          rw [show ((t : Int) + 1) = ((t + 1 : Nat) : Int) by omega] at h
          simp only [List.set_cons_succ, List.set_cons_zero, Hset.out] at h
          rw [show ((t : Int) + 1) = ((t + 1 : Nat) : Int) by omega, natAt_of (h.rcell (v := .int .i64 ((t + 1 : Nat) : Int)) 2 s rfl (by omega) (padT_at (C (i + 1)) (t + 1))), natAt_of Hc1.out]
          omega
      ·obtain rfl : L = s := by omega
       rw [padL_end] at hS
       have HS5 := Lib.hid hS
       clear hS
       have hreq : ∀ (r : Bool), decide (clsL L (C (i + 1)) = clsL L (C i)) = r → Calls Try.prog 152 #[.slice (some ⟨wo.heap.size, 0, none⟩) L L, .slice (some ⟨gc, 0, none⟩) L cc] wr fun e w' => e = .returned (.bool r) ∧ Below wr.heap.size wr w' :=
        fun r hr => equalI_any (clsL L (C (i + 1))) (clsL L (C i)) L _ _ wr (clsL_len _ _) (clsL_len _ _) (HS5.out.intsC 2 rfl) (HS5.out.intsC 1 rfl) r hr
       have hm0 := repsW_of (w := wo) (b := gc) (n := L) (cl := C i) fun x hx => HS3.out.rcell 1 x rfl (by omega) (clsL_cell (C i) hx)
       by_cases hiN : i = N
       ·have h1 := hreq true (by rw [decide_eq_true_eq, Hsd.out i, hiN, HhL.out]; exact HNs.out)
        have H1 := Lib.hid h1
        have Hm0 := Lib.hid hm0
        clear hreq h1 hm0
        go_wp2_with fail
        refine H1.out.mono ?_
        rintro e v3 ⟨rfl, hb3⟩
        have HS6 := Lib.hid (HS5.out.call hb3)
        clear hb3
        go_wp2
        go_roundw
        case rel => exact ⟨i + 1, _, _, false, rfl, rfl, Or.inr ⟨rfl, by omega⟩, HS6.out.pick [0, 2] (by decide)⟩
        case measure =>
         have := reps_le L (C i)
         simp only [isYes, blockOf, ↓reduceIte, Bool.false_eq_true, Hm0.out]
         omega
       ·have hns := HNo.out i (by omega)
        have h1 := hreq false (by rw [decide_eq_false_iff_not, Hsd.out i, HhL.out]; exact hns)
        have hmore : reps L (C i) < reps L (C (i + 1)) := by
         have hex : ∃ x, x < L ∧ C (i + 1) x ≠ C i x := by
          apply Classical.byContradiction
          intro hc
          refine hns fun x hx => ?_
          rw [← HhCC.out]
          apply Classical.byContradiction
          intro hcx
          exact hc ⟨x, by rw [HhL.out]; exact hx, hcx⟩
         obtain ⟨x, hx, hxne⟩ := hex
         have hst : C (i + 1) = refineC L (nxD d) (C i) := by rw [HhCC.out, HhL.out]; rfl
         rw [hst] at hxne ⊢
         exact refine_more (Hgood.out i) hx hxne
        have H1 := Lib.hid h1
        have Hm0 := Lib.hid hm0
        have Hmore := Lib.hid hmore
        have Hhns := Lib.hid hns; clear hns
        clear hreq h1 hm0 hmore
        go_wp2_with fail
        refine H1.out.mono ?_
        rintro e v3 ⟨rfl, hb3⟩
        have HS6 := Lib.hid (HS5.out.call hb3)
        clear hb3
        go_wp2
        go_roundw
        case rel => exact ⟨i + 1, _, _, true, rfl, rfl, Or.inl ⟨rfl, by omega⟩, HS6.out.pick [0, 2] (by decide)⟩
        case measure =>
         have h2 := repsW_of (w := v3) (b := wo.heap.size) (n := L) (cl := C (i + 1)) fun x hx => HS6.out.rcell 2 x rfl (by omega) (clsL_cell (C (i + 1)) hx)
         have h3 := Hmore.out
         have h4 := reps_le L (C i)
         simp only [isYes, blockOf, ↓reduceIte, Hm0.out, h2]
         omega
    ·have hcl : intCells (clsL L (C (N + 1))) = intCells (clsL L (clD d)) := by rw [clsL_congr Hfin.out]
     rw [hcl] at hS
     have HS3 := Lib.hid hS
     have Hhcl := Lib.hid hcl; clear hcl
     clear hS
     go_wp2
     go_ret
     exact ⟨gc, cc, rfl, HS3.out.pick [1] (by decide)⟩
def dif (a b : Nat → Nat) (j k : Nat) : Bool := decide (a j = a k) != decide (b j = b k)
def difs (a b : Nat → Nat) (k m : Nat) : Bool := (List.range m).any fun j => dif a b j k
def difK (a b : Nat → Nat) (k : Nat) : Bool := (List.range k).any fun x => difs a b x x
theorem difs_succ (a b : Nat → Nat) (k m : Nat) : difs a b k (m + 1) = (difs a b k m || dif a b m k) := by
 unfold difs
 rw [List.range_succ, List.any_append]
 simp
theorem difK_succ (a b : Nat → Nat) (k : Nat) : difK a b (k + 1) = (difK a b k || difs a b k k) := by
 unfold difK
 rw [List.range_succ, List.any_append]
 simp
theorem difK_false {a b : Nat → Nat} {n : Nat} : difK a b n = false ↔ ∀ k j, k < n → j < k → (a j = a k ↔ b j = b k) := by
 constructor
 ·intro h k j hk hj
  have h1 : difs a b k k = false := by simpa using List.any_eq_false.1 h k (List.mem_range.2 hk)
  have h2 : dif a b j k = false := by simpa using List.any_eq_false.1 h1 j (List.mem_range.2 hj)
  simpa [dif] using h2
 ·intro h
  refine List.any_eq_false.2 fun k hk => ?_
  simp only [Bool.not_eq_true]
  refine List.any_eq_false.2 fun j hj => ?_
  simp only [Bool.not_eq_true]
  have := h k j (List.mem_range.1 hk) (List.mem_range.1 hj)
  simpa [dif] using this
def apart (n : Nat) (cl : Nat → Nat) : Nat := ((List.range (n * n)).filter fun x => decide (cl (x / n) ≠ cl (x % n))).length
theorem apart_le (n : Nat) (cl : Nat → Nat) : apart n cl ≤ n * n := by
 have := List.length_filter_le (fun x => decide (cl (x / n) ≠ cl (x % n))) (List.range (n * n))
 simpa [apart] using this
theorem apart_more {n : Nat} {nx : Nat → Nat → Nat} {cl : Nat → Nat} {j k : Nat} (hj : j < n) (hk : k < n) (h0 : cl j = cl k) (h1 : refineC n nx cl j ≠ refineC n nx cl k) : apart n cl < apart n (refineC n nx cl) := by
 have hn : 0 < n := by omega
 have e1 : (k + n * j) / n = j := by rw [Nat.add_mul_div_left _ _ hn, Nat.div_eq_of_lt hk, Nat.zero_add]
 have e2 : (k + n * j) % n = k := by rw [Nat.add_mul_mod_self_left, Nat.mod_eq_of_lt hk]
 refine filter_lt (a := k + n * j) (by rw [e1, e2]; simpa using h0) (by rw [e1, e2]; simpa using h1) ?_ fun x hx h => ?_
 ·rw [List.mem_range]
  have : n * j + n ≤ n * n := by
   have := Nat.mul_le_mul_left n (show j + 1 ≤ n by omega)
   rwa [Nat.mul_add, Nat.mul_one] at this
  omega
 ·have hx := List.mem_range.1 hx
  have h2 : x / n < n := (Nat.div_lt_iff_lt_mul hn).2 hx
  have h3 : x % n < n := Nat.mod_lt _ hn
  simp only [decide_eq_true_eq] at h ⊢
  intro he
  exact h ((sameAt_iff nx).1 ((refine_eq h2 h3).1 he)).1
theorem apart_round {n : Nat} {nx : Nat → Nat → Nat} {en : Nat → Bool} (hnx : ∀ s c, s < n → c < 3 → nx s c < n) {i : Nat} (h : ¬ stays n nx en i) : apart n (clR n nx en i) < apart n (clR n nx en (i + 1)) := by
 have hp := stays_part hnx en i
 have hex : ∃ k j, k < n ∧ j < k ∧ ¬ (clR n nx en i j = clR n nx en i k ↔ clR n nx en (i + 1) j = clR n nx en (i + 1) k) := by
  apply Classical.byContradiction
  intro hc
  refine h (hp.2 fun k j hk hj => ?_)
  apply Classical.byContradiction
  intro hcx
  exact hc ⟨k, j, hk, hj, hcx⟩
 obtain ⟨k, j, hk, hj, hne⟩ := hex
 have hdown : clR n nx en (i + 1) j = clR n nx en (i + 1) k → clR n nx en i j = clR n nx en i k := fun he => ((sameAt_iff nx).1 ((refine_eq (by omega) hk).1 he)).1
 by_cases h0 : clR n nx en i j = clR n nx en i k
 ·refine apart_more (j := j) (k := k) (by omega) hk h0 fun h1 => hne ⟨fun _ => h1, fun _ => h0⟩
 ·exact absurd ⟨fun h1 => absurd h1 h0, fun h1 => absurd (hdown h1) h0⟩ hne
def apartW (w : World) (b n : Nat) : Nat := ((List.range (n * n)).filter fun x => decide (natAt w b (x / n) ≠ natAt w b (x % n))).length
theorem apartW_of {w : World} {b n : Nat} {cl : Nat → Nat} (h : ∀ s, s < n → w.cell? ⟨b, s, none⟩ = some (.int .i64 ((cl s : Nat) : Int))) : apartW w b n = apart n cl := by
 unfold apartW apart
 congr 1
 refine List.filter_congr fun x hx => ?_
 have hx := List.mem_range.1 hx
 have hn : 0 < n := by
  rcases Nat.eq_zero_or_pos n with e | e
  ·rw [e] at hx
   simp at hx
  ·exact e
 rw [natAt_of (h _ ((Nat.div_lt_iff_lt_mul hn).2 hx)), natAt_of (h _ (Nat.mod_lt _ hn))]
theorem snoc_set {l : List Value} {k : Nat} {x y : Value} (h : l.length = k) : (l ++ [x]).set k y = l ++ [y] := by
 rw [List.set_append_right _ _ (by omega), show k - l.length = 0 by omega]
 rfl
end Go.Proofs.Ytalbofnhcpjilaa
