/-
  The walks over the reference's l8List and NfaOf.
  Conditions: the automaton is valid and reads as such.
-/
import Derived.Test.YtalbofnhcpjilaaPk10Tv
namespace Go.Proofs.Ytalbofnhcpjilaa
open Go.RowKit
set_option maxRecDepth 100000 in
set_option maxHeartbeats 1600000 in
theorem l8List_any (d : DfaD) (v : Value) (w : World) (hl : d.ends.length ≤ 40) (h : Bools 0 w v d.ends) :
  Calls Try.prog 113 #[v] w fun e w' => ∃ a c, e = .returned (.slice a (eds d d.ends.length).length c) ∧ St w w' [Ent.row 3 1 (.slice a (eds d d.ends.length).length c) (eds d d.ends.length).length (intCells (eds d d.ends.length))] := by
 obtain ⟨n, hn⟩ : ∃ n, n = d.ends.length := ⟨_, rfl⟩
 obtain ⟨a2, c2, rfl, hc3, hc4, hr2⟩ := h.form
 rw [← hn] at hc3 hr2 hl
 rw [← hn]
 obtain ⟨j0, hj, hy0, hy1, hy2⟩ := info_parts Try.infoInt
 have hS0 := ((St.start w).alloc _ rfl #[] 3).boxrow 0 0 1 [] rfl rfl (Nat.zero_le _)
 have Hr := Lib.hid hr2
 have HhS0 := Lib.hid hS0; clear hS0
 have Hhn := Lib.hid hn; clear hn
 have Hhj := Lib.hid hj; clear hj
 have Hhy0 := Lib.hid hy0; clear hy0
 have Hhy1 := Lib.hid hy1; clear hy1
 have Hhy2 := Lib.hid hy2; clear hy2
 clear hr2 h
 go_enter Try.func113, Try.ntmps113
 go_wp2
 go_loopw [3, 4] (fun ov i wr => ∃ (k c : Nat) (a : Option Addr), i = .int .i64 k ∧ ov = .slice a (eds d k).length c ∧ k ≤ n ∧ St w wr [Ent.row 3 1 (.slice a (eds d k).length c) (eds d k).length (intCells (eds d k))])
  (fun _ i _ => n - (intOf i).toNat)
 case atStart => exact ⟨0, 0, _, rfl, rfl, Nat.zero_le _, HhS0.out⟩
 case round =>
  obtain ⟨k, c, a, rfl, rfl, hk, hS⟩ := hrel
  obtain ⟨E, hE⟩ : ∃ E, E = eds d k := ⟨_, rfl⟩
  have hel := eds_len d k
  rw [← hE] at hS hel
  by_cases hlt : k < n
  ·have hlt2 : (k : Int) < n := by omega
   obtain ⟨b2, o2, rfl, -, hb2, hcs⟩ := Hr.out (by omega)
   have k2 := (bcell hS.bel b2 _ hb2).trans (hcs k hlt)
   have hele : E.length ≤ 40 := by omega
   have HhE := Lib.hid hE; clear hE
   have HhS := Lib.hid hS; clear hS
   clear hcs hel
   cases hz : d.ends.getD k false with
   | false =>
    rw [hz] at k2
    have hE1 : eds d (k + 1) = E := by rw [HhE.out]; show (if d.ends.getD k false = true then _ else _) = _; rw [hz]; rfl
    have HhE1 := Lib.hid hE1; clear hE1
    have Hhz := Lib.hid hz; clear hz
    go_wp2
    go_roundw
    case rel =>
     refine ⟨k + 1, c, a, by go_num, by rw [HhE1.out, HhE.out], by omega, ?_⟩
     rw [HhE1.out]
     exact HhS.out
    case measure => simp [intOf]; omega
   | true =>
    rw [hz] at k2
    have hE1 : eds d (k + 1) = E ++ [(k : Int)] := by rw [HhE.out]; show (if d.ends.getD k false = true then _ else _) = _; rw [hz]; rfl
    have hSa := HhS.out.alloc_ (.cells #[.int .i64 k] 3)
    have hRw := hSa.row 0 rfl
    rw [← HhE.out]
    have HhSa := Lib.hid hSa; clear hSa
    have HhRw := Lib.hid hRw; clear hRw
    have HhE1 := Lib.hid hE1; clear hE1
    have Hhz := Lib.hid hz; clear hz
    go_wp2_with (at_builtin; refine wpList_append_lies _ rfl _ _ _ rfl _ 3 j0 (.int .i64 0) 1 8 Try.underlying48 Hhj.out Hhy0.out Hhy1.out Hhy2.out rfl (by omega) _ E.length _ rfl HhRw.out ⟨wr.heap.size, 0, none⟩ 1 1 [.int .i64 k] rfl rfl (World.news_of_block (heap_alloc_new wr _)) on_i (by omega) (by unfold maxLen; omega) (by omega) HhSa.out.size _ rfl ?_; intro g6 c6 w6 hown6 hgrow6 hat6 hlt6; have HS6 := Lib.hid (HhSa.out.app 0 rfl hown6 hgrow6 hat6); clear hown6 hgrow6 hat6 hlt6)
    go_roundw
    case rel =>
     have hl1 : (eds d (k + 1)).length = E.length + 1 := by rw [HhE1.out]; simp
     refine ⟨k + 1, c6, some ⟨g6, 0, none⟩, by go_num, by rw [hl1], by omega, ?_⟩
     rw [hl1, HhE1.out, intC_sn]
     exact HS6.out
    case measure => simp [intOf]; omega
  ·obtain rfl : k = n := by omega
   have hge : (k : Int) ≤ k := Int.le_refl _
   have HhS := Lib.hid hS; clear hS
   rw [← hE]
   have HhE := Lib.hid hE; clear hE
   clear hel
   go_wp2
   go_ret
   rw [← HhE.out]
   exact ⟨a, c, rfl, HhS.out⟩
set_option maxRecDepth 100000 in
set_option maxHeartbeats 4000000 in
theorem specNfaOf_any (d : DfaD) (v : Value) (w : World) (hd : dfaOk d.next d.ends = true) (h : DfaR 0 w v d) :
  Calls Try.prog 63 #[v] w fun e w' => RNfaS (nfaOf d) w e w' := by
 obtain ⟨v1, v2, rfl, q1, q2⟩ := h
 have hval := fun (w' : World) (hb : Below w.heap.size w w') => specDfaValid_any d.next d.ends v1 v2 w' (q1.below hb) (q2.below hb) true hd
 have hlist := fun (w' : World) (hb : Below w.heap.size w w') => l8List_any d v2 w' (by have := dfaOk_len hd; omega) (q2.below hb)
 obtain ⟨L, hL⟩ : ∃ L, L = d.next.length := ⟨_, rfl⟩
 obtain ⟨hl1, hl2, hl3⟩ := dfaOk_len hd
 have hrow := fun (i : Nat) (hi : i < d.next.length) => (dfaOk_row hd hi)
 obtain ⟨av, cv, rfl, hc1, hc2, hr1⟩ := q1.formI
 obtain ⟨b1, o1, rfl, -, hb1, hcs1⟩ := hr1 (by omega)
 rw [hl3] at hlist
 rw [← hL] at hl1 hl2 hl3 hrow hc1 hcs1 hlist hval
 rw [← hL]
 obtain ⟨E, hE⟩ : ∃ E, E = eds d L := ⟨_, rfl⟩
 have hel := eds_len d L
 rw [← hE] at hlist hel
 have hele : E.length ≤ 40 := by omega
 obtain ⟨i0, hi, hz0, hz1, hz2⟩ := info_parts Try.infoMv
 have hS := ((St.start w).alloc _ rfl #[.slice (some ⟨b1, o1, none⟩) L cv, v2] 27).alloc (w.heap.size + 1) (by simp) #[.int .i64 0, .slice none 0 0, .slice none 0 0, .slice none 0 0] 50
 have Hrow := Lib.hid hrow
 have Hcs1 := Lib.hid hcs1
 have Hval := Lib.hid hval
 have Hl8 := Lib.hid hlist
 have HhS := Lib.hid hS; clear hS
 have HhL := Lib.hid hL; clear hL
 have HhE := Lib.hid hE; clear hE
 have Hhi := Lib.hid hi; clear hi
 have Hhz0 := Lib.hid hz0; clear hz0
 have Hhz1 := Lib.hid hz1; clear hz1
 have Hhz2 := Lib.hid hz2; clear hz2
 clear hrow hcs1 hr1 q1 q2 hd hl3 hval hlist hel
 go_enter Try.func63, Try.ntmps63
 go_wp2_with fail
 refine (Hval.out _ HhS.out.bel).mono ?_
 rintro e w1 ⟨rfl, hb⟩
 have hS1 := HhS.out.call hb
 have HhS1 := Lib.hid hS1; clear hS1
 clear hb
 go_wp2
 refine wp_region_any (by kernel_rfl) ?_
 refine wpAny_inv (fun listed a w' => ∃ (l0 l1 l2 l3 l4 l5 l6 l7 l8 l9 : Bool) (a6 : Option Addr) (c6 : Nat) (b5 : Nat) (b : Nat), listed = #[l0, l1, l2, l3, l4, l5, l6, l7, l8, l9] ∧ (l7 = true → l3 = true ∧ l6 = true) ∧ (l9 = true → l7 = true ∧ l8 = true) ∧
   a = ⟨#[.agg #[.slice (some ⟨b1, o1, none⟩) L cv, v2], .pointer (some ⟨w.heap.size, 0, none⟩), .pointer (some ⟨w.heap.size + 1, 0, none⟩), (if l8 = true then .pointer (some ⟨b, 0, none⟩) else undef), undef, undef, .agg #[.slice (some ⟨b1, o1, none⟩) L cv, v2], .bool true, .bool false, undef, (if l0 = true then .pointer (some ⟨w.heap.size, 0, none⟩) else undef), (if l1 = true then .slice (some ⟨b1, o1, none⟩) L cv else undef), (if l2 = true then .int .i64 (L : Int) else undef), (if l3 = true then .slice (some ⟨b5, 0, none⟩) 1 1 else undef), (if l4 = true then .pointer (some ⟨w.heap.size, 1, none⟩) else undef), (if l5 = true then v2 else undef), (if l6 = true then .slice a6 E.length c6 else undef), (if l7 = true then .agg #[.int .i64 L, .slice none 0 0, .slice (some ⟨b5, 0, none⟩) 1 1, .slice a6 E.length c6] else undef), undef, undef, undef, undef, undef, undef, undef, undef, undef, undef, undef, undef, undef, undef, undef, undef, undef, undef, undef, undef, undef, undef, undef, undef, undef, undef, undef, undef], []⟩ ∧
   St w w' [Ent.box w.heap.size #[.slice (some ⟨b1, o1, none⟩) L cv, v2] 27, Ent.box (w.heap.size + 1) #[.int .i64 0, .slice none 0 0, .slice none 0 0, .slice none 0 0] 50, (if l3 = true then Ent.row 3 1 (.slice (some ⟨b5, 0, none⟩) 1 1) 1 [.int .i64 0] else Ent.nil), (if l6 = true then Ent.row 3 1 (.slice a6 E.length c6) E.length (intCells E) else Ent.nil), (if l8 = true then Ent.box b (if l9 = true then #[.int .i64 L, .slice none 0 0, .slice (some ⟨b5, 0, none⟩) 1 1, .slice a6 E.length c6] else #[.int .i64 0, .slice none 0 0, .slice none 0 0, .slice none 0 0]) 50 else Ent.nil)]) ?_ ?_ _ _ _ _ (unl_le _ _) ?_
 ·rintro listed a w' ⟨l0, l1, l2, l3, l4, l5, l6, l7, l8, l9, a6, c6, b5, b, rfl, hd7, hd9, rfl, hS⟩ i hi
  obtain ⟨hun, o, ho, hall⟩ := mem_ready.1 hi
  have hlt := (Array.getElem?_eq_some_iff.1 ho).1
  refine wpOp_step ho (fun K hK => ?_)
  clear hi
  have HS := Lib.hid hS
  clear hS
  obtain h | h | h | h | h | h | h | h | h | h : i = 0 ∨ i = 1 ∨ i = 2 ∨ i = 3 ∨ i = 4 ∨ i = 5 ∨ i = 6 ∨ i = 7 ∨ i = 8 ∨ i = 9 := by simp at hlt; omega
  all_goals subst h
  all_goals simp only [List.getElem?_toArray, List.getElem?_cons_zero, List.getElem?_cons_succ, Option.some.injEq] at ho
  all_goals subst ho
  all_goals simp [Region.binds] at hun hall
  ·subst hun
   go_simp
   exact hK _ _ ⟨true, l1, l2, l3, l4, l5, l6, l7, l8, l9, a6, c6, b5, b, rfl, hd7, hd9, rfl, HS.out⟩
  ·obtain rfl := hall
   subst hun
   have e0 := HS.out.cell (v := .slice (some ⟨b1, o1, none⟩) L cv) 0 0 rfl rfl
   go_simp
   exact hK _ _ ⟨true, true, l2, l3, l4, l5, l6, l7, l8, l9, a6, c6, b5, b, rfl, hd7, hd9, rfl, HS.out⟩
  ·obtain rfl := hall
   subst hun
   go_simp
   exact hK _ _ ⟨l0, true, true, l3, l4, l5, l6, l7, l8, l9, a6, c6, b5, b, rfl, hd7, hd9, rfl, HS.out⟩
  ·subst hun
   obtain rfl : l7 = false := offL hd7 rfl
   obtain rfl : l9 = false := offL hd9 rfl
   have hS2 := (((HS.out.alloc _ rfl #[.int .i64 0] 3).boxrow 5 1 1 [.int .i64 0] rfl rfl (by unfold maxLen; omega)).pick [0, 1, 5, 3, 4] (by decide))
   have HhS2 := Lib.hid hS2; clear hS2
   go_simp
   exact hK _ _ ⟨l0, l1, l2, true, l4, l5, l6, false, l8, false, a6, c6, _, b, rfl, by simp, by simp, rfl, HhS2.out⟩
  ·subst hun
   go_simp
   exact hK _ _ ⟨l0, l1, l2, l3, true, l5, l6, l7, l8, l9, a6, c6, b5, b, rfl, hd7, hd9, rfl, HS.out⟩
  ·obtain rfl := hall
   subst hun
   have e0 := HS.out.cell (v := v2) 0 1 rfl rfl
   go_simp
   exact hK _ _ ⟨l0, l1, l2, l3, true, true, l6, l7, l8, l9, a6, c6, b5, b, rfl, hd7, hd9, rfl, HS.out⟩
  ·obtain rfl := hall
   subst hun
   obtain rfl : l7 = false := offR hd7 rfl
   obtain rfl : l9 = false := offL hd9 rfl
   go_simp
   go_at_call 113
   refine (Hl8.out _ HS.out.bel).mono ?_
   rintro e u1 ⟨a7, c8, rfl, hSx⟩
   have hS2 := (HS.out.cat hSx).pick [0, 1, 2, 5, 4] (by decide)
   have HhS2 := Lib.hid hS2; clear hS2
   go_simp
   exact hK _ _ ⟨l0, l1, l2, l3, l4, true, true, false, l8, false, a7, c8, b5, b, rfl, by simp, by simp, rfl, HhS2.out⟩
  ·obtain ⟨rfl, rfl, rfl⟩ := hall
   subst hun
   obtain rfl : l9 = false := offL hd9 rfl
   go_simp
   exact hK _ _ ⟨l0, l1, true, true, l4, l5, true, true, l8, false, a6, c6, b5, b, rfl, by simp, by simp, rfl, HS.out⟩
  ·subst hun
   obtain rfl : l9 = false := offR hd9 rfl
   have hS2 := (HS.out.alloc _ rfl #[.int .i64 0, .slice none 0 0, .slice none 0 0, .slice none 0 0] 50).pick [0, 1, 2, 3, 5] (by decide)
   have HhS2 := Lib.hid hS2; clear hS2
   go_simp
   exact hK _ _ ⟨l0, l1, l2, l3, l4, l5, l6, l7, true, false, a6, c6, b5, _, rfl, hd7, by simp, rfl, HhS2.out⟩
  ·obtain ⟨rfl, rfl, rfl, rfl, rfl, rfl, rfl, rfl, rfl, -⟩ := hall
   subst hun
   have f0 := HS.out.fr 4 0 rfl
   have k0 := HS.out.cell (v := .int .i64 0) 4 0 rfl rfl
   have f1 := HS.out.fr 4 1 rfl
   have k1 := HS.out.cell (v := .slice none 0 0) 4 1 rfl rfl
   have f2 := HS.out.fr 4 2 rfl
   have k2 := HS.out.cell (v := .slice none 0 0) 4 2 rfl rfl
   have f3 := HS.out.fr 4 3 rfl
   have k3 := HS.out.cell (v := .slice none 0 0) 4 3 rfl rfl
   go_simp
   exact hK _ _ ⟨true, true, true, true, true, true, true, true, true, true, a6, c6, b5, b, rfl, by simp, by simp, rfl, ((((HS.out.set 4 rfl 0 (.int .i64 L)).set 4 rfl 1 (.slice none 0 0)).set 4 rfl 2 (.slice (some ⟨b5, 0, none⟩) 1 1)).set 4 rfl 3 (.slice a6 E.length c6))⟩
 ·rintro listed a w' ⟨l0, l1, l2, l3, l4, l5, l6, l7, l8, l9, a6, c6, b5, b, rfl, hd7, hd9, rfl, hS⟩ hr
  have hall := ready_nil (by kernel_rfl) rfl hr
  obtain rfl : l0 = true := by simpa using hall 0 (by simp)
  obtain rfl : l1 = true := by simpa using hall 1 (by simp)
  obtain rfl : l2 = true := by simpa using hall 2 (by simp)
  obtain rfl : l3 = true := by simpa using hall 3 (by simp)
  obtain rfl : l4 = true := by simpa using hall 4 (by simp)
  obtain rfl : l5 = true := by simpa using hall 5 (by simp)
  obtain rfl : l6 = true := by simpa using hall 6 (by simp)
  obtain rfl : l7 = true := by simpa using hall 7 (by simp)
  obtain rfl : l8 = true := by simpa using hall 8 (by simp)
  obtain rfl : l9 = true := by simpa using hall 9 (by simp)
  clear hall hr hd7 hd9
  simp only [↓reduceIte] at hS ⊢
  have x1 := hS.cell (v := .slice (some ⟨b1, o1, none⟩) L cv) 0 0 rfl rfl
  have hS0 := (hS.pick [0, 1, 2, 3, 4] (by decide)).nilRow 124 3
  have hS2 : St w w' [Ent.box w.heap.size #[.slice (some ⟨b1, o1, none⟩) L cv, v2] 27, Ent.box (w.heap.size + 1) #[.int .i64 0, .slice none 0 0, .slice none 0 0, .slice none 0 0] 50, Ent.row 3 1 (.slice (some ⟨b5, 0, none⟩) 1 1) 1 [.int .i64 0], Ent.row 3 1 (.slice a6 E.length c6) E.length (intCells E),
    Ent.box b #[.int .i64 L, .slice none 0 0, .slice (some ⟨b5, 0, none⟩) 1 1, .slice a6 E.length c6] 50, Ent.row 124 3 (.slice none 0 0) 0 []] := hS0
  have HhS2 := Lib.hid hS2; clear hS2
  clear hS hS0 x1
  go_wp2
  go_loopw [4] (fun i wr => ∃ (s c1 : Nat) (a1 : Option Addr), i = .int .i64 s ∧ s ≤ L ∧ St w wr [Ent.box w.heap.size #[.slice (some ⟨b1, o1, none⟩) L cv, v2] 27, Ent.box (w.heap.size + 1) #[.int .i64 0, .slice none 0 0, .slice none 0 0, .slice none 0 0] 50, Ent.row 3 1 (.slice (some ⟨b5, 0, none⟩) 1 1) 1 [.int .i64 0], Ent.row 3 1 (.slice a6 E.length c6) E.length (intCells E),
    Ent.box b #[.int .i64 L, .slice a1 (mvs d s).length c1, .slice (some ⟨b5, 0, none⟩) 1 1, .slice a6 E.length c6] 50, Ent.row 124 3 (.slice a1 (mvs d s).length c1) (mvs d s).length ((mvs d s).flatMap moveCells)])
   (fun i _ => L - (intOf i).toNat)
  case atStart => exact ⟨0, 0, none, rfl, Nat.zero_le _, HhS2.out⟩
  case round =>
   obtain ⟨s, c1, a1, rfl, hs, hS⟩ := hrel
   obtain ⟨wo, hwo⟩ : ∃ wo : World, wo = wr := ⟨_, rfl⟩
   subst hwo
   have x1 := hS.cell (v := .slice (some ⟨b1, o1, none⟩) L cv) 0 0 rfl rfl
   have hml := mvs_len d s
   obtain ⟨M, hM⟩ : ∃ M, M = mvs d s := ⟨_, rfl⟩
   rw [← hM] at hS hml
   have hmle : M.length ≤ 120 := by omega
   by_cases hlt : s < L
   ·have hlt2 : (s : Int) < L := by omega
    obtain ⟨ar, cr, hcr, -, -, hIr⟩ := Hcs1.out s hlt
    obtain ⟨hr3, -⟩ := Hrow.out s (by have := HhL.out; omega)
    rw [hr3] at hcr hIr
    obtain ⟨_, _, hform, hrc1, hrc2, hrr⟩ := hIr.form
    rw [hr3] at hform hrr hrc1
    simp only [Value.slice.injEq, true_and] at hform
    obtain ⟨rfl, rfl⟩ := hform
    obtain ⟨b3, o3, rfl, -, hb3, hcs3⟩ := hrr (by omega)
    have Hcs3 := Lib.hid hcs3
    have Hhcr := Lib.hid hcr; clear hcr
    have HhS := Lib.hid hS; clear hS
    have HhM := Lib.hid hM; clear hM
    have Hhml := Lib.hid hml; clear hml
    clear hcs3 hrr hIr hr3
    go_wp2
    go_loopw [5] (fun i wi => ∃ (c c1 : Nat) (a1 : Option Addr), i = .int .i64 c ∧ c ≤ 3 ∧ St w wi [Ent.box w.heap.size #[.slice (some ⟨b1, o1, none⟩) L cv, v2] 27, Ent.box (w.heap.size + 1) #[.int .i64 0, .slice none 0 0, .slice none 0 0, .slice none 0 0] 50, Ent.row 3 1 (.slice (some ⟨b5, 0, none⟩) 1 1) 1 [.int .i64 0], Ent.row 3 1 (.slice a6 E.length c6) E.length (intCells E),
      Ent.box b #[.int .i64 L, .slice a1 (M.length + c) c1, .slice (some ⟨b5, 0, none⟩) 1 1, .slice a6 E.length c6] 50, Ent.row 124 3 (.slice a1 (M.length + c) c1) (M.length + c) ((M ++ (rowM d s).take c).flatMap moveCells)])
     (fun i _ => 3 - (intOf i).toNat)
    case atStart => exact ⟨0, c1, a1, rfl, by omega, by rw [List.take_zero, List.append_nil]; exact HhS.out⟩
    case round =>
     obtain ⟨c, c1, a1, rfl, hc3', hSi⟩ := hrel
     obtain ⟨wp, hwp⟩ : ∃ wp : World, wp = wr := ⟨_, rfl⟩
     subst hwp
     by_cases hc : c < 3
     ·have hc4 : (c : Int) < 3 := by omega
      have htk := rowM_take d s hc
      have k3 := Hcs3.out c hc
      obtain ⟨x, hx⟩ : ∃ x, x = (d.next.getD s []).getD c 0 := ⟨_, rfl⟩
      rw [← hx] at k3 htk
      obtain ⟨N, hN⟩ : ∃ N, N = M ++ (rowM d s).take c := ⟨_, rfl⟩
      obtain ⟨nl, hnl⟩ : ∃ nl, nl = M.length + c := ⟨_, rfl⟩
      have hnle : nl ≤ 130 := by omega
      rw [← hN, ← hnl] at hSi
      have Hk3 := Lib.hid k3; clear k3
      have Hhtk := Lib.hid htk; clear htk
      have Hhx := Lib.hid hx; clear hx
      have HhN := Lib.hid hN; clear hN
      have Hhnl := Lib.hid hnl; clear hnl
      have HhSi := Lib.hid hSi; clear hSi
      clear x1
      go_wp2
      refine wp_region_any (by kernel_rfl) ?_
      refine wpAny_invA (fun A listed a w' => ∃ (l0 l1 l2 l3 l4 l5 l6 l7 l8 l9 l10 l11 l12 l13 l14 l15 l16 : Bool) (g7 : Nat) (c7 : Nat) (bn : Nat), listed = #[l0, l1, l2, l3, l4, l5, l6, l7, l8, l9, l10, l11, l12, l13, l14, l15, l16] ∧ (l14 = true → l1 = true ∧ l13 = true) ∧ (l16 = true → l14 = true ∧ l1 = true) ∧
        a = ⟨((((((((((((((((A.tmps.setIfInBounds 29 (if l0 = true then .pointer (some ⟨b, 1, none⟩) else A.tmps.getD 29 undef)).setIfInBounds 30 (if l1 = true then .slice a1 nl c1 else A.tmps.getD 30 undef)).setIfInBounds 31 (if l2 = true then .int .i64 (s : Int) else A.tmps.getD 31 undef)).setIfInBounds 32 (if l3 = true then .int .i64 (c : Int) else A.tmps.getD 32 undef)).setIfInBounds 33 (if l4 = true then .pointer (some ⟨w.heap.size, 0, none⟩) else A.tmps.getD 33 undef)).setIfInBounds 34 (if l5 = true then .slice (some ⟨b1, o1, none⟩) L cv else A.tmps.getD 34 undef)).setIfInBounds 35 (if l6 = true then .int .i64 (s : Int) else A.tmps.getD 35 undef)).setIfInBounds 36 (if l7 = true then .pointer (some ⟨b1, o1 + s, none⟩) else A.tmps.getD 36 undef)).setIfInBounds 37 (if l8 = true then .slice (some ⟨b3, o3, none⟩) 3 cr else A.tmps.getD 37 undef)).setIfInBounds 38 (if l9 = true then .int .i64 (c : Int) else A.tmps.getD 38 undef)).setIfInBounds 39 (if l10 = true then .pointer (some ⟨b3, o3 + c, none⟩) else A.tmps.getD 39 undef)).setIfInBounds 40 (if l11 = true then .int .i64 x else A.tmps.getD 40 undef)).setIfInBounds 41 (if l12 = true then .agg #[.int .i64 s, .int .i64 c, .int .i64 x] else A.tmps.getD 41 undef)).setIfInBounds 42 (if l13 = true then .slice (some ⟨bn, 0, none⟩) 1 1 else A.tmps.getD 42 undef)).setIfInBounds 43 (if l14 = true then .slice (some ⟨g7, 0, none⟩) (nl + 1) c7 else A.tmps.getD 43 undef)).setIfInBounds 44 (if l15 = true then .pointer (some ⟨b, 1, none⟩) else A.tmps.getD 44 undef)), A.defers⟩ ∧
        St w w' [Ent.box w.heap.size #[.slice (some ⟨b1, o1, none⟩) L cv, v2] 27, Ent.box (w.heap.size + 1) #[.int .i64 0, .slice none 0 0, .slice none 0 0, .slice none 0 0] 50, Ent.row 3 1 (.slice (some ⟨b5, 0, none⟩) 1 1) 1 [.int .i64 0], Ent.row 3 1 (.slice a6 E.length c6) E.length (intCells E), Ent.box b #[.int .i64 L, (if l16 = true then .slice (some ⟨g7, 0, none⟩) (nl + 1) c7 else .slice a1 nl c1), .slice (some ⟨b5, 0, none⟩) 1 1, .slice a6 E.length c6] 50, (if l14 = true then Ent.row 124 3 (.slice (some ⟨g7, 0, none⟩) (nl + 1) c7) (nl + 1) (N.flatMap moveCells ++ [.int .i64 s, .int .i64 c, .int .i64 x]) else Ent.row 124 3 (.slice a1 nl c1) nl (N.flatMap moveCells)), (if l13 = true then Ent.box bn #[.int .i64 s, .int .i64 c, .int .i64 x] 124 else Ent.nil)]) ?_ ?_ ?_
      ·rintro listed a w' ⟨l0, l1, l2, l3, l4, l5, l6, l7, l8, l9, l10, l11, l12, l13, l14, l15, l16, g7, c7, bn, rfl, hd14, hd16, rfl, hS⟩ i hi
       obtain ⟨hun, o, ho, hall⟩ := mem_ready.1 hi
       have hlt := (Array.getElem?_eq_some_iff.1 ho).1
       refine wpOp_step ho (fun K hK => ?_)
       clear hi
       have HS := Lib.hid hS
       clear hS
       simp only [List.setIfInBounds_toArray, List.set_cons_zero, List.set_cons_succ, Array.getD_eq_getD_getElem?, List.getElem?_toArray, List.getElem?_cons_zero, List.getElem?_cons_succ, Option.getD_some]
       obtain h | h | h | h | h | h | h | h | h | h | h | h | h | h | h | h | h : i = 0 ∨ i = 1 ∨ i = 2 ∨ i = 3 ∨ i = 4 ∨ i = 5 ∨ i = 6 ∨ i = 7 ∨ i = 8 ∨ i = 9 ∨ i = 10 ∨ i = 11 ∨ i = 12 ∨ i = 13 ∨ i = 14 ∨ i = 15 ∨ i = 16 := by simp at hlt; omega
       all_goals subst h
       all_goals simp only [List.getElem?_toArray, List.getElem?_cons_zero, List.getElem?_cons_succ, Option.some.injEq] at ho
       all_goals subst ho
       all_goals simp [Region.binds] at hun hall
       ·subst hun
        go_simp
        exact hK _ _ ⟨true, l1, l2, l3, l4, l5, l6, l7, l8, l9, l10, l11, l12, l13, l14, l15, l16, g7, c7, bn, rfl, hd14, hd16, (by simp), HS.out⟩
       ·obtain rfl := hall
        subst hun
        obtain rfl : l14 = false := offL hd14 rfl
        obtain rfl : l16 = false := offL hd16 rfl
        have e0 := HS.out.cell (v := .slice a1 nl c1) 4 1 rfl rfl
        go_simp
        exact hK _ _ ⟨true, true, l2, l3, l4, l5, l6, l7, l8, l9, l10, l11, l12, l13, false, l15, false, g7, c7, bn, rfl, by simp, by simp, (by simp), HS.out⟩
       ·subst hun
        go_simp
        exact hK _ _ ⟨l0, l1, true, l3, l4, l5, l6, l7, l8, l9, l10, l11, l12, l13, l14, l15, l16, g7, c7, bn, rfl, hd14, hd16, (by simp), HS.out⟩
       ·subst hun
        go_simp
        exact hK _ _ ⟨l0, l1, l2, true, l4, l5, l6, l7, l8, l9, l10, l11, l12, l13, l14, l15, l16, g7, c7, bn, rfl, hd14, hd16, (by simp), HS.out⟩
       ·subst hun
        go_simp
        exact hK _ _ ⟨l0, l1, l2, l3, true, l5, l6, l7, l8, l9, l10, l11, l12, l13, l14, l15, l16, g7, c7, bn, rfl, hd14, hd16, (by simp), HS.out⟩
       ·obtain rfl := hall
        subst hun
        have e0 := HS.out.cell (v := .slice (some ⟨b1, o1, none⟩) L cv) 0 0 rfl rfl
        go_simp
        exact hK _ _ ⟨l0, l1, l2, l3, true, true, l6, l7, l8, l9, l10, l11, l12, l13, l14, l15, l16, g7, c7, bn, rfl, hd14, hd16, (by simp), HS.out⟩
       ·subst hun
        go_simp
        exact hK _ _ ⟨l0, l1, l2, l3, l4, l5, true, l7, l8, l9, l10, l11, l12, l13, l14, l15, l16, g7, c7, bn, rfl, hd14, hd16, (by simp), HS.out⟩
       ·obtain ⟨rfl, rfl⟩ := hall
        subst hun
        go_simp
        exact hK _ _ ⟨l0, l1, l2, l3, l4, true, true, true, l8, l9, l10, l11, l12, l13, l14, l15, l16, g7, c7, bn, rfl, hd14, hd16, (by simp), HS.out⟩
       ·obtain rfl := hall
        subst hun
        have e0 := (bcell HS.out.bel b1 _ hb1).trans Hhcr.out
        go_simp
        exact hK _ _ ⟨l0, l1, l2, l3, l4, l5, l6, true, true, l9, l10, l11, l12, l13, l14, l15, l16, g7, c7, bn, rfl, hd14, hd16, (by simp), HS.out⟩
       ·subst hun
        go_simp
        exact hK _ _ ⟨l0, l1, l2, l3, l4, l5, l6, l7, l8, true, l10, l11, l12, l13, l14, l15, l16, g7, c7, bn, rfl, hd14, hd16, (by simp), HS.out⟩
       ·obtain ⟨rfl, rfl⟩ := hall
        subst hun
        go_simp
        exact hK _ _ ⟨l0, l1, l2, l3, l4, l5, l6, l7, true, true, true, l11, l12, l13, l14, l15, l16, g7, c7, bn, rfl, hd14, hd16, (by simp), HS.out⟩
       ·obtain rfl := hall
        subst hun
        have e0 := (bcell HS.out.bel b3 _ hb3).trans Hk3.out
        go_simp
        exact hK _ _ ⟨l0, l1, l2, l3, l4, l5, l6, l7, l8, l9, true, true, l12, l13, l14, l15, l16, g7, c7, bn, rfl, hd14, hd16, (by simp), HS.out⟩
       ·obtain ⟨rfl, rfl, rfl⟩ := hall
        subst hun
        go_simp
        exact hK _ _ ⟨l0, l1, true, true, l4, l5, l6, l7, l8, l9, l10, true, true, l13, l14, l15, l16, g7, c7, bn, rfl, hd14, hd16, (by simp), HS.out⟩
       ·obtain rfl := hall
        subst hun
        obtain rfl : l14 = false := offR hd14 rfl
        obtain rfl : l16 = false := offL hd16 rfl
        have hS2 := (HS.out.alloc _ rfl #[.int .i64 s, .int .i64 c, .int .i64 x] 124).pick [0, 1, 2, 3, 4, 5, 7] (by decide)
        have HhS2 := Lib.hid hS2; clear hS2
        go_simp
        exact hK _ _ ⟨l0, l1, l2, l3, l4, l5, l6, l7, l8, l9, l10, l11, true, true, false, l15, false, g7, c7, _, rfl, by simp, by simp, (by simp), HhS2.out⟩
       ·obtain ⟨rfl, rfl⟩ := hall
        subst hun
        obtain rfl : l16 = false := offL hd16 rfl
        refine step_append_lies (a := ⟨_, _⟩) _ (by rfl) _ _ _ (by rfl) w.heap.size 124 i0 (.agg #[.int .i64 0, .int .i64 0, .int .i64 0]) 3 24 Try.underlying47 Hhi.out Hhz0.out Hhz1.out Hhz2.out (by rfl) (by omega) (.slice a1 nl c1) nl (N.flatMap moveCells) (by rfl) (HS.out.row 5 rfl) ⟨bn, 0, none⟩ 1 1 [.int .i64 s, .int .i64 c, .int .i64 x] (by rfl) (by rfl) (World.news_of_block (HS.out.box 6 rfl)) one_mv (by omega) (by unfold maxLen; omega) (by omega) HS.out.size _ rfl ?_
        intro g8 c8 w8 hown8 hgrow8 hat8 hlt8
        have HS8 := Lib.hid (HS.out.app 5 rfl hown8 hgrow8 hat8)
        clear hown8 hgrow8 hat8
        go_simp
        exact hK _ _ ⟨l0, true, l2, l3, l4, l5, l6, l7, l8, l9, l10, l11, l12, true, true, l15, false, g8, c8, bn, rfl, by simp, by simp, (by simp), HS8.out⟩
       ·obtain ⟨rfl, rfl, rfl, rfl, rfl, rfl, rfl, rfl, rfl, rfl, rfl, rfl, rfl, rfl, rfl⟩ := hall
        subst hun
        go_simp
        exact hK _ _ ⟨true, true, true, true, true, true, true, true, true, true, true, true, true, true, true, true, l16, g7, c7, bn, rfl, by simp, hd16, (by simp only [↓reduceIte, List.setIfInBounds_toArray, List.set_cons_zero, List.set_cons_succ]), HS.out⟩
       ·obtain ⟨rfl, rfl, rfl, rfl, rfl, rfl, rfl, rfl, rfl, rfl, rfl, rfl, rfl, rfl, rfl, rfl, -⟩ := hall
        subst hun
        have f0 := HS.out.fr 4 1 rfl
        have k0 := HS.out.cell (v := .slice a1 nl c1) 4 1 rfl rfl
        go_simp
        exact hK _ _ ⟨true, true, true, true, true, true, true, true, true, true, true, true, true, true, true, true, true, g7, c7, bn, rfl, by simp, by simp, (by simp only [↓reduceIte, List.setIfInBounds_toArray, List.set_cons_zero, List.set_cons_succ]), (HS.out.set 4 rfl 1 (.slice (some ⟨g7, 0, none⟩) (nl + 1) c7))⟩
      ·rintro listed a w' ⟨l0, l1, l2, l3, l4, l5, l6, l7, l8, l9, l10, l11, l12, l13, l14, l15, l16, g7, c7, bn, rfl, hd14, hd16, rfl, hS⟩ hr
       have hall := ready_nil (by kernel_rfl) rfl hr
       obtain rfl : l0 = true := by simpa using hall 0 (by simp)
       obtain rfl : l1 = true := by simpa using hall 1 (by simp)
       obtain rfl : l2 = true := by simpa using hall 2 (by simp)
       obtain rfl : l3 = true := by simpa using hall 3 (by simp)
       obtain rfl : l4 = true := by simpa using hall 4 (by simp)
       obtain rfl : l5 = true := by simpa using hall 5 (by simp)
       obtain rfl : l6 = true := by simpa using hall 6 (by simp)
       obtain rfl : l7 = true := by simpa using hall 7 (by simp)
       obtain rfl : l8 = true := by simpa using hall 8 (by simp)
       obtain rfl : l9 = true := by simpa using hall 9 (by simp)
       obtain rfl : l10 = true := by simpa using hall 10 (by simp)
       obtain rfl : l11 = true := by simpa using hall 11 (by simp)
       obtain rfl : l12 = true := by simpa using hall 12 (by simp)
       obtain rfl : l13 = true := by simpa using hall 13 (by simp)
       obtain rfl : l14 = true := by simpa using hall 14 (by simp)
       obtain rfl : l15 = true := by simpa using hall 15 (by simp)
       obtain rfl : l16 = true := by simpa using hall 16 (by simp)
       clear hall hr hd14 hd16
       simp only [↓reduceIte] at hS ⊢
       simp only [List.setIfInBounds_toArray, List.set_cons_zero, List.set_cons_succ]
       have hS9 := hS.pick [0, 1, 2, 3, 4, 5] (by decide)
       have HhS9 := Lib.hid hS9; clear hS9
       clear hS
       go_wp2
       go_roundw
       case rel =>
        refine ⟨c + 1, c7, some ⟨g7, 0, none⟩, by go_num, by omega, ?_⟩
        rw [Hhtk.out, ← List.append_assoc, ← HhN.out, flatM_snoc, show M.length + (c + 1) = nl + 1 by rw [Hhnl.out]; omega]
        exact HhS9.out
       case measure => simp [intOf]; omega
      ·refine ⟨false, false, false, false, false, false, false, false, false, false, false, false, false, false, false, false, false, 0, 0, 0, rfl, by simp, by simp, (by simp), ?_⟩
       exact HhSi.out.drew.pick [0, 1, 2, 3, 4, 5, 6] (by decide)
     ·obtain rfl : c = 3 := by omega
      have hta : (rowM d s).take 3 = rowM d s := List.take_of_length_le (by rw [rowM_len]; exact Nat.le_refl _)
      have hM1 : M ++ rowM d s = mvs d (s + 1) := by rw [HhM.out]; rfl
      have hMl : M.length + 3 = (mvs d (s + 1)).length := by rw [mvs_len, Hhml.out]; omega
      rw [hta, hM1, hMl] at hSi
      have HhSi := Lib.hid hSi; clear hSi
      have HhM1 := Lib.hid hM1; clear hM1
      have HhMl := Lib.hid hMl; clear hMl
      clear hta x1
      go_wp2
      go_roundw
      case rel => exact ⟨s + 1, c1, a1, by go_num, by omega, HhSi.out⟩
      case measure => simp [intOf]; omega
   ·obtain rfl : s = L := by omega
    have f0 := hS.fr 1 0 rfl
    have f1 := hS.fr 1 1 rfl
    have f2 := hS.fr 1 2 rfl
    have f3 := hS.fr 1 3 rfl
    have k0 := hS.cell (v := .int .i64 0) 1 0 rfl rfl
    have k1 := hS.cell (v := .slice none 0 0) 1 1 rfl rfl
    have k2 := hS.cell (v := .slice none 0 0) 1 2 rfl rfl
    have k3 := hS.cell (v := .slice none 0 0) 1 3 rfl rfl
    have d0 := hS.cell (v := .int .i64 s) 4 0 rfl rfl
    have d1 := hS.cell (v := .slice a1 M.length c1) 4 1 rfl rfl
    have d2 := hS.cell (v := .slice (some ⟨b5, 0, none⟩) 1 1) 4 2 rfl rfl
    have d3 := hS.cell (v := .slice a6 E.length c6) 4 3 rfl rfl
    have HhS := Lib.hid hS; clear hS
    have HhM := Lib.hid hM; clear hM
    have Hhml := Lib.hid hml; clear hml
    go_wp2
    have hq := (((HhS.out.set 1 rfl 0 (.int .i64 s)).set 1 rfl 1 (.slice a1 M.length c1)).set 1 rfl 2 (.slice (some ⟨b5, 0, none⟩) 1 1)).set 1 rfl 3 (.slice a6 E.length c6)
    have q0 := hq.cell (v := .int .i64 s) 1 0 rfl rfl
    have q1 := hq.cell (v := .slice a1 M.length c1) 1 1 rfl rfl
    have q2 := hq.cell (v := .slice (some ⟨b5, 0, none⟩) 1 1) 1 2 rfl rfl
    have q3 := hq.cell (v := .slice a6 E.length c6) 1 3 rfl rfl
    refine bodyPost_ret (v := .agg #[.int .i64 s, .slice a1 M.length c1, .slice (some ⟨b5, 0, none⟩) 1 1, .slice a6 E.length c6]) (by simp [results, Try.results63, go_sem, q0, q1, q2, q3]) rfl ?_
    have hr : RNfaS ⟨(s : Int), M, [0], E⟩ w (.returned (.agg #[.int .i64 s, .slice a1 M.length c1, .slice (some ⟨b5, 0, none⟩) 1 1, .slice a6 E.length c6])) _ := ⟨a1, c1, _, 1, a6, c6, rfl, hq.pick [5, 2, 3] (by decide)⟩
    have hn : nfaOf d = ⟨(s : Int), M, [0], E⟩ := by unfold nfaOf; rw [← HhL.out, HhM.out, HhE.out]
    rw [hn]
    exact hr
 ·refine ⟨false, false, false, false, false, false, false, false, false, false, none, 0, 0, 0, rfl, by simp, by simp, rfl, ?_⟩
  exact HhS1.out.drew.pick [0, 1, 2, 3, 4] (by decide)
def zeD : DfaD := ⟨[], []⟩
theorem zeD_own (w : World) (B tS tI tB : Nat) : DfaO tS tI tB B w.heap.size w (.agg #[.slice none 0 0, .slice none 0 0]) zeD :=
 ⟨_, _, rfl, ⟨[], own_of_row ⟨by simp [zeD], Or.inl ⟨rfl, rfl⟩⟩, fun i hi => absurd hi (by simp [zeD]), fun i j k _ hj => absurd hj (by simp [zeD])⟩, own_of_row ⟨by simp [zeD], Or.inl ⟨rfl, rfl⟩⟩⟩
def RTt (D : DfaD) (fb : Bool) (B : Nat) (e : Ending) (w' : World) : Prop := ∃ a1 c1 a2 c2, e = .returned (.tuple #[.agg #[.slice a1 D.next.length c1, .slice a2 D.ends.length c2], .bool fb]) ∧ DfaO 48 3 4 B w'.heap.size w' (.agg #[.slice a1 D.next.length c1, .slice a2 D.ends.length c2]) D
def RTtr (D : DfaD) (fb : Bool) (e : Ending) (w' : World) : Prop := ∃ a1 c1 a2 c2, e = .returned (.tuple #[.agg #[.slice a1 D.next.length c1, .slice a2 D.ends.length c2], .bool fb]) ∧ DfaR 0 w' (.agg #[.slice a1 D.next.length c1, .slice a2 D.ends.length c2]) D
theorem ok_of_fine {d : DfaD} (h : fine d) (h40 : d.next.length ≤ 40) : dfaOk d.next d.ends = true := by
 obtain ⟨h1, -, h3, hr⟩ := h
 simp only [dfaOk, Bool.and_eq_true, List.all_eq_true, decide_eq_true_eq]
 refine ⟨⟨fun x hx => ?_, ?_⟩, h3⟩
 ·obtain ⟨i, hi, e⟩ := List.getElem_of_mem hx
  obtain ⟨a, b⟩ := hr i hi
  rw [getD_at hi, e] at a b
  simp only [rowOk, Bool.and_eq_true, decide_eq_true_eq, List.all_eq_true]
  refine ⟨a, fun y hy => ?_⟩
  obtain ⟨c, hc, e2⟩ := List.getElem_of_mem hy
  have := b c (by omega)
  rw [getD_at hc, e2] at this
  unfold inB
  simp
  omega
 ·unfold inB
  simp
  omega
theorem trim_ok {d : DfaD} (h : dfaOk d.next d.ends = true) : dfaOk (trimD d).next (trimD d).ends = true ∧ (trimD d).next.length ≤ d.next.length := by
 obtain ⟨h1, h2, -⟩ := trim_facts (fine_of h)
 have := dfaOk_len h
 exact ⟨ok_of_fine h1 (by omega), h2⟩
theorem fold_ok {x : DfaD} (h : dfaOk x.next x.ends = true) : dfaOk (foldD x).next (foldD x).ends = true := by
 obtain ⟨h1, h2, -⟩ := fold_facts (fine_of h)
 have := dfaOk_len h
 exact ok_of_fine h1 (by omega)
def restsN (x : DfaD) : NfaD := ⟨(nfaOf x).states, (nfaOf x).moves, upInts x.next.length, (nfaOf x).ends⟩
theorem restsN_det {x : DfaD} (hx : dfaOk x.next x.ends = true) : DetOk (restsN x) x.next.length := by
 have h := nfaOf_det hx
 have hl := dfaOk_len hx
 refine ⟨h.st, h.m40, h.mv, h.ml, fun y hy => ?_, ?_, h.e, h.el⟩
 ·have hy : y ∈ upInts x.next.length := hy
  obtain ⟨i, hi, rfl⟩ := List.mem_map.1 hy
  have := List.mem_range.1 hi
  constructor
  ·exact Int.natCast_nonneg i
  ·show (i : Int) < _
   omega
 ·show (upInts x.next.length).length ≤ _
  rw [upInts_len]
  omega
def rsK (K : Nat) (d : DfaD) : Option DfaD := if dfaOk d.next d.ends = true then (detQK K (restsN (trimD d))).map minD else none
end Go.Proofs.Ytalbofnhcpjilaa
namespace Go.Proofs.Ytalbofnhcpjilaa
open Go.RowKit Go.Maps
abbrev metP (a b : DfaD) (most : Nat) : List (Int × Int) := (bat (stepP a b) (0, 0) most).met
theorem inPair_zero {a b : DfaD} (hda : dfaOk a.next a.ends = true) (hdb : dfaOk b.next b.ends = true) : inPair a b (0, 0) = true := by
 have h1 := dfaOk_len hda
 have h2 := dfaOk_len hdb
 simp [inPair, inB]
 omega
theorem inPair_step {a b : DfaD} (hda : dfaOk a.next a.ends = true) (hdb : dfaOk b.next b.ends = true) {x : Int × Int} {c : Nat} (hc : c < 3) (hx : inPair a b x = true) : inPair a b (stepP a b x c) = true := by
 obtain ⟨i, j, rfl, hi, hj⟩ := inPair_nat hx
 have h1 := (dfaOk_row hda hi).2 c hc
 have h2 := (dfaOk_row hdb hj).2 c hc
 have e : stepP a b ((i : Int), (j : Int)) c = ((a.next.getD i []).getD c 0, (b.next.getD j []).getD c 0) := rfl
 rw [e]
 simp only [inPair, inB, Bool.and_eq_true, decide_eq_true_eq]
 omega
end Go.Proofs.Ytalbofnhcpjilaa
namespace Go.Proofs.Ytalbofnhcpjilaa
open Go.RowKit
def shJ (n : Nat) (m : Int × Int × Int) : Int × Int × Int := (m.1 + (n : Int), m.2.1, m.2.2 + (n : Int))
def wJoin (a b : DfaD) : NfaD :=
 ⟨((a.next.length + b.next.length : Nat) : Int), mvs a a.next.length ++ (mvs b b.next.length).map (shJ a.next.length) ++ (eds a a.next.length).map (fun e => (e, -1, (a.next.length : Int))), [0], (eds b b.next.length).map (fun e => e + (a.next.length : Int))⟩
def wStar (a : DfaD) : NfaD :=
 ⟨((a.next.length + 1 : Nat) : Int), mvs a a.next.length ++ [((a.next.length : Int), -1, 0)] ++ (eds a a.next.length).map (fun e => (e, -1, (a.next.length : Int))), [(a.next.length : Int)], [(a.next.length : Int)]⟩
def detM (M K : Nat) (n : NfaD) : Option DfaD := if (metSM M n K).length ≤ K then some (numDfa (nxSM M n) (enS n) (metSM M n K)) else none
def pairK (K : Nat) (f : Bool → Bool → Bool) (a b : DfaD) : Option DfaD := if (metP a b K).length ≤ K then some (numDfa (stepP a b) (endsF f a b) (metP a b K)) else none
def noneD : DfaD := ⟨[[0, 0, 0]], [false]⟩
def oneD : DfaD := ⟨[[1, 1, 1], [1, 1, 1]], [true, false]⟩
def ltrD (c : Fin 3) : DfaD := ⟨[[2, 2, 2].set c.val 1, [2, 2, 2], [2, 2, 2]], [false, true, false]⟩
def negD (a : DfaD) : DfaD := ⟨a.next, a.ends.map (fun x => !x)⟩
def compE (K : Nat) : Ex → Option DfaD
 | .zero => some (smallD noneD)
 | .one => some (smallD oneD)
 | .ltr c => some (smallD (ltrD c))
 | .join a b => (compE K a).bind fun x => (compE K b).bind fun y => (detM 81 K (wJoin x y)).map smallD
 | .alt a b => (compE K a).bind fun x => (compE K b).bind fun y => (pairK K (fun p q => p || q) x y).map smallD
 | .both a b => (compE K a).bind fun x => (compE K b).bind fun y => (pairK K (fun p q => p && q) x y).map smallD
 | .neg a => (compE K a).map fun x => smallD (negD x)
 | .star a => (compE K a).bind fun x => (detM 81 K (wStar x)).map smallD
theorem num_ok {α : Type} [DecidableEq α] {nx : α → Nat → α} {a : α} {en : α → Bool} {K : Nat} (hK : K = 40) (h : (bat nx a K).met.length ≤ K) : dfaOk (numDfa nx en (bat nx a K).met).next (numDfa nx en (bat nx a K).met).ends = true := by
 obtain ⟨h1, h2, h3, h4⟩ := fine_num (en := en) (nx := nx) (a := a) h (by omega)
 exact dfaOk_of h1 (by rw [numDfa_len]; omega) h3 fun i hi => h4 i hi
theorem detM_ok {M K : Nat} (hK : K = 40) {n : NfaD} {d : DfaD} (h : detM M K n = some d) : dfaOk d.next d.ends = true := by
 unfold detM at h
 split at h
 ·rename_i hle
  simp only [Option.some.injEq] at h
  subst h
  exact num_ok hK hle
 ·cases h
theorem pairK_ok {K : Nat} (hK : K = 40) {f : Bool → Bool → Bool} {a b d : DfaD} (h : pairK K f a b = some d) : dfaOk d.next d.ends = true := by
 unfold pairK at h
 split at h
 ·rename_i hle
  simp only [Option.some.injEq] at h
  subst h
  exact num_ok hK hle
 ·cases h
theorem small_ok {d : DfaD} (h : dfaOk d.next d.ends = true) : dfaOk (smallD d).next (smallD d).ends = true :=
 (trim_ok (fold_ok (trim_ok h).1)).1
theorem noneD_ok : dfaOk noneD.next noneD.ends = true := by decide
theorem oneD_ok : dfaOk oneD.next oneD.ends = true := by decide
theorem ltrD_ok (c : Fin 3) : dfaOk (ltrD c).next (ltrD c).ends = true := by
 have : c = 0 ∨ c = 1 ∨ c = 2 := by omega
 rcases this with rfl | rfl | rfl <;> decide
theorem negD_ok {d : DfaD} (h : dfaOk d.next d.ends = true) : dfaOk (negD d).next (negD d).ends = true := by
 simp only [dfaOk, Bool.and_eq_true, decide_eq_true_eq] at h ⊢
 exact ⟨h.1, by simpa [negD] using h.2⟩
theorem compE_ok {K : Nat} (hK : K = 40) : ∀ (t : Ex) {d : DfaD}, compE K t = some d → dfaOk d.next d.ends = true := by
 intro t
 cases t with
 | zero => intro d h; simp only [compE, Option.some.injEq] at h; subst h; exact small_ok noneD_ok
 | one => intro d h; simp only [compE, Option.some.injEq] at h; subst h; exact small_ok oneD_ok
 | ltr c => intro d h; simp only [compE, Option.some.injEq] at h; subst h; exact small_ok (ltrD_ok c)
 | join a b =>
  intro d h
  simp only [compE, Option.bind_eq_some_iff, Option.map_eq_some_iff] at h
  obtain ⟨x, -, y, -, z, hz, rfl⟩ := h
  exact small_ok (detM_ok hK hz)
 | alt a b =>
  intro d h
  simp only [compE, Option.bind_eq_some_iff, Option.map_eq_some_iff] at h
  obtain ⟨x, -, y, -, z, hz, rfl⟩ := h
  exact small_ok (pairK_ok hK hz)
 | both a b =>
  intro d h
  simp only [compE, Option.bind_eq_some_iff, Option.map_eq_some_iff] at h
  obtain ⟨x, -, y, -, z, hz, rfl⟩ := h
  exact small_ok (pairK_ok hK hz)
 | neg a =>
  intro d h
  simp only [compE, Option.map_eq_some_iff] at h
  obtain ⟨x, hx, rfl⟩ := h
  exact small_ok (negD_ok (compE_ok hK a hx))
 | star a =>
  intro d h
  simp only [compE, Option.bind_eq_some_iff, Option.map_eq_some_iff] at h
  obtain ⟨x, -, z, hz, rfl⟩ := h
  exact small_ok (detM_ok hK hz)
theorem mvIn_app {m : Nat} {xs ys : List (Int × Int × Int)} (h : mvIn m xs) (h' : mvIn m ys) : mvIn m (xs ++ ys) := fun x hx => by
 rcases List.mem_append.1 hx with hx | hx
 ·exact h x hx
 ·exact h' x hx
theorem wJoin_mv {a b : DfaD} (ha : dfaOk a.next a.ends = true) (hb : dfaOk b.next b.ends = true) : mvIn (a.next.length + b.next.length) (wJoin a b).moves := by
 have h1 := mvs_in ha _ (Nat.le_refl _)
 have h2 := mvs_in hb _ (Nat.le_refl _)
 have hlb := dfaOk_len hb
 refine mvIn_app (mvIn_app (mvIn_M h1 (by omega)) fun x hx => ?_) fun x hx => ?_
 ·obtain ⟨y, hy, rfl⟩ := List.mem_map.1 hx
  have := h2 y hy
  simp only [shJ]
  omega
 ·obtain ⟨y, hy, rfl⟩ := List.mem_map.1 hx
  have := eds_in a _ y hy
  simp only
  omega
theorem wJoin_ends {a b : DfaD} : inN (a.next.length + b.next.length) (wJoin a b).ends := fun x hx => by
 obtain ⟨y, hy, rfl⟩ := List.mem_map.1 hx
 have := eds_in b _ y hy
 omega
theorem wJoin_firsts {a b : DfaD} (ha : dfaOk a.next a.ends = true) : inN (a.next.length + b.next.length) [0] := fun x hx => by
 have hla := dfaOk_len ha
 simp only [List.mem_singleton] at hx
 omega
theorem wStar_mv {a : DfaD} (ha : dfaOk a.next a.ends = true) : mvIn (a.next.length + 1) (wStar a).moves := by
 have h1 := mvs_in ha _ (Nat.le_refl _)
 refine mvIn_app (mvIn_app (mvIn_M h1 (by omega)) fun x hx => ?_) fun x hx => ?_
 ·simp only [List.mem_singleton] at hx
  subst hx
  simp only
  omega
 ·obtain ⟨y, hy, rfl⟩ := List.mem_map.1 hx
  have := eds_in a _ y hy
  simp only
  omega
theorem wStar_ends {a : DfaD} : inN (a.next.length + 1) [(a.next.length : Int)] := fun x hx => by
 simp only [List.mem_singleton] at hx
 omega
structure DfaC (w : World) (d : DfaD) (b1 o1 cv b2 o2 cw : Nat) : Prop where
 l1 : 1 ≤ d.next.length
 l2 : d.next.length ≤ 40
 le : d.ends.length = d.next.length
 c1 : d.next.length ≤ cv ∧ cv ≤ 9223372036854775807
 c2 : d.next.length ≤ cw ∧ cw ≤ 9223372036854775807
 hb1 : b1 < w.heap.size
 hb2 : b2 < w.heap.size
 row : ∀ i, i < d.next.length → ∃ b3 o3 c3, b3 < w.heap.size ∧ 3 ≤ c3 ∧ c3 ≤ 9223372036854775807 ∧ w.cell? ⟨b1, o1 + i, none⟩ = some (.slice (some ⟨b3, o3, none⟩) 3 c3) ∧ ∀ c, c < 3 → w.cell? ⟨b3, o3 + c, none⟩ = some (.int .i64 (nxD d i c : Nat))
 en : ∀ i, i < d.next.length → w.cell? ⟨b2, o2 + i, none⟩ = some (.bool (enD d i))
 lt : ∀ i c, i < d.next.length → c < 3 → nxD d i c < d.next.length
 dx : ∀ i c, i < d.next.length → c < 3 → dnx d (i : Int) c = (nxD d i c : Nat)
theorem dfa_open {d : DfaD} {w : World} {v : Value} (hd : dfaOk d.next d.ends = true) (h : DfaR 0 w v d) : ∃ b1 o1 cv b2 o2 cw, v = .agg #[.slice (some ⟨b1, o1, none⟩) d.next.length cv, .slice (some ⟨b2, o2, none⟩) d.next.length cw] ∧ DfaC w d b1 o1 cv b2 o2 cw := by
 obtain ⟨v1, v2, rfl, q1, q2⟩ := h
 have hf := fine_of hd
 obtain ⟨hl1, hl2, hle⟩ := dfaOk_len hd
 obtain ⟨av, cv, rfl, hc1, hc2, hr1⟩ := q1.formI
 obtain ⟨b1, o1, rfl, -, hb1, hcs1⟩ := hr1 (by omega)
 obtain ⟨av2, cw, rfl, hc3, hc4, hr2⟩ := q2.form
 rw [hle] at hc3 hr2
 obtain ⟨b2, o2, rfl, -, hb2, hcs2⟩ := hr2 (by omega)
 rw [hle]
 refine ⟨b1, o1, cv, b2, o2, cw, rfl, hl1, hl2, hle, ⟨hc1, hc2⟩, ⟨hc3, hc4⟩, hb1, hb2, fun i hi => ?_, fun i hi => hcs2 i hi, fun i c hi hc => (nxD_lt hf hi hc).1, fun i c hi hc => (nxD_lt hf hi hc).2⟩
 obtain ⟨ax, cx, hks, p1, p2, hIs⟩ := hcs1 i hi
 have hr3 := (dfaOk_row hd hi).1
 rw [hr3] at hks hIs p1
 obtain ⟨_, _, hform, -, -, hrs⟩ := hIs.form
 rw [hr3] at hform hrs
 simp only [Value.slice.injEq, true_and] at hform
 obtain ⟨rfl, rfl⟩ := hform
 obtain ⟨b3, o3, rfl, -, hb3, hcs3⟩ := hrs (by omega)
 refine ⟨b3, o3, cx, hb3, p1, p2, hks, fun c hc => ?_⟩
 rw [hcs3 c hc]
 have hyx := (nxD_lt hf hi hc).2
 unfold dnx at hyx
 rw [Int.toNat_natCast] at hyx
 rw [hyx]
def RD (D : DfaD) (w : World) (e : Ending) (w' : World) : Prop := ∃ a1 c1 a2 c2, e = .returned (.agg #[.slice a1 D.next.length c1, .slice a2 D.ends.length c2]) ∧ DfaR w.heap.size w' (.agg #[.slice a1 D.next.length c1, .slice a2 D.ends.length c2]) D ∧ Below w.heap.size w w'
theorem DfaC.below {w w' : World} {d : DfaD} {b1 o1 cv b2 o2 cw : Nat} (h : DfaC w d b1 o1 cv b2 o2 cw) (hb : Below w.heap.size w w') : DfaC w' d b1 o1 cv b2 o2 cw where
 l1 := h.l1
 l2 := h.l2
 le := h.le
 c1 := h.c1
 c2 := h.c2
 hb1 := Nat.lt_of_lt_of_le h.hb1 hb.size
 hb2 := Nat.lt_of_lt_of_le h.hb2 hb.size
 row := fun i hi => by
  obtain ⟨b3, o3, c3, p1, p2, p3, p4, p5⟩ := h.row i hi
  exact ⟨b3, o3, c3, Nat.lt_of_lt_of_le p1 hb.size, p2, p3, (bcell hb b1 _ h.hb1).trans p4, fun c hc => (bcell hb b3 _ p1).trans (p5 c hc)⟩
 en := fun i hi => (bcell hb b2 _ h.hb2).trans (h.en i hi)
 lt := h.lt
 dx := h.dx
def RDo (D : DfaD) (w : World) (e : Ending) (w' : World) : Prop := ∃ a1 c1 a2 c2, e = .returned (.agg #[.slice a1 D.next.length c1, .slice a2 D.ends.length c2]) ∧
 DfaO 48 3 4 w.heap.size w'.heap.size w' (.agg #[.slice a1 D.next.length c1, .slice a2 D.ends.length c2]) D ∧ Below w.heap.size w w'
end Go.Proofs.Ytalbofnhcpjilaa
