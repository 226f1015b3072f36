/-
  The walk over the reference's l20Dfa: an automaton is drawn; it is small.
  Conditions: the reader is among the things that the call owns.
-/
import Derived.Test.YtalbofnhcpjilaaPk23Lm
namespace Go.Proofs.Ytalbofnhcpjilaa
open Go.RowKit
theorem slices_one {w : World} {v1 v2 : Value} {vs : List Value} {D : DfaD} (h : Sl 0 w v1 D.next.length 1 vs ∧ (∀ i, i < D.next.length → Ints 0 w (vs.getD i undef) (D.next.getD i [])) ∧ Bools 0 w v2 D.ends) : ∀ u ∈ vs.drop 1, u.oneCell' = true := fun u hu => by
 have hu := List.mem_of_mem_drop hu
 obtain ⟨i, hi, rfl⟩ := List.getElem_of_mem hu
 have hl := h.1.1
 obtain ⟨a, c, hv, -⟩ := (h.2.1 i (by omega)).form
 rw [getD_at hi] at hv
 rw [hv]
 rfl
theorem small_head {D : DfaD} (h : SmallD D) (_ : 0 < D.next.length) {row : List Int} (hr : row.length ≤ 3) : SmallD ⟨row :: D.next.drop 1, D.ends⟩ :=
 ⟨by have := h.n; simp; omega, h.e, fun x hx => by
  rcases List.mem_cons.1 hx with rfl | hx
  ·exact hr
  ·exact h.r x (List.mem_of_mem_drop hx)⟩
set_option maxRecDepth 100000 in
set_option maxHeartbeats 16000000 in
theorem l20Dfa_any (bs : List Nat) (vb : Value) (b p nn : Nat) (w0 w : World) (X : Ent) (hb : Bytes 0 w0 vb bs) (hlen : bs.length ≤ 2000) (hp : p ≤ 100000) (hnn : nn ≤ 10000) (hS : St w0 w [RdE b vb p, X]) :
  Calls Try.prog 58 #[.pointer (some ⟨b, 0, none⟩), .int .i64 ((nn : Nat) : Int)] w fun e w' => ∃ (D : DfaD) (p' : Nat) (a1 a2 : Option Addr) (c1 c2 : Nat) (vs : List Value) (E : Ent), p' ≤ p + 1000 ∧ SmallD D ∧
   e = .returned (.agg #[.slice a1 D.next.length c1, .slice a2 D.ends.length c2]) ∧ DfaH E (.slice a1 D.next.length c1) (.slice a2 D.ends.length c2) vs D ∧ St w0 w' [RdE b vb p', X, E] := by
 have Hb := Lib.hid hb
 have HS1 := Lib.hid ((hS.alloc w.heap.size rfl #[.slice none 0 0, .slice none 0 0] 27).alloc (w.heap.size + 1) (by simp) #[.slice none 0 0, .slice none 0 0] 27)
 obtain ⟨i0, hi, hz0, hz1, hz2⟩ := info_parts Try.infoInts
 obtain ⟨j0, hj, hy0, hy1, hy2⟩ := info_parts Try.infoInt
 obtain ⟨kb0, hk, hx0, hx1, hx2⟩ := info_parts Try.infoBool
 have Hhi := Lib.hid hi; clear hi
 have Hhz0 := Lib.hid hz0; clear hz0
 have Hhz1 := Lib.hid hz1; clear hz1
 have Hhz2 := Lib.hid hz2; clear hz2
 have Hhj := Lib.hid hj; clear hj
 have Hhy0 := Lib.hid hy0; clear hy0
 have Hhy1 := Lib.hid hy1; clear hy1
 have Hhy2 := Lib.hid hy2; clear hy2
 have Hhk := Lib.hid hk; clear hk
 have Hhx0 := Lib.hid hx0; clear hx0
 have Hhx1 := Lib.hid hx1; clear hx1
 have Hhx2 := Lib.hid hx2; clear hx2
 clear hb hS
 go_enter Try.func58, Try.ntmps58
 go_wp2_with fail
 refine (pick_any bs vb b (p) 7 w0 _ _ Hb.out hlen (by omega) (by omega) (by omega) (St.pack (A := [RdE b vb (p)]) (R := [X, Ent.box w.heap.size #[.slice none 0 0, .slice none 0 0] 27, Ent.box (w.heap.size + 1) #[.slice none 0 0, .slice none 0 0] 27]) HS1.out)).mono ?_
 rintro e w1 ⟨k0, hk0, rfl, hSp⟩
 have HS2 := Lib.hid (St.unpack (A := [RdE b vb (p)]) (A' := [RdE b vb (p + 1)]) (R := [X, Ent.box w.heap.size #[.slice none 0 0, .slice none 0 0] 27, Ent.box (w.heap.size + 1) #[.slice none 0 0, .slice none 0 0] 27]) HS1.out hSp)
 clear hSp
 obtain ⟨S, hSS⟩ : ∃ S, S = k0 + 1 := ⟨_, rfl⟩
 have hSI : (1 : Int) + (k0 : Int) = (S : Int) := by omega
 have hS6 : S ≤ 7 := by omega
 have hS1 : 1 ≤ S := by omega
 have HS3 := Lib.hid (((HS2.out.nilRow 48 1).norows 4 rfl 3).nilRow 4 1)
 have HhSS := Lib.hid hSS; clear hSS
 go_wp2
 go_loopw [7] (fun vi wr => ∃ (k pq c1 c2 : Nat) (a1 a2 : Option Addr) (vs : List Value) (xss : List (List Int)) (bl : List Bool), vi = .int .i64 k ∧ k ≤ S ∧ pq ≤ p + 1 + 4 * k ∧ xss.length = k ∧ bl.length = k ∧ (∀ x ∈ xss, x.length ≤ 3) ∧ St w0 wr [RdE b vb pq, X, Ent.box w.heap.size #[.slice none 0 0, .slice none 0 0] 27, Ent.box (w.heap.size + 1) #[(.slice a1 k c1), (.slice a2 k c2)] 27, Ent.rows 48 3 (.slice a1 k c1) vs (xss.map intCells), Ent.row 4 1 (.slice a2 k c2) k (boolCells bl)]) (fun vi _ => S - (intOf vi).toNat)
 case atStart => exact ⟨0, p + 1, 0, 0, none, none, [], [], [], rfl, Nat.zero_le _, by omega, rfl, rfl, fun x hx => by simp at hx, HS3.out⟩
 case round =>
  obtain ⟨k, pq, c1, c2, a1, a2, vs, xss, bl, rfl, hk, hpq, hxl, hbl, hrl, hS⟩ := hrel
  obtain ⟨wo, hwo⟩ : ∃ wo : World, wo = wr := ⟨_, rfl⟩
  subst hwo
  have Hxl := Lib.hid hxl
  have Hbl := Lib.hid hbl
  have Hrl := Lib.hid hrl
  by_cases hlt : k < S
  ·have hltI : (k : Int) < S := by omega
   have HSe := Lib.hid ((hS.alloc wo.heap.size rfl #[] 3).boxrow 6 0 1 [] rfl rfl (Nat.zero_le _))
   clear hS hxl hbl hrl
   go_wp2
   go_loopw [8, 9] (fun rv vi wi => ∃ (c pr b5 cap : Nat) (L : List Int), vi = .int .i64 c ∧ rv = .slice (some ⟨b5, 0, none⟩) c cap ∧ c ≤ 3 ∧ pr ≤ pq + c ∧ L.length = c ∧ St w0 wi [RdE b vb pr, X, Ent.box w.heap.size #[.slice none 0 0, .slice none 0 0] 27, Ent.box (w.heap.size + 1) #[(.slice a1 k c1), (.slice a2 k c2)] 27, Ent.rows 48 3 (.slice a1 k c1) vs (xss.map intCells), Ent.row 4 1 (.slice a2 k c2) k (boolCells bl), Ent.row 3 1 (.slice (some ⟨b5, 0, none⟩) c cap) c (intCells L)]) (fun _ vi _ => 3 - (intOf vi).toNat)
   case atStart => exact ⟨0, pq, _, _, [], rfl, rfl, by omega, by omega, rfl, HSe.out⟩
   case round =>
    obtain ⟨c, pr, b5, cap, L, rfl, rfl, hc3, hpr, hLl, hSi⟩ := hrel
    have HSi := Lib.hid hSi
    have HLl := Lib.hid hLl
    clear hSi hLl
    by_cases hc : c < 3
    ·have hcI : (c : Int) < 3 := by omega
     go_wp2_with fail
     refine (pick_any bs vb b (pr) S w0 _ _ Hb.out hlen (by omega) (by omega) (by omega) (St.pack (A := [RdE b vb (pr)]) (R := [X, Ent.box w.heap.size #[.slice none 0 0, .slice none 0 0] 27, Ent.box (w.heap.size + 1) #[(.slice a1 k c1), (.slice a2 k c2)] 27, Ent.rows 48 3 (.slice a1 k c1) vs (xss.map intCells), Ent.row 4 1 (.slice a2 k c2) k (boolCells bl), Ent.row 3 1 (.slice (some ⟨b5, 0, none⟩) c cap) c (intCells L)]) HSi.out)).mono ?_
     rintro e wk ⟨k1, hk1, rfl, hSp⟩
     have HSk := Lib.hid (St.unpack (A := [RdE b vb (pr)]) (A' := [RdE b vb (pr + 1)]) (R := [X, Ent.box w.heap.size #[.slice none 0 0, .slice none 0 0] 27, Ent.box (w.heap.size + 1) #[(.slice a1 k c1), (.slice a2 k c2)] 27, Ent.rows 48 3 (.slice a1 k c1) vs (xss.map intCells), Ent.row 4 1 (.slice a2 k c2) k (boolCells bl), Ent.row 3 1 (.slice (some ⟨b5, 0, none⟩) c cap) c (intCells L)]) HSi.out hSp)
     clear hSp
     have hSa := HSk.out.alloc_ (.cells #[.int .i64 ((k1 : Nat) : Int)] 3)
     have HRa := Lib.hid (hSa.row 6 rfl)
     have HSa := Lib.hid hSa
     clear hSa
     go_wp2_with (at_builtin; refine wpList_append_lies _ rfl _ _ _ rfl _ 3 j0 (.int .i64 0) 1 8 Try.underlying48 Hhj.out Hhy0.out Hhy1.out Hhy2.out rfl (by omega) _ c _ rfl HRa.out ⟨wk.heap.size, 0, none⟩ 1 1 [.int .i64 ((k1 : Nat) : Int)] rfl rfl (World.news_of_block (heap_alloc_new wk _)) one_int (by omega) (by unfold maxLen; omega) (by omega) HSa.out.size _ rfl ?_; intro g6 c6 w6 hown6 hgrow6 hat6 hlt6; have HS6 := Lib.hid (HSa.out.app 6 rfl hown6 hgrow6 hat6); clear hown6 hgrow6 hat6 hlt6)
     go_roundw
     case rel =>
      refine ⟨c + 1, pr + 1, g6, c6, L ++ [((k1 : Nat) : Int)], by go_num, rfl, by omega, by omega, by rw [List.length_append, HLl.out]; rfl, ?_⟩
      rw [intCells_snoc]
      exact HS6.out
     case measure => simp [intOf]; omega
    ·obtain rfl : c = 3 := by omega
     have e4 := HSi.out.cell (v := .slice a1 k c1) 3 0 rfl rfl
     have hlm2 : (xss.map intCells).length = k := by rw [List.length_map, Hxl.out]
     have hSa := HSi.out.alloc_ (.cells #[.slice (some ⟨b5, 0, none⟩) 3 cap] 48)
     have hR := (hSa.rows 4 rfl).1
     rw [hlm2] at hR
     have HSa := Lib.hid hSa
     have HRa := Lib.hid hR
     have Hhlm2 := Lib.hid hlm2; clear hlm2
     clear hSa hR
     go_wp2_with (at_builtin; refine wpList_append_lies _ rfl _ _ _ rfl _ 48 i0 (.slice none 0 0) 1 24 Try.underlying24 Hhi.out Hhz0.out Hhz1.out Hhz2.out rfl (by omega) _ k _ rfl HRa.out ⟨wr.heap.size, 0, none⟩ 1 1 [.slice (some ⟨b5, 0, none⟩) 3 cap] rfl rfl (World.news_of_block (heap_alloc_new wr _)) one_slice (by omega) (by unfold maxLen; omega) (by omega) HSa.out.size _ rfl ?_; intro g6 c6 w6 hown6 hgrow6 hat6 hlt6; have HS6 := Lib.hid (HSa.out.snoc 4 6 (by decide) rfl rfl (by decide) hgrow6 (by rw [Hhlm2.out]; exact hown6) (hat_of hat6)); have f4 := HS6.out.fr 3 0 rfl; have k4 := HS6.out.cell (v := .slice a1 k c1) 3 0 rfl rfl; clear hown6 hgrow6 hat6 hlt6)
     obtain ⟨vs6, hvs6⟩ : ∃ z, z = vs ++ [.slice (some ⟨b5, 0, none⟩) 3 cap] := ⟨_, rfl⟩
     have hm6 : (xss ++ [L]).map intCells = xss.map intCells ++ [intCells L] := by simp
     have hS7 : St w0 _ [RdE b vb pr, X, Ent.box w.heap.size #[.slice none 0 0, .slice none 0 0] 27, Ent.box (w.heap.size + 1) #[.slice (some ⟨g6, 0, none⟩) (k + 1) c6, .slice a2 k c2] 27, Ent.rows 48 3 (.slice (some ⟨g6, 0, none⟩) (k + 1) c6) (vs ++ [.slice (some ⟨b5, 0, none⟩) 3 cap]) (xss.map intCells ++ [intCells L]), Ent.row 4 1 (.slice a2 k c2) k (boolCells bl)] := (HS6.out.set 3 rfl 0 (.slice (some ⟨g6, 0, none⟩) (k + 1) c6)).pick [0, 1, 2, 3, 4, 5] (by decide)
     rw [← hm6, ← hvs6] at hS7
     have HSq := Lib.hid hS7
     clear hm6
     have Hhvs6 := Lib.hid hvs6; clear hvs6
     clear hS7 e4 f4 k4
     refine wp_region_any (by kernel_rfl) ?_
     refine wpAny_invA (fun A listed a w' => ∃ (l0 l1 l2 l3 l4 l5 l6 l7 l8 : Bool) (g7 : Nat) (c7 : Nat) (bn : Nat) (k1 : Nat), listed = #[l0, l1, l2, l3, l4, l5, l6, l7, l8] ∧ (l4 = true → l3 = true) ∧ (l5 = true → l4 = true ∧ l3 = true) ∧ (l6 = true → l1 = true ∧ l5 = true) ∧ (l8 = true → l6 = true ∧ l1 = true) ∧
       a = ⟨((((((((A.tmps.setIfInBounds 38 (if l0 = true then .pointer (some ⟨(w.heap.size + 1), 1, none⟩) else A.tmps.getD 38 undef)).setIfInBounds 39 (if l1 = true then .slice a2 k c2 else A.tmps.getD 39 undef)).setIfInBounds 40 (if l2 = true then .pointer (some ⟨b, 0, none⟩) else A.tmps.getD 40 undef)).setIfInBounds 41 (if l3 = true then .int .i64 ((k1 : Nat) : Int) else A.tmps.getD 41 undef)).setIfInBounds 42 (if l4 = true then .bool (((k1 : Nat) : Int) == 0) else A.tmps.getD 42 undef)).setIfInBounds 43 (if l5 = true then .slice (some ⟨bn, 0, none⟩) 1 1 else A.tmps.getD 43 undef)).setIfInBounds 44 (if l6 = true then .slice (some ⟨g7, 0, none⟩) (k + 1) c7 else A.tmps.getD 44 undef)).setIfInBounds 45 (if l7 = true then .pointer (some ⟨(w.heap.size + 1), 1, none⟩) else A.tmps.getD 45 undef)), A.defers⟩ ∧
       St w0 w' [RdE b vb (if l3 = true then pr + 1 else pr), X, Ent.box w.heap.size #[.slice none 0 0, .slice none 0 0] 27, Ent.box (w.heap.size + 1) #[.slice (some ⟨g6, 0, none⟩) (k + 1) c6, (if l8 = true then .slice (some ⟨g7, 0, none⟩) (k + 1) c7 else .slice a2 k c2)] 27, Ent.rows 48 3 (.slice (some ⟨g6, 0, none⟩) (k + 1) c6) vs6 ((xss ++ [L]).map intCells), (if l6 = true then Ent.row 4 1 (.slice (some ⟨g7, 0, none⟩) (k + 1) c7) (k + 1) (boolCells bl ++ [.bool (((k1 : Nat) : Int) == 0)]) else Ent.row 4 1 (.slice a2 k c2) k (boolCells bl)), (if l5 = true then Ent.box bn #[.bool (((k1 : Nat) : Int) == 0)] 4 else Ent.nil)]) ?_ ?_ ?_
     ·rintro listed a w' ⟨l0, l1, l2, l3, l4, l5, l6, l7, l8, g7, c7, bn, k1, rfl, hd4, hd5, hd6, hd8, rfl, hS⟩ i hi
      obtain ⟨hun, o, ho, hall⟩ := mem_ready.1 hi
      have hlt := (Array.getElem?_eq_some_iff.1 ho).1
      refine wpOp_step ho (fun K hK => ?_)
      clear hi
      have HS := Lib.hid hS
      clear hS
      simp only [List.setIfInBounds_toArray, List.set_cons_zero, List.set_cons_succ, Array.getD_eq_getD_getElem?, List.getElem?_toArray, List.getElem?_cons_zero, List.getElem?_cons_succ, Option.getD_some]
      obtain h | h | h | h | h | h | h | h | h : i = 0 ∨ i = 1 ∨ i = 2 ∨ i = 3 ∨ i = 4 ∨ i = 5 ∨ i = 6 ∨ i = 7 ∨ i = 8 := by simp at hlt; omega
      all_goals subst h
      all_goals simp only [List.getElem?_toArray, List.getElem?_cons_zero, List.getElem?_cons_succ, Option.some.injEq] at ho
      all_goals subst ho
      all_goals simp [Region.binds] at hun hall
      ·subst hun
       go_simp
       exact hK _ _ ⟨true, l1, l2, l3, l4, l5, l6, l7, l8, g7, c7, bn, k1, rfl, hd4, hd5, hd6, hd8, (by simp), HS.out⟩
      ·obtain rfl := hall
       subst hun
       obtain rfl : l6 = false := offL hd6 rfl
       obtain rfl : l8 = false := offL hd8 rfl
       have e0 := HS.out.cell (v := .slice a2 k c2) 3 1 rfl rfl
       go_simp
       exact hK _ _ ⟨true, true, l2, l3, l4, l5, false, l7, false, g7, c7, bn, k1, rfl, hd4, hd5, by simp, by simp, (by simp), HS.out⟩
      ·subst hun
       go_simp
       exact hK _ _ ⟨l0, l1, true, l3, l4, l5, l6, l7, l8, g7, c7, bn, k1, rfl, hd4, hd5, hd6, hd8, (by simp), HS.out⟩
      ·obtain rfl := hall
       subst hun
       obtain rfl : l4 = false := by cases l4 with | false => rfl | true => simpa using hd4 rfl
       obtain rfl : l5 = false := offL hd5 rfl
       obtain rfl : l6 = false := offR hd6 rfl
       obtain rfl : l8 = false := offL hd8 rfl
       go_simp
       go_at_call 103
       refine (pick_any bs vb b (pr) 3 w0 _ _ Hb.out hlen (by omega) (by omega) (by omega) (St.pack (A := [RdE b vb (pr)]) (R := [X, Ent.box w.heap.size #[.slice none 0 0, .slice none 0 0] 27, Ent.box (w.heap.size + 1) #[.slice (some ⟨g6, 0, none⟩) (k + 1) c6, .slice a2 k c2] 27, Ent.rows 48 3 (.slice (some ⟨g6, 0, none⟩) (k + 1) c6) vs6 ((xss ++ [L]).map intCells), Ent.row 4 1 (.slice a2 k c2) k (boolCells bl), Ent.nil]) HS.out)).mono ?_
       rintro e u1 ⟨k9, hk9, rfl, hSp⟩
       have hS2 := St.unpack (A := [RdE b vb (pr)]) (A' := [RdE b vb (pr + 1)]) (R := [X, Ent.box w.heap.size #[.slice none 0 0, .slice none 0 0] 27, Ent.box (w.heap.size + 1) #[.slice (some ⟨g6, 0, none⟩) (k + 1) c6, .slice a2 k c2] 27, Ent.rows 48 3 (.slice (some ⟨g6, 0, none⟩) (k + 1) c6) vs6 ((xss ++ [L]).map intCells), Ent.row 4 1 (.slice a2 k c2) k (boolCells bl), Ent.nil]) HS.out hSp
       have HhS2 := Lib.hid hS2; clear hS2
       go_simp
       exact hK _ _ ⟨l0, l1, true, true, false, false, false, l7, false, g7, c7, bn, k9, rfl, by simp, by simp, by simp, by simp, (by simp), HhS2.out⟩
      ·obtain rfl := hall
       subst hun
       obtain rfl : l5 = false := offL hd5 rfl
       obtain rfl : l6 = false := offR hd6 rfl
       obtain rfl : l8 = false := offL hd8 rfl
       go_simp
       exact hK _ _ ⟨l0, l1, l2, true, true, false, false, l7, false, g7, c7, bn, k1, rfl, by simp, by simp, by simp, by simp, (by simp), HS.out⟩
      ·obtain rfl := hall
       subst hun
       obtain rfl := hd4 rfl
       obtain rfl : l6 = false := offR hd6 rfl
       obtain rfl : l8 = false := offL hd8 rfl
       have hS2 := (HS.out.alloc _ rfl #[.bool (((k1 : Nat) : Int) == 0)] 4).pick [0, 1, 2, 3, 4, 5, 7] (by decide)
       have HhS2 := Lib.hid hS2; clear hS2
       go_simp
       exact hK _ _ ⟨l0, l1, l2, true, true, true, false, l7, false, g7, c7, _, k1, rfl, by simp, by simp, by simp, by simp, (by simp), HhS2.out⟩
      ·obtain ⟨rfl, rfl, rfl⟩ := hall
       subst hun
       obtain ⟨rfl, -⟩ := hd5 rfl
       obtain rfl : l8 = false := offL hd8 rfl
       refine step_append_lies (a := ⟨_, _⟩) _ (by rfl) _ _ _ (by rfl) w0.heap.size 4 kb0 (.bool false) 1 1 Try.underlying25 Hhk.out Hhx0.out Hhx1.out Hhx2.out (by rfl) (by omega) (.slice a2 k c2) k (boolCells bl) (by rfl) (HS.out.row 5 rfl) ⟨bn, 0, none⟩ 1 1 [.bool (((k1 : Nat) : Int) == 0)] (by rfl) (by rfl) (World.news_of_block (HS.out.box 6 rfl)) one_bool (by omega) (by unfold maxLen; omega) (by omega) HS.out.size _ rfl ?_
       intro g8 c8 w8 hown8 hgrow8 hat8 hlt8
       have HS8 := Lib.hid (HS.out.app 5 rfl hown8 hgrow8 hat8)
       clear hown8 hgrow8 hat8
       go_simp
       exact hK _ _ ⟨l0, true, l2, true, true, true, true, l7, false, g8, c8, bn, k1, rfl, by simp, by simp, by simp, by simp, (by simp), HS8.out⟩
      ·obtain ⟨rfl, rfl, rfl, rfl, rfl, rfl, rfl⟩ := hall
       subst hun
       go_simp
       exact hK _ _ ⟨true, true, true, true, true, true, true, true, l8, g7, c7, bn, k1, rfl, by simp, by simp, by simp, hd8, (by simp only [↓reduceIte, List.setIfInBounds_toArray, List.set_cons_zero, List.set_cons_succ]), HS.out⟩
      ·obtain ⟨rfl, rfl, rfl, rfl, rfl, rfl, rfl, rfl, -⟩ := hall
       subst hun
       have f0 := HS.out.fr 3 1 rfl
       have k0q := HS.out.cell (v := .slice a2 k c2) 3 1 rfl rfl
       go_simp
       exact hK _ _ ⟨true, true, true, true, true, true, true, true, true, g7, c7, bn, k1, rfl, by simp, by simp, by simp, by simp, (by simp only [↓reduceIte, List.setIfInBounds_toArray, List.set_cons_zero, List.set_cons_succ]), (HS.out.set 3 rfl 1 (.slice (some ⟨g7, 0, none⟩) (k + 1) c7))⟩
     ·rintro listed a w' ⟨l0, l1, l2, l3, l4, l5, l6, l7, l8, g7, c7, bn, k1, rfl, hd4, hd5, hd6, hd8, rfl, hS⟩ hr
      have hall := ready_nil (by kernel_rfl) rfl hr
      obtain rfl : l0 = true := by simpa using hall 0 (by simp)
      obtain rfl : l1 = true := by simpa using hall 1 (by simp)
      obtain rfl : l2 = true := by simpa using hall 2 (by simp)
      obtain rfl : l3 = true := by simpa using hall 3 (by simp)
      obtain rfl : l4 = true := by simpa using hall 4 (by simp)
      obtain rfl : l5 = true := by simpa using hall 5 (by simp)
      obtain rfl : l6 = true := by simpa using hall 6 (by simp)
      obtain rfl : l7 = true := by simpa using hall 7 (by simp)
      obtain rfl : l8 = true := by simpa using hall 8 (by simp)
      clear hall hr hd4 hd5 hd6 hd8
      simp only [↓reduceIte] at hS ⊢
      simp only [List.setIfInBounds_toArray, List.set_cons_zero, List.set_cons_succ]
      have HS9 := Lib.hid (hS.pick [0, 1, 2, 3, 4, 5] (by decide))
      clear hS
      go_wp2
      go_roundw
      case rel =>
       refine ⟨k + 1, pr + 1, c6, c7, some ⟨g6, 0, none⟩, some ⟨g7, 0, none⟩, vs6, xss ++ [L], bl ++ [((k1 : Nat) : Int) == 0], by go_num, by omega, by omega, by rw [List.length_append, Hxl.out]; rfl, by rw [List.length_append, Hbl.out]; rfl, fun x hx => by
        rcases List.mem_append.1 hx with hx | hx
        ·exact Hrl.out x hx
        ·rw [List.mem_singleton.1 hx, HLl.out]
         omega, ?_⟩
       rw [boolCells_snoc]
       exact HS9.out
      case measure => simp [intOf]; omega
     ·refine ⟨false, false, false, false, false, false, false, false, false, 0, 0, 0, 0, rfl, by simp, by simp, by simp, by simp, (by simp), ?_⟩
      exact HSq.out.drew.pick [0, 1, 2, 3, 4, 5, 6] (by decide)
  ·obtain rfl : k = S := by omega
   obtain ⟨D, hDn, hDe⟩ : ∃ D : DfaD, D.next = xss ∧ D.ends = bl := ⟨⟨xss, bl⟩, rfl, rfl⟩
   subst hDn
   subst hDe
   obtain ⟨d1, rfl⟩ : ∃ z, z = a1 := ⟨_, rfl⟩
   obtain ⟨d2, rfl⟩ : ∃ z, z = a2 := ⟨_, rfl⟩
   obtain ⟨e1, rfl⟩ : ∃ z, z = c1 := ⟨_, rfl⟩
   obtain ⟨e2, rfl⟩ : ∃ z, z = c2 := ⟨_, rfl⟩
   obtain ⟨vsD, rfl⟩ : ∃ z, z = vs := ⟨_, rfl⟩
   have hD1 : 0 < D.next.length := by omega
   have hD2 : 0 < D.ends.length := by omega
   have hsm : SmallD D := ⟨by omega, by omega, hrl⟩
   have HSm := Lib.hid hsm
   clear hsm
   have hS4 : St w0 wo ([RdE b vb pq, X, Ent.box w.heap.size #[.slice none 0 0, .slice none 0 0] 27, Ent.box (w.heap.size + 1) #[.slice d1 D.next.length e1, .slice d2 D.ends.length e2] 27] ++ [Ent.rows 48 3 (.slice d1 D.next.length e1) vsD (D.next.map intCells), Ent.row 4 1 (.slice d2 D.ends.length e2) D.ends.length (boolCells D.ends)]) := by
    rw [hxl, hbl]
    exact hS
   have hS5 := St.pack hS4
   have hh := dfaH_rows 48 3 4 (.slice d1 D.next.length e1) (.slice d2 D.ends.length e2) vsD D
   obtain ⟨E, hE⟩ : ∃ E, E = Ent.all [Ent.rows 48 3 (.slice d1 D.next.length e1) vsD (D.next.map intCells), Ent.row 4 1 (.slice d2 D.ends.length e2) D.ends.length (boolCells D.ends)] := ⟨_, rfl⟩
   rw [← hE] at hS5 hh
   have HS5 := Lib.hid hS5
   have Hh := Lib.hid hh
   have hpq' : pq ≤ p + 29 := by omega
   have HhE := Lib.hid hE; clear hE
   clear hS hS4 hS5 hh hxl hbl hrl hpq Hxl Hbl Hrl
   go_wp2_with fail
   refine (odd_any bs vb b pq 3 w0 _ _ Hb.out hlen (by omega) (by omega) (St.pack (A := [RdE b vb pq]) (R := [X, Ent.box w.heap.size #[.slice none 0 0, .slice none 0 0] 27, Ent.box (w.heap.size + 1) #[.slice d1 D.next.length e1, .slice d2 D.ends.length e2] 27, E]) HS5.out)).mono ?_
   rintro e w2 ⟨q3, pr, hpr, rfl, hSp⟩
   have HS6 := Lib.hid (St.unpack (A := [RdE b vb pq]) (A' := [RdE b vb pr]) (R := [X, Ent.box w.heap.size #[.slice none 0 0, .slice none 0 0] 27, Ent.box (w.heap.size + 1) #[.slice d1 D.next.length e1, .slice d2 D.ends.length e2] 27, E]) HS5.out hSp)
   clear hSp
   go_upto_if 47 with fail
   go_cut [] from 46 (fun wc => ∃ (D : DfaD) (d1 d2 : Option Addr) (e1 e2 : Nat) (vsD : List Value) (E : Ent) (po : Nat), po ≤ p + 200 ∧ SmallD D ∧ DfaH E (.slice d1 D.next.length e1) (.slice d2 D.ends.length e2) vsD D ∧ 0 < D.next.length ∧ 0 < D.ends.length ∧ St w0 wc [RdE b vb po, X, Ent.box w.heap.size #[.slice none 0 0, .slice none 0 0] 27, Ent.box (w.heap.size + 1) #[.slice d1 D.next.length e1, .slice d2 D.ends.length e2] 27, E])
   case rest =>
    obtain ⟨D, d1, d2, e1, e2, vsD, E, po, hpo, hsm, hh, hD1, hD2, hSc⟩ := hcut
    have HSm := Lib.hid hsm
    have Hh := Lib.hid hh
    have HSc := Lib.hid hSc
    clear hsm hh hSc HS5 HS6
    go_wp2_with fail
    refine (odd_any bs vb b po nn w0 _ _ Hb.out hlen (by omega) hnn (St.pack (A := [RdE b vb po]) (R := [X, Ent.box w.heap.size #[.slice none 0 0, .slice none 0 0] 27, Ent.box (w.heap.size + 1) #[.slice d1 D.next.length e1, .slice d2 D.ends.length e2] 27, E]) HSc.out)).mono ?_
    rintro e wo ⟨qo, pz, hpz, rfl, hSp⟩
    have HSo := Lib.hid (St.unpack (A := [RdE b vb po]) (A' := [RdE b vb pz]) (R := [X, Ent.box w.heap.size #[.slice none 0 0, .slice none 0 0] 27, Ent.box (w.heap.size + 1) #[.slice d1 D.next.length e1, .slice d2 D.ends.length e2] 27, E]) HSc.out hSp)
    clear hSp
    cases qo
    ·have HSr2 := HSo
     have t0 := HSr2.out.cell (v := .slice d1 D.next.length e1) 3 0 rfl rfl
     have t1 := HSr2.out.cell (v := .slice d2 D.ends.length e2) 3 1 rfl rfl
     have f0 := HSr2.out.fr 2 0 rfl
     have f1 := HSr2.out.fr 2 1 rfl
     have k0q := HSr2.out.cell (v := .slice none 0 0) 2 0 rfl rfl
     have k1q := HSr2.out.cell (v := .slice none 0 0) 2 1 rfl rfl
     go_wp2
     have hq := (HSr2.out.set 2 rfl 0 (.slice d1 D.next.length e1)).set 2 rfl 1 (.slice d2 D.ends.length e2)
     have q0 := hq.cell (v := .slice d1 D.next.length e1) 2 0 rfl rfl
     have q1 := hq.cell (v := .slice d2 D.ends.length e2) 2 1 rfl rfl
     refine bodyPost_ret (v := .agg #[.slice d1 D.next.length e1, .slice d2 D.ends.length e2]) (by simp [results, Try.results58, go_sem, q0, q1]) rfl ?_
     exact ⟨D, pz, d1, d2, e1, e2, vsD, E, by omega, HSm.out, rfl, Hh.out, hq.pick [0, 1, 4] (by decide)⟩
    ·go_wp2_with fail
     refine (pick_any bs vb b (pz) 4 w0 _ _ Hb.out hlen (by omega) (by omega) (by omega) (St.pack (A := [RdE b vb (pz)]) (R := [X, Ent.box w.heap.size #[.slice none 0 0, .slice none 0 0] 27, Ent.box (w.heap.size + 1) #[.slice d1 D.next.length e1, .slice d2 D.ends.length e2] 27, E]) HSo.out)).mono ?_
     rintro e wk ⟨k4, hk4, rfl, hSp⟩
     have HSk := Lib.hid (St.unpack (A := [RdE b vb (pz)]) (A' := [RdE b vb (pz + 1)]) (R := [X, Ent.box w.heap.size #[.slice none 0 0, .slice none 0 0] 27, Ent.box (w.heap.size + 1) #[.slice d1 D.next.length e1, .slice d2 D.ends.length e2] 27, E]) HSo.out hSp)
     clear hSp
     obtain h40 | h41 | h42 | h43 : (k4 : Int) = 0 ∨ (k4 : Int) = 1 ∨ (k4 : Int) = 2 ∨ (k4 : Int) = 3 := by omega
     ·obtain ⟨z0a, z0b, z0c⟩ := yes_eqI h40
      obtain ⟨z1a, z1b, z1c, z1d⟩ := not_eqI (show (k4 : Int) ≠ 1 by omega)
      obtain ⟨z2a, z2b, z2c, z2d⟩ := not_eqI (show (k4 : Int) ≠ 2 by omega)
      clear h40
      obtain ⟨g1, g2, g3⟩ := Hh.out.at HSk.out 4 rfl
      obtain ⟨_, cz, hv, hz1, hz2, hrd⟩ := g3.form
      simp only [Value.slice.injEq, true_and] at hv
      obtain ⟨rfl, rfl⟩ := hv
      obtain ⟨y2, o2, rfl, -, -, -⟩ := hrd hD2
      have hI1 : (1 : Int) ≤ D.ends.length := by omega
      have hI2 : (D.ends.length : Int) ≤ e2 := by omega
      have hI3 : (1 : Int) ≤ e2 := by omega
      clear g1 g2 g3 hrd
      have c0a := HSk.out.cell (v := .slice d1 D.next.length e1) 3 0 rfl rfl
      have f2 := HSk.out.fr 3 1 rfl
      have hln : (D.ends.drop 1).length = D.ends.length - 1 := by simp
      by_cases he : e2 = 1
      ·subst he
       have c0 := HSk.out.cell (v := .slice (some ⟨y2, o2, none⟩) D.ends.length 1) 3 1 rfl rfl
       have hS5 := (HSk.out.set 3 rfl 1 (.slice (some ⟨y2, o2, none⟩) 0 0))
       have Hh2 := Lib.hid (Hh.out.noE (a := some ⟨y2, o2, none⟩))
       have HSr2 := Lib.hid hS5
       have t0 := HSr2.out.cell (v := .slice d1 D.next.length e1) 3 0 rfl rfl
       have t1 := HSr2.out.cell (v := .slice (some ⟨y2, o2, none⟩) 0 0) 3 1 rfl rfl
       have f0 := HSr2.out.fr 2 0 rfl
       have f1 := HSr2.out.fr 2 1 rfl
       have k0q := HSr2.out.cell (v := .slice none 0 0) 2 0 rfl rfl
       have k1q := HSr2.out.cell (v := .slice none 0 0) 2 1 rfl rfl
       go_wp2
       have hq := (HSr2.out.set 2 rfl 0 (.slice d1 D.next.length e1)).set 2 rfl 1 (.slice (some ⟨y2, o2, none⟩) 0 0)
       have q0 := hq.cell (v := .slice d1 D.next.length e1) 2 0 rfl rfl
       have q1 := hq.cell (v := .slice (some ⟨y2, o2, none⟩) 0 0) 2 1 rfl rfl
       refine bodyPost_ret (v := .agg #[.slice d1 D.next.length e1, .slice (some ⟨y2, o2, none⟩) 0 0]) (by simp [results, Try.results58, go_sem, q0, q1]) rfl ?_
       refine ⟨⟨D.next, []⟩, pz + 1, d1, some ⟨y2, o2, none⟩, e1, 0, vsD, E, by omega, ⟨HSm.out.n, by simp, HSm.out.r⟩, rfl, Hh2.out, hq.pick [0, 1, 4] (by decide)⟩
      ·have c0 := HSk.out.cell (v := .slice (some ⟨y2, o2, none⟩) D.ends.length e2) 3 1 rfl rfl
       have hS5 := (HSk.out.set 3 rfl 1 (.slice (some ⟨y2, o2 + 1, none⟩) (D.ends.length - 1) (e2 - 1)))
       have Hh2 := Lib.hid (Hh.out.tailE rfl hD2)
       have HSr2 := Lib.hid hS5
       have t0 := HSr2.out.cell (v := .slice d1 D.next.length e1) 3 0 rfl rfl
       have t1 := HSr2.out.cell (v := .slice (some ⟨y2, o2 + 1, none⟩) (D.ends.length - 1) (e2 - 1)) 3 1 rfl rfl
       have f0 := HSr2.out.fr 2 0 rfl
       have f1 := HSr2.out.fr 2 1 rfl
       have k0q := HSr2.out.cell (v := .slice none 0 0) 2 0 rfl rfl
       have k1q := HSr2.out.cell (v := .slice none 0 0) 2 1 rfl rfl
       go_wp2
       have hq := (HSr2.out.set 2 rfl 0 (.slice d1 D.next.length e1)).set 2 rfl 1 (.slice (some ⟨y2, o2 + 1, none⟩) (D.ends.length - 1) (e2 - 1))
       have q0 := hq.cell (v := .slice d1 D.next.length e1) 2 0 rfl rfl
       have q1 := hq.cell (v := .slice (some ⟨y2, o2 + 1, none⟩) (D.ends.length - 1) (e2 - 1)) 2 1 rfl rfl
       refine bodyPost_ret (v := .agg #[.slice d1 D.next.length e1, .slice (some ⟨y2, o2 + 1, none⟩) (D.ends.length - 1) (e2 - 1)]) (by simp [results, Try.results58, go_sem, q0, q1]) rfl ?_
       refine ⟨⟨D.next, D.ends.drop 1⟩, pz + 1, d1, some ⟨y2, o2 + 1, none⟩, e1, e2 - 1, vsD, E, by omega, ⟨HSm.out.n, by rw [hln]; have := HSm.out.e; omega, HSm.out.r⟩, by rw [hln], by rw [hln]; exact Hh2.out, hq.pick [0, 1, 4] (by decide)⟩
     ·obtain ⟨z1a, z1b, z1c⟩ := yes_eqI h41
      obtain ⟨z0a, z0b, z0c, z0d⟩ := not_eqI (show (k4 : Int) ≠ 0 by omega)
      obtain ⟨z2a, z2b, z2c, z2d⟩ := not_eqI (show (k4 : Int) ≠ 2 by omega)
      clear h41
      obtain ⟨g1, g2, g3⟩ := Hh.out.at HSk.out 4 rfl
      obtain ⟨_, _, cz, hv, hz1, hz2, hrd⟩ := g1
      simp only [Value.slice.injEq, true_and] at hv
      obtain ⟨rfl, rfl⟩ := hv
      obtain ⟨y2, o2, rfl, -, -, -⟩ := hrd hD1
      have hI1 : (1 : Int) ≤ D.next.length := by omega
      have hI2 : (D.next.length : Int) ≤ e1 := by omega
      have hI3 : (1 : Int) ≤ e1 := by omega
      clear hrd g2 g3
      by_cases he : e1 = 1
      ·subst he
       have hS5 := ((HSk.out.alloc _ rfl #[.int .i64 0, .int .i64 0] 3).boxrow 5 2 1 [.int .i64 0, .int .i64 0] rfl rfl (by unfold maxLen; omega))
       have hS6 := (hS5.alloc (wk.heap.size + 1) (by simp) #[.slice (some ⟨wk.heap.size, 0, none⟩) 2 2] 48).boxrow 6 1 1 [.slice (some ⟨wk.heap.size, 0, none⟩) 2 2] rfl rfl (by unfold maxLen; omega)
       have e6 := hS6.cell (v := .slice (some ⟨y2, o2, none⟩) D.next.length 1) 3 0 rfl rfl
       have HS6 := Lib.hid hS6
       have HR6 := Lib.hid (hS6.row 6 rfl)
       have Hone := Lib.hid (fun (u : Value) (hu : u ∈ ([] : List Value)) => (show u.oneCell' = true by simp at hu))
       have hnl := HSm.out.n
       clear hS5 hS6
       go_wp2_with (at_builtin; refine wpList_append_sl _ rfl _ _ _ rfl _ 48 i0 (.slice none 0 0) 1 24 Try.underlying24 Hhi.out Hhz0.out Hhz1.out Hhz2.out rfl (by omega) (.slice (some ⟨wk.heap.size + 1, 0, none⟩) 1 1) 1 [.slice (some ⟨wk.heap.size, 0, none⟩) 2 2] rfl HR6.out (.slice (some ⟨y2, o2, none⟩) 0 0) 0 [] rfl (sl_nil _ _) Hone.out (by unfold maxLen; omega) (by omega) HS6.out.size ?_; intro a6 c6 w6 hown6 hgrow6 hat6; have hS7 := HS6.out.appS 6 rfl hown6 hgrow6 hat6; have f2 := hS7.fr 3 0 rfl; have c2 := hS7.cell (v := .slice (some ⟨y2, o2, none⟩) D.next.length 1) 3 0 rfl rfl; have HSf := Lib.hid (hS7.set 3 rfl 0 (.slice a6 1 c6)); have t0 := HSf.out.cell (v := .slice a6 1 c6) 3 0 rfl rfl; have t1 := HSf.out.cell (v := .slice d2 D.ends.length e2) 3 1 rfl rfl; have f0 := HSf.out.fr 2 0 rfl; have f1 := HSf.out.fr 2 1 rfl; have k0q := HSf.out.cell (v := .slice none 0 0) 2 0 rfl rfl; have k1q := HSf.out.cell (v := .slice none 0 0) 2 1 rfl rfl; clear hown6 hgrow6 hat6 hS7)
       have hq := (HSf.out.set 2 rfl 0 (.slice a6 1 c6)).set 2 rfl 1 (.slice d2 D.ends.length e2)
       have q0 := hq.cell (v := .slice a6 1 c6) 2 0 rfl rfl
       have q1 := hq.cell (v := .slice d2 D.ends.length e2) 2 1 rfl rfl
       refine bodyPost_ret (v := .agg #[.slice a6 1 c6, .slice d2 D.ends.length e2]) (by simp [results, Try.results58, go_sem, q0, q1]) rfl ?_
       have hE6 : St w0 _ ([RdE b vb (pz + 1), X] ++ [E, Ent.row 48 1 (.slice a6 1 c6) 1 [.slice (some ⟨wk.heap.size, 0, none⟩) 2 2], Ent.row 3 1 (.slice (some ⟨wk.heap.size, 0, none⟩) 2 2) 2 (intCells [0, 0])]) := hq.pick [0, 1, 4, 6, 5] (by decide)
       exact ⟨⟨[[0, 0]], D.ends⟩, pz + 1, a6, d2, c6, e2, _, _, by omega, ⟨by simp, HSm.out.e, fun x hx => by
        rw [List.mem_singleton.1 hx]
        decide⟩, rfl, Hh.out.one (row := [0, 0]) (es := 48) (e := 3) (v := .slice a6 1 c6) (rv := .slice (some ⟨wk.heap.size, 0, none⟩) 2 2) rfl, St.pack hE6⟩
      ·have hS5 := ((HSk.out.alloc _ rfl #[.int .i64 0, .int .i64 0] 3).boxrow 5 2 1 [.int .i64 0, .int .i64 0] rfl rfl (by unfold maxLen; omega))
       have hS6 := (hS5.alloc (wk.heap.size + 1) (by simp) #[.slice (some ⟨wk.heap.size, 0, none⟩) 2 2] 48).boxrow 6 1 1 [.slice (some ⟨wk.heap.size, 0, none⟩) 2 2] rfl rfl (by unfold maxLen; omega)
       have e6 := hS6.cell (v := .slice (some ⟨y2, o2, none⟩) D.next.length e1) 3 0 rfl rfl
       have HS6 := Lib.hid hS6
       have HR6 := Lib.hid (hS6.row 6 rfl)
       have HT := Lib.hid (Sl.drop1 (Hh.out.at hS6 4 rfl).1 hD1)
       have Hone := Lib.hid (fun u (hu : u ∈ vsD.drop 1) => slices_one (Hh.out.at hS6 4 rfl) u hu)
       have hnl := HSm.out.n
       clear hS5 hS6
       go_wp2_with (at_builtin; refine wpList_append_sl _ rfl _ _ _ rfl _ 48 i0 (.slice none 0 0) 1 24 Try.underlying24 Hhi.out Hhz0.out Hhz1.out Hhz2.out rfl (by omega) (.slice (some ⟨wk.heap.size + 1, 0, none⟩) 1 1) 1 [.slice (some ⟨wk.heap.size, 0, none⟩) 2 2] rfl HR6.out (.slice (some ⟨y2, o2 + 1, none⟩) (D.next.length - 1) (e1 - 1)) (D.next.length - 1) (vsD.drop 1) rfl HT.out Hone.out (by unfold maxLen; omega) (by omega) HS6.out.size ?_; intro a6 c6 w6 hown6 hgrow6 hat6; have hS7 := HS6.out.appS 6 rfl hown6 hgrow6 hat6; have f2 := hS7.fr 3 0 rfl; have c2 := hS7.cell (v := .slice (some ⟨y2, o2, none⟩) D.next.length e1) 3 0 rfl rfl; have HSf := Lib.hid (hS7.set 3 rfl 0 (.slice a6 (1 + (D.next.length - 1)) c6)); have t0 := HSf.out.cell (v := .slice a6 (1 + (D.next.length - 1)) c6) 3 0 rfl rfl; have t1 := HSf.out.cell (v := .slice d2 D.ends.length e2) 3 1 rfl rfl; have f0 := HSf.out.fr 2 0 rfl; have f1 := HSf.out.fr 2 1 rfl; have k0q := HSf.out.cell (v := .slice none 0 0) 2 0 rfl rfl; have k1q := HSf.out.cell (v := .slice none 0 0) 2 1 rfl rfl; clear hown6 hgrow6 hat6 hS7)
       have hq := (HSf.out.set 2 rfl 0 (.slice a6 (1 + (D.next.length - 1)) c6)).set 2 rfl 1 (.slice d2 D.ends.length e2)
       have q0 := hq.cell (v := .slice a6 (1 + (D.next.length - 1)) c6) 2 0 rfl rfl
       have q1 := hq.cell (v := .slice d2 D.ends.length e2) 2 1 rfl rfl
       refine bodyPost_ret (v := .agg #[.slice a6 (1 + (D.next.length - 1)) c6, .slice d2 D.ends.length e2]) (by simp [results, Try.results58, go_sem, q0, q1]) rfl ?_
       have hE6 : St w0 _ ([RdE b vb (pz + 1), X] ++ [E, Ent.row 48 1 (.slice a6 (1 + (D.next.length - 1)) c6) (1 + (D.next.length - 1)) (.slice (some ⟨wk.heap.size, 0, none⟩) 2 2 :: vsD.drop 1), Ent.row 3 1 (.slice (some ⟨wk.heap.size, 0, none⟩) 2 2) 2 (intCells [0, 0])]) := hq.pick [0, 1, 4, 6, 5] (by decide)
       have hln : ([0, 0] :: D.next.drop 1).length = 1 + (D.next.length - 1) := by simp; omega
       have Hh2 := Hh.out.head (row := [0, 0]) (es := 48) (e := 3) (v := .slice a6 (1 + (D.next.length - 1)) c6) (rv := .slice (some ⟨wk.heap.size, 0, none⟩) 2 2) hD1 rfl rfl
       exact ⟨⟨[0, 0] :: D.next.drop 1, D.ends⟩, pz + 1, a6, d2, c6, e2, _, _, by omega, small_head HSm.out hD1 (by decide), by rw [hln], by rw [hln]; exact Hh2, St.pack hE6⟩
     ·obtain ⟨z2a, z2b, z2c⟩ := yes_eqI h42
      obtain ⟨z0a, z0b, z0c, z0d⟩ := not_eqI (show (k4 : Int) ≠ 0 by omega)
      obtain ⟨z1a, z1b, z1c, z1d⟩ := not_eqI (show (k4 : Int) ≠ 1 by omega)
      clear h42
      obtain ⟨g1, g2, g3⟩ := Hh.out.at HSk.out 4 rfl
      obtain ⟨_, _, cz, hv, hz1, hz2, hrd⟩ := g1
      simp only [Value.slice.injEq, true_and] at hv
      obtain ⟨rfl, rfl⟩ := hv
      obtain ⟨y2, o2, rfl, -, -, -⟩ := hrd hD1
      have hI1 : (1 : Int) ≤ D.next.length := by omega
      have hI2 : (D.next.length : Int) ≤ e1 := by omega
      have hI3 : (1 : Int) ≤ e1 := by omega
      clear hrd g2 g3
      by_cases he : e1 = 1
      ·subst he
       have hnl := HSm.out.n
       have HSq := Lib.hid HSk.out
       go_wp2
       refine wp_region_any (by kernel_rfl) ?_
       refine wpAny_invA (fun A listed a w' => ∃ (l0 l1 l2 l3 l4 l5 l6 l7 l8 l9 l10 l11 l12 l13 l14 l15 : Bool) (bp : Nat) (k2 : Fin 2) (kv : Int) (br : Nat) (bq : Nat) (a7 : Option Addr) (c7 : Nat), listed = #[l0, l1, l2, l3, l4, l5, l6, l7, l8, l9, l10, l11, l12, l13, l14, l15] ∧ (l6 = true → l3 = true ∧ l5 = true) ∧ (l7 = true → l6 = true ∧ l5 = true) ∧ (l8 = true → l7 = true ∧ l6 = true) ∧ (l9 = true → l8 = true ∧ l7 = true) ∧ (l12 = true → l11 = true) ∧ (l13 = true → l9 = true ∧ l12 = true) ∧ (l15 = true → l13 = true ∧ l1 = true) ∧
         a = ⟨(((((((((((((((A.tmps.setIfInBounds 82 (if l0 = true then .pointer (some ⟨(w.heap.size + 1), 0, none⟩) else A.tmps.getD 82 undef)).setIfInBounds 83 (if l1 = true then .slice (some ⟨y2, o2, none⟩) D.next.length 1 else A.tmps.getD 83 undef)).setIfInBounds 84 (if l2 = true then .int .i64 (D.next.length : Int) else A.tmps.getD 84 undef)).setIfInBounds 85 (if l3 = true then .slice (some ⟨bp, 0, none⟩) 2 2 else A.tmps.getD 85 undef)).setIfInBounds 86 (if l4 = true then .pointer (some ⟨b, 0, none⟩) else A.tmps.getD 86 undef)).setIfInBounds 87 (if l5 = true then .int .i64 ((k2.val : Nat) : Int) else A.tmps.getD 87 undef)).setIfInBounds 88 (if l6 = true then .pointer (some ⟨bp, k2.val, none⟩) else A.tmps.getD 88 undef)).setIfInBounds 89 (if l7 = true then .int .i64 kv else A.tmps.getD 89 undef)).setIfInBounds 90 (if l8 = true then .slice (some ⟨br, 0, none⟩) 3 3 else A.tmps.getD 90 undef)).setIfInBounds 91 (if l9 = true then .slice (some ⟨bq, 0, none⟩) 1 1 else A.tmps.getD 91 undef)).setIfInBounds 92 (if l10 = true then .pointer (some ⟨(w.heap.size + 1), 0, none⟩) else A.tmps.getD 92 undef)).setIfInBounds 93 (if l11 = true then .slice (some ⟨y2, o2, none⟩) D.next.length 1 else A.tmps.getD 93 undef)).setIfInBounds 94 (if l12 = true then .slice (some ⟨y2, o2, none⟩) 0 0 else A.tmps.getD 94 undef)).setIfInBounds 95 (if l13 = true then .slice a7 1 c7 else A.tmps.getD 95 undef)).setIfInBounds 96 (if l14 = true then .pointer (some ⟨(w.heap.size + 1), 0, none⟩) else A.tmps.getD 96 undef)), A.defers⟩ ∧
         St w0 w' [RdE b vb (if l5 = true then pz + 1 + 1 else pz + 1), X, Ent.box w.heap.size #[.slice none 0 0, .slice none 0 0] 27, Ent.box (w.heap.size + 1) #[(if l15 = true then .slice a7 1 c7 else .slice (some ⟨y2, o2, none⟩) D.next.length 1), .slice d2 D.ends.length e2] 27, E, (if l3 = true then Ent.box bp #[.int .i64 (-1), .int .i64 (D.next.length : Int)] 3 else Ent.nil), (if l8 = true then Ent.row 3 1 (.slice (some ⟨br, 0, none⟩) 3 3) 3 [.int .i64 0, .int .i64 0, .int .i64 kv] else Ent.nil), (if l13 = true then Ent.row 48 1 (.slice a7 1 c7) 1 [.slice (some ⟨br, 0, none⟩) 3 3] else if l9 = true then Ent.row 48 1 (.slice (some ⟨bq, 0, none⟩) 1 1) 1 [.slice (some ⟨br, 0, none⟩) 3 3] else Ent.nil)]) ?_ ?_ ?_
       ·rintro listed a w' ⟨l0, l1, l2, l3, l4, l5, l6, l7, l8, l9, l10, l11, l12, l13, l14, l15, bp, k2, kv, br, bq, a7, c7, rfl, hd6, hd7, hd8, hd9, hd12, hd13, hd15, rfl, hS⟩ i hi
        obtain ⟨hun, o, ho, hall⟩ := mem_ready.1 hi
        have hlt := (Array.getElem?_eq_some_iff.1 ho).1
        refine wpOp_step ho (fun K hK => ?_)
        clear hi
        have HS := Lib.hid hS
        clear hS
        simp only [List.setIfInBounds_toArray, List.set_cons_zero, List.set_cons_succ, Array.getD_eq_getD_getElem?, List.getElem?_toArray, List.getElem?_cons_zero, List.getElem?_cons_succ, Option.getD_some]
        obtain h | h | h | h | h | h | h | h | h | h | h | h | h | h | h | h : i = 0 ∨ i = 1 ∨ i = 2 ∨ i = 3 ∨ i = 4 ∨ i = 5 ∨ i = 6 ∨ i = 7 ∨ i = 8 ∨ i = 9 ∨ i = 10 ∨ i = 11 ∨ i = 12 ∨ i = 13 ∨ i = 14 ∨ i = 15 := by simp at hlt; omega
        all_goals subst h
        all_goals simp only [List.getElem?_toArray, List.getElem?_cons_zero, List.getElem?_cons_succ, Option.some.injEq] at ho
        all_goals subst ho
        all_goals simp [Region.binds] at hun hall
        ·subst hun
         go_simp
         exact hK _ _ ⟨true, l1, l2, l3, l4, l5, l6, l7, l8, l9, l10, l11, l12, l13, l14, l15, bp, k2, kv, br, bq, a7, c7, rfl, hd6, hd7, hd8, hd9, hd12, hd13, hd15, (by simp), HS.out⟩
        ·obtain rfl := hall
         subst hun
         obtain rfl : l15 = false := offR hd15 rfl
         have e0 := HS.out.cell (v := .slice (some ⟨y2, o2, none⟩) D.next.length 1) 3 0 rfl rfl
         go_simp
         exact hK _ _ ⟨true, true, l2, l3, l4, l5, l6, l7, l8, l9, l10, l11, l12, l13, l14, false, bp, k2, kv, br, bq, a7, c7, rfl, hd6, hd7, hd8, hd9, hd12, hd13, by simp, (by simp), HS.out⟩
        ·obtain rfl := hall
         subst hun
         go_simp
         exact hK _ _ ⟨l0, true, true, l3, l4, l5, l6, l7, l8, l9, l10, l11, l12, l13, l14, l15, bp, k2, kv, br, bq, a7, c7, rfl, hd6, hd7, hd8, hd9, hd12, hd13, hd15, (by simp), HS.out⟩
        ·obtain rfl := hall
         subst hun
         obtain rfl : l6 = false := offL hd6 rfl
         obtain rfl : l7 = false := offL hd7 rfl
         obtain rfl : l8 = false := offL hd8 rfl
         obtain rfl : l9 = false := offL hd9 rfl
         obtain rfl : l13 = false := offL hd13 rfl
         obtain rfl : l15 = false := offL hd15 rfl
         have hS2 := (HS.out.alloc _ rfl #[.int .i64 (-1), .int .i64 (D.next.length : Int)] 3).pick [0, 1, 2, 3, 4, 8, 6, 7] (by decide)
         have HhS2 := Lib.hid hS2; clear hS2
         go_simp
         exact hK _ _ ⟨l0, l1, true, true, l4, l5, false, false, false, false, l10, l11, l12, false, l14, false, _, k2, kv, br, bq, a7, c7, rfl, by simp, by simp, by simp, by simp, hd12, by simp, by simp, (by simp), HhS2.out⟩
        ·subst hun
         go_simp
         exact hK _ _ ⟨l0, l1, l2, l3, true, l5, l6, l7, l8, l9, l10, l11, l12, l13, l14, l15, bp, k2, kv, br, bq, a7, c7, rfl, hd6, hd7, hd8, hd9, hd12, hd13, hd15, (by simp), HS.out⟩
        ·obtain rfl := hall
         subst hun
         obtain rfl : l6 = false := offR hd6 rfl
         obtain rfl : l7 = false := offL hd7 rfl
         obtain rfl : l8 = false := offL hd8 rfl
         obtain rfl : l9 = false := offL hd9 rfl
         obtain rfl : l13 = false := offL hd13 rfl
         obtain rfl : l15 = false := offL hd15 rfl
         go_simp
         go_at_call 103
         refine (pick_any bs vb b (pz + 1) 2 w0 _ _ Hb.out hlen (by omega) (by omega) (by omega) (St.pack (A := [RdE b vb (pz + 1)]) (R := [X, Ent.box w.heap.size #[.slice none 0 0, .slice none 0 0] 27, Ent.box (w.heap.size + 1) #[.slice (some ⟨y2, o2, none⟩) D.next.length 1, .slice d2 D.ends.length e2] 27, E, (if l3 = true then Ent.box bp #[.int .i64 (-1), .int .i64 (D.next.length : Int)] 3 else Ent.nil), Ent.nil, Ent.nil]) HS.out)).mono ?_
         rintro e u1 ⟨k9, hk9, rfl, hSp⟩
         have hS2 := St.unpack (A := [RdE b vb (pz + 1)]) (A' := [RdE b vb (pz + 1 + 1)]) (R := [X, Ent.box w.heap.size #[.slice none 0 0, .slice none 0 0] 27, Ent.box (w.heap.size + 1) #[.slice (some ⟨y2, o2, none⟩) D.next.length 1, .slice d2 D.ends.length e2] 27, E, (if l3 = true then Ent.box bp #[.int .i64 (-1), .int .i64 (D.next.length : Int)] 3 else Ent.nil), Ent.nil, Ent.nil]) HS.out hSp
         have HhS2 := Lib.hid hS2; clear hS2
         go_simp
         exact hK _ _ ⟨l0, l1, l2, l3, true, true, false, false, false, false, l10, l11, l12, false, l14, false, bp, ⟨k9, hk9⟩, kv, br, bq, a7, c7, rfl, by simp, by simp, by simp, by simp, hd12, by simp, by simp, (by simp), HhS2.out⟩
        ·obtain ⟨rfl, rfl⟩ := hall
         subst hun
         obtain rfl : l7 = false := offL hd7 rfl
         obtain rfl : l8 = false := offL hd8 rfl
         obtain rfl : l9 = false := offL hd9 rfl
         obtain rfl : l13 = false := offL hd13 rfl
         obtain rfl : l15 = false := offL hd15 rfl
         have hk2 := k2.isLt
         have hk2I : ((k2.val : Nat) : Int) < 2 := by omega
         go_simp
         exact hK _ _ ⟨l0, l1, l2, true, l4, true, true, false, false, false, l10, l11, l12, false, l14, false, bp, k2, kv, br, bq, a7, c7, rfl, by simp, by simp, by simp, by simp, hd12, by simp, by simp, (by simp), HS.out⟩
        ·obtain rfl := hall
         subst hun
         obtain ⟨rfl, rfl⟩ := hd6 rfl
         obtain rfl : l8 = false := offL hd8 rfl
         obtain rfl : l9 = false := offL hd9 rfl
         obtain rfl : l13 = false := offL hd13 rfl
         obtain rfl : l15 = false := offL hd15 rfl
         have hk2 := k2.isLt
         obtain ⟨kw, hkw⟩ : ∃ kv : Int, (#[.int .i64 (-1), .int .i64 (D.next.length : Int)] : Array Value)[k2.val]? = some (.int .i64 kv) := by
          obtain h | h : k2.val = 0 ∨ k2.val = 1 := by omega
          all_goals
           rw [h]
           exact ⟨_, rfl⟩
         have e0 := HS.out.cell (v := .int .i64 kw) 5 k2.val rfl hkw
         go_simp
         exact hK _ _ ⟨l0, l1, l2, true, l4, true, true, true, false, false, l10, l11, l12, false, l14, false, bp, k2, kw, br, bq, a7, c7, rfl, by simp, by simp, by simp, by simp, hd12, by simp, by simp, (by simp), HS.out⟩
        ·obtain rfl := hall
         subst hun
         obtain ⟨rfl, rfl⟩ := hd7 rfl
         obtain ⟨rfl, -⟩ := hd6 rfl
         obtain rfl : l9 = false := offL hd9 rfl
         obtain rfl : l13 = false := offL hd13 rfl
         obtain rfl : l15 = false := offL hd15 rfl
         have hS2 := ((HS.out.alloc _ rfl #[.int .i64 0, .int .i64 0, .int .i64 kv] 3).boxrow 8 3 1 [.int .i64 0, .int .i64 0, .int .i64 kv] rfl rfl (by unfold maxLen; omega)).pick [0, 1, 2, 3, 4, 5, 8, 7] (by decide)
         have HhS2 := Lib.hid hS2; clear hS2
         go_simp
         exact hK _ _ ⟨l0, l1, l2, true, l4, true, true, true, true, false, l10, l11, l12, false, l14, false, bp, k2, kv, _, bq, a7, c7, rfl, by simp, by simp, by simp, by simp, hd12, by simp, by simp, (by simp), HhS2.out⟩
        ·obtain rfl := hall
         subst hun
         obtain ⟨rfl, rfl⟩ := hd8 rfl
         obtain ⟨rfl, rfl⟩ := hd6 rfl
         obtain rfl : l13 = false := offL hd13 rfl
         obtain rfl : l15 = false := offL hd15 rfl
         have hS2 := ((HS.out.alloc _ rfl #[.slice (some ⟨br, 0, none⟩) 3 3] 48).boxrow 8 1 1 [.slice (some ⟨br, 0, none⟩) 3 3] rfl rfl (by unfold maxLen; omega)).pick [0, 1, 2, 3, 4, 5, 6, 8] (by decide)
         have HhS2 := Lib.hid hS2; clear hS2
         go_simp
         exact hK _ _ ⟨l0, l1, l2, true, l4, true, true, true, true, true, l10, l11, l12, false, l14, false, bp, k2, kv, br, _, a7, c7, rfl, by simp, by simp, by simp, by simp, hd12, by simp, by simp, (by simp), HhS2.out⟩
        ·subst hun
         go_simp
         exact hK _ _ ⟨l0, l1, l2, l3, l4, l5, l6, l7, l8, l9, true, l11, l12, l13, l14, l15, bp, k2, kv, br, bq, a7, c7, rfl, hd6, hd7, hd8, hd9, hd12, hd13, hd15, (by simp), HS.out⟩
        ·obtain rfl := hall
         subst hun
         obtain rfl : l12 = false := by cases l12 with | false => rfl | true => simpa using hd12 rfl
         obtain rfl : l13 = false := offR hd13 rfl
         obtain rfl : l15 = false := offL hd15 rfl
         have e0 := HS.out.cell (v := .slice (some ⟨y2, o2, none⟩) D.next.length 1) 3 0 rfl rfl
         go_simp
         exact hK _ _ ⟨l0, l1, l2, l3, l4, l5, l6, l7, l8, l9, true, true, false, false, l14, false, bp, k2, kv, br, bq, a7, c7, rfl, hd6, hd7, hd8, hd9, by simp, by simp, by simp, (by simp), HS.out⟩
        ·obtain rfl := hall
         subst hun
         obtain rfl : l13 = false := offR hd13 rfl
         obtain rfl : l15 = false := offL hd15 rfl
         go_simp
         exact hK _ _ ⟨l0, l1, l2, l3, l4, l5, l6, l7, l8, l9, l10, true, true, false, l14, false, bp, k2, kv, br, bq, a7, c7, rfl, hd6, hd7, hd8, hd9, by simp, by simp, by simp, (by simp), HS.out⟩
        ·obtain ⟨rfl, rfl, rfl⟩ := hall
         subst hun
         obtain ⟨rfl, rfl⟩ := hd9 rfl
         obtain rfl := hd12 rfl
         obtain ⟨rfl, -⟩ := hd7 rfl
         obtain ⟨rfl, -⟩ := hd6 rfl
         obtain rfl : l15 = false := offL hd15 rfl
         refine step_append_sl (a := ⟨_, _⟩) _ (by rfl) _ _ _ (by rfl) w0.heap.size 48 i0 (.slice none 0 0) 1 24 Try.underlying24 Hhi.out Hhz0.out Hhz1.out Hhz2.out (by rfl) (by omega) (.slice (some ⟨bq, 0, none⟩) 1 1) 1 [.slice (some ⟨br, 0, none⟩) 3 3] (by rfl) (HS.out.row 7 rfl) (.slice (some ⟨y2, o2, none⟩) 0 0) 0 [] (by rfl) (sl_nil _ _) (fun u hu => absurd hu (by simp)) (by unfold maxLen; omega) (by omega) HS.out.size ?_
         intro a9 c9 w6 hown6 hgrow6 hat6
         have HS6 := Lib.hid (HS.out.appS 7 rfl hown6 hgrow6 hat6)
         clear hown6 hgrow6 hat6
         go_simp
         exact hK _ _ ⟨l0, l1, l2, true, l4, true, true, true, true, true, l10, true, true, true, l14, false, bp, k2, kv, br, bq, a9, c9, rfl, by simp, by simp, by simp, by simp, by simp, by simp, by simp, (by simp), HS6.out⟩
        ·obtain ⟨rfl, rfl, rfl, rfl, rfl, rfl, rfl, rfl, rfl, rfl, rfl, rfl, rfl, rfl⟩ := hall
         subst hun
         go_simp
         exact hK _ _ ⟨true, true, true, true, true, true, true, true, true, true, true, true, true, true, true, l15, bp, k2, kv, br, bq, a7, c7, rfl, by simp, by simp, by simp, by simp, by simp, by simp, hd15, (by simp only [↓reduceIte, List.setIfInBounds_toArray, List.set_cons_zero, List.set_cons_succ]), HS.out⟩
        ·obtain ⟨rfl, rfl, rfl, rfl, rfl, rfl, rfl, rfl, rfl, rfl, rfl, rfl, rfl, rfl, rfl, -⟩ := hall
         subst hun
         have f0 := HS.out.fr 3 0 rfl
         have k0q := HS.out.cell (v := .slice (some ⟨y2, o2, none⟩) D.next.length 1) 3 0 rfl rfl
         go_simp
         exact hK _ _ ⟨true, true, true, true, true, true, true, true, true, true, true, true, true, true, true, true, bp, k2, kv, br, bq, a7, c7, rfl, by simp, by simp, by simp, by simp, by simp, by simp, by simp, (by simp only [↓reduceIte, List.setIfInBounds_toArray, List.set_cons_zero, List.set_cons_succ]), (HS.out.set 3 rfl 0 (.slice a7 1 c7))⟩
       ·rintro listed a w' ⟨l0, l1, l2, l3, l4, l5, l6, l7, l8, l9, l10, l11, l12, l13, l14, l15, bp, k2, kv, br, bq, a7, c7, rfl, hd6, hd7, hd8, hd9, hd12, hd13, hd15, rfl, hS⟩ hr
        have hall := ready_nil (by kernel_rfl) rfl hr
        obtain rfl : l0 = true := by simpa using hall 0 (by simp)
        obtain rfl : l1 = true := by simpa using hall 1 (by simp)
        obtain rfl : l2 = true := by simpa using hall 2 (by simp)
        obtain rfl : l3 = true := by simpa using hall 3 (by simp)
        obtain rfl : l4 = true := by simpa using hall 4 (by simp)
        obtain rfl : l5 = true := by simpa using hall 5 (by simp)
        obtain rfl : l6 = true := by simpa using hall 6 (by simp)
        obtain rfl : l7 = true := by simpa using hall 7 (by simp)
        obtain rfl : l8 = true := by simpa using hall 8 (by simp)
        obtain rfl : l9 = true := by simpa using hall 9 (by simp)
        obtain rfl : l10 = true := by simpa using hall 10 (by simp)
        obtain rfl : l11 = true := by simpa using hall 11 (by simp)
        obtain rfl : l12 = true := by simpa using hall 12 (by simp)
        obtain rfl : l13 = true := by simpa using hall 13 (by simp)
        obtain rfl : l14 = true := by simpa using hall 14 (by simp)
        obtain rfl : l15 = true := by simpa using hall 15 (by simp)
        clear hall hr hd6 hd7 hd8 hd9 hd12 hd13 hd15
        simp only [↓reduceIte] at hS ⊢
        simp only [List.setIfInBounds_toArray, List.set_cons_zero, List.set_cons_succ]
        have HSf := Lib.hid hS
        clear hS
        have t0 := HSf.out.cell (v := .slice a7 1 c7) 3 0 rfl rfl
        have t1 := HSf.out.cell (v := .slice d2 D.ends.length e2) 3 1 rfl rfl
        have f0 := HSf.out.fr 2 0 rfl
        have f1 := HSf.out.fr 2 1 rfl
        have k0q := HSf.out.cell (v := .slice none 0 0) 2 0 rfl rfl
        have k1q := HSf.out.cell (v := .slice none 0 0) 2 1 rfl rfl
        go_wp2
        have hq := (HSf.out.set 2 rfl 0 (.slice a7 1 c7)).set 2 rfl 1 (.slice d2 D.ends.length e2)
        have q0 := hq.cell (v := .slice a7 1 c7) 2 0 rfl rfl
        have q1 := hq.cell (v := .slice d2 D.ends.length e2) 2 1 rfl rfl
        refine bodyPost_ret (v := .agg #[.slice a7 1 c7, .slice d2 D.ends.length e2]) (by simp [results, Try.results58, go_sem, q0, q1]) rfl ?_
        have hE6 : St w0 _ ([RdE b vb (pz + 1 + 1), X] ++ [E, Ent.row 48 1 (.slice a7 1 c7) 1 [.slice (some ⟨br, 0, none⟩) 3 3], Ent.row 3 1 (.slice (some ⟨br, 0, none⟩) 3 3) 3 (intCells [0, 0, kv])]) := hq.pick [0, 1, 4, 7, 6] (by decide)
        exact ⟨⟨[[0, 0, kv]], D.ends⟩, pz + 1 + 1, a7, d2, c7, e2, _, _, by omega, ⟨by simp, HSm.out.e, fun x hx => by
         rw [List.mem_singleton.1 hx]
         simp⟩, rfl, Hh.out.one (row := [0, 0, kv]) (es := 48) (e := 3) (v := .slice a7 1 c7) (rv := .slice (some ⟨br, 0, none⟩) 3 3) rfl, St.pack hE6⟩
       ·refine ⟨false, false, false, false, false, false, false, false, false, false, false, false, false, false, false, false, 0, 0, 0, 0, 0, none, 0, rfl, by simp, by simp, by simp, by simp, by simp, by simp, by simp, (by simp), ?_⟩
        exact HSq.out.drew.pick [0, 1, 2, 3, 4, 5, 6, 7] (by decide)
      ·have hnl := HSm.out.n
       have HSq := Lib.hid HSk.out
       go_wp2
       refine wp_region_any (by kernel_rfl) ?_
       refine wpAny_invA (fun A listed a w' => ∃ (l0 l1 l2 l3 l4 l5 l6 l7 l8 l9 l10 l11 l12 l13 l14 l15 : Bool) (bp : Nat) (k2 : Fin 2) (kv : Int) (br : Nat) (bq : Nat) (a7 : Option Addr) (c7 : Nat), listed = #[l0, l1, l2, l3, l4, l5, l6, l7, l8, l9, l10, l11, l12, l13, l14, l15] ∧ (l6 = true → l3 = true ∧ l5 = true) ∧ (l7 = true → l6 = true ∧ l5 = true) ∧ (l8 = true → l7 = true ∧ l6 = true) ∧ (l9 = true → l8 = true ∧ l7 = true) ∧ (l12 = true → l11 = true) ∧ (l13 = true → l9 = true ∧ l12 = true) ∧ (l15 = true → l13 = true ∧ l1 = true) ∧
         a = ⟨(((((((((((((((A.tmps.setIfInBounds 82 (if l0 = true then .pointer (some ⟨(w.heap.size + 1), 0, none⟩) else A.tmps.getD 82 undef)).setIfInBounds 83 (if l1 = true then .slice (some ⟨y2, o2, none⟩) D.next.length e1 else A.tmps.getD 83 undef)).setIfInBounds 84 (if l2 = true then .int .i64 (D.next.length : Int) else A.tmps.getD 84 undef)).setIfInBounds 85 (if l3 = true then .slice (some ⟨bp, 0, none⟩) 2 2 else A.tmps.getD 85 undef)).setIfInBounds 86 (if l4 = true then .pointer (some ⟨b, 0, none⟩) else A.tmps.getD 86 undef)).setIfInBounds 87 (if l5 = true then .int .i64 ((k2.val : Nat) : Int) else A.tmps.getD 87 undef)).setIfInBounds 88 (if l6 = true then .pointer (some ⟨bp, k2.val, none⟩) else A.tmps.getD 88 undef)).setIfInBounds 89 (if l7 = true then .int .i64 kv else A.tmps.getD 89 undef)).setIfInBounds 90 (if l8 = true then .slice (some ⟨br, 0, none⟩) 3 3 else A.tmps.getD 90 undef)).setIfInBounds 91 (if l9 = true then .slice (some ⟨bq, 0, none⟩) 1 1 else A.tmps.getD 91 undef)).setIfInBounds 92 (if l10 = true then .pointer (some ⟨(w.heap.size + 1), 0, none⟩) else A.tmps.getD 92 undef)).setIfInBounds 93 (if l11 = true then .slice (some ⟨y2, o2, none⟩) D.next.length e1 else A.tmps.getD 93 undef)).setIfInBounds 94 (if l12 = true then .slice (some ⟨y2, o2 + 1, none⟩) (D.next.length - 1) (e1 - 1) else A.tmps.getD 94 undef)).setIfInBounds 95 (if l13 = true then .slice a7 (1 + (D.next.length - 1)) c7 else A.tmps.getD 95 undef)).setIfInBounds 96 (if l14 = true then .pointer (some ⟨(w.heap.size + 1), 0, none⟩) else A.tmps.getD 96 undef)), A.defers⟩ ∧
         St w0 w' [RdE b vb (if l5 = true then pz + 1 + 1 else pz + 1), X, Ent.box w.heap.size #[.slice none 0 0, .slice none 0 0] 27, Ent.box (w.heap.size + 1) #[(if l15 = true then .slice a7 (1 + (D.next.length - 1)) c7 else .slice (some ⟨y2, o2, none⟩) D.next.length e1), .slice d2 D.ends.length e2] 27, E, (if l3 = true then Ent.box bp #[.int .i64 (-1), .int .i64 (D.next.length : Int)] 3 else Ent.nil), (if l8 = true then Ent.row 3 1 (.slice (some ⟨br, 0, none⟩) 3 3) 3 [.int .i64 0, .int .i64 0, .int .i64 kv] else Ent.nil), (if l13 = true then Ent.row 48 1 (.slice a7 (1 + (D.next.length - 1)) c7) (1 + (D.next.length - 1)) (.slice (some ⟨br, 0, none⟩) 3 3 :: vsD.drop 1) else if l9 = true then Ent.row 48 1 (.slice (some ⟨bq, 0, none⟩) 1 1) 1 [.slice (some ⟨br, 0, none⟩) 3 3] else Ent.nil)]) ?_ ?_ ?_
       ·rintro listed a w' ⟨l0, l1, l2, l3, l4, l5, l6, l7, l8, l9, l10, l11, l12, l13, l14, l15, bp, k2, kv, br, bq, a7, c7, rfl, hd6, hd7, hd8, hd9, hd12, hd13, hd15, rfl, hS⟩ i hi
        obtain ⟨hun, o, ho, hall⟩ := mem_ready.1 hi
        have hlt := (Array.getElem?_eq_some_iff.1 ho).1
        refine wpOp_step ho (fun K hK => ?_)
        clear hi
        have HS := Lib.hid hS
        clear hS
        simp only [List.setIfInBounds_toArray, List.set_cons_zero, List.set_cons_succ, Array.getD_eq_getD_getElem?, List.getElem?_toArray, List.getElem?_cons_zero, List.getElem?_cons_succ, Option.getD_some]
        obtain h | h | h | h | h | h | h | h | h | h | h | h | h | h | h | h : i = 0 ∨ i = 1 ∨ i = 2 ∨ i = 3 ∨ i = 4 ∨ i = 5 ∨ i = 6 ∨ i = 7 ∨ i = 8 ∨ i = 9 ∨ i = 10 ∨ i = 11 ∨ i = 12 ∨ i = 13 ∨ i = 14 ∨ i = 15 := by simp at hlt; omega
        all_goals subst h
        all_goals simp only [List.getElem?_toArray, List.getElem?_cons_zero, List.getElem?_cons_succ, Option.some.injEq] at ho
        all_goals subst ho
        all_goals simp [Region.binds] at hun hall
        ·subst hun
         go_simp
         exact hK _ _ ⟨true, l1, l2, l3, l4, l5, l6, l7, l8, l9, l10, l11, l12, l13, l14, l15, bp, k2, kv, br, bq, a7, c7, rfl, hd6, hd7, hd8, hd9, hd12, hd13, hd15, (by simp), HS.out⟩
        ·obtain rfl := hall
         subst hun
         obtain rfl : l15 = false := offR hd15 rfl
         have e0 := HS.out.cell (v := .slice (some ⟨y2, o2, none⟩) D.next.length e1) 3 0 rfl rfl
         go_simp
         exact hK _ _ ⟨true, true, l2, l3, l4, l5, l6, l7, l8, l9, l10, l11, l12, l13, l14, false, bp, k2, kv, br, bq, a7, c7, rfl, hd6, hd7, hd8, hd9, hd12, hd13, by simp, (by simp), HS.out⟩
        ·obtain rfl := hall
         subst hun
         go_simp
         exact hK _ _ ⟨l0, true, true, l3, l4, l5, l6, l7, l8, l9, l10, l11, l12, l13, l14, l15, bp, k2, kv, br, bq, a7, c7, rfl, hd6, hd7, hd8, hd9, hd12, hd13, hd15, (by simp), HS.out⟩
        ·obtain rfl := hall
         subst hun
         obtain rfl : l6 = false := offL hd6 rfl
         obtain rfl : l7 = false := offL hd7 rfl
         obtain rfl : l8 = false := offL hd8 rfl
         obtain rfl : l9 = false := offL hd9 rfl
         obtain rfl : l13 = false := offL hd13 rfl
         obtain rfl : l15 = false := offL hd15 rfl
         have hS2 := (HS.out.alloc _ rfl #[.int .i64 (-1), .int .i64 (D.next.length : Int)] 3).pick [0, 1, 2, 3, 4, 8, 6, 7] (by decide)
         have HhS2 := Lib.hid hS2; clear hS2
         go_simp
         exact hK _ _ ⟨l0, l1, true, true, l4, l5, false, false, false, false, l10, l11, l12, false, l14, false, _, k2, kv, br, bq, a7, c7, rfl, by simp, by simp, by simp, by simp, hd12, by simp, by simp, (by simp), HhS2.out⟩
        ·subst hun
         go_simp
         exact hK _ _ ⟨l0, l1, l2, l3, true, l5, l6, l7, l8, l9, l10, l11, l12, l13, l14, l15, bp, k2, kv, br, bq, a7, c7, rfl, hd6, hd7, hd8, hd9, hd12, hd13, hd15, (by simp), HS.out⟩
        ·obtain rfl := hall
         subst hun
         obtain rfl : l6 = false := offR hd6 rfl
         obtain rfl : l7 = false := offL hd7 rfl
         obtain rfl : l8 = false := offL hd8 rfl
         obtain rfl : l9 = false := offL hd9 rfl
         obtain rfl : l13 = false := offL hd13 rfl
         obtain rfl : l15 = false := offL hd15 rfl
         go_simp
         go_at_call 103
         refine (pick_any bs vb b (pz + 1) 2 w0 _ _ Hb.out hlen (by omega) (by omega) (by omega) (St.pack (A := [RdE b vb (pz + 1)]) (R := [X, Ent.box w.heap.size #[.slice none 0 0, .slice none 0 0] 27, Ent.box (w.heap.size + 1) #[.slice (some ⟨y2, o2, none⟩) D.next.length e1, .slice d2 D.ends.length e2] 27, E, (if l3 = true then Ent.box bp #[.int .i64 (-1), .int .i64 (D.next.length : Int)] 3 else Ent.nil), Ent.nil, Ent.nil]) HS.out)).mono ?_
         rintro e u1 ⟨k9, hk9, rfl, hSp⟩
         have hS2 := St.unpack (A := [RdE b vb (pz + 1)]) (A' := [RdE b vb (pz + 1 + 1)]) (R := [X, Ent.box w.heap.size #[.slice none 0 0, .slice none 0 0] 27, Ent.box (w.heap.size + 1) #[.slice (some ⟨y2, o2, none⟩) D.next.length e1, .slice d2 D.ends.length e2] 27, E, (if l3 = true then Ent.box bp #[.int .i64 (-1), .int .i64 (D.next.length : Int)] 3 else Ent.nil), Ent.nil, Ent.nil]) HS.out hSp
         have HhS2 := Lib.hid hS2; clear hS2
         go_simp
         exact hK _ _ ⟨l0, l1, l2, l3, true, true, false, false, false, false, l10, l11, l12, false, l14, false, bp, ⟨k9, hk9⟩, kv, br, bq, a7, c7, rfl, by simp, by simp, by simp, by simp, hd12, by simp, by simp, (by simp), HhS2.out⟩
        ·obtain ⟨rfl, rfl⟩ := hall
         subst hun
         obtain rfl : l7 = false := offL hd7 rfl
         obtain rfl : l8 = false := offL hd8 rfl
         obtain rfl : l9 = false := offL hd9 rfl
         obtain rfl : l13 = false := offL hd13 rfl
         obtain rfl : l15 = false := offL hd15 rfl
         have hk2 := k2.isLt
         have hk2I : ((k2.val : Nat) : Int) < 2 := by omega
         go_simp
         exact hK _ _ ⟨l0, l1, l2, true, l4, true, true, false, false, false, l10, l11, l12, false, l14, false, bp, k2, kv, br, bq, a7, c7, rfl, by simp, by simp, by simp, by simp, hd12, by simp, by simp, (by simp), HS.out⟩
        ·obtain rfl := hall
         subst hun
         obtain ⟨rfl, rfl⟩ := hd6 rfl
         obtain rfl : l8 = false := offL hd8 rfl
         obtain rfl : l9 = false := offL hd9 rfl
         obtain rfl : l13 = false := offL hd13 rfl
         obtain rfl : l15 = false := offL hd15 rfl
         have hk2 := k2.isLt
         obtain ⟨kw, hkw⟩ : ∃ kv : Int, (#[.int .i64 (-1), .int .i64 (D.next.length : Int)] : Array Value)[k2.val]? = some (.int .i64 kv) := by
          obtain h | h : k2.val = 0 ∨ k2.val = 1 := by omega
          all_goals
           rw [h]
           exact ⟨_, rfl⟩
         have e0 := HS.out.cell (v := .int .i64 kw) 5 k2.val rfl hkw
         go_simp
         exact hK _ _ ⟨l0, l1, l2, true, l4, true, true, true, false, false, l10, l11, l12, false, l14, false, bp, k2, kw, br, bq, a7, c7, rfl, by simp, by simp, by simp, by simp, hd12, by simp, by simp, (by simp), HS.out⟩
        ·obtain rfl := hall
         subst hun
         obtain ⟨rfl, rfl⟩ := hd7 rfl
         obtain ⟨rfl, -⟩ := hd6 rfl
         obtain rfl : l9 = false := offL hd9 rfl
         obtain rfl : l13 = false := offL hd13 rfl
         obtain rfl : l15 = false := offL hd15 rfl
         have hS2 := ((HS.out.alloc _ rfl #[.int .i64 0, .int .i64 0, .int .i64 kv] 3).boxrow 8 3 1 [.int .i64 0, .int .i64 0, .int .i64 kv] rfl rfl (by unfold maxLen; omega)).pick [0, 1, 2, 3, 4, 5, 8, 7] (by decide)
         have HhS2 := Lib.hid hS2; clear hS2
         go_simp
         exact hK _ _ ⟨l0, l1, l2, true, l4, true, true, true, true, false, l10, l11, l12, false, l14, false, bp, k2, kv, _, bq, a7, c7, rfl, by simp, by simp, by simp, by simp, hd12, by simp, by simp, (by simp), HhS2.out⟩
        ·obtain rfl := hall
         subst hun
         obtain ⟨rfl, rfl⟩ := hd8 rfl
         obtain ⟨rfl, rfl⟩ := hd6 rfl
         obtain rfl : l13 = false := offL hd13 rfl
         obtain rfl : l15 = false := offL hd15 rfl
         have hS2 := ((HS.out.alloc _ rfl #[.slice (some ⟨br, 0, none⟩) 3 3] 48).boxrow 8 1 1 [.slice (some ⟨br, 0, none⟩) 3 3] rfl rfl (by unfold maxLen; omega)).pick [0, 1, 2, 3, 4, 5, 6, 8] (by decide)
         have HhS2 := Lib.hid hS2; clear hS2
         go_simp
         exact hK _ _ ⟨l0, l1, l2, true, l4, true, true, true, true, true, l10, l11, l12, false, l14, false, bp, k2, kv, br, _, a7, c7, rfl, by simp, by simp, by simp, by simp, hd12, by simp, by simp, (by simp), HhS2.out⟩
        ·subst hun
         go_simp
         exact hK _ _ ⟨l0, l1, l2, l3, l4, l5, l6, l7, l8, l9, true, l11, l12, l13, l14, l15, bp, k2, kv, br, bq, a7, c7, rfl, hd6, hd7, hd8, hd9, hd12, hd13, hd15, (by simp), HS.out⟩
        ·obtain rfl := hall
         subst hun
         obtain rfl : l12 = false := by cases l12 with | false => rfl | true => simpa using hd12 rfl
         obtain rfl : l13 = false := offR hd13 rfl
         obtain rfl : l15 = false := offL hd15 rfl
         have e0 := HS.out.cell (v := .slice (some ⟨y2, o2, none⟩) D.next.length e1) 3 0 rfl rfl
         go_simp
         exact hK _ _ ⟨l0, l1, l2, l3, l4, l5, l6, l7, l8, l9, true, true, false, false, l14, false, bp, k2, kv, br, bq, a7, c7, rfl, hd6, hd7, hd8, hd9, by simp, by simp, by simp, (by simp), HS.out⟩
        ·obtain rfl := hall
         subst hun
         obtain rfl : l13 = false := offR hd13 rfl
         obtain rfl : l15 = false := offL hd15 rfl
         go_simp
         exact hK _ _ ⟨l0, l1, l2, l3, l4, l5, l6, l7, l8, l9, l10, true, true, false, l14, false, bp, k2, kv, br, bq, a7, c7, rfl, hd6, hd7, hd8, hd9, by simp, by simp, by simp, (by simp), HS.out⟩
        ·obtain ⟨rfl, rfl, rfl⟩ := hall
         subst hun
         obtain ⟨rfl, rfl⟩ := hd9 rfl
         obtain rfl := hd12 rfl
         obtain ⟨rfl, -⟩ := hd7 rfl
         obtain ⟨rfl, -⟩ := hd6 rfl
         obtain rfl : l15 = false := offL hd15 rfl
         refine step_append_sl (a := ⟨_, _⟩) _ (by rfl) _ _ _ (by rfl) w0.heap.size 48 i0 (.slice none 0 0) 1 24 Try.underlying24 Hhi.out Hhz0.out Hhz1.out Hhz2.out (by rfl) (by omega) (.slice (some ⟨bq, 0, none⟩) 1 1) 1 [.slice (some ⟨br, 0, none⟩) 3 3] (by rfl) (HS.out.row 7 rfl) (.slice (some ⟨y2, o2 + 1, none⟩) (D.next.length - 1) (e1 - 1)) (D.next.length - 1) (vsD.drop 1) (by rfl) (Sl.drop1 (Hh.out.at HS.out 4 rfl).1 hD1) (slices_one (Hh.out.at HS.out 4 rfl)) (by unfold maxLen; omega) (by omega) HS.out.size ?_
         intro a9 c9 w6 hown6 hgrow6 hat6
         have HS6 := Lib.hid (HS.out.appS 7 rfl hown6 hgrow6 hat6)
         clear hown6 hgrow6 hat6
         go_simp
         exact hK _ _ ⟨l0, l1, l2, true, l4, true, true, true, true, true, l10, true, true, true, l14, false, bp, k2, kv, br, bq, a9, c9, rfl, by simp, by simp, by simp, by simp, by simp, by simp, by simp, (by simp), HS6.out⟩
        ·obtain ⟨rfl, rfl, rfl, rfl, rfl, rfl, rfl, rfl, rfl, rfl, rfl, rfl, rfl, rfl⟩ := hall
         subst hun
         go_simp
         exact hK _ _ ⟨true, true, true, true, true, true, true, true, true, true, true, true, true, true, true, l15, bp, k2, kv, br, bq, a7, c7, rfl, by simp, by simp, by simp, by simp, by simp, by simp, hd15, (by simp only [↓reduceIte, List.setIfInBounds_toArray, List.set_cons_zero, List.set_cons_succ]), HS.out⟩
        ·obtain ⟨rfl, rfl, rfl, rfl, rfl, rfl, rfl, rfl, rfl, rfl, rfl, rfl, rfl, rfl, rfl, -⟩ := hall
         subst hun
         have f0 := HS.out.fr 3 0 rfl
         have k0q := HS.out.cell (v := .slice (some ⟨y2, o2, none⟩) D.next.length e1) 3 0 rfl rfl
         go_simp
         exact hK _ _ ⟨true, true, true, true, true, true, true, true, true, true, true, true, true, true, true, true, bp, k2, kv, br, bq, a7, c7, rfl, by simp, by simp, by simp, by simp, by simp, by simp, by simp, (by simp only [↓reduceIte, List.setIfInBounds_toArray, List.set_cons_zero, List.set_cons_succ]), (HS.out.set 3 rfl 0 (.slice a7 (1 + (D.next.length - 1)) c7))⟩
       ·rintro listed a w' ⟨l0, l1, l2, l3, l4, l5, l6, l7, l8, l9, l10, l11, l12, l13, l14, l15, bp, k2, kv, br, bq, a7, c7, rfl, hd6, hd7, hd8, hd9, hd12, hd13, hd15, rfl, hS⟩ hr
        have hall := ready_nil (by kernel_rfl) rfl hr
        obtain rfl : l0 = true := by simpa using hall 0 (by simp)
        obtain rfl : l1 = true := by simpa using hall 1 (by simp)
        obtain rfl : l2 = true := by simpa using hall 2 (by simp)
        obtain rfl : l3 = true := by simpa using hall 3 (by simp)
        obtain rfl : l4 = true := by simpa using hall 4 (by simp)
        obtain rfl : l5 = true := by simpa using hall 5 (by simp)
        obtain rfl : l6 = true := by simpa using hall 6 (by simp)
        obtain rfl : l7 = true := by simpa using hall 7 (by simp)
        obtain rfl : l8 = true := by simpa using hall 8 (by simp)
        obtain rfl : l9 = true := by simpa using hall 9 (by simp)
        obtain rfl : l10 = true := by simpa using hall 10 (by simp)
        obtain rfl : l11 = true := by simpa using hall 11 (by simp)
        obtain rfl : l12 = true := by simpa using hall 12 (by simp)
        obtain rfl : l13 = true := by simpa using hall 13 (by simp)
        obtain rfl : l14 = true := by simpa using hall 14 (by simp)
        obtain rfl : l15 = true := by simpa using hall 15 (by simp)
        clear hall hr hd6 hd7 hd8 hd9 hd12 hd13 hd15
        simp only [↓reduceIte] at hS ⊢
        simp only [List.setIfInBounds_toArray, List.set_cons_zero, List.set_cons_succ]
        have HSf := Lib.hid hS
        clear hS
        have t0 := HSf.out.cell (v := .slice a7 (1 + (D.next.length - 1)) c7) 3 0 rfl rfl
        have t1 := HSf.out.cell (v := .slice d2 D.ends.length e2) 3 1 rfl rfl
        have f0 := HSf.out.fr 2 0 rfl
        have f1 := HSf.out.fr 2 1 rfl
        have k0q := HSf.out.cell (v := .slice none 0 0) 2 0 rfl rfl
        have k1q := HSf.out.cell (v := .slice none 0 0) 2 1 rfl rfl
        go_wp2
        have hq := (HSf.out.set 2 rfl 0 (.slice a7 (1 + (D.next.length - 1)) c7)).set 2 rfl 1 (.slice d2 D.ends.length e2)
        have q0 := hq.cell (v := .slice a7 (1 + (D.next.length - 1)) c7) 2 0 rfl rfl
        have q1 := hq.cell (v := .slice d2 D.ends.length e2) 2 1 rfl rfl
        refine bodyPost_ret (v := .agg #[.slice a7 (1 + (D.next.length - 1)) c7, .slice d2 D.ends.length e2]) (by simp [results, Try.results58, go_sem, q0, q1]) rfl ?_
        have hE6 : St w0 _ ([RdE b vb (pz + 1 + 1), X] ++ [E, Ent.row 48 1 (.slice a7 (1 + (D.next.length - 1)) c7) (1 + (D.next.length - 1)) (.slice (some ⟨br, 0, none⟩) 3 3 :: vsD.drop 1), Ent.row 3 1 (.slice (some ⟨br, 0, none⟩) 3 3) 3 (intCells [0, 0, kv])]) := hq.pick [0, 1, 4, 7, 6] (by decide)
        have hln : ([0, 0, kv] :: D.next.drop 1).length = 1 + (D.next.length - 1) := by simp; omega
        have Hh2 := Hh.out.head (row := [0, 0, kv]) (es := 48) (e := 3) (v := .slice a7 (1 + (D.next.length - 1)) c7) (rv := .slice (some ⟨br, 0, none⟩) 3 3) hD1 rfl rfl
        exact ⟨⟨[0, 0, kv] :: D.next.drop 1, D.ends⟩, pz + 1 + 1, a7, d2, c7, e2, _, _, by omega, small_head HSm.out hD1 (by simp), by rw [hln], by rw [hln]; exact Hh2, St.pack hE6⟩
       ·refine ⟨false, false, false, false, false, false, false, false, false, false, false, false, false, false, false, false, 0, 0, 0, 0, 0, none, 0, rfl, by simp, by simp, by simp, by simp, by simp, by simp, by simp, (by simp), ?_⟩
        exact HSq.out.drew.pick [0, 1, 2, 3, 4, 5, 6, 7] (by decide)
     ·obtain ⟨z0a, z0b, z0c, z0d⟩ := not_eqI (show (k4 : Int) ≠ 0 by omega)
      obtain ⟨z1a, z1b, z1c, z1d⟩ := not_eqI (show (k4 : Int) ≠ 1 by omega)
      obtain ⟨z2a, z2b, z2c, z2d⟩ := not_eqI (show (k4 : Int) ≠ 2 by omega)
      clear h43
      have c0 := HSk.out.cell (v := .slice d1 D.next.length e1) 3 0 rfl rfl
      have c1q := HSk.out.cell (v := .slice d2 D.ends.length e2) 3 1 rfl rfl
      have f2 := HSk.out.fr 3 0 rfl
      have f3 := HSk.out.fr 3 1 rfl
      have HS8 := Lib.hid ((((HSk.out.set 3 rfl 0 (.slice none 0 0)).set 3 rfl 1 (.slice none 0 0)).pick [0, 1, 2, 3, 5] (by decide)))
      have HSr2 := HS8
      have t0 := HSr2.out.cell (v := .slice none 0 0) 3 0 rfl rfl
      have t1 := HSr2.out.cell (v := .slice none 0 0) 3 1 rfl rfl
      have f0 := HSr2.out.fr 2 0 rfl
      have f1 := HSr2.out.fr 2 1 rfl
      have k0q := HSr2.out.cell (v := .slice none 0 0) 2 0 rfl rfl
      have k1q := HSr2.out.cell (v := .slice none 0 0) 2 1 rfl rfl
      go_wp2
      have hq := (HSr2.out.set 2 rfl 0 (.slice none 0 0)).set 2 rfl 1 (.slice none 0 0)
      have q0 := hq.cell (v := .slice none 0 0) 2 0 rfl rfl
      have q1 := hq.cell (v := .slice none 0 0) 2 1 rfl rfl
      refine bodyPost_ret (v := .agg #[.slice none 0 0, .slice none 0 0]) (by simp [results, Try.results58, go_sem, q0, q1]) rfl ?_
      exact ⟨⟨[], []⟩, pz + 1, none, none, 0, 0, [], Ent.nil, by omega, ⟨by simp, by simp, fun x hx => by simp at hx⟩, rfl, dfaH_zero, hq.pick [0, 1, 4] (by decide)⟩
   cases q3
   ·go_wp2_with fail
    go_meet
    case rel => exact ⟨D, d1, d2, e1, e2, vsD, E, pr, by omega, HSm.out, Hh.out, hD1, hD2, HS6.out⟩
   ·go_wp2_with fail
    refine (pick_any bs vb b (pr) 3 w0 _ _ Hb.out hlen (by omega) (by omega) (by omega) (St.pack (A := [RdE b vb (pr)]) (R := [X, Ent.box w.heap.size #[.slice none 0 0, .slice none 0 0] 27, Ent.box (w.heap.size + 1) #[.slice d1 D.next.length e1, .slice d2 D.ends.length e2] 27, E]) HS6.out)).mono ?_
    rintro e w3 ⟨kd, hkd, rfl, hSp⟩
    have HS7 := Lib.hid (St.unpack (A := [RdE b vb (pr)]) (A' := [RdE b vb (pr + 1)]) (R := [X, Ent.box w.heap.size #[.slice none 0 0, .slice none 0 0] 27, Ent.box (w.heap.size + 1) #[.slice d1 D.next.length e1, .slice d2 D.ends.length e2] 27, E]) HS6.out hSp)
    clear hSp
    obtain ⟨dp, hdp⟩ : ∃ z, z = kd + 1 := ⟨_, rfl⟩
    have hdI : (1 : Int) + (kd : Int) = (dp : Int) := by omega
    have hfl : FL dp ≤ 1000 ∧ FG dp ≤ 100 := by
     have : dp = 1 ∨ dp = 2 ∨ dp = 3 := by omega
     rcases this with rfl | rfl | rfl <;> decide
    have hdp3 : dp ≤ 3 := by omega
    have Hhdp := Lib.hid hdp; clear hdp
    go_wp2_with fail
    refine (make_any bs vb b w0 Hb.out hlen dp (by omega) false (pr + 1) _ _ (by omega) (St.pack (A := [RdE b vb (pr + 1)]) (R := [X, Ent.box w.heap.size #[.slice none 0 0, .slice none 0 0] 27, Ent.box (w.heap.size + 1) #[.slice d1 D.next.length e1, .slice d2 D.ends.length e2] 27, E]) HS7.out)).mono ?_
    rintro e w4 ⟨am, cm, es, pm, -, hel, hpm, rfl, hSp⟩
    have HS8 := Lib.hid (St.unpack (A := [RdE b vb (pr + 1)]) (A' := [RdE b vb pm, PartE am cm es]) (R := [X, Ent.box w.heap.size #[.slice none 0 0, .slice none 0 0] 27, Ent.box (w.heap.size + 1) #[.slice d1 D.next.length e1, .slice d2 D.ends.length e2] 27, E]) HS7.out (hSp.pick [0, 2, 1] (by decide)))
    have HPs := Lib.hid (show Pairs 0 w4 (.slice am es.length cm) es from Sl.mono ((own_of_row (HS8.out.row 1 rfl)).sl (by omega)) (Nat.zero_le _))
    obtain ⟨o, ho⟩ := compO_ex 40 es
    have hels : es.length ≤ 1000000 := by omega
    clear hSp
    go_wp2_with fail
    refine (specCompile_any 40 rfl es o ho _ _ (Nat.le_trans hels (by decide)) HPs.out).mono ?_
    intro e w5 hro
    cases o with
    | none =>
     obtain ⟨x1, y1, x2, y2, rfl, hb5⟩ := hro.no
     have HS9 := Lib.hid (((HS8.out.call hb5).alloc_ (.cells #[.slice x1 0 y1, .slice x2 0 y2] 27)).pick [0, 2, 3, 4, 5] (by decide))
     clear hro hb5
     go_wp2_with fail
     go_meet
     case rel => exact ⟨D, d1, d2, e1, e2, vsD, E, pm, by omega, HSm.out, Hh.out, hD1, hD2, HS9.out⟩
    | some z =>
     obtain ⟨x1, y1, x2, y2, rfl, hdz, hb5⟩ := hro.yes
     have hzo := compO_ok rfl ho
     obtain ⟨vz, hhz⟩ := dfaH_call hdz (by have := (dfaOk_len hzo).1; omega)
     have HSm2 := Lib.hid (small_dfa hzo)
     have hz1 : 0 < z.next.length := by have := dfaOk_len hzo; omega
     have hz2 : 0 < z.ends.length := by have := dfaOk_len hzo; omega
     have HS9 := Lib.hid ((HS8.out.dfaE hb5).alloc_ (.cells #[.slice x1 z.next.length y1, .slice x2 z.ends.length y2] 27))
     have f2 := HS9.out.fr 4 0 rfl
     have f3 := HS9.out.fr 4 1 rfl
     have g2 := HS9.out.cell (v := .slice d1 D.next.length e1) 4 0 rfl rfl
     have g3 := HS9.out.cell (v := .slice d2 D.ends.length e2) 4 1 rfl rfl
     have hS10 : St w0 _ [RdE b vb pm, X, Ent.box w.heap.size #[.slice none 0 0, .slice none 0 0] 27, Ent.box (w.heap.size + 1) #[.slice x1 z.next.length y1, .slice x2 z.ends.length y2] 27, DfaE w4 w5] := ((HS9.out.set 4 rfl 0 (.slice x1 z.next.length y1)).set 4 rfl 1 (.slice x2 z.ends.length y2)).pick [0, 2, 3, 4, 6] (by decide)
     obtain ⟨Ez, hEz⟩ : ∃ E, E = DfaE w4 w5 := ⟨_, rfl⟩
     rw [← hEz] at hS10 hhz
     have HSz := Lib.hid hS10
     have Hhz := Lib.hid hhz
     clear hS10 hhz hro hb5 hdz
     obtain ⟨D, rfl⟩ : ∃ y, y = z := ⟨_, rfl⟩
     obtain ⟨d1, rfl⟩ : ∃ y, y = x1 := ⟨_, rfl⟩
     obtain ⟨d2, rfl⟩ : ∃ y, y = x2 := ⟨_, rfl⟩
     obtain ⟨e1, rfl⟩ : ∃ y, y = y1 := ⟨_, rfl⟩
     obtain ⟨e2, rfl⟩ : ∃ y, y = y2 := ⟨_, rfl⟩
     obtain ⟨vsD, rfl⟩ : ∃ y, y = vz := ⟨_, rfl⟩
     obtain ⟨E, rfl⟩ : ∃ y, y = Ez := ⟨_, rfl⟩
     have Hh := Hhz
     have HSm := HSm2
     have hD1 := hz1
     have hD2 := hz2
     clear Hhz HSm2 hz1 hz2
     go_wp2_with fail
     go_meet
     case rel => exact ⟨D, d1, d2, e1, e2, vsD, E, pm, by omega, HSm.out, Hh.out, hD1, hD2, HSz.out⟩
end Go.Proofs.Ytalbofnhcpjilaa
