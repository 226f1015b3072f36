/-
  The walk over the reference's l20Set: some states are drawn.
  Conditions: the reader is among the things that the call owns; the number of states is small.
  The walk over the reference's DrawNfaClose: an automaton with choices and some states are drawn.
  Condition: the bytes read as such.
-/
import Derived.Test.YtolkifpeblbfcaaLm
import Derived.Test.YtolkifpeblbfcaaNj
import Derived.Test.YtolkifpeblbfcaaDn
import Derived.Test.YtolkifpeblbfcaaNm
namespace Go.Proofs.Ytolkifpeblbfcaa
open Go.RowKit

set_option maxRecDepth 100000 in
set_option maxHeartbeats 8000000 in
theorem l20Set_any (bs : List Nat) (vb : Value) (b p : Nat) (S : Int) (v1 v2 v3 : Value) (w0 w : World) (X : Ent) (hb : Bytes 0 w0 vb bs) (hlen : bs.length ≤ 2000) (hp : p ≤ 10000) (hs0 : -1 ≤ S) (hs1 : S ≤ 41) (hS : St w0 w [RdE b vb p, X]) :
    Calls Try.prog 86 #[.pointer (some ⟨b, 0, none⟩), .agg #[.int .i64 S, v1, v2, v3]] w fun e w' => ∃ (L : List Int) (a : Option Addr) (c p' : Nat), L.length ≤ 43 ∧ p' ≤ p + 60 ∧ e = .returned (.slice a L.length c) ∧ St w0 w' [RdE b vb p', X, Ent.row 3 1 (.slice a L.length c) L.length (intCells L)] := by
  have Hb := Lib.hid hb
  obtain ⟨j0, hj, hy0, hy1, hy2⟩ := info_parts Try.infoInt
  have hS1 := ((hS.alloc w.heap.size rfl #[.int .i64 S, v1, v2, v3] 46).alloc (w.heap.size + 1) (by simp) #[] 3).boxrow 3 0 1 [] rfl rfl (Nat.zero_le _)
  have HS1 := Lib.hid hS1
  have Hhj := Lib.hid hj; clear hj
  have Hhy0 := Lib.hid hy0; clear hy0
  have Hhy1 := Lib.hid hy1; clear hy1
  have Hhy2 := Lib.hid hy2; clear hy2
  clear hb hS hS1
  go_enter Try.func86, Try.ntmps86
  go_wp2
  go_loopw [5, 6] (fun vo vi wr => ∃ (k pq : Nat) (L : List Int) (a : Option Addr) (c n : Nat), vi = .int .i64 k ∧ vo = .slice a n c ∧ L.length = n ∧ n ≤ k ∧ k ≤ 41 ∧ pq ≤ p + k ∧ St w0 wr [RdE b vb pq, X, Ent.box w.heap.size #[.int .i64 S, v1, v2, v3] 46, Ent.row 3 1 (.slice a n c) n (intCells L)]) (fun _ vi _ => 41 - (intOf vi).toNat)
  case atStart => exact ⟨0, p, [], _, _, 0, rfl, rfl, rfl, Nat.le_refl _, by omega, by omega, HS1.out⟩
  case round =>
    obtain ⟨k, pq, L, a, c, n, rfl, rfl, hL, hn, hk, hpq, hS⟩ := hrel
    have e0 := hS.cell (v := .int .i64 S) 2 0 rfl rfl
    have HS2 := Lib.hid hS
    have HL := Lib.hid hL
    clear hS hL
    by_cases hlt : (k : Int) < S
    · go_wp2_with fail
      refine (pick_any bs vb b pq 3 w0 _ _ Hb.out hlen (by omega) (by omega) (by omega) (St.pack (A := [RdE b vb pq]) (R := [X, Ent.box w.heap.size #[.int .i64 S, v1, v2, v3] 46, Ent.row 3 1 (.slice a n c) n (intCells L)]) HS2.out)).mono ?_
      rintro e w2 ⟨k2, hk2, rfl, hSp⟩
      have HS3 := Lib.hid (St.unpack (A := [RdE b vb pq]) (A' := [RdE b vb (pq + 1)]) (R := [X, Ent.box w.heap.size #[.int .i64 S, v1, v2, v3] 46, Ent.row 3 1 (.slice a n c) n (intCells L)]) HS2.out hSp)
      clear hSp e0
      by_cases hz : (k2 : Int) = 0
      · obtain ⟨q1, q2, q3⟩ := yes_eqI hz
        have hSa := HS3.out.alloc_ (.cells #[.int .i64 ((k : Nat) : Int)] 3)
        have HRa := Lib.hid (hSa.row 3 rfl)
        have HSa := Lib.hid hSa
        clear hSa hz
        go_wp2_with (at_builtin; refine wpList_append_lies _ rfl _ _ _ rfl _ 3 j0 (.int .i64 0) 1 8 Try.underlying44 Hhj.out Hhy0.out Hhy1.out Hhy2.out rfl (by omega) _ n _ rfl HRa.out ⟨w2.heap.size, 0, none⟩ 1 1 [.int .i64 ((k : Nat) : Int)] rfl rfl (World.news_of_block (heap_alloc_new w2 _)) one_int (by omega) (by unfold maxLen; omega) (by omega) HSa.out.size _ rfl ?_; intro g6 c6 w6 hown6 hgrow6 hat6 hlt6; have HS6 := Lib.hid (HSa.out.app 3 rfl hown6 hgrow6 hat6); clear hown6 hgrow6 hat6 hlt6)
        go_roundw
        case rel =>
          refine ⟨k + 1, pq + 1, L ++ [((k : Nat) : Int)], some ⟨g6, 0, none⟩, c6, n + 1, by go_num, rfl, by rw [List.length_append, HL.out]; rfl, by omega, by omega, by omega, ?_⟩
          rw [intCells_snoc]
          exact HS6.out
        case measure => simp [intOf]; omega
      · obtain ⟨q1, q2, q3, -⟩ := not_eqI hz
        clear hz
        go_wp2
        go_roundw
        case rel => exact ⟨k + 1, pq + 1, L, a, c, n, by go_num, rfl, HL.out, by omega, by omega, by omega, HS3.out⟩
        case measure => simp [intOf]; omega
    · have hge : ((k : Int) < S) = False := by simp; omega
      clear hlt
      go_wp2_with fail
      refine (odd_any bs vb b pq 12 w0 _ _ Hb.out hlen (by omega) (by omega) (St.pack (A := [RdE b vb pq]) (R := [X, Ent.box w.heap.size #[.int .i64 S, v1, v2, v3] 46, Ent.row 3 1 (.slice a n c) n (intCells L)]) HS2.out)).mono ?_
      rintro e w2 ⟨q, p2, hp2, rfl, hSp⟩
      have HS3 := Lib.hid (St.unpack (A := [RdE b vb pq]) (A' := [RdE b vb p2]) (R := [X, Ent.box w.heap.size #[.int .i64 S, v1, v2, v3] 46, Ent.row 3 1 (.slice a n c) n (intCells L)]) HS2.out hSp)
      have hLn := HL.out
      subst hLn
      clear hSp e0
      cases q
      · go_wp2
        go_ret
        exact ⟨L, a, c, p2, by omega, by omega, rfl, HS3.out.pick [0, 1, 3] (by decide)⟩
      · have hSa := HS3.out.alloc_ (.cells #[.int .i64 0] 3)
        have HRa := Lib.hid (hSa.row 3 rfl)
        have HSa := Lib.hid hSa
        clear hSa
        go_wp2_with (at_builtin; refine wpList_append_lies _ rfl _ _ _ rfl _ 3 j0 (.int .i64 0) 1 8 Try.underlying44 Hhj.out Hhy0.out Hhy1.out Hhy2.out rfl (by omega) _ L.length _ rfl HRa.out ⟨w2.heap.size, 0, none⟩ 1 1 [.int .i64 0] rfl rfl (World.news_of_block (heap_alloc_new w2 _)) one_int (by omega) (by unfold maxLen; omega) (by omega) HSa.out.size _ rfl ?_; intro g6 c6 w6 hown6 hgrow6 hat6 hlt6; have HS6 := Lib.hid (HSa.out.app 3 rfl hown6 hgrow6 hat6); clear hown6 hgrow6 hat6 hlt6)
        go_ret
        refine ⟨L ++ [0], some ⟨g6, 0, none⟩, c6, p2, by rw [List.length_append]; simp; omega, by omega, by rw [List.length_append]; rfl, ?_⟩
        rw [List.length_append, intCells_snoc]
        exact HS6.out.pick [0, 1, 3] (by decide)
end Go.Proofs.Ytolkifpeblbfcaa
namespace Go.Proofs.Ytolkifpeblbfcaa
open Go.RowKit

set_option maxRecDepth 100000 in
set_option maxHeartbeats 4000000 in
theorem open2_any (bs : List Nat) (v : Value) (w : World) (hb : Bytes 0 w v bs) (hlen : bs.length ≤ 100000000) :
    Calls Try.prog 84 #[v] w fun e w' => ∃ vb bs', bs'.length ≤ 2000 ∧ (∀ u : World, Bytes 0 u v bs → Bytes 0 u vb bs') ∧ e = .returned (.pointer (some ⟨w.heap.size, 0, none⟩)) ∧ St w w' [RdE w.heap.size vb 0] := by
  obtain ⟨a, c, rfl, hc1, hc2, -⟩ := hb.form
  have Hb := Lib.hid hb
  clear hb
  by_cases h2 : 2000 < bs.length
  · have q1 : (2000 : Int) < bs.length := by omega
    have q2 : (2000 : Int) ≤ c := by omega
    have hS := (St.start w).alloc _ rfl #[.slice a 2000 c, .int .i64 0] 147
    have HS := Lib.hid hS
    clear hS
    go_enter Try.func84, Try.ntmps84
    go_wp2
    go_ret
    exact ⟨_, bs.take 2000, by rw [List.length_take]; omega, fun u h => h.take (by omega), rfl, HS.out⟩
  · have q1 : (2000 < (bs.length : Int)) = False := by simp; omega
    have hS := (St.start w).alloc _ rfl #[.slice a bs.length c, .int .i64 0] 147
    have HS := Lib.hid hS
    have h2 : bs.length ≤ 2000 := by omega
    clear hS
    go_enter Try.func84, Try.ntmps84
    go_wp2
    go_ret
    exact ⟨_, bs, h2, fun u h => h, rfl, HS.out⟩
set_option maxRecDepth 100000 in
set_option maxHeartbeats 8000000 in
theorem drawClose_any (bs : List Nat) (v : Value) (w : World) (hb : Bytes 0 w v bs) (hlen : bs.length ≤ 100000000) :
    Calls Try.prog 28 #[v] w fun e w' => ∃ (n : NfaD) (L : List Int) (a1 a2 a3 a4 : Option Addr) (c1 c2 c3 c4 : Nat), -1 ≤ n.states ∧ n.states ≤ 41 ∧ n.moves.length ≤ 401 ∧ n.firsts.length ≤ 41 ∧ n.ends.length ≤ 41 ∧ L.length ≤ 43 ∧
      e = .returned (.tuple #[.agg #[.int .i64 n.states, .slice a1 n.moves.length c1, .slice a2 n.firsts.length c2, .slice a3 n.ends.length c3], .slice a4 L.length c4]) ∧
      St w w' [Ent.row 53 3 (.slice a1 n.moves.length c1) n.moves.length (n.moves.flatMap moveCells), Ent.row 3 1 (.slice a2 n.firsts.length c2) n.firsts.length (intCells n.firsts), Ent.row 3 1 (.slice a3 n.ends.length c3) n.ends.length (intCells n.ends), Ent.row 3 1 (.slice a4 L.length c4) L.length (intCells L)] := by
  have hS0 := (St.start w).alloc _ rfl #[.int .i64 0, .slice none 0 0, .slice none 0 0, .slice none 0 0] 46
  have Hb := Lib.hid hb
  have HhS0 := Lib.hid hS0; clear hS0
  clear hb
  go_enter Try.func28, Try.ntmps28
  go_wp2_with fail
  refine (open2_any bs v _ (Hb.out.below HhS0.out.bel) hlen).mono ?_
  rintro e w1 ⟨vb, bs', hl', hB, rfl, hS'⟩
  obtain ⟨b, hbb⟩ : ∃ b, b = (w.alloc (.cells #[.int .i64 0, .slice none 0 0, .slice none 0 0, .slice none 0 0] 46)).heap.size := ⟨_, rfl⟩
  rw [← hbb] at hS'
  rw [← hbb]
  have hB1 := hB w Hb.out
  have HB := Lib.hid hB1
  have HS1 := Lib.hid ((HhS0.out.cat hS').pick [1, 0] (by decide))
  have Hhbb := Lib.hid hbb; clear hbb
  clear hS' hB hB1
  go_wp2_with fail
  refine (l20Nfa_any bs' vb b 0 14 w w1 _ HB.out hl' (by omega) (by omega) HS1.out).mono ?_
  rintro e w2 ⟨n, pn, a1, a2, a3, c1, c2, c3, hpn, hs0, hs1, hm, hf, he, rfl, hS2⟩
  have HS2 := Lib.hid (hS2.alloc _ rfl #[.int .i64 n.states, .slice a1 n.moves.length c1, .slice a2 n.firsts.length c2, .slice a3 n.ends.length c3] 46)
  clear hS2
  go_wp2
  refine wp_region_any (by kernel_rfl) ?_
  refine wpAny_invA (fun A listed a w' => ∃ (l0 l1 l2 l3 l4 l5 : Bool) (L : {l : List Int // l.length ≤ 43}) (a4 : Option Addr) (c4 : Nat) (pz : Nat), listed = #[l0, l1, l2, l3, l4, l5] ∧ (l3 = true → l1 = true ∧ l2 = true) ∧ (l4 = true → l3 = true ∧ l0 = true) ∧ (l5 = true → l3 = true ∧ l4 = true) ∧
      a = ⟨(((((A.tmps.setIfInBounds 10 (if l0 = true then .agg #[.int .i64 n.states, .slice a1 n.moves.length c1, .slice a2 n.firsts.length c2, .slice a3 n.ends.length c3] else A.tmps.getD 10 undef)).setIfInBounds 11 (if l1 = true then .pointer (some ⟨b, 0, none⟩) else A.tmps.getD 11 undef)).setIfInBounds 12 (if l2 = true then .agg #[.int .i64 n.states, .slice a1 n.moves.length c1, .slice a2 n.firsts.length c2, .slice a3 n.ends.length c3] else A.tmps.getD 12 undef)).setIfInBounds 13 (if l3 = true then .slice a4 L.1.length c4 else A.tmps.getD 13 undef)).setIfInBounds 3 (if l5 = true then .slice a4 L.1.length c4 else A.tmps.getD 3 undef)), A.defers⟩ ∧
      St w w' [RdE b vb (if l3 = true then pz else pn), Ent.box w.heap.size #[(if l4 = true then .int .i64 n.states else .int .i64 0), (if l4 = true then .slice a1 n.moves.length c1 else .slice none 0 0), (if l4 = true then .slice a2 n.firsts.length c2 else .slice none 0 0), (if l4 = true then .slice a3 n.ends.length c3 else .slice none 0 0)] 46, Ent.row 53 3 (.slice a1 n.moves.length c1) n.moves.length (n.moves.flatMap moveCells), Ent.row 3 1 (.slice a2 n.firsts.length c2) n.firsts.length (intCells n.firsts), Ent.row 3 1 (.slice a3 n.ends.length c3) n.ends.length (intCells n.ends), Ent.box w2.heap.size #[.int .i64 n.states, .slice a1 n.moves.length c1, .slice a2 n.firsts.length c2, .slice a3 n.ends.length c3] 46, (if l3 = true then Ent.row 3 1 (.slice a4 L.1.length c4) L.1.length (intCells L.1) else Ent.nil)]) ?_ ?_ ?_
  · rintro listed a w' ⟨l0, l1, l2, l3, l4, l5, L, a4, c4, pz, rfl, hd3, hd4, hd5, rfl, hS⟩ i hi
    obtain ⟨hun, o, ho, hall⟩ := mem_ready.1 hi
    have hlt := (Array.getElem?_eq_some_iff.1 ho).1
    refine wpOp_step ho (fun K hK => ?_)
    clear hi
    have HS := Lib.hid hS
    clear hS
    simp only [List.setIfInBounds_toArray, List.set_cons_zero, List.set_cons_succ, Array.getD_eq_getD_getElem?, List.getElem?_toArray, List.getElem?_cons_zero, List.getElem?_cons_succ, Option.getD_some]
    obtain h | h | h | h | h | h : i = 0 ∨ i = 1 ∨ i = 2 ∨ i = 3 ∨ i = 4 ∨ i = 5 := by simp at hlt; omega
    all_goals subst h
    all_goals simp only [List.getElem?_toArray, List.getElem?_cons_zero, List.getElem?_cons_succ, Option.some.injEq] at ho
    all_goals subst ho
    all_goals simp [Region.binds] at hun hall
    · subst hun
      obtain rfl : l4 = false := offR hd4 rfl
      obtain rfl : l5 = false := offR hd5 rfl
      have e0 := HS.out.cell (v := .int .i64 n.states) 5 0 rfl rfl
      have e1 := HS.out.cell (v := .slice a1 n.moves.length c1) 5 1 rfl rfl
      have e2 := HS.out.cell (v := .slice a2 n.firsts.length c2) 5 2 rfl rfl
      have e3 := HS.out.cell (v := .slice a3 n.ends.length c3) 5 3 rfl rfl
      go_simp
      exact hK _ _ ⟨true, l1, l2, l3, false, false, L, a4, c4, pz, rfl, hd3, by simp, by simp, (by simp only [↓reduceIte, Bool.false_eq_true, List.setIfInBounds_toArray, List.set_cons_zero, List.set_cons_succ, Array.getD_eq_getD_getElem?, List.getElem?_toArray, List.getElem?_cons_zero, List.getElem?_cons_succ, Option.getD_some]), HS.out⟩
    · subst hun
      obtain rfl : l3 = false := offL hd3 rfl
      obtain rfl : l4 = false := offL hd4 rfl
      obtain rfl : l5 = false := offL hd5 rfl
      go_simp
      exact hK _ _ ⟨l0, true, l2, false, false, false, L, a4, c4, pz, rfl, by simp, by simp, by simp, (by simp only [↓reduceIte, Bool.false_eq_true, List.setIfInBounds_toArray, List.set_cons_zero, List.set_cons_succ, Array.getD_eq_getD_getElem?, List.getElem?_toArray, List.getElem?_cons_zero, List.getElem?_cons_succ, Option.getD_some]), HS.out⟩
    · subst hun
      obtain rfl : l3 = false := offR hd3 rfl
      obtain rfl : l4 = false := offL hd4 rfl
      obtain rfl : l5 = false := offL hd5 rfl
      have e0 := HS.out.cell (v := .int .i64 n.states) 5 0 rfl rfl
      have e1 := HS.out.cell (v := .slice a1 n.moves.length c1) 5 1 rfl rfl
      have e2 := HS.out.cell (v := .slice a2 n.firsts.length c2) 5 2 rfl rfl
      have e3 := HS.out.cell (v := .slice a3 n.ends.length c3) 5 3 rfl rfl
      go_simp
      exact hK _ _ ⟨l0, l1, true, false, false, false, L, a4, c4, pz, rfl, by simp, by simp, by simp, (by simp only [↓reduceIte, Bool.false_eq_true, List.setIfInBounds_toArray, List.set_cons_zero, List.set_cons_succ, Array.getD_eq_getD_getElem?, List.getElem?_toArray, List.getElem?_cons_zero, List.getElem?_cons_succ, Option.getD_some]), HS.out⟩
    · obtain ⟨rfl, rfl⟩ := hall
      subst hun
      obtain rfl : l4 = false := offL hd4 rfl
      obtain rfl : l5 = false := offL hd5 rfl
      go_simp
      go_at_call 86
      refine (l20Set_any bs' vb b pn n.states _ _ _ w _ _ HB.out hl' (by omega) (by omega) (by omega) (St.pack (A := [RdE b vb pn]) (R := [Ent.box w.heap.size #[.int .i64 0, .slice none 0 0, .slice none 0 0, .slice none 0 0] 46, Ent.row 53 3 (.slice a1 n.moves.length c1) n.moves.length (n.moves.flatMap moveCells), Ent.row 3 1 (.slice a2 n.firsts.length c2) n.firsts.length (intCells n.firsts), Ent.row 3 1 (.slice a3 n.ends.length c3) n.ends.length (intCells n.ends), Ent.box w2.heap.size #[.int .i64 n.states, .slice a1 n.moves.length c1, .slice a2 n.firsts.length c2, .slice a3 n.ends.length c3] 46]) (HS.out.pick [0, 1, 2, 3, 4, 5] (by decide)))).mono ?_
      rintro e u1 ⟨L9, a9, c9, p9, hL9, hp9, rfl, hSp⟩
      have hS2 := (St.unpack (A := [RdE b vb pn]) (A' := [RdE b vb p9, Ent.row 3 1 (.slice a9 L9.length c9) L9.length (intCells L9)]) (R := [Ent.box w.heap.size #[.int .i64 0, .slice none 0 0, .slice none 0 0, .slice none 0 0] 46, Ent.row 53 3 (.slice a1 n.moves.length c1) n.moves.length (n.moves.flatMap moveCells), Ent.row 3 1 (.slice a2 n.firsts.length c2) n.firsts.length (intCells n.firsts), Ent.row 3 1 (.slice a3 n.ends.length c3) n.ends.length (intCells n.ends), Ent.box w2.heap.size #[.int .i64 n.states, .slice a1 n.moves.length c1, .slice a2 n.firsts.length c2, .slice a3 n.ends.length c3] 46]) (HS.out.pick [0, 1, 2, 3, 4, 5] (by decide)) (hSp.pick [0, 2, 1] (by decide))).pick [0, 2, 3, 4, 5, 6, 1] (by decide)
      have HhS2 := Lib.hid hS2; clear hS2
      go_simp
      exact hK _ _ ⟨l0, true, true, true, false, false, ⟨L9, hL9⟩, a9, c9, p9, rfl, by simp, by simp, by simp, (by simp only [↓reduceIte, Bool.false_eq_true, List.setIfInBounds_toArray, List.set_cons_zero, List.set_cons_succ, Array.getD_eq_getD_getElem?, List.getElem?_toArray, List.getElem?_cons_zero, List.getElem?_cons_succ, Option.getD_some]), HhS2.out⟩
    · obtain ⟨rfl, rfl, -⟩ := hall
      subst hun
      obtain ⟨rfl, rfl⟩ := hd3 rfl
      obtain rfl : l5 = false := offR hd5 rfl
      have f0 := HS.out.fr 1 0 rfl
      have k0 := HS.out.cell (v := .int .i64 0) 1 0 rfl rfl
      have f1 := HS.out.fr 1 1 rfl
      have k1 := HS.out.cell (v := .slice none 0 0) 1 1 rfl rfl
      have f2 := HS.out.fr 1 2 rfl
      have k2 := HS.out.cell (v := .slice none 0 0) 1 2 rfl rfl
      have f3 := HS.out.fr 1 3 rfl
      have k3 := HS.out.cell (v := .slice none 0 0) 1 3 rfl rfl
      go_simp
      exact hK _ _ ⟨true, true, true, true, true, false, L, a4, c4, pz, rfl, by simp, by simp, by simp, (by simp only [↓reduceIte, Bool.false_eq_true, List.setIfInBounds_toArray, List.set_cons_zero, List.set_cons_succ, Array.getD_eq_getD_getElem?, List.getElem?_toArray, List.getElem?_cons_zero, List.getElem?_cons_succ, Option.getD_some]), ((((HS.out.set 1 rfl 0 (.int .i64 n.states)).set 1 rfl 1 (.slice a1 n.moves.length c1)).set 1 rfl 2 (.slice a2 n.firsts.length c2)).set 1 rfl 3 (.slice a3 n.ends.length c3))⟩
    · obtain ⟨rfl, rfl, rfl, rfl, rfl, -⟩ := hall
      subst hun
      go_simp
      exact hK _ _ ⟨true, true, true, true, true, true, L, a4, c4, pz, rfl, by simp, by simp, by simp, (by simp only [↓reduceIte, List.setIfInBounds_toArray, List.set_cons_zero, List.set_cons_succ]), HS.out⟩
  · rintro listed a w' ⟨l0, l1, l2, l3, l4, l5, L, a4, c4, pz, rfl, hd3, hd4, hd5, rfl, hS⟩ hr
    have hall := ready_nilM (by kernel_rfl) rfl hr
    obtain rfl : l0 = true := by simpa using hall 0 (by simp)
    obtain rfl : l1 = true := by simpa using hall 1 (by simp)
    obtain rfl : l2 = true := by simpa using hall 2 (by simp)
    obtain rfl : l3 = true := by simpa using hall 3 (by simp)
    obtain rfl : l4 = true := by simpa using hall 4 (by simp)
    obtain rfl : l5 = true := by simpa using hall 5 (by simp)
    clear hall hr hd3 hd4 hd5
    simp only [↓reduceIte] at hS ⊢
    simp only [List.setIfInBounds_toArray, List.set_cons_zero, List.set_cons_succ]
    have HSf := Lib.hid (hS.pick [0, 1, 2, 3, 4, 5, 6] (by decide))
    clear hS
    have q0 := HSf.out.cell (v := .int .i64 n.states) 1 0 rfl rfl
    have q1 := HSf.out.cell (v := .slice a1 n.moves.length c1) 1 1 rfl rfl
    have q2 := HSf.out.cell (v := .slice a2 n.firsts.length c2) 1 2 rfl rfl
    have q3 := HSf.out.cell (v := .slice a3 n.ends.length c3) 1 3 rfl rfl
    go_wp2
    refine bodyPost_ret (v := .tuple #[.agg #[.int .i64 n.states, .slice a1 n.moves.length c1, .slice a2 n.firsts.length c2, .slice a3 n.ends.length c3], (.slice a4 L.1.length c4)]) (by simp [results, Try.results28, go_sem, q0, q1, q2, q3]) rfl ?_
    exact ⟨n, L.1, a1, a2, a3, a4, c1, c2, c3, c4, hs0, hs1, hm, hf, he, L.2, rfl, HSf.out.pick [2, 3, 4, 6] (by decide)⟩
  · refine ⟨false, false, false, false, false, false, ⟨[], by simp⟩, none, 0, 0, rfl, by simp, by simp, by simp, (by simp only [↓reduceIte, Bool.false_eq_true, List.setIfInBounds_toArray, List.set_cons_zero, List.set_cons_succ, Array.getD_eq_getD_getElem?, List.getElem?_toArray, List.getElem?_cons_zero, List.getElem?_cons_succ, Option.getD_some]), ?_⟩
    exact HS2.out.drew.pick [0, 1, 2, 3, 4, 5, 6] (by decide)
end Go.Proofs.Ytolkifpeblbfcaa
