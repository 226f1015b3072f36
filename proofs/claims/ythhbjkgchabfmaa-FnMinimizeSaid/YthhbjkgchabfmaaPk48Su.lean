/-
  Facts about automata with choices that are in order, and their rows in memory; appending a slice that may be empty.
  No condition.
-/
import Derived.Test.YthhbjkgchabfmaaPk19Jg
import Derived.Test.YthhbjkgchabfmaaPk33Jv
import Derived.Test.YthhbjkgchabfmaaPk35My
import Derived.Test.YthhbjkgchabfmaaPk43Nu
namespace Go.Proofs.Ythhbjkgchabfmaa
open Go.RowKit Go.Maps
def turnM (m : Int × Int × Int) : Int × Int × Int := (m.2.2, m.2.1, m.1)
def turnN (n : NfaD) : NfaD := ⟨n.states, n.moves.map turnM, n.ends, n.firsts⟩
end Go.Proofs.Ythhbjkgchabfmaa
namespace Go.Proofs.Ythhbjkgchabfmaa
open Go.RowKit
section
variable {P : Program} (w : World)
end
theorem on_is {xs : List Int} : ∀ u ∈ intCells xs, u.oneCell' = true := fun u hu => by
  obtain ⟨x, -, rfl⟩ := List.mem_map.1 hu
  simp [Value.oneCell']
theorem nxS_M {n : NfaD} {m : Nat} (hmv : mvIn m n.moves) (x : Int × Int) (c : Nat) : isM m (nxS n x c) :=
  ⟨_, clIt_lt hmv (foldl_inv _ (fun v => v < 2 ^ m) (fun _ _ hm hv => stMove_lt hmv hm hv) (Nat.two_pow_pos m)) 40, rfl⟩
theorem fstV_M {n : NfaD} {m : Nat} (hmv : mvIn m n.moves) (hf : inN m n.firsts) : isM m (((fstV n : Nat) : Int), 0) := ⟨_, clIt_lt hmv (setV_lt hf) 40, rfl⟩
end Go.Proofs.Ythhbjkgchabfmaa
namespace Go.Proofs.Ythhbjkgchabfmaa
open Go.RowKit
theorem turnN_det {n : NfaD} {m : Nat} (h : DetOk n m) : DetOk (turnN n) m := by
  refine ⟨h.st, h.m40, fun x hx => ?_, by simpa [turnN] using h.ml, h.e, h.el, h.f, h.fl⟩
  obtain ⟨y, hy, rfl⟩ := List.mem_map.1 hx
  have := h.mv y hy
  exact ⟨this.2, this.1⟩
def tdK (K : Nat) (d : DfaD) : Option DfaD := detQK K (turnN (nfaOf d))
def ttK (K : Nat) (d : DfaD) : Option DfaD := if dfaOk d.next d.ends = true then (tdK K d).bind (tdK K) else none
end Go.Proofs.Ythhbjkgchabfmaa
namespace Go.Proofs.Ythhbjkgchabfmaa
open Go.RowKit
theorem trim_num {α : Type} [DecidableEq α] {nx : α → Nat → α} {a : α} {en : α → Bool} {K : Nat} (hK : (bat nx a K).met.length ≤ K) : trimD (numDfa nx en (bat nx a K).met) = numDfa nx en (bat nx a K).met := by
  unfold trimD
  rw [numDfa_len]
  obtain ⟨m, hm⟩ : ∃ m, m = (bat nx a K).met.length := ⟨_, rfl⟩
  have hle : (bat nx a m).met.length ≤ m := by
    have := (bat_le (nx := nx) (a := a) (show m ≤ K by omega)).1.length_le
    omega
  have hd : bat nx a K = bat nx a m := bat_done hle (by omega)
  have hp := bat_pos (nx := nx) (a := a) K
  have hpl : ∀ (s : Int) c, c < 3 → 0 ≤ s ∧ s < m → placeOf (bat nx a K).met (nx ((bat nx a K).met.getD s.toNat a) c) < m := fun s c hc hs => by
    rw [hm]
    exact placeOf_lt (bat_closed hK (memD (d := a) (show s.toNat < (bat nx a K).met.length by omega)) hc)
  have hlt : ∀ (s : Int) c, c < 3 → 0 ≤ s ∧ s < m → 0 ≤ numNext nx a (bat nx a K).met s c ∧ numNext nx a (bat nx a K).met s c < m := fun s c hc hs => by
    have := hpl s c hc hs
    unfold numNext
    omega
  have e1 : bat (numNext nx a (bat nx a K).met) 0 m = bat (dnx (numDfa nx en (bat nx a K).met)) 0 m :=
    bat_congr (Q := fun s => 0 ≤ s ∧ s < (m : Int)) (by omega) (fun s c hc hs => hlt s c hc hs) (fun s c hc hs => (dnx_num (by omega) (by omega) hc).symm) m
  have hmet : (bat (dnx (numDfa nx en (bat nx a K).met)) 0 (bat nx a K).met.length).met = upInts (bat nx a K).met.length := by
    rw [← hm, ← e1, num_sim nx a K m (by omega), ← hd, hm]
  rw [hmet]
  have hr : (upInts (bat nx a K).met.length).map (numRow (dnx (numDfa nx en (bat nx a K).met)) (upInts (bat nx a K).met.length)) = (bat nx a K).met.map (numRow nx (bat nx a K).met) := by
    refine List.ext_getElem (by simp [upInts]) fun i h1 h2 => ?_
    have hi : i < (bat nx a K).met.length := by simpa using h2
    have hu : (upInts (bat nx a K).met.length)[i]'(by simpa using h1) = (i : Int) := by simp [upInts]
    simp only [List.getElem_map]
    rw [hu]
    unfold numRow
    refine List.map_congr_left fun c hc => ?_
    have hc3 : c < 3 := List.mem_range.1 hc
    rw [dnx_num (a := a) (by omega) (by omega) hc3]
    unfold numNext
    have hp2 := hpl (i : Int) c hc3 (by omega)
    have e2 : (bat nx a K).met.getD (i : Int).toNat a = (bat nx a K).met[i] := by simp [hi]
    rw [e2] at hp2 ⊢
    congr 1
    obtain ⟨q, hq⟩ : ∃ q, placeOf (bat nx a K).met (nx ((bat nx a K).met[i]) c) = q := ⟨_, rfl⟩
    rw [hq] at hp2 ⊢
    have e3 := upInts_getD (n := (bat nx a K).met.length) (k := q) (by omega)
    have e4 := idx_getD (l := upInts (bat nx a K).met.length) (k := q) (by rw [upInts_len]; omega) (List.Pairwise.map _ (fun _ _ h e => h (Int.ofNat.inj e)) List.nodup_range) (0 : Int)
    rw [e3] at e4
    exact e4
  have he : (upInts (bat nx a K).met.length).map (den (numDfa nx en (bat nx a K).met)) = (bat nx a K).met.map en := by
    refine List.ext_getElem (by simp [upInts]) fun i h1 h2 => ?_
    have hi : i < (bat nx a K).met.length := by simpa using h2
    have hu : (upInts (bat nx a K).met.length)[i]'(by simpa using h1) = (i : Int) := by simp [upInts]
    simp only [List.getElem_map]
    rw [hu]
    exact den_num hi
  exact congr (congrArg DfaD.mk hr) he
set_option maxRecDepth 100000 in
set_option maxHeartbeats 1600000 in
theorem clone_any (xs : List Int) (v : Value) (w : World) (hl : xs.length ≤ 1000000) (h : Ints 0 w v xs) :
    Calls Try.prog 114 #[v] w fun e w' => ∃ a c, e = .returned (.slice a xs.length c) ∧ St w w' [Ent.row 3 1 (.slice a xs.length c) xs.length (intCells xs)] := by
  have hx := h
  obtain ⟨a, cap, rfl, hc1, hc2, hr⟩ := h.form
  obtain ⟨j0, hj, hy0, hy1, hy2⟩ := info_parts Try.infoInt
  cases a with
  | none =>
    have h0 : xs = [] := by
      rcases Nat.eq_zero_or_pos xs.length with h0 | h0
      · exact List.eq_nil_of_length_eq_zero h0
      · obtain ⟨b, off, hb, -⟩ := hr h0
        cases hb
    subst h0
    have qT := fun (w' : World) => Lib.run_eql_slice_nil (P := Try.prog) w' 29 3 none 0 cap 0 0 Try.underlying29
    simp only [Option.isNone] at qT
    go_enter Try.func114, Try.ntmps114
    go_wp2
    go_ret
    exact ⟨none, 0, rfl, (St.start w).nilRow 3 1⟩
  | some ad =>
    have hS0 := ((St.start w).alloc _ rfl #[] 3).boxrow 0 0 1 [] rfl rfl (Nat.zero_le _)
    have hRw := hS0.row 0 rfl
    have hX := hx.below hS0.bel
    have HhS0 := Lib.hid hS0; clear hS0
    have HhRw := Lib.hid hRw; clear hRw
    have HhX := Lib.hid hX; clear hX
    have Hhx := Lib.hid hx; clear hx
    clear hr
    have qT := fun (w' : World) => Lib.run_eql_slice_nil (P := Try.prog) w' 29 3 (some ad) xs.length cap 0 0 Try.underlying29
    simp only [Option.isNone] at qT
    go_enter Try.func114, Try.ntmps114
    go_wp2_with (at_builtin; refine wpList_append_sl _ rfl _ _ _ rfl _ 3 j0 (.int .i64 0) 1 8 Try.underlying29 hj hy0 hy1 hy2 rfl (by omega) _ 0 _ rfl HhRw.out _ xs.length (intCells xs) rfl HhX.out on_is (by unfold maxLen; omega) (by omega) HhS0.out.size ?_; intro a6 c6 w6 hown6 hgrow6 hat6; have HS6 := Lib.hid (HhS0.out.appS 0 rfl hown6 hgrow6 hat6); clear hown6 hgrow6 hat6)
    go_ret
    have hq : St w w6 [Ent.row 3 1 (.slice a6 (0 + xs.length) c6) (0 + xs.length) (intCells xs)] := HS6.out
    rw [Nat.zero_add] at hq
    exact ⟨a6, c6, rfl, hq⟩
theorem turnM_take {ms : List (Int × Int × Int)} {k : Nat} (hk : k < ms.length) : (ms.take (k + 1)).map turnM = (ms.take k).map turnM ++ [((ms.getD k (0, 0, 0)).2.2, (ms.getD k (0, 0, 0)).2.1, (ms.getD k (0, 0, 0)).1)] := by
  rw [List.take_succ_eq_append_getElem hk, List.map_append]
  simp [turnM, hk]
set_option maxRecDepth 100000 in
set_option maxHeartbeats 4000000 in
theorem implTurn_any (n : NfaD) (v1 v2 v3 : Value) (w : World) (hml : n.moves.length ≤ 100000) (hfl : n.firsts.length ≤ 100000) (hel : n.ends.length ≤ 100000) (h1 : Moves 0 w v1 n.moves) (h2 : Ints 0 w v2 n.firsts) (h3 : Ints 0 w v3 n.ends) :
    Calls Try.prog 74 #[.agg #[.int .i64 n.states, v1, v2, v3]] w fun e w' => RNfaS (turnN n) w e w' := by
  obtain ⟨L, hL⟩ : ∃ L, L = n.moves.length := ⟨_, rfl⟩
  have hLle : L ≤ 100000 := by omega
  obtain ⟨av, cv, rfl, hc1, hc2, hr1⟩ := h1.form
  rw [← hL] at hc1 hr1
  rw [← hL]
  obtain ⟨i0, hi, hz0, hz1, hz2⟩ := info_parts Try.infoMv
  have hS := ((St.start w).alloc _ rfl #[.int .i64 n.states, .slice av L cv, v2, v3] 31).alloc (w.heap.size + 1) (by simp) #[.int .i64 0, .slice none 0 0, .slice none 0 0, .slice none 0 0] 31
  obtain ⟨W, hW⟩ : ∃ W, W = (w.alloc (.cells #[.int .i64 n.states, .slice av L cv, v2, v3] 31)).alloc (.cells #[.int .i64 0, .slice none 0 0, .slice none 0 0, .slice none 0 0] 31) := ⟨_, rfl⟩
  rw [← hW] at hS
  have e0 := hS.cell (v := .int .i64 n.states) 0 0 rfl rfl
  have e1 := hS.cell (v := .slice av L cv) 0 1 rfl rfl
  have e2 := hS.cell (v := v2) 0 2 rfl rfl
  have e3 := hS.cell (v := v3) 0 3 rfl rfl
  have l0 := (hS.boxlt 0 rfl).2
  have Hk := Lib.hid (fun (w' : World) (h : Below W.heap.size W w') => (show w'.cell? ⟨w.heap.size, 0, none⟩ = some (.int .i64 n.states) ∧ w'.cell? ⟨w.heap.size, 1, none⟩ = some (.slice av L cv) ∧ w'.cell? ⟨w.heap.size, 2, none⟩ = some v2 ∧ w'.cell? ⟨w.heap.size, 3, none⟩ = some v3 from ⟨(bcell h _ _ l0).trans e0, (bcell h _ _ l0).trans e1, (bcell h _ _ l0).trans e2, (bcell h _ _ l0).trans e3⟩))
  have Hc2 := Lib.hid (fun (w' : World) (hb : Below w.heap.size w w') => clone_any n.firsts v2 w' (by omega) (h2.below hb))
  have Hc3 := Lib.hid (fun (w' : World) (hb : Below w.heap.size w w') => clone_any n.ends v3 w' (by omega) (h3.below hb))
  have Hr1 := Lib.hid hr1
  have HWB := Lib.hid hS.drew.bel
  have HhS := Lib.hid hS; clear hS
  have HhL := Lib.hid hL; clear hL
  have Hhi := Lib.hid hi; clear hi
  have Hhz0 := Lib.hid hz0; clear hz0
  have Hhz1 := Lib.hid hz1; clear hz1
  have Hhz2 := Lib.hid hz2; clear hz2
  clear hr1 h1 h2 h3 l0
  go_enter Try.func74, Try.ntmps74
  go_wp2
  rw [← hW]
  have HhW := Lib.hid hW; clear hW
  refine wp_region_any (by kernel_rfl) ?_
  refine wpAny_inv (fun listed a w' => ∃ (l0 l1 l2 l3 l4 l5 l6 l7 l8 l9 l10 : Bool) (a5 a6 : Option Addr) (c5 c6 b : Nat), listed = #[l0, l1, l2, l3, l4, l5, l6, l7, l8, l9, l10] ∧ (l8 = true → l4 = true ∧ l7 = true) ∧ (l10 = true → l8 = true ∧ l9 = true) ∧
      a = ⟨#[.agg #[.int .i64 n.states, .slice av L cv, v2, v3], .pointer (some ⟨w.heap.size, 0, none⟩), .pointer (some ⟨w.heap.size + 1, 0, none⟩), (if l9 = true then .pointer (some ⟨b, 0, none⟩) else undef), undef, undef, (if l0 = true then .pointer (some ⟨w.heap.size, 0, none⟩) else undef), (if l1 = true then .int .i64 n.states else undef), (if l2 = true then .pointer (some ⟨w.heap.size, 3, none⟩) else undef), (if l3 = true then v3 else undef), (if l4 = true then .slice a5 n.ends.length c5 else undef), (if l5 = true then .pointer (some ⟨w.heap.size, 2, none⟩) else undef), (if l6 = true then v2 else undef), (if l7 = true then .slice a6 n.firsts.length c6 else undef), (if l8 = true then .agg #[.int .i64 n.states, .slice none 0 0, .slice a5 n.ends.length c5, .slice a6 n.firsts.length c6] else undef), undef, undef, undef, undef, undef, undef, undef, undef, undef, undef, undef, undef, undef, undef, undef, undef, undef, undef, undef, undef, undef], []⟩ ∧
      St w w' [Ent.box w.heap.size #[.int .i64 n.states, .slice av L cv, v2, v3] 31, Ent.box (w.heap.size + 1) #[.int .i64 0, .slice none 0 0, .slice none 0 0, .slice none 0 0] 31,
        (if l4 = true then Ent.row 3 1 (.slice a5 n.ends.length c5) n.ends.length (intCells n.ends) else Ent.nil), (if l7 = true then Ent.row 3 1 (.slice a6 n.firsts.length c6) n.firsts.length (intCells n.firsts) else Ent.nil),
        (if l9 = true then Ent.box b (if l10 = true then #[.int .i64 n.states, .slice none 0 0, .slice a5 n.ends.length c5, .slice a6 n.firsts.length c6] else #[.int .i64 0, .slice none 0 0, .slice none 0 0, .slice none 0 0]) 31 else Ent.nil)]) ?_ ?_ _ _ _ _ (unl_le _ _) ?_
  · rintro listed a w' ⟨l0, l1, l2, l3, l4, l5, l6, l7, l8, l9, l10, a5, a6, c5, c6, b, rfl, hd8, hd10, rfl, hS⟩ i hi
    obtain ⟨hun, o, ho, hall⟩ := mem_ready.1 hi
    have hlt := (Array.getElem?_eq_some_iff.1 ho).1
    refine wpOp_step ho (fun K hK => ?_)
    clear hi
    have HhS := Lib.hid hS; clear hS
    obtain h | h | h | h | h | h | h | h | h | h | h : i = 0 ∨ i = 1 ∨ i = 2 ∨ i = 3 ∨ i = 4 ∨ i = 5 ∨ i = 6 ∨ i = 7 ∨ i = 8 ∨ i = 9 ∨ i = 10 := by simp at hlt; omega
    all_goals subst h
    all_goals simp only [List.getElem?_toArray, List.getElem?_cons_zero, List.getElem?_cons_succ, Option.some.injEq] at ho
    all_goals subst ho
    all_goals simp [Region.binds] at hun hall
    · subst hun
      go_simp
      exact hK _ _ ⟨true, l1, l2, l3, l4, l5, l6, l7, l8, l9, l10, a5, a6, c5, c6, b, rfl, hd8, hd10, rfl, HhS.out⟩
    · obtain rfl := hall
      subst hun
      have e0 := HhS.out.cell (v := .int .i64 n.states) 0 0 rfl rfl
      go_simp
      exact hK _ _ ⟨true, true, l2, l3, l4, l5, l6, l7, l8, l9, l10, a5, a6, c5, c6, b, rfl, hd8, hd10, rfl, HhS.out⟩
    · subst hun
      go_simp
      exact hK _ _ ⟨l0, l1, true, l3, l4, l5, l6, l7, l8, l9, l10, a5, a6, c5, c6, b, rfl, hd8, hd10, rfl, HhS.out⟩
    · obtain rfl := hall
      subst hun
      have e0 := HhS.out.cell (v := v3) 0 3 rfl rfl
      go_simp
      exact hK _ _ ⟨l0, l1, true, true, l4, l5, l6, l7, l8, l9, l10, a5, a6, c5, c6, b, rfl, hd8, hd10, rfl, HhS.out⟩
    · obtain rfl := hall
      subst hun
      obtain rfl : l8 = false := offL hd8 rfl
      obtain rfl : l10 = false := offL hd10 rfl
      go_simp
      go_at_call 114
      refine (Hc3.out _ HhS.out.bel).mono ?_
      rintro e u1 ⟨a7, c7, rfl, hSx⟩
      have hS2 := (HhS.out.cat hSx).pick [0, 1, 5, 3, 4] (by decide)
      have HhS2 := Lib.hid hS2; clear hS2
      go_simp
      exact hK _ _ ⟨l0, l1, l2, true, true, l5, l6, l7, false, l9, false, a7, a6, c7, c6, b, rfl, by simp, by simp, rfl, HhS2.out⟩
    · subst hun
      go_simp
      exact hK _ _ ⟨l0, l1, l2, l3, l4, true, l6, l7, l8, l9, l10, a5, a6, c5, c6, b, rfl, hd8, hd10, rfl, HhS.out⟩
    · obtain rfl := hall
      subst hun
      have e0 := HhS.out.cell (v := v2) 0 2 rfl rfl
      go_simp
      exact hK _ _ ⟨l0, l1, l2, l3, l4, true, true, l7, l8, l9, l10, a5, a6, c5, c6, b, rfl, hd8, hd10, rfl, HhS.out⟩
    · obtain ⟨rfl, rfl⟩ := hall
      subst hun
      obtain rfl : l8 = false := offR hd8 rfl
      obtain rfl : l10 = false := offL hd10 rfl
      go_simp
      go_at_call 114
      refine (Hc2.out _ HhS.out.bel).mono ?_
      rintro e u1 ⟨a7, c7, rfl, hSx⟩
      have hS2 := (HhS.out.cat hSx).pick [0, 1, 2, 5, 4] (by decide)
      have HhS2 := Lib.hid hS2; clear hS2
      go_simp
      exact hK _ _ ⟨l0, l1, l2, l3, true, l5, true, true, false, l9, false, a5, a7, c5, c7, b, rfl, by simp, by simp, rfl, HhS2.out⟩
    · obtain ⟨rfl, rfl, rfl⟩ := hall
      subst hun
      obtain rfl : l10 = false := offL hd10 rfl
      go_simp
      exact hK _ _ ⟨l0, true, l2, l3, true, l5, l6, true, true, l9, false, a5, a6, c5, c6, b, rfl, by simp, by simp, rfl, HhS.out⟩
    · subst hun
      obtain rfl : l10 = false := offR hd10 rfl
      have hS2 := (HhS.out.alloc _ rfl #[.int .i64 0, .slice none 0 0, .slice none 0 0, .slice none 0 0] 31).pick [0, 1, 2, 3, 5] (by decide)
      have HhS2 := Lib.hid hS2; clear hS2
      go_simp
      refine hK _ _ ⟨l0, l1, l2, l3, l4, l5, l6, l7, l8, true, false, a5, a6, c5, c6, _, rfl, hd8, by simp, rfl, HhS2.out⟩
    · obtain ⟨rfl, rfl, rfl, rfl, rfl, rfl, rfl, rfl, rfl, rfl, -⟩ := hall
      subst hun
      have f0 := HhS.out.fr 4 0 rfl
      have k0 := HhS.out.cell (v := .int .i64 0) 4 0 rfl rfl
      have f1 := HhS.out.fr 4 1 rfl
      have k1 := HhS.out.cell (v := .slice none 0 0) 4 1 rfl rfl
      have f2 := HhS.out.fr 4 2 rfl
      have k2 := HhS.out.cell (v := .slice none 0 0) 4 2 rfl rfl
      have f3 := HhS.out.fr 4 3 rfl
      have k3 := HhS.out.cell (v := .slice none 0 0) 4 3 rfl rfl
      go_simp
      have hq := (((HhS.out.set 4 rfl 0 (.int .i64 n.states)).set 4 rfl 1 (.slice none 0 0)).set 4 rfl 2 (.slice a5 n.ends.length c5)).set 4 rfl 3 (.slice a6 n.firsts.length c6)
      exact hK _ _ ⟨true, true, true, true, true, true, true, true, true, true, true, a5, a6, c5, c6, b, rfl, by simp, by simp, rfl, hq⟩
  · rintro listed a w' ⟨l0, l1, l2, l3, l4, l5, l6, l7, l8, l9, l10, a5, a6, c5, c6, b, rfl, hd8, hd10, rfl, hS⟩ hr
    have hall := ready_nil (by kernel_rfl) rfl hr
    obtain rfl : l0 = true := by simpa using hall 0 (by simp)
    obtain rfl : l1 = true := by simpa using hall 1 (by simp)
    obtain rfl : l2 = true := by simpa using hall 2 (by simp)
    obtain rfl : l3 = true := by simpa using hall 3 (by simp)
    obtain rfl : l4 = true := by simpa using hall 4 (by simp)
    obtain rfl : l5 = true := by simpa using hall 5 (by simp)
    obtain rfl : l6 = true := by simpa using hall 6 (by simp)
    obtain rfl : l7 = true := by simpa using hall 7 (by simp)
    obtain rfl : l8 = true := by simpa using hall 8 (by simp)
    obtain rfl : l9 = true := by simpa using hall 9 (by simp)
    obtain rfl : l10 = true := by simpa using hall 10 (by simp)
    clear hall hr hd8 hd10 e0 e2 e3
    simp only [↓reduceIte] at hS ⊢
    have x1 := hS.cell (v := .slice av L cv) 0 1 rfl rfl
    have hS0 := (hS.pick [0, 1, 2, 3, 4] (by decide)).nilRow 68 3
    have hS1 : St w w' [Ent.box w.heap.size #[.int .i64 n.states, .slice av L cv, v2, v3] 31, Ent.box (w.heap.size + 1) #[.int .i64 0, .slice none 0 0, .slice none 0 0, .slice none 0 0] 31, Ent.row 3 1 (.slice a5 n.ends.length c5) n.ends.length (intCells n.ends), Ent.row 3 1 (.slice a6 n.firsts.length c6) n.firsts.length (intCells n.firsts),
        Ent.box b #[.int .i64 n.states, .slice none 0 0, .slice a5 n.ends.length c5, .slice a6 n.firsts.length c6] 31, Ent.row 68 3 (.slice none 0 0) 0 []] := hS0
    have HhS1 := Lib.hid hS1; clear hS1
    clear hS hS0 e1
    go_wp2
    go_loopw [18] (fun i wr => ∃ (k c1 : Nat) (a1 : Option Addr), i = .int .i64 k ∧ k ≤ L ∧ St w wr [Ent.box w.heap.size #[.int .i64 n.states, .slice av L cv, v2, v3] 31, Ent.box (w.heap.size + 1) #[.int .i64 0, .slice none 0 0, .slice none 0 0, .slice none 0 0] 31, Ent.row 3 1 (.slice a5 n.ends.length c5) n.ends.length (intCells n.ends), Ent.row 3 1 (.slice a6 n.firsts.length c6) n.firsts.length (intCells n.firsts),
        Ent.box b #[.int .i64 n.states, .slice a1 k c1, .slice a5 n.ends.length c5, .slice a6 n.firsts.length c6] 31, Ent.row 68 3 (.slice a1 k c1) k (((n.moves.take k).map turnM).flatMap moveCells)])
      (fun i _ => L - (intOf i).toNat)
    case atStart => exact ⟨0, 0, none, rfl, Nat.zero_le _, HhS1.out⟩
    case round =>
      obtain ⟨k, c1, a1, rfl, hk, hS⟩ := hrel
      by_cases hlt : k < L
      · have hlt2 : (k : Int) < L := by omega
        obtain ⟨b1, o1, rfl, -, hb1, hcs⟩ := Hr1.out (by omega)
        obtain ⟨z0, z1, z2⟩ := hcs k hlt
        have m0 := (bcell hS.bel b1 _ hb1).trans z0
        have m1 := (bcell hS.bel b1 _ hb1).trans z1
        have m2 := (bcell hS.bel b1 _ hb1).trans z2
        have htk := turnM_take (ms := n.moves) (k := k) (by have := HhL.out; omega)
        obtain ⟨p, hp⟩ : ∃ p, p = n.moves.getD k (0, 0, 0) := ⟨_, rfl⟩
        rw [← hp] at m0 m1 m2 htk
        obtain ⟨p0, p1, p2⟩ := p
        simp only at m0 m1 m2 htk
        have y1 := (hS.alloc_ (.cells #[.int .i64 p0, .int .i64 p1, .int .i64 p2] 68)).cell (v := .slice a1 k c1) 4 1 rfl rfl
        have hSa := (hS.alloc_ (.cells #[.int .i64 p0, .int .i64 p1, .int .i64 p2] 68)).alloc (wr.heap.size + 1) (by simp) #[.int .i64 p2, .int .i64 p1, .int .i64 p0] 68
        have hRw := hSa.row 5 rfl
        have hbx := hSa.box 6 rfl
        have HhS := Lib.hid hS; clear hS
        have HhSa := Lib.hid hSa; clear hSa
        have HhRw := Lib.hid hRw; clear hRw
        have Hhbx := Lib.hid hbx; clear hbx
        have Hhp := Lib.hid hp; clear hp
        have Hhtk := Lib.hid htk; clear htk
        clear hcs z0 z1 z2
        go_wp2_with (at_builtin; refine wpList_append_lies _ rfl _ _ _ rfl _ 68 i0 (.agg #[.int .i64 0, .int .i64 0, .int .i64 0]) 3 24 Try.underlying28 Hhi.out Hhz0.out Hhz1.out Hhz2.out rfl (by omega) _ k _ rfl HhRw.out ⟨wr.heap.size + 1, 0, none⟩ 1 1 [.int .i64 p2, .int .i64 p1, .int .i64 p0] rfl rfl (World.news_of_block Hhbx.out) one_mv (by omega) (by unfold maxLen; omega) (by omega) HhSa.out.size _ rfl ?_; intro g6 c8 w6 hown6 hgrow6 hat6 hlt6; have HS6 := Lib.hid (HhSa.out.app 5 rfl hown6 hgrow6 hat6); have y1 := HS6.out.cell (v := .slice a1 k c1) 4 1 rfl rfl; have y2 := HS6.out.fr 4 1 rfl; clear hown6 hgrow6 hat6 hlt6)
        go_roundw
        case rel =>
          refine ⟨k + 1, c8, some ⟨g6, 0, none⟩, by go_num, by omega, ?_⟩
          rw [Hhtk.out, flatM_snoc]
          exact (HS6.out.set 4 rfl 1 (.slice (some ⟨g6, 0, none⟩) (k + 1) c8)).pick [0, 1, 2, 3, 4, 5] (by decide)
        case measure => simp [intOf]; omega
      · obtain rfl : k = L := by omega
        have hta : n.moves.take k = n.moves := List.take_of_length_le (by rw [← HhL.out]; exact Nat.le_refl _)
        rw [hta] at hS
        have f0 := hS.fr 1 0 rfl
        have f1 := hS.fr 1 1 rfl
        have f2 := hS.fr 1 2 rfl
        have f3 := hS.fr 1 3 rfl
        have k0 := hS.cell (v := .int .i64 0) 1 0 rfl rfl
        have k1 := hS.cell (v := .slice none 0 0) 1 1 rfl rfl
        have k2 := hS.cell (v := .slice none 0 0) 1 2 rfl rfl
        have k3 := hS.cell (v := .slice none 0 0) 1 3 rfl rfl
        have d0 := hS.cell (v := .int .i64 n.states) 4 0 rfl rfl
        have d1 := hS.cell (v := .slice a1 k c1) 4 1 rfl rfl
        have d2 := hS.cell (v := .slice a5 n.ends.length c5) 4 2 rfl rfl
        have d3 := hS.cell (v := .slice a6 n.firsts.length c6) 4 3 rfl rfl
        have HhS := Lib.hid hS; clear hS
        clear hta
        go_wp2
        have hq := (((HhS.out.set 1 rfl 0 (.int .i64 n.states)).set 1 rfl 1 (.slice a1 k c1)).set 1 rfl 2 (.slice a5 n.ends.length c5)).set 1 rfl 3 (.slice a6 n.firsts.length c6)
        have q0 := hq.cell (v := .int .i64 n.states) 1 0 rfl rfl
        have q1 := hq.cell (v := .slice a1 k c1) 1 1 rfl rfl
        have q2 := hq.cell (v := .slice a5 n.ends.length c5) 1 2 rfl rfl
        have q3 := hq.cell (v := .slice a6 n.firsts.length c6) 1 3 rfl rfl
        refine bodyPost_ret (v := .agg #[.int .i64 n.states, .slice a1 k c1, .slice a5 n.ends.length c5, .slice a6 n.firsts.length c6]) (by simp [results, Try.results74, go_sem, q0, q1, q2, q3]) rfl ?_
        have hkl : k = (turnN n).moves.length := by rw [HhL.out]; simp [turnN]
        refine ⟨a1, c1, a5, c5, a6, c6, by rw [← hkl]; rfl, ?_⟩
        rw [← hkl]
        exact hq.pick [5, 2, 3] (by decide)
  · refine ⟨false, false, false, false, false, false, false, false, false, false, false, none, none, 0, 0, 0, rfl, by simp, by simp, rfl, ?_⟩
    exact HhS.out.drew.pick [0, 1, 2, 3, 4] (by decide)
def itK (K : Nat) (d : DfaD) : Nat → Option DfaD
  | 0 => some d
  | j + 1 => (itK K d j).bind (tdK K)
theorem ttK_it {K : Nat} {d : DfaD} (hd : dfaOk d.next d.ends = true) : ttK K d = itK K d 2 := by
  unfold ttK
  rw [if_pos hd]
  rfl
theorem itK_none {K : Nat} {d E : DfaD} {j : Nat} (hj : j < 2) (h : itK K d j = some E) (hn : tdK K E = none) : itK K d 2 = none := by
  obtain rfl | rfl : j = 0 ∨ j = 1 := by omega
  · have h : some d = some E := h
    simp only [Option.some.injEq] at h
    subst h
    show ((some d).bind (tdK K)).bind (tdK K) = none
    simp [hn]
  · show (itK K d 1).bind (tdK K) = none
    rw [h]
    exact hn
theorem tdK_some {K : Nat} {E : DfaD} (hle : (metS (turnN (nfaOf E)) K).length ≤ K) : tdK K E = some (numDfa (nxS (turnN (nfaOf E))) (enS (turnN (nfaOf E))) (metS (turnN (nfaOf E)) K)) := by
  unfold tdK detQK
  rw [if_pos hle]
theorem tdK_none {K : Nat} {E : DfaD} (hle : ¬ (metS (turnN (nfaOf E)) K).length ≤ K) : tdK K E = none := by
  unfold tdK detQK
  rw [if_neg hle]
set_option maxRecDepth 100000 in
set_option maxHeartbeats 4000000 in
theorem implTtK_any (K : Nat) (hK : K = 40) (d D : DfaD) (fb : Bool) (hD : (ttK K d).getD zeD = D) (hfb : (ttK K d).isSome = fb) (v : Value) (w : World) (h : DfaR 0 w v d) :
    Calls Try.prog 26 #[v] w fun e w' => RTt D fb w.heap.size e w' ∧ Below w.heap.size w w' := by
  have H := Lib.hid h
  obtain ⟨v1, v2, rfl, -, -⟩ := h
  have hS0 := ((St.start w).alloc _ rfl #[v1, v2] 26).alloc (w.heap.size + 1) (by simp) #[.slice none 0 0, .slice none 0 0] 26
  cases hok : dfaOk d.next d.ends
  · have hn : ttK K d = none := by
      unfold ttK
      rw [hok]
      rfl
    rw [hn] at hD hfb
    subst hD
    subst hfb
    have Hhok := Lib.hid hok; clear hok
    have HhS0 := Lib.hid hS0; clear hS0
    go_enter Try.func26, Try.ntmps26
    go_wp2_with fail
    refine (implDfaValid_any d _ _ (H.out.below HhS0.out.bel) _ Hhok.out).mono ?_
    rintro e w1 ⟨rfl, hb1⟩
    have hS1 := HhS0.out.call hb1
    have f0 := hS1.fr 1 0 rfl
    have f1 := hS1.fr 1 1 rfl
    have k0 := hS1.cell (v := .slice none 0 0) 1 0 rfl rfl
    have k1 := hS1.cell (v := .slice none 0 0) 1 1 rfl rfl
    have HhS1 := Lib.hid hS1; clear hS1
    clear hb1
    go_wp2
    have hq := (HhS1.out.set 1 rfl 0 (.slice none 0 0)).set 1 rfl 1 (.slice none 0 0)
    have q0 := hq.cell (v := .slice none 0 0) 1 0 rfl rfl
    have q1 := hq.cell (v := .slice none 0 0) 1 1 rfl rfl
    refine bodyPost_ret (v := .tuple #[.agg #[.slice none 0 0, .slice none 0 0], .bool false]) (by simp [results, Try.results26, go_sem, q0, q1]) rfl ⟨?_, hq.bel⟩
    exact ⟨none, 0, none, 0, rfl, zeD_own _ _ _ _ _⟩
  · rw [ttK_it hok] at hD hfb
    have Hhok := Lib.hid hok; clear hok
    have HhS0 := Lib.hid hS0; clear hS0
    have HhD := Lib.hid hD; clear hD
    have Hhfb := Lib.hid hfb; clear hfb
    go_enter Try.func26, Try.ntmps26
    go_wp2_with fail
    refine (implDfaValid_any d _ _ (H.out.below HhS0.out.bel) _ Hhok.out).mono ?_
    rintro e w1 ⟨rfl, hb1⟩
    have hS1 := HhS0.out.call hb1
    have hR1 := H.out.below hS1.bel
    have HhS1 := Lib.hid hS1; clear hS1
    have HhR1 := Lib.hid hR1; clear hR1
    clear hb1
    go_wp2
    go_loopw [10] (fun i wr => ∃ (j : Nat) (E : DfaD) (u1 u2 : Value), i = .int .i64 j ∧ j ≤ 2 ∧ itK K d j = some E ∧ dfaOk E.next E.ends = true ∧ DfaR 0 wr (.agg #[u1, u2]) E ∧
        (0 < j → DMem w.heap.size wr E u1 u2 ∧ ∃ a1 c1 a2 c2, u1 = .slice a1 E.next.length c1 ∧ u2 = .slice a2 E.ends.length c2) ∧
        St w wr [Ent.box w.heap.size #[u1, u2] 26, Ent.box (w.heap.size + 1) #[.slice none 0 0, .slice none 0 0] 26])
      (fun i _ => 2 - (intOf i).toNat)
    case atStart => exact ⟨0, d, v1, v2, rfl, by omega, rfl, Hhok.out, HhR1.out, fun h => absurd h (by omega), HhS1.out⟩
    case round =>
      obtain ⟨j, E, u1, u2, rfl, hj, hit, hE, hR, hM, hS⟩ := hrel
      by_cases hlt : j < 2
      · have hlt2 : (j : Int) < 2 := by omega
        have hdo := nfaOf_det hE
        have hto := turnN_det hdo
        have e0 := hS.cell (v := u1) 0 0 rfl rfl
        have e1 := hS.cell (v := u2) 0 1 rfl rfl
        have Hhit := Lib.hid hit; clear hit
        have HhE := Lib.hid hE; clear hE
        have HhR := Lib.hid hR; clear hR
        have HhS := Lib.hid hS; clear hS
        have Hhdo := Lib.hid hdo; clear hdo
        have Hhto := Lib.hid hto; clear hto
        clear hM
        go_wp2_with fail
        refine (implNfa_any E _ _ HhE.out HhR.out).mono ?_
        rintro e w1 ⟨a1, c1, a2, c2, a3, c3, rfl, hS'⟩
        have hS2 := HhS.out.cat hS'
        have HhS2 := Lib.hid hS2; clear hS2
        clear hS' e0 e1
        go_wp2_with fail
        refine (implTurn_any (nfaOf E) _ _ _ _ (by have := Hhdo.out.ml; omega) (by have := Hhdo.out.fl; omega) (by have := Hhdo.out.el; omega) (HhS2.out.moves 2 rfl) (HhS2.out.intsR 3 rfl) (HhS2.out.intsR 4 rfl)).mono ?_
        rintro e w2 ⟨b1, d1, b2, d2, b3, d3, rfl, hS'⟩
        have hS3 := HhS2.out.cat hS'
        have HhS3 := Lib.hid hS3; clear hS3
        clear hS'
        go_wp2_with fail
        refine (determinize_any (turnN (nfaOf E)) K hK _ _ _ _ (mvIn_40 Hhto.out.mv Hhto.out.m40) (by have := Hhto.out.ml; omega) (fun s hs => by have := Hhto.out.f s hs; have := Hhto.out.m40; omega) (by have := Hhto.out.fl; omega) (fun s hs => by have := Hhto.out.e s hs; have := Hhto.out.m40; omega) (HhS3.out.moves 5 rfl) (HhS3.out.intsR 6 rfl) (HhS3.out.intsR 7 rfl)).mono ?_
        rintro e w3 ⟨hr, hb3⟩
        unfold RDet at hr
        by_cases hle : (metS (turnN (nfaOf E)) K).length ≤ K
        · rw [if_pos hle] at hr
          obtain ⟨an, cn, ae, ce, rfl, hown⟩ := hr
          have htd := tdK_some hle
          obtain ⟨X, hX⟩ : ∃ X, X = numDfa (nxS (turnN (nfaOf E))) (enS (turnN (nfaOf E))) (metS (turnN (nfaOf E)) K) := ⟨_, rfl⟩
          have hl1 : X.next.length = (metS (turnN (nfaOf E)) K).length := by rw [hX]; exact numDfa_len _ _ _
          have hl2 : X.ends.length = (metS (turnN (nfaOf E)) K).length := by rw [hX]; simp [numDfa]
          rw [← hX] at hown htd
          obtain ⟨L, hL⟩ : ∃ L, L = (metS (turnN (nfaOf E)) K).length := ⟨_, rfl⟩
          rw [← hL] at hown hl1 hl2 hle
          rw [← hL]
          have hL40 : (L : Int) ≤ 40 := by omega
          have hXo : dfaOk X.next X.ends = true := detQK_ok hK (n := turnN (nfaOf E)) htd
          have hS4 := (HhS3.out.call hb3).alloc _ rfl #[.slice an L cn, .slice ae L ce] 26
          have f0 := hS4.fr 0 0 rfl
          have f1 := hS4.fr 0 1 rfl
          have k0 := hS4.cell (v := u1) 0 0 rfl rfl
          have k1 := hS4.cell (v := u2) 0 1 rfl rfl
          have d0 := hS4.cell (v := .slice an L cn) 8 0 rfl rfl
          have d1 := hS4.cell (v := .slice ae L ce) 8 1 rfl rfl
          have hDM := (DMem.of hown HhS3.out.size).alloc (.cells #[.slice an L cn, .slice ae L ce] 26)
          have hb0 := hS4.box 0 rfl
          have HhS4 := Lib.hid hS4; clear hS4
          have HhDM := Lib.hid hDM; clear hDM
          have Hhl1 := Lib.hid hl1; clear hl1
          have Hhl2 := Lib.hid hl2; clear hl2
          have Hhb0 := Lib.hid hb0; clear hb0
          have Hhtd := Lib.hid htd; clear htd
          have HhXo := Lib.hid hXo; clear hXo
          have HhX := Lib.hid hX; clear hX
          have HhL := Lib.hid hL; clear hL
          clear hown hb3 hle
          go_wp2
          go_roundw
          case rel =>
            have hq := (HhS4.out.set 0 rfl 0 (.slice an L cn)).set 0 rfl 1 (.slice ae L ce)
            have hm := (HhDM.out.set Hhb0.out 0 (.slice an L cn)).set (Hhb0.out.set 0 _) 1 (.slice ae L ce)
            refine ⟨j + 1, X, .slice an L cn, .slice ae L ce, by go_num, by omega, ?_, HhXo.out, ?_, fun _ => ⟨hm, an, cn, ae, ce, by rw [Hhl1.out], by rw [Hhl2.out]⟩, hq.pick [0, 1] (by decide)⟩
            · show (itK K d j).bind (tdK K) = some X
              rw [Hhit.out]
              exact Hhtd.out
            · exact DfaR.mono (DfaO.r ⟨_, _, rfl, hm.1, hm.2⟩) (Nat.zero_le _)
          case measure => simp [intOf]; omega
        · rw [if_neg hle] at hr
          subst hr
          have hn := itK_none hlt Hhit.out (tdK_none hle)
          have hD := HhD.out
          have hfb := Hhfb.out
          rw [hn] at hD hfb
          subst hD
          subst hfb
          have hS4 := (HhS3.out.call hb3).alloc _ rfl #[.slice none 0 0, .slice none 0 0] 26
          have f0 := hS4.fr 1 0 rfl
          have f1 := hS4.fr 1 1 rfl
          have k0 := hS4.cell (v := .slice none 0 0) 1 0 rfl rfl
          have k1 := hS4.cell (v := .slice none 0 0) 1 1 rfl rfl
          have HhS4 := Lib.hid hS4; clear hS4
          have Hhn := Lib.hid hn; clear hn
          clear hb3 hle
          go_wp2
          have hq := (HhS4.out.set 1 rfl 0 (.slice none 0 0)).set 1 rfl 1 (.slice none 0 0)
          have q0 := hq.cell (v := .slice none 0 0) 1 0 rfl rfl
          have q1 := hq.cell (v := .slice none 0 0) 1 1 rfl rfl
          refine bodyPost_ret (v := .tuple #[.agg #[.slice none 0 0, .slice none 0 0], .bool false]) (by simp [results, Try.results26, go_sem, q0, q1]) rfl ⟨?_, hq.bel⟩
          exact ⟨none, 0, none, 0, rfl, zeD_own _ _ _ _ _⟩
      · obtain rfl : j = 2 := by omega
        obtain ⟨hDM, a1, c1, a2, c2, rfl, rfl⟩ := hM (by omega)
        have hD := HhD.out
        have hfb := Hhfb.out
        rw [hit] at hD hfb
        have hD : E = D := hD
        have hfb : true = fb := hfb
        subst hD
        subst hfb
        have f0 := hS.fr 1 0 rfl
        have f1 := hS.fr 1 1 rfl
        have k0 := hS.cell (v := .slice none 0 0) 1 0 rfl rfl
        have k1 := hS.cell (v := .slice none 0 0) 1 1 rfl rfl
        have d0 := hS.cell (v := .slice a1 E.next.length c1) 0 0 rfl rfl
        have d1 := hS.cell (v := .slice a2 E.ends.length c2) 0 1 rfl rfl
        have hb0 := hS.box 1 rfl
        have HhS := Lib.hid hS; clear hS
        have HhDM := Lib.hid hDM; clear hDM
        have Hhit := Lib.hid hit; clear hit
        have Hhb0 := Lib.hid hb0; clear hb0
        clear hM hR hE
        go_wp2
        have hq := (HhS.out.set 1 rfl 0 (.slice a1 E.next.length c1)).set 1 rfl 1 (.slice a2 E.ends.length c2)
        have q0 := hq.cell (v := .slice a1 E.next.length c1) 1 0 rfl rfl
        have q1 := hq.cell (v := .slice a2 E.ends.length c2) 1 1 rfl rfl
        have hm := (HhDM.out.set Hhb0.out 0 (.slice a1 E.next.length c1)).set (Hhb0.out.set 0 _) 1 (.slice a2 E.ends.length c2)
        refine bodyPost_ret (v := .tuple #[.agg #[.slice a1 E.next.length c1, .slice a2 E.ends.length c2], .bool true]) (by simp [results, Try.results26, go_sem, q0, q1]) rfl ⟨?_, hq.bel⟩
        exact ⟨a1, c1, a2, c2, rfl, _, _, rfl, hm.1, hm.2⟩
def tt (d : DfaD) : Option DfaD := ttK forty' d
theorem implTt_any (d D : DfaD) (fb : Bool) (hD : (tt d).getD zeD = D) (hfb : (tt d).isSome = fb) (v : Value) (w : World) (h : DfaR 0 w v d) :
    Calls Try.prog 26 #[v] w fun e w' => RTt D fb w.heap.size e w' ∧ Below w.heap.size w w' := implTtK_any forty' rfl d D fb hD hfb v w h
set_option maxRecDepth 100000 in
set_option maxHeartbeats 4000000 in
theorem drawMinimizeD_any (bs : List Nat) (v : Value) (w : World) (hb : Bytes 0 w v bs) (hlen : bs.length ≤ 100000000) :
    Calls Try.prog 36 #[v] w fun e w' => RDraw w e w' := by
  have hS0 := (St.start w).alloc _ rfl #[.slice none 0 0, .slice none 0 0] 26
  have Hb := Lib.hid hb
  have HhS0 := Lib.hid hS0; clear hS0
  clear hb
  go_enter Try.func36, Try.ntmps36
  go_wp2_with fail
  refine (openJ_any bs v _ (Hb.out.below HhS0.out.bel) hlen).mono ?_
  rintro e w1 ⟨vb, bs', hl', hB, rfl, hS'⟩
  obtain ⟨b, hbb⟩ : ∃ b, b = (w.alloc (.cells #[.slice none 0 0, .slice none 0 0] 26)).heap.size := ⟨_, rfl⟩
  rw [← hbb] at hS'
  rw [← hbb]
  have hB1 := hB w Hb.out
  have HB := Lib.hid hB1
  have HS1 := Lib.hid ((HhS0.out.cat hS').pick [1, 0] (by decide))
  have Hhbb := Lib.hid hbb; clear hbb
  clear hS' hB hB1
  go_wp2_with fail
  refine (l20Dfa_any bs' vb b 0 12 w w1 _ HB.out hl' (by omega) (by omega) HS1.out).mono ?_
  rintro e w2 ⟨D, pn, a1, a2, c1, c2, vs, E, hpn, hsm, rfl, hh, hS2⟩
  have HS := Lib.hid hS2
  clear hS2
  have f0 := HS.out.fr 1 0 rfl
  have k0 := HS.out.cell (v := .slice none 0 0) 1 0 rfl rfl
  have f1 := HS.out.fr 1 1 rfl
  have k1 := HS.out.cell (v := .slice none 0 0) 1 1 rfl rfl
  have HS3 := Lib.hid ((HS.out.set 1 rfl 0 (.slice a1 D.next.length c1)).set 1 rfl 1 (.slice a2 D.ends.length c2))
  have q0 := HS3.out.cell (v := .slice a1 D.next.length c1) 1 0 rfl rfl
  have q1 := HS3.out.cell (v := .slice a2 D.ends.length c2) 1 1 rfl rfl
  go_wp2
  refine bodyPost_ret (v := .agg #[.slice a1 D.next.length c1, .slice a2 D.ends.length c2]) (by simp [results, Try.results36, go_sem, q0, q1]) rfl ?_
  exact ⟨D, a1, a2, c1, c2, hsm, rfl, hh.r HS3.out 2 rfl, HS3.out.bel⟩
theorem isW_app {u w : List Nat} (h : isW u) (h' : isW w) : isW (u ++ w) := fun b hb => by
  rcases List.mem_append.1 hb with hb | hb
  · exact h b hb
  · exact h' b hb
theorem fine_min {d : DfaD} (hd : fine d) : fine (minD d) := fine_num (metM_facts hd _).2 hd.2.1
theorem min_min {d : DfaD} (hd : fine d) : minD (minD d) = minD d := min_canon (fine_min hd) hd fun _ hw => min_acc hd hw
theorem min_self {d : DfaD} (hd : fine d) (ht : trimD d = d) (hr : ∀ s t : Nat, s < d.next.length → t < d.next.length → (∀ w, isW w → den d (runD d (s : Int) w) = den d (runD d (t : Int) w)) → s = t) : minD d = d := by
  have hc : ∀ s, s < d.next.length → clD d s = s := fun s hs => hr _ _ (clD_lt hs) hs fun w hw => cl_self hd hs hw
  have h0 : 0 < d.next.length := hd.1
  have hb := bat_congr (nx := dnx d) (nx' := nxM d) (a := (0 : Int)) (Q := fun x => ∃ s : Nat, x = (s : Int) ∧ s < d.next.length) ⟨0, rfl, h0⟩ (by
    rintro x c hc ⟨s, rfl, hs⟩
    obtain ⟨h3, h4⟩ := fine_nx hd hs hc
    exact ⟨_, h4, h3⟩) (by
    rintro x c hc' ⟨s, rfl, hs⟩
    obtain ⟨h3, h4⟩ := fine_nx hd hs hc'
    unfold nxM
    rw [Int.toNat_natCast, hc _ h3, h4]) d.next.length
  refine Eq.trans ?_ ht
  unfold minD trimD
  rw [hc 0 h0, show ((0 : Nat) : Int) = 0 from rfl, ← hb]
  unfold numDfa
  congr 1
  refine List.map_congr_left fun x hx => ?_
  unfold numRow
  refine List.map_congr_left fun c hc' => ?_
  obtain ⟨h1, -⟩ := met_facts hd d.next.length
  obtain ⟨g1, g2⟩ := h1 x hx
  obtain ⟨s, rfl⟩ := Int.eq_ofNat_of_zero_le g1
  obtain ⟨h3, h4⟩ := fine_nx hd (show s < d.next.length by omega) (List.mem_range.1 hc')
  unfold nxM
  rw [Int.toNat_natCast, hc _ h3, h4]
theorem num_residual {α : Type} [DecidableEq α] {nx : α → Nat → α} {a : α} {en : α → Bool} {K : Nat} (hK : (bat nx a K).met.length ≤ K) {i : Nat} (hi : i < (bat nx a K).met.length) {w : List Nat} (hw : isW w) :
    den (numDfa nx en (bat nx a K).met) (runD (numDfa nx en (bat nx a K).met) (i : Int) w) = en (w.foldl nx ((bat nx a K).met.getD i a)) := by
  obtain ⟨h1, h2⟩ := run_num (en := en) hK w hw _ (memD (d := a) hi)
  rw [idx_getD hi (bat_good K).1] at h2
  rw [h2, den_num (placeOf_lt h1)]
  congr 1
  exact List.getElem_idxOf _
theorem min_reduced {d : DfaD} (hd : fine d) {s t : Nat} (hs : s < (minD d).next.length) (ht : t < (minD d).next.length) (h : ∀ w, isW w → den (minD d) (runD (minD d) (s : Int) w) = den (minD d) (runD (minD d) (t : Int) w)) : s = t := by
  have hK := (metM_facts hd d.next.length).2
  have hin := (metM_facts hd d.next.length).1
  have hl : (minD d).next.length = (bat (nxM d) ((clD d 0 : Nat) : Int) d.next.length).met.length := numDfa_len _ _ _
  rw [hl] at hs ht
  have h1 := hin _ (memD (d := ((clD d 0 : Nat) : Int)) hs)
  have h2 := hin _ (memD (d := ((clD d 0 : Nat) : Int)) ht)
  obtain ⟨p, hp, hpl, hpc⟩ := h1
  obtain ⟨q, hq, hql, hqc⟩ := h2
  have key : p = q := by
    rw [← hpc, ← hqc]
    refine run_cl hd hpl hql fun w hw => ?_
    have h3 := h w hw
    unfold minD at h3
    rw [num_residual hK hs hw, num_residual hK ht hw, hp, hq] at h3
    have e := fun (r : Nat) (hr : r < d.next.length) (hc : clD d r = r) => foldl_nxM hd w hw hr
    obtain ⟨u, hu, u1, u2⟩ := e p hpl hpc
    obtain ⟨v, hv, v1, v2⟩ := e q hql hqc
    rw [hpc] at u1
    rw [hqc] at v1
    rw [u1, v1, den_nat, den_nat] at h3
    rw [u2, v2, den_nat, den_nat, ← clEnd_ends (clD_lt hu) hu (clD_le u hu).2, h3]
    exact clEnd_ends (clD_lt hv) hv (clD_le v hv).2
  have e1 := idx_getD hs (bat_good (nx := nxM d) (a := ((clD d 0 : Nat) : Int)) d.next.length).1 ((clD d 0 : Nat) : Int)
  have e2 := idx_getD ht (bat_good (nx := nxM d) (a := ((clD d 0 : Nat) : Int)) d.next.length).1 ((clD d 0 : Nat) : Int)
  rw [hp] at e1
  rw [hq, ← key] at e2
  exact e1.symm.trans e2
theorem min_cl {d : DfaD} (hd : fine d) {s : Nat} (hs : s < (minD d).next.length) : clD (minD d) s = s :=
  min_reduced hd (clD_lt hs) hs fun _ hw => cl_self (fine_min hd) hs hw
set_option maxRecDepth 100000 in
set_option maxHeartbeats 4000000 in
theorem specMinimize_any (d : DfaD) (D : DfaD) (hD : minQ d = D) (v : Value) (w : World) (h : DfaR 0 w v d) :
    Calls Try.prog 37 #[v] w fun e w' => RDs D w e w' := by
  have H := Lib.hid h
  obtain ⟨v1, v2, rfl, g1, g2⟩ := h
  have hS0 := ((St.start w).alloc _ rfl #[v1, v2] 26).alloc (w.heap.size + 1) (by simp) #[.slice none 0 0, .slice none 0 0] 26
  have e0 := hS0.cell (v := v1) 0 0 rfl rfl
  have e1 := hS0.cell (v := v2) 0 1 rfl rfl
  have HhS0 := Lib.hid hS0; clear hS0
  clear g1 g2
  cases hok : dfaOk d.next d.ends
  · have hz : D = ⟨[], []⟩ := by rw [← hD]; unfold minQ; rw [if_neg (by rw [hok]; simp)]
    subst hz
    have Hhok := Lib.hid hok; clear hok
    clear hD
    go_enter Try.func37, Try.ntmps37
    go_wp2_with fail
    refine (specDfaValidD2_any d _ _ (H.out.below HhS0.out.bel) _ Hhok.out).mono ?_
    rintro e w1 ⟨rfl, hb1⟩
    have HS1 := Lib.hid (HhS0.out.call hb1)
    clear hb1 e0 e1
    have f0 := HS1.out.fr 1 0 rfl
    have f1 := HS1.out.fr 1 1 rfl
    have k0 := HS1.out.cell (v := .slice none 0 0) 1 0 rfl rfl
    have k1 := HS1.out.cell (v := .slice none 0 0) 1 1 rfl rfl
    go_wp2
    have hq := (HS1.out.set 1 rfl 0 (.slice none 0 0)).set 1 rfl 1 (.slice none 0 0)
    have q0 := hq.cell (v := .slice none 0 0) 1 0 rfl rfl
    have q1 := hq.cell (v := .slice none 0 0) 1 1 rfl rfl
    refine bodyPost_ret (v := .agg #[.slice none 0 0, .slice none 0 0]) (by simp [results, Try.results37, go_sem, q0, q1]) rfl ?_
    exact ⟨none, 0, none, 0, rfl, nil_r _ _, hq.bel⟩
  · have hz : smallD d = D := by rw [← hD]; unfold minQ; rw [if_pos hok]; exact small_min (fine_of hok)
    have Hhok := Lib.hid hok; clear hok
    have Hz := Lib.hid hz
    clear hD hz
    go_enter Try.func37, Try.ntmps37
    go_wp2_with fail
    refine (specDfaValidD2_any d _ _ (H.out.below HhS0.out.bel) _ Hhok.out).mono ?_
    rintro e w1 ⟨rfl, hb1⟩
    have HS1 := Lib.hid (HhS0.out.call hb1)
    clear hb1 e0 e1
    have e0 := HS1.out.cell (v := v1) 0 0 rfl rfl
    have e1 := HS1.out.cell (v := v2) 0 1 rfl rfl
    go_wp2_with fail
    refine (l10Small_any d _ _ Hhok.out (H.out.below HS1.out.bel)).mono ?_
    rintro e w2 ⟨a1, c1, a2, c2, rfl, hdo, hb2⟩
    rw [Hz.out] at hdo
    rw [Hz.out]
    have HS2 := Lib.hid (HS1.out.call hb2)
    have HDr := Lib.hid hdo
    have hB1 := (HS1.out.boxlt 1 rfl).2
    have hsz := HS1.out.size
    clear hb2 hdo e0 e1
    have f0 := HS2.out.fr 1 0 rfl
    have f1 := HS2.out.fr 1 1 rfl
    have k0 := HS2.out.cell (v := .slice none 0 0) 1 0 rfl rfl
    have k1 := HS2.out.cell (v := .slice none 0 0) 1 1 rfl rfl
    go_wp2
    have hq := (HS2.out.set 1 rfl 0 (.slice a1 D.next.length c1)).set 1 rfl 1 (.slice a2 D.ends.length c2)
    have q0 := hq.cell (v := .slice a1 D.next.length c1) 1 0 rfl rfl
    have q1 := hq.cell (v := .slice a2 D.ends.length c2) 1 1 rfl rfl
    refine bodyPost_ret (v := .agg #[.slice a1 D.next.length c1, .slice a2 D.ends.length c2]) (by simp [results, Try.results37, go_sem, q0, q1]) rfl ?_
    exact ⟨a1, c1, a2, c2, rfl, ((HDr.out.far hB1 0 _).far hB1 1 _).mono hsz, hq.bel⟩
end Go.Proofs.Ythhbjkgchabfmaa
namespace Go.Proofs.Ythhbjkgchabfmaa
open Go.RowKit
theorem clV_idem {n : Nat} {ms : List (Int × Int × Int)} {u : Nat} (hu : closedV ms u) : clV n ms u = u := subV_eq (clV_in hu (subV_refl u)) (clV_sub n ms u)
theorem accS_same {n m : NfaD} (hn : nfaOk n = true) (hm : nfaOk m = true) {x y : List Nat} (h1 : ∀ f ∈ n.firsts, ∀ e ∈ n.ends, Pth n.moves f x e → ∃ g ∈ m.firsts, ∃ d ∈ m.ends, Pth m.moves g y d) (h2 : ∀ f ∈ m.firsts, ∀ e ∈ m.ends, Pth m.moves f y e → ∃ g ∈ n.firsts, ∃ d ∈ n.ends, Pth n.moves g x d) : accS n x = accS m y := by
  rw [Bool.eq_iff_iff, accS_pth hn, accS_pth hm]
  exact ⟨fun ⟨f, hf, e, he, hp⟩ => h1 f hf e he hp, fun ⟨f, hf, e, he, hp⟩ => h2 f hf e he hp⟩
-- repeated
theorem Pth.turn {ms : List (Int × Int × Int)} {s t : Int} {x : List Nat} (h : Pth ms s x t) : Pth (ms.map turnM) t x.reverse s := by
  induction h with
  | here s => exact .here s
  | eps hm _ ih => 
    have := ih.append (y := []) (.eps (List.mem_map.2 ⟨_, hm, rfl⟩) (.here _))
    rwa [List.append_nil] at this
  | step hm _ ih =>
    rw [List.reverse_cons]
    exact ih.append (.step (List.mem_map.2 ⟨_, hm, rfl⟩) (.here _))
theorem turn_turn (n : NfaD) : turnN (turnN n) = n := by
  obtain ⟨s, ms, f, e⟩ := n
  have : turnM ∘ turnM = id := rfl
  simp [turnN, this]
theorem turn_ok {n : NfaD} (hn : nfaOk n = true) : nfaOk (turnN n) = true := by
  unfold nfaOk at *
  simp only [Bool.and_eq_true, turnN, List.length_map, List.all_map] at *
  refine ⟨⟨⟨⟨hn.1.1.1.1, hn.1.1.1.2⟩, hn.1.2⟩, hn.1.1.2⟩, ?_⟩
  rw [List.all_eq_true]
  intro x hx
  have := List.all_eq_true.1 hn.2 x hx
  simp only [mvOk, turnM, Function.comp, Bool.and_eq_true] at *
  exact ⟨⟨this.1.2, this.1.1⟩, this.2⟩
theorem turn_acc {n : NfaD} (hn : nfaOk n = true) (x : List Nat) : accS (turnN n) x.reverse = accS n x := by
  refine accS_same (turn_ok hn) hn ?_ ?_
  · intro f hf e he hp
    have h := hp.turn
    rw [List.reverse_reverse] at h
    refine ⟨e, he, f, hf, ?_⟩
    have h2 : (turnN n).moves.map turnM = n.moves := congrArg NfaD.moves (turn_turn n)
    rwa [h2] at h
  · intro f hf e he hp
    exact ⟨e, he, f, hf, hp.turn⟩
-- either, joined: the second automaton is moved up
theorem bit_two {s t : Nat} : (2 ^ s).testBit t = decide (s = t) := by
  rw [Nat.testBit_two_pow]
theorem nfaOf_closed {d : DfaD} (k u : Nat) : closedV (mvs d k) u := by
  intro m hm he
  obtain ⟨s, c, -, -, rfl⟩ := mvs_mem.1 hm
  simp only at he
  omega
theorem bit_ext {a b : Nat} (h : ∀ t, a.testBit t = true ↔ b.testBit t = true) : a = b := by
  apply Nat.eq_of_testBit_eq
  intro t
  rw [Bool.eq_iff_iff]
  exact h t
theorem stV_one {d : DfaD} (hd : dfaOk d.next d.ends = true) {s c : Nat} (hs : s < d.next.length) (hc : c < 3) : ∃ q : Nat, q < d.next.length ∧ stV 40 (mvs d d.next.length) (2 ^ s) (c : Int) = 2 ^ q := by
  have hr := (dfaOk_row hd hs).2 c hc
  obtain ⟨q, hq⟩ := Int.eq_ofNat_of_zero_le hr.1
  refine ⟨q, by omega, ?_⟩
  unfold stV
  rw [clV_idem (nfaOf_closed _ _)]
  apply bit_ext
  intro t
  rw [stFold_bit, bit_two, decide_eq_true_eq]
  constructor
  · rintro (h | ⟨m, hm, h1, h2, h3⟩)
    · simp at h
    · obtain ⟨s', c', h4, h5, rfl⟩ := mvs_mem.1 hm
      rw [bit_two, decide_eq_true_eq] at h2
      simp only [Int.toNat_natCast] at h2
      subst h2
      have : c' = c := by simp only at h1; omega
      subst this
      simp only [hq] at h3
      omega
  · rintro rfl
    right
    refine ⟨_, mvs_mem.2 ⟨s, c, hs, hc, rfl⟩, rfl, ?_, ?_⟩
    · rw [bit_two]
      simp
    · simp only [hq]
      omega
theorem met_one {d : DfaD} (hd : dfaOk d.next d.ends = true) (K : Nat) : (metS (nfaOf d) K).length ≤ d.next.length := by
  have hl := dfaOk_len hd
  have hf : fstV (nfaOf d) = 2 ^ 0 := by
    unfold fstV
    rw [show (nfaOf d).moves = mvs d d.next.length from rfl, clV_idem (nfaOf_closed _ _)]
    rfl
  have hall : ∀ x ∈ metS (nfaOf d) K, ∃ s : Nat, s < d.next.length ∧ x = (((2 ^ s : Nat) : Int), 0) := by
    refine bat_all (Q := fun x => ∃ s : Nat, s < d.next.length ∧ x = (((2 ^ s : Nat) : Int), 0)) ⟨0, by omega, by rw [hf]⟩ ?_ K
    rintro x c hc ⟨s, hs, rfl⟩
    obtain ⟨q, hq, h⟩ := stV_one hd hs hc
    refine ⟨q, hq, ?_⟩
    unfold nxS
    rw [show (nfaOf d).moves = mvs d d.next.length from rfl]
    simp only [Int.toNat_natCast]
    rw [h]
  have := nodup_le (bat_good (nx := nxS (nfaOf d)) (a := (((fstV (nfaOf d) : Nat) : Int), 0)) K).1 (m := (List.range d.next.length).map fun s => (((2 ^ s : Nat) : Int), (0 : Int))) fun x hx => by
    obtain ⟨s, hs, rfl⟩ := hall x hx
    exact List.mem_map.2 ⟨s, List.mem_range.2 hs, rfl⟩
  simpa using this
end Go.Proofs.Ythhbjkgchabfmaa
namespace Go.Proofs.Ythhbjkgchabfmaa
open Go.RowKit
end Go.Proofs.Ythhbjkgchabfmaa
