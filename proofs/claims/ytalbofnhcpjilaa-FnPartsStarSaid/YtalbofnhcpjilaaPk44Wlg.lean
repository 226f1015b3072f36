/-
  Facts about automata with choices that are in order, and their rows in memory; appending a slice that may be empty.
  No condition.
-/
import Derived.Test.YtalbofnhcpjilaaPk32Wr
namespace Go.Proofs.Ytalbofnhcpjilaa
open Go.RowKit Go.Maps
end Go.Proofs.Ytalbofnhcpjilaa
namespace Go.Proofs.Ytalbofnhcpjilaa
open Go.RowKit
section
variable {P : Program} (w : World)
end
theorem on_mvs {xs : List (Int × Int × Int)} : ∀ u ∈ xs.flatMap moveCells, u.oneCell' = true := fun u hu => by
  obtain ⟨x, -, hx⟩ := List.mem_flatMap.1 hu
  simp only [moveCells, List.mem_cons, List.not_mem_nil, or_false] at hx
  rcases hx with rfl | rfl | rfl <;> simp [Value.oneCell']
theorem Qs.append {P : Program} {lo : Nat} {w : World} {e : TypeId} {v : Value} {xs : List Value} (h : Qs lo w e v xs) (t ty : TypeId) (i : TypeInfo) (z : Value) (bytes : Nat) (ht : P.underlying t = some (.slice e)) (hi : P.info? e = some i) (hz : i.zero = some z) (hsize : i.size = 1) (hby : i.bytes = bytes) (hzs : z.cells.size = 1)
    (ad : Addr) (c : Nat) (x : Value) (hx : w.cell? ad = some x) (had : ad.add 0 = ad) (h1 : x.oneCell' = true) (h63 : xs.length + 1 ≤ 1000000) (hb : bytes ≤ 100) (hlo : lo ≤ w.heap.size) :
    ∃ v' w', (Builtin.append_ #[t, t] ty #[v, .slice (some ad) 1 c]).run P w = .ok v' w' ∧ Qs lo w' e v' (xs ++ [x]) ∧ w.grownBy w' v.ownBlock := by
  obtain ⟨g, off, cap, cur, rfl, hg0, hg, h2, h3, h4, h5⟩ := h
  have hnews : ∀ j u, [x][j]? = some u → w.cell? (ad.add j) = some u := fun j u hu => by
    cases j with
    | zero => simp at hu; subst hu; rw [had]; exact hx
    | succ j => simp at hu
  by_cases hroom : xs.length + 1 ≤ cap
  · have hf := run_firstCells_some (P := P) w i.size 1 ad 1 c [x] (by simp [hsize]) hnews
    have hst := run_storeCells_at P g (off + xs.length) e [x] 0 cur w hg (by simp; omega) (by simpa using h1)
    have hadd : (⟨g, off, none⟩ : Addr).add xs.length = ⟨g, off + xs.length, none⟩ := by unfold Addr.add; split <;> simp_all
    simp only [Nat.add_zero, List.length_singleton] at hst
    rw [hsize] at hf
    have hcl : off + xs.length < cur.toList.length := by simp; omega
    have ht1 : (List.take (off + xs.length) cur.toList).length = off + xs.length := by rw [List.length_take]; omega
    obtain ⟨cs, hcs⟩ : ∃ cs : Array Value, cs = (List.take (off + xs.length) cur.toList ++ [x] ++ List.drop (off + xs.length + 1) cur.toList).toArray := ⟨_, rfl⟩
    rw [← hcs] at hst
    have hrow := setRow_heap w g cur cs e (0, 0) hg
    refine ⟨.slice (some ⟨g, off, none⟩) (xs.length + 1) cap, w.setRow g cs, by simp [Builtin.append_, run_underlying ht, sizeOf, typeInfo, hi, hsize, Builtin.lenOf, hroom, hf, hadd, hst], ?_, ?_⟩
    · refine ⟨g, off, cap, cs, by simp, hg0, hrow, by simpa using hroom, h3, ?_, fun j hj => ?_⟩
      · rw [hcs]
        simp only [List.size_toArray, List.length_append, List.length_singleton, List.length_drop, ht1, Array.length_toList]
        omega
      · simp only [List.length_append, List.length_singleton] at hj
        rw [hcs]
        simp only [List.getElem?_toArray]
        by_cases hjn : j < xs.length
        · rw [List.append_assoc, List.getElem?_append_left (by omega), List.getElem?_append_left hjn, List.getElem?_take, if_pos (by omega), Array.getElem?_toList]
          exact h5 j hjn
        · obtain rfl : j = xs.length := by omega
          rw [List.append_assoc, List.getElem?_append_right (by omega), ht1]
          simp
    · exact ⟨rfl, rfl, rfl, by simp, fun k _ hk => setRow_other w g k cs (fun e => hk (by rw [e]; rfl))⟩
  · have hgr := run_append_grow (P := P) w t ty e i z ht hi hz ⟨g, off, none⟩ xs.length cap xs (by rw [hsize]; omega)
      (fun j u hu => by
        have hj : j < xs.length := (List.getElem?_eq_some_iff.1 hu).1
        have hadd : (⟨g, off, none⟩ : Addr).add j = ⟨g, off + j, none⟩ := by unfold Addr.add; split <;> simp_all
        rw [hadd, cell_of_row w g _ cur e (0, 0) hg, h5 j hj, hu]) ad 1 c [x] (by simp [hsize]) hnews (by omega) (by omega)
      (by
        have := nextslicecap_le_wide (need := xs.length + 1) (old := cap) (by omega)
        have hm := Nat.mul_le_mul this (show i.bytes ≤ 100 by omega)
        omega)
    have hcm := grownCap_le_maxLen w (xs.length + 1) cap e (by unfold maxLen; omega)
    have hge := grownCap_ge w (xs.length + 1) cap e
    have hnew := heap_alloc_new w.drew (.cells (xs.toArray ++ [x].toArray ++ Builtin.zeroCells z.cells (grownCap w (xs.length + 1) cap e - (xs.length + 1))) e)
    refine ⟨_, _, hgr, ⟨w.heap.size, 0, _, _, by simp, hlo, hnew, by simpa using hge, hcm, ?_, fun j hj => ?_⟩, ?_⟩
    · simp [size_zeroCells, hzs]
      omega
    · simp only [Nat.zero_add]
      rw [← List.getElem?_toArray]
      have : (xs ++ [x]).toArray = xs.toArray ++ [x].toArray := by simp
      rw [this, Array.getElem?_append_left (by simpa using hj)]
    · exact ⟨rfl, rfl, rfl, by simp [World.alloc], fun k hk _ => Below.heap_alloc w.drew _ k hk⟩
theorem take_map_snoc {α β : Type} (f : α → β) {l : List α} {k : Nat} {d x : α} (hk : k < l.length) (hx : x = l.getD k d) : (l.take (k + 1)).map f = (l.take k).map f ++ [f x] := by
  rw [List.take_succ_eq_append_getElem hk, List.map_append, hx]
  simp [hk]
def RNt (n : NfaD) (b : Bool) (w : World) (e : Ending) (w' : World) : Prop := ∃ a1 c1 a2 c2 a3 c3, e = .returned (.tuple #[.agg #[.int .i64 n.states, .slice a1 n.moves.length c1, .slice a2 n.firsts.length c2, .slice a3 n.ends.length c3], .bool b]) ∧
  St w w' [Ent.row 124 3 (.slice a1 n.moves.length c1) n.moves.length (n.moves.flatMap moveCells), Ent.row 3 1 (.slice a2 n.firsts.length c2) n.firsts.length (intCells n.firsts), Ent.row 3 1 (.slice a3 n.ends.length c3) n.ends.length (intCells n.ends)]
theorem rnt_zero {w w' : World} (h : Below w.heap.size w w') : RNt zeN false w (.returned (.tuple #[.agg #[.int .i64 0, .slice none 0 0, .slice none 0 0, .slice none 0 0], .bool false])) w' :=
  ⟨none, 0, none, 0, none, 0, rfl, (((((St.start w).call h).nilRow 124 3).nilRow 3 1).nilRow 3 1)⟩
def limN (n : NfaD) : NfaD × Bool := if nfaOk n = true then (n, true) else (zeN, false)
def starN (n : NfaD) : NfaD := ⟨n.states + 1, n.moves ++ (n.firsts.map fun t => (n.states, -1, t)) ++ (n.ends.map fun s => (s, -1, n.states)), [n.states], [n.states]⟩
def starL (n : NfaD) : NfaD × Bool := if nfaOk n = true then limN (starN n) else (zeN, false)
theorem one_i {k : IntKind} {x : Int} : ∀ u ∈ [Value.int k x], u.oneCell' = true := by
  intro u hu
  simp only [List.mem_singleton] at hu
  subst hu
  rfl
theorem intC_snoc (l : List Int) (x : Int) : intCells (l ++ [x]) = intCells l ++ [.int .i64 x] := by simp [intCells]
theorem runS_take {n : NfaD} {l : List Nat} {k : Nat} (hk : k < l.length) : runS n (lets (l.take (k + 1))) = stV 40 n.moves (runS n (lets (l.take k))) ((l.getD k 0 - 97 : Nat) : Int) := by
  rw [List.take_succ_eq_append_getElem hk]
  unfold runS lets
  rw [List.map_append, List.foldl_append]
  simp [hk]
theorem runS_lt {n : NfaD} (hok : nfaOk n = true) (cs : List Nat) : runS n cs < 2 ^ 40 := by
  obtain ⟨m, -, hm40, hmv, -, hf, -⟩ := nfaOk_facts hok
  have hm4 := mvIn_40 hmv hm40
  unfold runS
  exact foldl_inv _ (fun v => v < 2 ^ 40) (fun _ _ _ _ => stV_lt hm4 _ _) (clIt_lt hm4 (setV_lt fun s hs => by have := hf s hs; omega) 40)
set_option maxRecDepth 100000 in
set_option maxHeartbeats 4000000 in
theorem nfaRun_any (n : NfaD) (l : List Nat) (v1 v2 v3 : Value) (w : World) (hok : nfaOk n = true) (ht : isT l) (hlo : okT l l.length = true) (hll : l.length ≤ 1000) (h1 : Moves 0 w v1 n.moves) (h2 : Ints 0 w v2 n.firsts) :
    Calls Try.prog 84 #[.agg (nfaC n v1 v2 v3), .string (txB l)] w fun e w' => e = .returned (setC (runS n (lets l))) ∧ Below w.heap.size w w' := by
  obtain ⟨m, -, hm40, hmv, hml, hf, hfl, -⟩ := nfaOk_facts hok
  have hm4 := mvIn_40 hmv hm40
  have hfi : inN 40 n.firsts := fun s hs => by have := hf s hs; omega
  have hlt40 := fun cs => runS_lt hok cs
  have hml : n.moves.length ≤ 1000000 := by omega
  have hfl : n.firsts.length ≤ 1000000 := by omega
  have hsz := txB_size l
  have hS0 := ((St.start w).alloc _ rfl (nfaC n v1 v2 v3) 50).alloc (w.heap.size + 1) (by simp) #[.int .u64 0, .int .u64 0] 94
  have H1 := Lib.hid h1
  have H2 := Lib.hid h2
  have Hhm4 := Lib.hid hm4; clear hm4
  have Hhfi := Lib.hid hfi; clear hfi
  have Hhlt40 := Lib.hid hlt40; clear hlt40
  have Hht := Lib.hid ht; clear ht
  have Hhlo := Lib.hid hlo; clear hlo
  have Hhok := Lib.hid hok; clear hok
  have HhS0 := Lib.hid hS0; clear hS0
  clear h1 h2 hmv hf hm40
  go_enter Try.func84, Try.ntmps84
  have e0 := HhS0.out.cell (v := .int .i64 n.states) 0 0 rfl rfl
  have e1 := HhS0.out.cell (v := v1) 0 1 rfl rfl
  have e2 := HhS0.out.cell (v := v2) 0 2 rfl rfl
  have e3 := HhS0.out.cell (v := v3) 0 3 rfl rfl
  go_wp2_with fail
  refine (nfaFirst_any n v1 v2 v3 _ Hhm4.out hml Hhfi.out hfl (H1.out.below HhS0.out.bel) (H2.out.below HhS0.out.bel)).mono ?_
  rintro e w2 ⟨rfl, hb2⟩
  have hS1 := (HhS0.out.call hb2).alloc _ rfl #[.int .u64 (fstV n : Nat), .int .u64 0] 94
  have HhS1 := Lib.hid hS1; clear hS1
  clear hb2 e0 e1 e2 e3
  go_wp2
  go_loopw [11] (fun i wr => ∃ k : Nat, i = .int .i64 k ∧ k ≤ l.length ∧ St w wr [Ent.box w.heap.size (nfaC n v1 v2 v3) 50, Ent.box (w.heap.size + 1) #[.int .u64 0, .int .u64 0] 94, Ent.box w2.heap.size #[.int .u64 (runS n (lets (l.take k)) : Nat), .int .u64 0] 94])
    (fun i _ => l.length - (intOf i).toNat)
  case atStart => exact ⟨0, rfl, Nat.zero_le _, HhS1.out⟩
  case round =>
    obtain ⟨k, rfl, hk, hS⟩ := hrel
    obtain ⟨C, hC⟩ : ∃ C, C = runS n (lets (l.take k)) := ⟨_, rfl⟩
    have hC40 : C < 2 ^ 40 := by rw [hC]; exact Hhlt40.out _
    rw [← hC] at hS
    by_cases hlt : k < l.length
    · have hkI : (k : Int) < l.length := by omega
      have hlo2 := (okT_at Hhlo.out hlt).1
      have hsc := runS_take (n := n) hlt
      rw [← hC] at hsc
      obtain ⟨c, hc⟩ : ∃ c, c = l.getD k 0 - 97 := ⟨_, rfl⟩
      have HLt := Lib.hid (letterT_any l k hlt Hht.out hlo2)
      rw [← hc] at HLt hsc
      obtain ⟨D, hD⟩ : ∃ D, D = stV 40 n.moves C (c : Int) := ⟨_, rfl⟩
      rw [← hD] at hsc
      have HSt := Lib.hid (fun (u : World) (hu : Below w.heap.size w u) => nfaStep_any n C (c : Int) v1 v2 v3 u Hhm4.out hml hC40 (H1.out.below hu))
      rw [← hD] at HSt
      have hS' := hS.drew
      have HhC := Lib.hid hC; clear hC
      have HhC40 := Lib.hid hC40; clear hC40
      have Hhc := Lib.hid hc; clear hc
      have HhD := Lib.hid hD; clear hD
      have Hhsc := Lib.hid hsc; clear hsc
      clear hlo2 hS
      go_wp2_with fail
      refine wp_region_any (by kernel_rfl) ?_
      refine wpAny_invA (fun A listed a w' => ∃ (l0 l1 l2 l3 l4 l5 l6 : Bool) , listed = #[l0, l1, l2, l3, l4, l5, l6] ∧ (l4 = true → l2 = true ∧ l3 = true) ∧ (l5 = true → l1 = true ∧ l4 = true) ∧ (l6 = true → l5 = true ∧ l0 = true) ∧
          a = ⟨((((((A.tmps.setIfInBounds 14 (if l0 = true then .agg #[.int .i64 n.states, v1, v2, v3] else A.tmps.getD 14 undef)).setIfInBounds 15 (if l1 = true then .agg #[.int .u64 (C : Nat), .int .u64 0] else A.tmps.getD 15 undef)).setIfInBounds 16 (if l2 = true then .string (txB l) else A.tmps.getD 16 undef)).setIfInBounds 17 (if l3 = true then .int .i64 (k : Int) else A.tmps.getD 17 undef)).setIfInBounds 18 (if l4 = true then .int .i64 (c : Int) else A.tmps.getD 18 undef)).setIfInBounds 19 (if l5 = true then .agg #[.int .u64 (D : Nat), .int .u64 0] else A.tmps.getD 19 undef)), A.defers⟩ ∧
          St w w' [Ent.box w.heap.size #[.int .i64 n.states, v1, v2, v3] 50, Ent.box (w.heap.size + 1) #[.int .u64 0, .int .u64 0] 94, Ent.box w2.heap.size #[(if l6 = true then .int .u64 (D : Nat) else .int .u64 (C : Nat)), .int .u64 0] 94]) ?_ ?_ ?_
      · rintro listed a w' ⟨l0, l1, l2, l3, l4, l5, l6, rfl, hd4, hd5, hd6, rfl, hS⟩ i hi
        obtain ⟨hun, o, ho, hall⟩ := mem_ready.1 hi
        have hlt := (Array.getElem?_eq_some_iff.1 ho).1
        refine wpOp_step ho (fun K hK => ?_)
        clear hi
        have HS := Lib.hid hS
        clear hS
        simp only [List.setIfInBounds_toArray, List.set_cons_zero, List.set_cons_succ, Array.getD_eq_getD_getElem?, List.getElem?_toArray, List.getElem?_cons_zero, List.getElem?_cons_succ, Option.getD_some]
        obtain h | h | h | h | h | h | h : i = 0 ∨ i = 1 ∨ i = 2 ∨ i = 3 ∨ i = 4 ∨ i = 5 ∨ i = 6 := by simp at hlt; omega
        all_goals subst h
        all_goals simp only [List.getElem?_toArray, List.getElem?_cons_zero, List.getElem?_cons_succ, Option.some.injEq] at ho
        all_goals subst ho
        all_goals simp [Region.binds] at hun hall
        · subst hun
          obtain rfl : l6 = false := offR hd6 rfl
          have e0 := HS.out.cell (v := .int .i64 n.states) 0 0 rfl rfl
          have e1 := HS.out.cell (v := v1) 0 1 rfl rfl
          have e2 := HS.out.cell (v := v2) 0 2 rfl rfl
          have e3 := HS.out.cell (v := v3) 0 3 rfl rfl
          go_simp
          exact hK _ _ ⟨true, l1, l2, l3, l4, l5, false, rfl, hd4, hd5, by simp, (by simp), HS.out⟩
        · subst hun
          obtain rfl : l5 = false := offL hd5 rfl
          obtain rfl : l6 = false := offL hd6 rfl
          have d0 := HS.out.cell (v := .int .u64 (C : Nat)) 2 0 rfl rfl
          have d1 := HS.out.cell (v := .int .u64 0) 2 1 rfl rfl
          go_simp
          exact hK _ _ ⟨l0, true, l2, l3, l4, false, false, rfl, hd4, by simp, by simp, (by simp), HS.out⟩
        · subst hun
          obtain rfl : l4 = false := offL hd4 rfl
          obtain rfl : l5 = false := offR hd5 rfl
          obtain rfl : l6 = false := offL hd6 rfl
          go_simp
          exact hK _ _ ⟨l0, l1, true, l3, false, false, false, rfl, by simp, by simp, by simp, (by simp), HS.out⟩
        · subst hun
          obtain rfl : l4 = false := offR hd4 rfl
          obtain rfl : l5 = false := offR hd5 rfl
          obtain rfl : l6 = false := offL hd6 rfl
          go_simp
          exact hK _ _ ⟨l0, l1, l2, true, false, false, false, rfl, by simp, by simp, by simp, (by simp), HS.out⟩
        · obtain ⟨rfl, rfl⟩ := hall
          subst hun
          obtain rfl : l5 = false := offR hd5 rfl
          obtain rfl : l6 = false := offL hd6 rfl
          go_simp
          go_at_call 106
          refine (HLt.out _).mono ?_
          rintro e u0 ⟨rfl, rfl⟩
          go_simp
          exact hK _ _ ⟨l0, l1, true, true, true, false, false, rfl, by simp, by simp, by simp, (by simp), HS.out⟩
        · obtain ⟨rfl, rfl, rfl⟩ := hall
          subst hun
          obtain ⟨rfl, rfl⟩ := hd4 rfl
          obtain rfl : l6 = false := offL hd6 rfl
          go_simp
          go_at_call 123
          refine (HSt.out _ HS.out.bel).mono ?_
          rintro e u1 ⟨rfl, hb⟩
          have hS2 := HS.out.call hb
          have HhS2 := Lib.hid hS2; clear hS2
          go_simp
          exact hK _ _ ⟨true, true, true, true, true, true, false, rfl, by simp, by simp, by simp, (by simp only [↓reduceIte, List.setIfInBounds_toArray, List.set_cons_zero, List.set_cons_succ]), HhS2.out⟩
        · obtain ⟨rfl, rfl, rfl, rfl, rfl, rfl, -⟩ := hall
          subst hun
          have d0 := HS.out.cell (v := .int .u64 (C : Nat)) 2 0 rfl rfl
          have d1 := HS.out.cell (v := .int .u64 0) 2 1 rfl rfl
          have f0 := HS.out.fr 2 0 rfl
          have f1 := HS.out.fr 2 1 rfl
          go_simp
          exact hK _ _ ⟨true, true, true, true, true, true, true, rfl, by simp, by simp, by simp, (by simp only [↓reduceIte, List.setIfInBounds_toArray, List.set_cons_zero, List.set_cons_succ]), (HS.out.set 2 rfl 0 (.int .u64 (D : Nat))).set 2 rfl 1 (.int .u64 0)⟩
      · rintro listed a w' ⟨l0, l1, l2, l3, l4, l5, l6, rfl, hd4, hd5, hd6, rfl, hS⟩ hr
        have hall := ready_nilM (by kernel_rfl) rfl hr
        obtain rfl : l0 = true := by simpa using hall 0 (by simp)
        obtain rfl : l1 = true := by simpa using hall 1 (by simp)
        obtain rfl : l2 = true := by simpa using hall 2 (by simp)
        obtain rfl : l3 = true := by simpa using hall 3 (by simp)
        obtain rfl : l4 = true := by simpa using hall 4 (by simp)
        obtain rfl : l5 = true := by simpa using hall 5 (by simp)
        obtain rfl : l6 = true := by simpa using hall 6 (by simp)
        clear hall hr hd4 hd5 hd6
        simp only [↓reduceIte] at hS ⊢
        simp only [List.setIfInBounds_toArray, List.set_cons_zero, List.set_cons_succ]
        have HSf := Lib.hid (hS.pick [0, 1, 2] (by decide))
        clear hS
        go_wp2
        go_roundw
        case rel =>
          refine ⟨k + 1, by go_num, by omega, ?_⟩
          rw [Hhsc.out]
          exact HSf.out
        case measure => simp [intOf]; omega
      · refine ⟨false, false, false, false, false, false, false, rfl, by simp, by simp, by simp, (by simp), ?_⟩
        exact hS'.pick [0, 1, 2] (by decide)
    · obtain rfl : k = l.length := by omega
      rw [List.take_length] at hC
      have e0 := hS.cell (v := .int .u64 (C : Nat)) 2 0 rfl rfl
      have e1 := hS.cell (v := .int .u64 0) 2 1 rfl rfl
      have k0 := hS.cell (v := .int .u64 0) 1 0 rfl rfl
      have k1 := hS.cell (v := .int .u64 0) 1 1 rfl rfl
      have f0 := hS.fr 1 0 rfl
      have f1 := hS.fr 1 1 rfl
      have hS2 := (hS.set 1 rfl 0 (.int .u64 (C : Nat))).set 1 rfl 1 (.int .u64 0)
      have q0 := hS2.cell (v := .int .u64 (C : Nat)) 1 0 rfl rfl
      have q1 := hS2.cell (v := .int .u64 0) 1 1 rfl rfl
      have HhC := Lib.hid hC; clear hC
      have HhS := Lib.hid hS; clear hS
      have HhS2 := Lib.hid hS2; clear hS2
      go_wp2
      rw [← HhC.out]
      exact bodyPost_ret (v := setC C) (by simp [results, Try.results84, go_sem, q0, q1]) rfl ⟨rfl, HhS2.out.bel⟩
def accT (n : NfaD) (l : List Nat) : Bool := nfaOk n && wdOk l && accS n (lets l)
set_option maxRecDepth 100000 in
set_option maxHeartbeats 4000000 in
theorem nfaAccepts_any (n : NfaD) (l : List Nat) (v : Value) (w : World) (ht : isT l) (hll : l.length ≤ 1000) (h : NfaR 0 w v n) (r : Bool) (hr : accT n l = r) :
    Calls Try.prog 39 #[v, .string (txB l)] w fun e w' => e = .returned (.bool r) ∧ Below w.heap.size w w' := by
  have H := Lib.hid h
  obtain ⟨v1, v2, v3, rfl, g1, g2, g3, -, -⟩ := h
  have hS0 := (St.start w).alloc _ rfl #[.int .i64 n.states, v1, v2, v3] 50
  have hb0 := hS0.bel.drew
  have Hk : Hid (∀ w' : World, Below (w.alloc (.cells #[.int .i64 n.states, v1, v2, v3] 50)).drew.heap.size (w.alloc (.cells #[.int .i64 n.states, v1, v2, v3] 50)).drew w' → w'.cell? ⟨w.heap.size, 0, none⟩ = some (.int .i64 n.states) ∧ w'.cell? ⟨w.heap.size, 1, none⟩ = some v1 ∧ w'.cell? ⟨w.heap.size, 2, none⟩ = some v2 ∧ w'.cell? ⟨w.heap.size, 3, none⟩ = some v3) := Lib.hid fun w' hb => ⟨(hS0.drew.call hb).cell 0 0 rfl rfl, (hS0.drew.call hb).cell 0 1 rfl rfl, (hS0.drew.call hb).cell 0 2 rfl rfl, (hS0.drew.call hb).cell 0 3 rfl rfl⟩
  have HN := Lib.hid (fun (u : World) (hu : Below (w.alloc (.cells #[.int .i64 n.states, v1, v2, v3] 50)).drew.heap.size (w.alloc (.cells #[.int .i64 n.states, v1, v2, v3] 50)).drew u) => (H.out.below hb0).below hu)
  have HM := Lib.hid (fun (u : World) (hu : Below (w.alloc (.cells #[.int .i64 n.states, v1, v2, v3] 50)).drew.heap.size (w.alloc (.cells #[.int .i64 n.states, v1, v2, v3] 50)).drew u) => (show Moves 0 u v1 n.moves ∧ Ints 0 u v2 n.firsts ∧ Ints 0 u v3 n.ends from ⟨(g1.below hb0).below hu, (g2.below hb0).below hu, (g3.below hb0).below hu⟩))
  have Hht := Lib.hid ht; clear ht
  have HhS0 := Lib.hid hS0; clear hS0
  clear g1 g2 g3 hb0
  cases hok : nfaOk n
  · obtain rfl : r = false := by rw [← hr, accT, hok]; rfl
    have Hhok := Lib.hid hok; clear hok
    clear hr
    go_enter Try.func39, Try.ntmps39
    go_wp2_with fail
    refine wp_region_any (by kernel_rfl) ?_
    refine wpAny_inv (fun listed a w' => ∃ (l0 l1 l2 l3 l4 l5 l6 l7 l8 l9 l10 l11 l12 l13 : Bool) , listed = #[l0, l1, l2, l3, l4, l5, l6, l7, l8, l9, l10, l11, l12, l13] ∧
        a = ⟨#[.agg #[.int .i64 n.states, v1, v2, v3], .string (txB l), .pointer (some ⟨w.heap.size, 0, none⟩), undef, .bool false, (if l0 = true then .agg #[.int .i64 n.states, v1, v2, v3] else undef), (if l1 = true then .bool false else undef), (if l2 = true then .bool false else undef), undef, undef, (if l5 = true then .bool false else undef), (if l6 = true then .bool false else undef), undef, undef, undef, undef, undef, (if l12 = true then .bool false else undef)], []⟩ ∧
        St w w' [Ent.box w.heap.size #[.int .i64 n.states, v1, v2, v3] 50]) ?_ ?_ _ _ _ _ (unl_le _ _) ?_
    · rintro listed a w' ⟨l0, l1, l2, l3, l4, l5, l6, l7, l8, l9, l10, l11, l12, l13, rfl, rfl, hS⟩ i hi
      obtain ⟨hun, o, ho, hall⟩ := mem_ready.1 hi
      have hlt := (Array.getElem?_eq_some_iff.1 ho).1
      refine wpOp_step ho (fun K hK => ?_)
      clear hi
      have HS := Lib.hid hS
      clear hS
      obtain h | h | h | h | h | h | h | h | h | h | h | h | h | h : i = 0 ∨ i = 1 ∨ i = 2 ∨ i = 3 ∨ i = 4 ∨ i = 5 ∨ i = 6 ∨ i = 7 ∨ i = 8 ∨ i = 9 ∨ i = 10 ∨ i = 11 ∨ i = 12 ∨ i = 13 := by simp at hlt; omega
      all_goals subst h
      all_goals simp only [List.getElem?_toArray, List.getElem?_cons_zero, List.getElem?_cons_succ, Option.some.injEq] at ho
      all_goals subst ho
      all_goals simp [Region.binds] at hun hall
      · subst hun
        have e0 := HS.out.cell (v := .int .i64 n.states) 0 0 rfl rfl
        have e1 := HS.out.cell (v := v1) 0 1 rfl rfl
        have e2 := HS.out.cell (v := v2) 0 2 rfl rfl
        have e3 := HS.out.cell (v := v3) 0 3 rfl rfl
        go_simp
        exact hK _ _ ⟨true, l1, l2, l3, l4, l5, l6, l7, l8, l9, l10, l11, l12, l13, rfl, rfl, HS.out⟩
      · obtain rfl := hall
        subst hun
        go_simp
        go_at_call 69
        refine (implNfaValid_any n _ _ (H.out.below HS.out.bel) _ Hhok.out).mono ?_
        rintro e u0 ⟨rfl, hb⟩
        have hS2 := HS.out.call hb
        have HhS2 := Lib.hid hS2; clear hS2
        go_simp
        exact hK _ _ ⟨true, true, l2, l3, l4, l5, l6, l7, l8, l9, l10, l11, l12, l13, rfl, rfl, HhS2.out⟩
      · obtain rfl := hall
        subst hun
        go_simp
        exact hK _ _ ⟨l0, true, true, l3, l4, l5, l6, l7, l8, l9, l10, l11, l12, l13, rfl, rfl, HS.out⟩
      · obtain rfl := hall
        subst hun
        go_simp
        exact hK _ _ ⟨l0, l1, true, true, l4, l5, l6, l7, l8, l9, l10, l11, l12, l13, rfl, rfl, HS.out⟩
      · obtain ⟨rfl, rfl⟩ := hall
        subst hun
        go_simp
        exact hK _ _ ⟨l0, l1, true, true, true, l5, l6, l7, l8, l9, l10, l11, l12, l13, rfl, rfl, HS.out⟩
      · obtain ⟨rfl, rfl⟩ := hall
        subst hun
        go_simp
        exact hK _ _ ⟨l0, l1, true, l3, true, true, l6, l7, l8, l9, l10, l11, l12, l13, rfl, rfl, HS.out⟩
      · obtain ⟨rfl, rfl⟩ := hall
        subst hun
        go_simp
        exact hK _ _ ⟨l0, l1, l2, l3, true, true, true, l7, l8, l9, l10, l11, l12, l13, rfl, rfl, HS.out⟩
      · obtain rfl := hall
        subst hun
        go_simp
        exact hK _ _ ⟨l0, l1, l2, l3, l4, l5, true, true, l8, l9, l10, l11, l12, l13, rfl, rfl, HS.out⟩
      · obtain rfl := hall
        subst hun
        go_simp
        exact hK _ _ ⟨l0, l1, l2, l3, l4, l5, true, l7, true, l9, l10, l11, l12, l13, rfl, rfl, HS.out⟩
      · obtain rfl := hall
        subst hun
        go_simp
        exact hK _ _ ⟨l0, l1, l2, l3, l4, l5, true, l7, l8, true, l10, l11, l12, l13, rfl, rfl, HS.out⟩
      · obtain ⟨rfl, rfl, rfl⟩ := hall
        subst hun
        go_simp
        exact hK _ _ ⟨l0, l1, l2, l3, l4, l5, true, l7, true, true, true, l11, l12, l13, rfl, rfl, HS.out⟩
      · obtain ⟨rfl, rfl, rfl⟩ := hall
        subst hun
        go_simp
        exact hK _ _ ⟨l0, l1, l2, l3, l4, l5, true, true, l8, l9, true, true, l12, l13, rfl, rfl, HS.out⟩
      · obtain ⟨rfl, rfl⟩ := hall
        subst hun
        go_simp
        exact hK _ _ ⟨l0, l1, l2, l3, l4, l5, true, l7, l8, l9, l10, true, true, l13, rfl, rfl, HS.out⟩
      · obtain ⟨rfl, rfl, rfl, rfl, rfl, rfl, rfl, rfl, rfl, rfl, rfl, rfl, rfl, -⟩ := hall
        subst hun
        go_simp
        exact hK _ _ ⟨true, true, true, true, true, true, true, true, true, true, true, true, true, true, rfl, rfl, HS.out⟩
    · rintro listed a w' ⟨l0, l1, l2, l3, l4, l5, l6, l7, l8, l9, l10, l11, l12, l13, rfl, rfl, hS⟩ hr
      have hall := ready_nilM (by kernel_rfl) rfl hr
      obtain rfl : l0 = true := by simpa using hall 0 (by simp)
      obtain rfl : l1 = true := by simpa using hall 1 (by simp)
      obtain rfl : l2 = true := by simpa using hall 2 (by simp)
      obtain rfl : l3 = true := by simpa using hall 3 (by simp)
      obtain rfl : l4 = true := by simpa using hall 4 (by simp)
      obtain rfl : l5 = true := by simpa using hall 5 (by simp)
      obtain rfl : l6 = true := by simpa using hall 6 (by simp)
      obtain rfl : l7 = true := by simpa using hall 7 (by simp)
      obtain rfl : l8 = true := by simpa using hall 8 (by simp)
      obtain rfl : l9 = true := by simpa using hall 9 (by simp)
      obtain rfl : l10 = true := by simpa using hall 10 (by simp)
      obtain rfl : l11 = true := by simpa using hall 11 (by simp)
      obtain rfl : l12 = true := by simpa using hall 12 (by simp)
      obtain rfl : l13 = true := by simpa using hall 13 (by simp)
      clear hall hr 
      simp only [↓reduceIte] at hS ⊢
      have HSf := Lib.hid hS
      clear hS
      go_wp2
      go_ret
      exact ⟨rfl, HSf.out.bel⟩
    · refine ⟨false, false, false, false, false, false, false, false, false, false, false, false, false, false, rfl, rfl, ?_⟩
      exact HhS0.out.drew.pick [0] (by decide)
  · cases hwd : wdOk l
    · obtain rfl : r = false := by rw [← hr, accT, hok, hwd]; rfl
      have Hhok := Lib.hid hok; clear hok
      have Hhwd := Lib.hid hwd; clear hwd
      clear hr
      go_enter Try.func39, Try.ntmps39
      go_wp2_with fail
      refine wp_region_any (by kernel_rfl) ?_
      refine wpAny_inv (fun listed a w' => ∃ (l0 l1 l2 l3 l4 l5 l6 l7 l8 l9 l10 l11 l12 l13 : Bool) , listed = #[l0, l1, l2, l3, l4, l5, l6, l7, l8, l9, l10, l11, l12, l13] ∧
          a = ⟨#[.agg #[.int .i64 n.states, v1, v2, v3], .string (txB l), .pointer (some ⟨w.heap.size, 0, none⟩), undef, .bool false, (if l0 = true then .agg #[.int .i64 n.states, v1, v2, v3] else undef), (if l1 = true then .bool true else undef), (if l2 = true then .bool true else undef), (if l3 = true then .string (txB l) else undef), (if l4 = true then .bool false else undef), (if l5 = true then .bool false else undef), (if l6 = true then .bool false else undef), undef, undef, undef, undef, undef, (if l12 = true then .bool false else undef)], []⟩ ∧
          St w w' [Ent.box w.heap.size #[.int .i64 n.states, v1, v2, v3] 50]) ?_ ?_ _ _ _ _ (unl_le _ _) ?_
      · rintro listed a w' ⟨l0, l1, l2, l3, l4, l5, l6, l7, l8, l9, l10, l11, l12, l13, rfl, rfl, hS⟩ i hi
        obtain ⟨hun, o, ho, hall⟩ := mem_ready.1 hi
        have hlt := (Array.getElem?_eq_some_iff.1 ho).1
        refine wpOp_step ho (fun K hK => ?_)
        clear hi
        have HS := Lib.hid hS
        clear hS
        obtain h | h | h | h | h | h | h | h | h | h | h | h | h | h : i = 0 ∨ i = 1 ∨ i = 2 ∨ i = 3 ∨ i = 4 ∨ i = 5 ∨ i = 6 ∨ i = 7 ∨ i = 8 ∨ i = 9 ∨ i = 10 ∨ i = 11 ∨ i = 12 ∨ i = 13 := by simp at hlt; omega
        all_goals subst h
        all_goals simp only [List.getElem?_toArray, List.getElem?_cons_zero, List.getElem?_cons_succ, Option.some.injEq] at ho
        all_goals subst ho
        all_goals simp [Region.binds] at hun hall
        · subst hun
          have e0 := HS.out.cell (v := .int .i64 n.states) 0 0 rfl rfl
          have e1 := HS.out.cell (v := v1) 0 1 rfl rfl
          have e2 := HS.out.cell (v := v2) 0 2 rfl rfl
          have e3 := HS.out.cell (v := v3) 0 3 rfl rfl
          go_simp
          exact hK _ _ ⟨true, l1, l2, l3, l4, l5, l6, l7, l8, l9, l10, l11, l12, l13, rfl, rfl, HS.out⟩
        · obtain rfl := hall
          subst hun
          go_simp
          go_at_call 69
          refine (implNfaValid_any n _ _ (H.out.below HS.out.bel) _ Hhok.out).mono ?_
          rintro e u0 ⟨rfl, hb⟩
          have hS2 := HS.out.call hb
          have HhS2 := Lib.hid hS2; clear hS2
          go_simp
          exact hK _ _ ⟨true, true, l2, l3, l4, l5, l6, l7, l8, l9, l10, l11, l12, l13, rfl, rfl, HhS2.out⟩
        · obtain rfl := hall
          subst hun
          go_simp
          exact hK _ _ ⟨l0, true, true, l3, l4, l5, l6, l7, l8, l9, l10, l11, l12, l13, rfl, rfl, HS.out⟩
        · obtain rfl := hall
          subst hun
          go_simp
          exact hK _ _ ⟨l0, l1, true, true, l4, l5, l6, l7, l8, l9, l10, l11, l12, l13, rfl, rfl, HS.out⟩
        · obtain ⟨rfl, rfl⟩ := hall
          subst hun
          go_simp
          go_at_call 74
          refine (implWordValid_any l _ Hht.out (by omega) _ Hhwd.out).mono ?_
          rintro e u1 ⟨rfl, rfl⟩
          go_simp
          exact hK _ _ ⟨l0, l1, true, true, true, l5, l6, l7, l8, l9, l10, l11, l12, l13, rfl, rfl, HS.out⟩
        · obtain ⟨rfl, rfl⟩ := hall
          subst hun
          go_simp
          exact hK _ _ ⟨l0, l1, true, l3, true, true, l6, l7, l8, l9, l10, l11, l12, l13, rfl, rfl, HS.out⟩
        · obtain ⟨rfl, rfl⟩ := hall
          subst hun
          go_simp
          exact hK _ _ ⟨l0, l1, l2, l3, true, true, true, l7, l8, l9, l10, l11, l12, l13, rfl, rfl, HS.out⟩
        · obtain rfl := hall
          subst hun
          go_simp
          exact hK _ _ ⟨l0, l1, l2, l3, l4, l5, true, true, l8, l9, l10, l11, l12, l13, rfl, rfl, HS.out⟩
        · obtain rfl := hall
          subst hun
          go_simp
          exact hK _ _ ⟨l0, l1, l2, l3, l4, l5, true, l7, true, l9, l10, l11, l12, l13, rfl, rfl, HS.out⟩
        · obtain rfl := hall
          subst hun
          go_simp
          exact hK _ _ ⟨l0, l1, l2, l3, l4, l5, true, l7, l8, true, l10, l11, l12, l13, rfl, rfl, HS.out⟩
        · obtain ⟨rfl, rfl, rfl⟩ := hall
          subst hun
          go_simp
          exact hK _ _ ⟨l0, l1, l2, l3, l4, l5, true, l7, true, true, true, l11, l12, l13, rfl, rfl, HS.out⟩
        · obtain ⟨rfl, rfl, rfl⟩ := hall
          subst hun
          go_simp
          exact hK _ _ ⟨l0, l1, l2, l3, l4, l5, true, true, l8, l9, true, true, l12, l13, rfl, rfl, HS.out⟩
        · obtain ⟨rfl, rfl⟩ := hall
          subst hun
          go_simp
          exact hK _ _ ⟨l0, l1, l2, l3, l4, l5, true, l7, l8, l9, l10, true, true, l13, rfl, rfl, HS.out⟩
        · obtain ⟨rfl, rfl, rfl, rfl, rfl, rfl, rfl, rfl, rfl, rfl, rfl, rfl, rfl, -⟩ := hall
          subst hun
          go_simp
          exact hK _ _ ⟨true, true, true, true, true, true, true, true, true, true, true, true, true, true, rfl, rfl, HS.out⟩
      · rintro listed a w' ⟨l0, l1, l2, l3, l4, l5, l6, l7, l8, l9, l10, l11, l12, l13, rfl, rfl, hS⟩ hr
        have hall := ready_nilM (by kernel_rfl) rfl hr
        obtain rfl : l0 = true := by simpa using hall 0 (by simp)
        obtain rfl : l1 = true := by simpa using hall 1 (by simp)
        obtain rfl : l2 = true := by simpa using hall 2 (by simp)
        obtain rfl : l3 = true := by simpa using hall 3 (by simp)
        obtain rfl : l4 = true := by simpa using hall 4 (by simp)
        obtain rfl : l5 = true := by simpa using hall 5 (by simp)
        obtain rfl : l6 = true := by simpa using hall 6 (by simp)
        obtain rfl : l7 = true := by simpa using hall 7 (by simp)
        obtain rfl : l8 = true := by simpa using hall 8 (by simp)
        obtain rfl : l9 = true := by simpa using hall 9 (by simp)
        obtain rfl : l10 = true := by simpa using hall 10 (by simp)
        obtain rfl : l11 = true := by simpa using hall 11 (by simp)
        obtain rfl : l12 = true := by simpa using hall 12 (by simp)
        obtain rfl : l13 = true := by simpa using hall 13 (by simp)
        clear hall hr 
        simp only [↓reduceIte] at hS ⊢
        have HSf := Lib.hid hS
        clear hS
        go_wp2
        go_ret
        exact ⟨rfl, HSf.out.bel⟩
      · refine ⟨false, false, false, false, false, false, false, false, false, false, false, false, false, false, rfl, rfl, ?_⟩
        exact HhS0.out.drew.pick [0] (by decide)
    · obtain ⟨hlo, hl8⟩ := wdOk_parts hwd
      obtain ⟨m, -, hm40, -, -, -, -, hei, -⟩ := nfaOk_facts hok
      have hei : inN 40 n.ends := fun s hs => by have := hei s hs; omega
      have hr : endV n (runS n (lets l)) = r := by rw [← hr, accT, hok, hwd]; rfl
      have hlt := runS_lt hok (lets l)
      have Hhok := Lib.hid hok; clear hok
      have Hhwd := Lib.hid hwd; clear hwd
      have Hhlo := Lib.hid hlo; clear hlo
      have Hhr := Lib.hid hr; clear hr
      have Hhlt := Lib.hid hlt; clear hlt
      have Hhei := Lib.hid hei; clear hei
      go_enter Try.func39, Try.ntmps39
      have hS1 := HhS0.out.drew
      have e0 := hS1.cell (v := .int .i64 n.states) 0 0 rfl rfl
      have e1 := hS1.cell (v := v1) 0 1 rfl rfl
      have e2 := hS1.cell (v := v2) 0 2 rfl rfl
      have e3 := hS1.cell (v := v3) 0 3 rfl rfl
      go_wp2_with fail
      go_region_with
        (first
          | (go_at_call 69; (with_reducible refine (implNfaValid_any n _ _ (HN.out _ (Below.refl _ _)) _ Hhok.out).mono ?_); rintro e u0 ⟨rfl, hq0⟩; obtain ⟨x0, x1, x2, x3⟩ := Hk.out _ hq0)
          | (go_at_call 74; (with_reducible refine (implWordValid_any l _ Hht.out (by omega) _ Hhwd.out).mono ?_); rintro e u1 ⟨rfl, rfl⟩)
          | (go_at_call 84; (with_reducible refine (nfaRun_any n l v1 v2 v3 _ Hhok.out Hht.out Hhlo.out hll (HM.out _ hq0).1 (HM.out _ hq0).2.1).mono ?_); rintro e u2 ⟨rfl, hr2⟩; have hq2 := hq0.trans (hr2.mono hq0.size); obtain ⟨y0, y1, y2, y3⟩ := Hk.out _ hq2)
          | (go_at_call 83; (with_reducible refine (nfaEnds_any n _ v1 v2 v3 _ Hhlt.out Hhei.out (HM.out _ hq2).2.2 _ Hhr.out).mono ?_); rintro e u3 ⟨rfl, hr3⟩; have hq3 := hq2.trans (hr3.mono hq2.size)))
      all_goals
        go_wp2
        go_ret
        exact ⟨rfl, (HhS0.out.drew.call hq3).bel⟩
theorem nfaR_rows {w0 w : World} {L : List Ent} {n : NfaD} {a1 a2 a3 : Option Addr} {c1 c2 c3 : Nat} (hS : St w0 w L) (i j k : Nat) {t1 t2 t3 : Nat}
    (h1 : L[i]? = some (Ent.row t1 3 (.slice a1 n.moves.length c1) n.moves.length (n.moves.flatMap moveCells))) (h2 : L[j]? = some (Ent.row t2 1 (.slice a2 n.firsts.length c2) n.firsts.length (intCells n.firsts))) (h3 : L[k]? = some (Ent.row t3 1 (.slice a3 n.ends.length c3) n.ends.length (intCells n.ends)))
    (hb1 : -9223372036854775808 ≤ n.states) (hb2 : n.states ≤ 9223372036854775807) : NfaR 0 w (.agg #[.int .i64 n.states, .slice a1 n.moves.length c1, .slice a2 n.firsts.length c2, .slice a3 n.ends.length c3]) n :=
  ⟨_, _, _, rfl, moves_of_row (hS.row i h1), ints_of_row' (hS.row j h2), ints_of_row' (hS.row k h3), hb1, hb2⟩
end Go.Proofs.Ytalbofnhcpjilaa
namespace Go.Proofs.Ytalbofnhcpjilaa
open Go.RowKit
end Go.Proofs.Ytalbofnhcpjilaa
namespace Go.Proofs.Ytalbofnhcpjilaa
open Go.RowKit
-- ways through an automaton of any size
def accP (n : NfaD) (w : List Nat) : Prop := ∃ f ∈ n.firsts, ∃ e ∈ n.ends, Pth n.moves f w e
def StarL (L : List Nat → Prop) (w : List Nat) : Prop := ∃ ws : List (List Nat), w = ws.flatten ∧ ∀ u ∈ ws, L u
theorem StarL.nil {L : List Nat → Prop} : StarL L [] := ⟨[], rfl, by simp⟩
theorem StarL.cons {L : List Nat → Prop} {u w : List Nat} (h : L u) (h' : StarL L w) : StarL L (u ++ w) := by
  obtain ⟨ws, rfl, hw⟩ := h'
  exact ⟨u :: ws, rfl, fun x hx => by
    rcases List.mem_cons.1 hx with rfl | hx
    · exact h
    · exact hw x hx⟩
theorem Pth.starred {p : NfaD} {a : Nat} (ha : p.states = (a : Int)) (hpm : mvIn a p.moves) (hpf : inN a p.firsts) (hpe : inN a p.ends) {s t : Int} {x : List Nat} (h : Pth (starN p).moves s x t) (ht : t = p.states) :
    (s = p.states → StarL (accP p) x) ∧ (s < p.states → ∃ u v, x = u ++ v ∧ (∃ e ∈ p.ends, Pth p.moves s u e) ∧ StarL (accP p) v) := by
  have hmem : ∀ m ∈ (starN p).moves, m ∈ p.moves ∨ (∃ f ∈ p.firsts, m = (p.states, -1, f)) ∨ ∃ e ∈ p.ends, m = (e, -1, p.states) := fun m hm => by
    simp only [starN, List.mem_append, List.mem_map] at hm
    rcases hm with (hm | ⟨f, hf, rfl⟩) | ⟨e, he, rfl⟩
    · exact .inl hm
    · exact .inr (.inl ⟨f, hf, rfl⟩)
    · exact .inr (.inr ⟨e, he, rfl⟩)
  induction h with
  | here s => exact ⟨fun _ => .nil, fun h => by omega⟩
  | @eps s' t' u w hm _ ih =>
    obtain ⟨i1, i2⟩ := ih ht
    rcases hmem _ hm with hm | ⟨f, hf, e⟩ | ⟨e, he, e'⟩
    · have h1 := hpm _ hm
      simp only at h1
      refine ⟨fun h => by omega, fun _ => ?_⟩
      obtain ⟨x, y, rfl, ⟨e, he, h2⟩, h3⟩ := i2 (by omega)
      exact ⟨x, y, rfl, ⟨e, he, .eps hm h2⟩, h3⟩
    · simp only [Prod.mk.injEq] at e
      obtain ⟨rfl, -, rfl⟩ := e
      have h1 := hpf _ hf
      refine ⟨fun _ => ?_, fun h => by omega⟩
      obtain ⟨x, y, rfl, ⟨e, he, h2⟩, h3⟩ := i2 (by omega)
      exact .cons ⟨_, hf, e, he, h2⟩ h3
    · simp only [Prod.mk.injEq] at e'
      obtain ⟨rfl, -, rfl⟩ := e'
      have h1 := hpe _ he
      exact ⟨fun h => by omega, fun _ => ⟨[], w, rfl, ⟨_, he, .here _⟩, i1 rfl⟩⟩
  | @step s' t' u c w hm _ ih =>
    obtain ⟨i1, i2⟩ := ih ht
    rcases hmem _ hm with hm | ⟨f, hf, e⟩ | ⟨e, he, e'⟩
    · have h1 := hpm _ hm
      simp only at h1
      refine ⟨fun h => by omega, fun _ => ?_⟩
      obtain ⟨x, y, rfl, ⟨e, he, h2⟩, h3⟩ := i2 (by omega)
      exact ⟨c :: x, y, rfl, ⟨e, he, .step hm h2⟩, h3⟩
    · simp only [Prod.mk.injEq] at e
      omega
    · simp only [Prod.mk.injEq] at e'
      omega
theorem star_lang {p : NfaD} {a : Nat} (ha : p.states = (a : Int)) (hpm : mvIn a p.moves) (hpf : inN a p.firsts) (hpe : inN a p.ends) (x : List Nat) : accP (starN p) x ↔ StarL (accP p) x := by
  constructor
  · rintro ⟨f, hf, e, he, h⟩
    simp only [starN, List.mem_singleton] at hf he
    subst hf he
    exact (h.starred ha hpm hpf hpe rfl).1 rfl
  · rintro ⟨ws, rfl, hw⟩
    refine ⟨p.states, by simp [starN], p.states, by simp [starN], ?_⟩
    induction ws with
    | nil => exact .here _
    | cons u ws ih =>
      rw [List.flatten_cons]
      refine Pth.append ?_ (ih fun x hx => hw x (List.mem_cons_of_mem _ hx))
      obtain ⟨f, hf, e, he, h⟩ := hw u (by simp)
      have h1 : Pth (starN p).moves f u e := h.mono fun m hm => by simp [starN, hm]
      have h2 : Pth (starN p).moves p.states [] f := .eps (by simp [starN, hf]) (.here _)
      have h3 : Pth (starN p).moves e [] p.states := .eps (by simp only [starN, List.mem_append, List.mem_map]; exact .inr ⟨e, he, rfl⟩) (.here _)
      have h4 := (h2.append h1).append h3
      rwa [List.nil_append, List.append_nil] at h4
theorem nfaOf_accP {d : DfaD} (hd : dfaOk d.next d.ends = true) {w : List Nat} (hw : isW w) : accP (nfaOf d) w ↔ accD d w = true := by
  rw [← nfaOf_acc hd hw, accS_pth (nfaOf_ok hd)]
  rfl
theorem isW_flat {ws : List (List Nat)} (h : isW ws.flatten) : ∀ u ∈ ws, isW u := fun u hu c hc => h c (List.mem_flatten.2 ⟨u, hu, hc⟩)
theorem StarL.congr {L M : List Nat → Prop} (h : ∀ u, isW u → (L u ↔ M u)) {w : List Nat} (hw : isW w) : StarL L w ↔ StarL M w := by
  constructor
  · rintro ⟨ws, rfl, hs⟩
    exact ⟨ws, rfl, fun u hu => (h u (isW_flat hw u hu)).1 (hs u hu)⟩
  · rintro ⟨ws, rfl, hs⟩
    exact ⟨ws, rfl, fun u hu => (h u (isW_flat hw u hu)).2 (hs u hu)⟩
end Go.Proofs.Ytalbofnhcpjilaa
