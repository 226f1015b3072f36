/-
  The walks over the program's shifted and shiftedMoves.
  Conditions: the lists are readable.
-/
import Derived.Test.YtfgpkadhegdffaaPk25Is
namespace Go.Proofs.Ytfgpkadhegdffaa
open Go.RowKit
theorem heap_alloc_new2 (w : World) (o o2 : Obj) : ((w.alloc o).alloc o2).heap[w.heap.size + 1]? = some o2 := by
  have := heap_alloc_new (w.alloc o) o2
  simpa only [World.size_alloc] using this
set_option maxRecDepth 100000 in
set_option maxHeartbeats 8000000 in
theorem shifted_any (xs : List Int) (v : Value) (d : Int) (w : World) (hl : xs.length ≤ 1000) (hx : ∀ x ∈ xs, -1000 ≤ x ∧ x ≤ 1000) (hd : -1000 ≤ d ∧ d ≤ 1000) (h : Ints 0 w v xs) :
    Calls Try.prog 132 #[v, .int .i64 d] w fun e w' => ∃ a c, e = .returned (.slice a xs.length c) ∧ St w w' [Ent.row 3 1 (.slice a xs.length c) xs.length (intCells (xs.map (· + d)))] := by
  obtain ⟨a0, c0, rfl, hc1, hc2, hr⟩ := h.form
  obtain ⟨j0, hj, hy0, hy1, hy2⟩ := info_parts Try.infoInt
  obtain ⟨L, hL⟩ : ∃ L, L = xs.length := ⟨_, rfl⟩
  have hS0 := (St.start w).nilRow 3 1
  rw [← hL] at hl hc1 hr
  rw [← hL]
  obtain ⟨hd0, hd1⟩ := hd
  have Hr := Lib.hid hr
  have HhS0 := Lib.hid hS0; clear hS0
  have HhL := Lib.hid hL; clear hL
  have Hhx := Lib.hid hx; clear hx
  have Hhj := Lib.hid hj; clear hj
  have Hhy0 := Lib.hid hy0; clear hy0
  have Hhy1 := Lib.hid hy1; clear hy1
  have Hhy2 := Lib.hid hy2; clear hy2
  clear hr h
  go_enter Try.func132, Try.ntmps132
  go_wp2
  go_loopw [5, 10] (fun vo i wr => ∃ (k : Nat) (a : Option Addr) (c : Nat), i = .int .i64 k ∧ vo = .slice a k c ∧ k ≤ L ∧ St w wr [Ent.row 3 1 (.slice a k c) k (intCells ((xs.take k).map (· + d)))])
    (fun _ i _ => L - (intOf i).toNat)
  case atStart => exact ⟨0, none, 0, rfl, rfl, Nat.zero_le _, HhS0.out⟩
  case round =>
    obtain ⟨k, a, c, rfl, rfl, hk, hS⟩ := hrel
    by_cases hlt : k < L
    · have hlt2 : (k : Int) < L := by omega
      have hkn : k < xs.length := by have := HhL.out; omega
      obtain ⟨b1, o1, rfl, -, hb1, hcs⟩ := Hr.out (by omega)
      have m0 := hcs k hlt
      have hsn := take_map_snoc (· + d) (d := 0) hkn rfl
      have hxx := Hhx.out _ (memD (d := 0) hkn)
      obtain ⟨p0, hp⟩ : ∃ p, p = xs.getD k 0 := ⟨_, rfl⟩
      rw [← hp] at m0 hsn hxx
      obtain ⟨hp0, hp1⟩ := hxx
      have m1 := (bcell hS.bel b1 _ hb1).trans m0
      have hw : IntKind.i64.wrap (p0 + d) = p0 + d := IntWalk.i64_in _ (by omega)
      have hSa := hS.alloc_ (.cells #[.int .i64 (p0 + d)] 3)
      have HSa := Lib.hid hSa
      have HRa := Lib.hid (hSa.row 0 rfl)
      have Hhp := Lib.hid hp; clear hp
      have Hhsn := Lib.hid hsn; clear hsn
      clear hS hSa hcs m0
      go_wp2_with (at_builtin; refine wpList_append_lies _ rfl _ _ _ rfl _ 3 j0 (.int .i64 0) 1 8 Try.underlying60 Hhj.out Hhy0.out Hhy1.out Hhy2.out rfl (by omega) _ k _ rfl HRa.out ⟨wr.heap.size, 0, none⟩ 1 1 [.int .i64 (p0 + d)] rfl rfl (World.news_of_block (heap_alloc_new wr _)) one_int (by omega) (by unfold maxLen; omega) (by omega) HSa.out.size _ rfl ?_; intro g6 c6 w6 hown6 hgrow6 hat6 hlt6; have HS6 := Lib.hid (HSa.out.app 0 rfl hown6 hgrow6 hat6); clear hown6 hgrow6 hat6 hlt6)
      go_roundw
      case rel =>
        refine ⟨k + 1, some ⟨g6, 0, none⟩, c6, by go_num, rfl, by omega, ?_⟩
        rw [Hhsn.out, intCells_snoc]
        exact HS6.out
      case measure => simp [intOf]; omega
    · obtain rfl : L = k := by omega
      rw [show xs.take L = xs from List.take_of_length_le (by have := HhL.out; omega)] at hS
      have HSe := Lib.hid hS
      clear hS
      go_wp2
      go_ret
      exact ⟨a, c, rfl, HSe.out⟩
set_option maxRecDepth 100000 in
set_option maxHeartbeats 8000000 in
theorem shiftedMoves_any (p q : NfaD) (S : Nat) (v1 v2 v3 u1 u2 u3 : Value) (w : World) (hS40 : p.states = (S : Int)) (hS1 : S ≤ 40) (hpl : p.moves.length ≤ 1000) (hql : q.moves.length ≤ 1000) (hqm : mvIn 40 q.moves) (hpm : Moves 0 w v1 p.moves) (hq : Moves 0 w u1 q.moves) :
    Calls Try.prog 130 #[.agg #[.int .i64 p.states, v1, v2, v3], .agg #[.int .i64 q.states, u1, u2, u3]] w fun e w' => ∃ a c, e = .returned (.slice a (p.moves.length + q.moves.length) c) ∧ St w w' [Ent.row 127 3 (.slice a (p.moves.length + q.moves.length) c) (p.moves.length + q.moves.length) ((p.moves ++ q.moves.map (shM p.states)).flatMap moveCells)] := by
  have hcl := fun (u : World) (hu : Below w.heap.size w u) => cloneMv_any p.moves v1 u (by omega) (hpm.below hu)
  obtain ⟨av, cv, rfl, hc1, hc2, -⟩ := hpm.form
  obtain ⟨au, cu, rfl, hd1, hd2, hr⟩ := hq.form
  obtain ⟨i0, hi, hz0, hz1, hz2⟩ := info_parts Try.infoMv
  obtain ⟨L1, hL1⟩ : ∃ L, L = p.moves.length := ⟨_, rfl⟩
  obtain ⟨L2, hL2⟩ : ∃ L, L = q.moves.length := ⟨_, rfl⟩
  obtain ⟨Q, hQ⟩ : ∃ Q, Q = q.states := ⟨_, rfl⟩
  have hS0 := ((St.start w).alloc _ rfl #[.int .i64 p.states, .slice av p.moves.length cv, v2, v3] 96).alloc (w.heap.size + 1) (by simp) #[.int .i64 q.states, .slice au q.moves.length cu, u2, u3] 96
  rw [hS40, ← hL1, ← hL2, ← hQ] at hS0
  rw [hS40, ← hL1, ← hL2, ← hQ]
  rw [← hL1] at hpl hc1 hcl
  rw [← hL2] at hql hd1 hr
  have e1 := hS0.cell (v := .slice av L1 cv) 0 1 rfl rfl
  have Hcl := Lib.hid hcl
  have Hr := Lib.hid hr
  have HhS0 := Lib.hid hS0; clear hS0
  have HhL1 := Lib.hid hL1; clear hL1
  have HhL2 := Lib.hid hL2; clear hL2
  have HhS40 := Lib.hid hS40; clear hS40
  have Hhqm := Lib.hid hqm; clear hqm
  have HhQ := Lib.hid hQ; clear hQ
  have Hhi := Lib.hid hi; clear hi
  have Hhz0 := Lib.hid hz0; clear hz0
  have Hhz1 := Lib.hid hz1; clear hz1
  have Hhz2 := Lib.hid hz2; clear hz2
  clear hcl hr hpm hq
  go_enter Try.func130, Try.ntmps130
  go_wp2_with fail
  refine (Hcl.out _ HhS0.out.bel).mono ?_
  rintro e w1 ⟨am, cm, rfl, hS'⟩
  have HS1 := Lib.hid (HhS0.out.cat hS')
  clear hS' e1
  have e2 := HS1.out.cell (v := .slice au L2 cu) 1 1 rfl rfl
  go_wp2
  go_loopw [5, 14] (fun vo i wr => ∃ (k : Nat) (a : Option Addr) (c : Nat), i = .int .i64 k ∧ vo = .slice a (L1 + k) c ∧ k ≤ L2 ∧ St w wr [Ent.box w.heap.size #[.int .i64 (S : Int), .slice av L1 cv, v2, v3] 96, Ent.box (w.heap.size + 1) #[.int .i64 Q, .slice au L2 cu, u2, u3] 96, Ent.row 127 3 (.slice a (L1 + k) c) (L1 + k) ((p.moves ++ (q.moves.take k).map (shM (S : Int))).flatMap moveCells)])
    (fun _ i _ => L2 - (intOf i).toNat)
  case atStart =>
    refine ⟨0, am, cm, rfl, rfl, Nat.zero_le _, ?_⟩
    rw [List.take_zero, List.map_nil, List.append_nil]
    exact HS1.out
  case round =>
    obtain ⟨k, a, c, rfl, rfl, hk, hS⟩ := hrel
    clear e2
    by_cases hlt : k < L2
    · have hlt2 : (k : Int) < L2 := by omega
      have hkn : k < q.moves.length := by have := HhL2.out; omega
      obtain ⟨b1, o1, rfl, -, hb1, hcs⟩ := Hr.out (by omega)
      obtain ⟨p1, p2, p3⟩ := hcs k hlt
      have hsn := take_map_snoc (shM (S : Int)) (d := (0, 0, 0)) hkn rfl
      have hxx := Hhqm.out _ (memD (d := (0, 0, 0)) hkn)
      obtain ⟨mm, hmm⟩ : ∃ mm, mm = q.moves.getD k (0, 0, 0) := ⟨_, rfl⟩
      rw [← hmm] at p1 p2 p3 hsn hxx
      obtain ⟨f, l, t⟩ := mm
      simp only at p1 p2 p3 hxx
      obtain ⟨⟨hf0, hf1⟩, ht0, ht1⟩ := hxx
      have m1 := (bcell hS.bel b1 _ hb1).trans p1
      have m2 := (bcell hS.bel b1 _ hb1).trans p2
      have m3 := (bcell hS.bel b1 _ hb1).trans p3
      have hw1 : IntKind.i64.wrap (f + (S : Int)) = f + (S : Int) := IntWalk.i64_in _ (by omega)
      have hw2 : IntKind.i64.wrap (t + (S : Int)) = t + (S : Int) := IntWalk.i64_in _ (by omega)
      have hSb := hS.alloc _ rfl #[.int .i64 f, .int .i64 l, .int .i64 t] 127
      have e0 := hSb.cell (v := .int .i64 (S : Int)) 0 0 rfl rfl
      have g0 := hSb.cell (v := .int .i64 f) 3 0 rfl rfl
      have g1 := hSb.cell (v := .int .i64 l) 3 1 rfl rfl
      have g2 := hSb.cell (v := .int .i64 t) 3 2 rfl rfl
      have hSa := hSb.alloc_ (.cells #[.int .i64 (f + (S : Int)), .int .i64 l, .int .i64 (t + (S : Int))] 127)
      have HSa := Lib.hid hSa
      have HRa := Lib.hid (hSa.row 2 rfl)
      have HHb := Lib.hid (heap_alloc_new2 wr (.cells #[.int .i64 f, .int .i64 l, .int .i64 t] 127) (.cells #[.int .i64 (f + (S : Int)), .int .i64 l, .int .i64 (t + (S : Int))] 127))
      have HSb := Lib.hid hSb
      have Hhmm := Lib.hid hmm; clear hmm
      have Hhsn := Lib.hid hsn; clear hsn
      clear hS hSa hSb hcs p1 p2 p3
      go_wp2_with (at_builtin; refine wpList_append_lies _ rfl _ _ _ rfl _ 127 i0 (.agg #[.int .i64 0, .int .i64 0, .int .i64 0]) 3 24 Try.underlying94 Hhi.out Hhz0.out Hhz1.out Hhz2.out rfl (by omega) _ (L1 + k) _ rfl HRa.out ⟨wr.heap.size + 1, 0, none⟩ 1 1 [.int .i64 (f + (S : Int)), .int .i64 l, .int .i64 (t + (S : Int))] rfl rfl (World.news_of_block HHb.out) one_mv (by omega) (by unfold maxLen; omega) (by omega) HSa.out.size _ rfl ?_; intro g6 c6 w6 hown6 hgrow6 hat6 hlt6; have HS6 := Lib.hid (HSa.out.app 2 rfl hown6 hgrow6 hat6); clear hown6 hgrow6 hat6 hlt6)
      go_roundw
      case rel =>
        refine ⟨k + 1, some ⟨g6, 0, none⟩, c6, by go_num, rfl, by omega, ?_⟩
        rw [Hhsn.out, ← List.append_assoc, List.flatMap_append (xs := _ ++ _)]
        exact HS6.out.pick [0, 1, 2] (by decide)
      case measure => simp [intOf]; omega
    · obtain rfl : L2 = k := by omega
      rw [show q.moves.take L2 = q.moves from List.take_of_length_le (by have := HhL2.out; omega)] at hS
      have HSe := Lib.hid hS
      clear hS
      go_wp2
      go_ret
      exact ⟨a, c, rfl, HSe.out.pick [2] (by decide)⟩
def jm (p q : NfaD) (S k : Nat) : List (Int × Int × Int) := (p.moves ++ q.moves.map (shM (S : Int))) ++ (p.ends.take k).flatMap fun s => q.firsts.map fun t => (s, (-1 : Int), t + (S : Int))
theorem jm_zero {p q : NfaD} {S : Nat} : jm p q S 0 = p.moves ++ q.moves.map (shM (S : Int)) := by simp [jm]
theorem jm_succ {p q : NfaD} {S k : Nat} (hk : k < p.ends.length) : jm p q S (k + 1) = jm p q S k ++ q.firsts.map fun t => (p.ends.getD k 0, (-1 : Int), t + (S : Int)) := by
  unfold jm
  rw [List.take_succ_eq_append_getElem hk, List.flatMap_append, ← List.append_assoc]
  simp [hk]
theorem joinN_eq {p q : NfaD} {S Q : Nat} (hS : p.states = (S : Int)) (hQ : q.states = (Q : Int)) : joinN p q = ⟨(S : Int) + (Q : Int), jm p q S p.ends.length, p.firsts, q.ends.map (· + (S : Int))⟩ := by
  unfold joinN jm shN
  rw [hS, hQ, List.take_length]
  simp only [List.map_map, NfaD.mk.injEq, and_true]
  refine ⟨by omega, rfl⟩
set_option maxRecDepth 100000 in
set_option maxHeartbeats 16000000 in
theorem joinNfa_any (p q : NfaD) (v1 v2 v3 u1 u2 u3 : Value) (w : World) (hp : nfaOk p = true) (hq : nfaOk q = true) (h1 : Moves 0 w v1 p.moves) (h2 : Ints 0 w v2 p.firsts) (h3 : Ints 0 w v3 p.ends) (g1 : Moves 0 w u1 q.moves) (g2 : Ints 0 w u2 q.firsts) (g3 : Ints 0 w u3 q.ends) :
    Calls Try.prog 103 #[.agg #[.int .i64 p.states, v1, v2, v3], .agg #[.int .i64 q.states, u1, u2, u3]] w fun e w' => RNfaS (joinN p q) w e w' := by
  obtain ⟨S, hSp, hS40, hpm, hpl, hpf, hpfl, hpe, hpel⟩ := nfaOk_facts hp
  obtain ⟨Q, hQq, hQ40, hqm, hql, hqf, hqfl, hqe, hqel⟩ := nfaOk_facts hq
  have hsm := fun (u : World) (hu : Below w.heap.size w u) => shiftedMoves_any p q S v1 v2 v3 u1 u2 u3 u hSp hS40 (by omega) (by omega) (mvIn_40 hqm hQ40) (h1.below hu) (g1.below hu)
  have hcf := fun (u : World) (hu : Below w.heap.size w u) => clone_any p.firsts v2 u (by omega) (h2.below hu)
  have hse := fun (u : World) (hu : Below w.heap.size w u) => shifted_any q.ends u3 (S : Int) u (by omega) (fun x hx => by have := hqe x hx; omega) (by omega) (g3.below hu)
  obtain ⟨pa1, pc1, rfl, -, -, -⟩ := h1.form
  obtain ⟨pa2, pc2, rfl, -, -, -⟩ := h2.form
  obtain ⟨pa3, pc3, rfl, -, -, hr3⟩ := h3.form
  obtain ⟨qa1, qc1, rfl, -, -, -⟩ := g1.form
  obtain ⟨qa2, qc2, rfl, -, -, hr2⟩ := g2.form
  obtain ⟨qa3, qc3, rfl, -, -, -⟩ := g3.form
  obtain ⟨i0, hi, hz0, hz1, hz2⟩ := info_parts Try.infoMv
  obtain ⟨L1, hL1⟩ : ∃ L, L = p.moves.length := ⟨_, rfl⟩
  obtain ⟨F1, hF1⟩ : ∃ L, L = p.firsts.length := ⟨_, rfl⟩
  obtain ⟨E1, hE1⟩ : ∃ L, L = p.ends.length := ⟨_, rfl⟩
  obtain ⟨L2, hL2⟩ : ∃ L, L = q.moves.length := ⟨_, rfl⟩
  obtain ⟨F2, hF2⟩ : ∃ L, L = q.firsts.length := ⟨_, rfl⟩
  obtain ⟨E2, hE2⟩ : ∃ L, L = q.ends.length := ⟨_, rfl⟩
  have hS0 := (((St.start w).alloc _ rfl #[.int .i64 p.states, .slice pa1 p.moves.length pc1, .slice pa2 p.firsts.length pc2, .slice pa3 p.ends.length pc3] 96).alloc (w.heap.size + 1) (by simp) #[.int .i64 q.states, .slice qa1 q.moves.length qc1, .slice qa2 q.firsts.length qc2, .slice qa3 q.ends.length qc3] 96).alloc (w.heap.size + 1 + 1) (by simp) #[.int .i64 0, .slice none 0 0, .slice none 0 0, .slice none 0 0] 96
  rw [hSp, hQq, ← hL1, ← hF1, ← hE1, ← hL2, ← hF2, ← hE2] at hS0
  rw [hSp, hQq, ← hL1, ← hF1, ← hE1, ← hL2, ← hF2, ← hE2]
  rw [hSp, hQq, ← hL1, ← hF1, ← hE1, ← hL2, ← hF2, ← hE2] at hsm
  rw [← hL1] at hpl
  rw [← hF1] at hpfl hcf
  rw [← hE1] at hpel hr3
  rw [← hL2] at hql
  rw [← hF2] at hqfl hr2
  rw [← hE2] at hqel hse
  have hS1 := hS0.call (Below.refl _ _)
  have HS0 : Hid (St w _ [Ent.box w.heap.size #[.int .i64 (S : Int), .slice pa1 L1 pc1, .slice pa2 F1 pc2, .slice pa3 E1 pc3] 96, Ent.box (w.heap.size + 1) #[.int .i64 (Q : Int), .slice qa1 L2 qc1, .slice qa2 F2 qc2, .slice qa3 E2 qc3] 96, Ent.box (w.heap.size + 1 + 1) #[.int .i64 0, .slice none 0 0, .slice none 0 0, .slice none 0 0] 96, Ent.nil, Ent.nil, Ent.nil, Ent.nil]) := Lib.hid (hS1.pick [0, 1, 2, 3, 4, 5, 6] (by decide))
  have Hsm := Lib.hid hsm
  have Hcf := Lib.hid hcf
  have Hse := Lib.hid hse
  have Hr3 := Lib.hid hr3
  have Hr2 := Lib.hid hr2
  have HhL1 := Lib.hid hL1; clear hL1
  have HhF1 := Lib.hid hF1; clear hF1
  have HhE1 := Lib.hid hE1; clear hE1
  have HhL2 := Lib.hid hL2; clear hL2
  have HhF2 := Lib.hid hF2; clear hF2
  have HhE2 := Lib.hid hE2; clear hE2
  have HhSp := Lib.hid hSp; clear hSp
  have HhQq := Lib.hid hQq; clear hQq
  have Hhqf := Lib.hid hqf; clear hqf
  have Hhi := Lib.hid hi; clear hi
  have Hhz0 := Lib.hid hz0; clear hz0
  have Hhz1 := Lib.hid hz1; clear hz1
  have Hhz2 := Lib.hid hz2; clear hz2
  clear h1 h2 h3 g1 g2 g3 hr3 hr2 hsm hcf hse hS0 hS1 hpm hpf hpe hqm hqe hp hq
  go_enter Try.func103, Try.ntmps103
  go_wp2_with fail
  refine wp_region_any (by kernel_rfl) ?_
  refine wpAny_invA (fun A listed a w' => ∃ (l0 l1 l2 l3 l4 l5 l6 l7 l8 l9 l10 l11 l12 l13 l14 l15 l16 l17 l18 : Bool) (am : Option Addr) (cm : Nat) (af : Option Addr) (cf : Nat) (ae : Option Addr) (ce : Nat) (bo : Nat), listed = #[l0, l1, l2, l3, l4, l5, l6, l7, l8, l9, l10, l11, l12, l13, l14, l15, l16, l17, l18] ∧ (l16 = true → l4 = true ∧ l7 = true ∧ l10 = true ∧ l15 = true) ∧ (l18 = true → l17 = true ∧ l16 = true) ∧
      a = ⟨((((((((((((((((((A.tmps.setIfInBounds 10 (if l0 = true then .pointer (some ⟨w.heap.size, 0, none⟩) else A.tmps.getD 10 undef)).setIfInBounds 11 (if l1 = true then .int .i64 (S : Int) else A.tmps.getD 11 undef)).setIfInBounds 12 (if l2 = true then .pointer (some ⟨w.heap.size + 1, 0, none⟩) else A.tmps.getD 12 undef)).setIfInBounds 13 (if l3 = true then .int .i64 (Q : Int) else A.tmps.getD 13 undef)).setIfInBounds 14 (if l4 = true then .int .i64 ((S : Int) + (Q : Int)) else A.tmps.getD 14 undef)).setIfInBounds 15 (if l5 = true then .agg #[.int .i64 (S : Int), .slice pa1 L1 pc1, .slice pa2 F1 pc2, .slice pa3 E1 pc3] else A.tmps.getD 15 undef)).setIfInBounds 16 (if l6 = true then .agg #[.int .i64 (Q : Int), .slice qa1 L2 qc1, .slice qa2 F2 qc2, .slice qa3 E2 qc3] else A.tmps.getD 16 undef)).setIfInBounds 17 (if l7 = true then .slice am (L1 + L2) cm else A.tmps.getD 17 undef)).setIfInBounds 18 (if l8 = true then .pointer (some ⟨w.heap.size, 2, none⟩) else A.tmps.getD 18 undef)).setIfInBounds 19 (if l9 = true then .slice pa2 F1 pc2 else A.tmps.getD 19 undef)).setIfInBounds 20 (if l10 = true then .slice af F1 cf else A.tmps.getD 20 undef)).setIfInBounds 21 (if l11 = true then .pointer (some ⟨w.heap.size + 1, 3, none⟩) else A.tmps.getD 21 undef)).setIfInBounds 22 (if l12 = true then .slice qa3 E2 qc3 else A.tmps.getD 22 undef)).setIfInBounds 23 (if l13 = true then .pointer (some ⟨w.heap.size, 0, none⟩) else A.tmps.getD 23 undef)).setIfInBounds 24 (if l14 = true then .int .i64 (S : Int) else A.tmps.getD 24 undef)).setIfInBounds 25 (if l15 = true then .slice ae E2 ce else A.tmps.getD 25 undef)).setIfInBounds 26 (if l16 = true then .agg #[.int .i64 ((S : Int) + (Q : Int)), .slice am (L1 + L2) cm, .slice af F1 cf, .slice ae E2 ce] else A.tmps.getD 26 undef)).setIfInBounds 5 (if l17 = true then .pointer (some ⟨bo, 0, none⟩) else A.tmps.getD 5 undef)), A.defers⟩ ∧
      St w w' [Ent.box w.heap.size #[.int .i64 (S : Int), .slice pa1 L1 pc1, .slice pa2 F1 pc2, .slice pa3 E1 pc3] 96, Ent.box (w.heap.size + 1) #[.int .i64 (Q : Int), .slice qa1 L2 qc1, .slice qa2 F2 qc2, .slice qa3 E2 qc3] 96, Ent.box (w.heap.size + 1 + 1) #[.int .i64 0, .slice none 0 0, .slice none 0 0, .slice none 0 0] 96, (if l17 = true then Ent.box bo #[(if l18 = true then .int .i64 ((S : Int) + (Q : Int)) else .int .i64 0), (if l18 = true then .slice am (L1 + L2) cm else .slice none 0 0), (if l18 = true then .slice af F1 cf else .slice none 0 0), (if l18 = true then .slice ae E2 ce else .slice none 0 0)] 96 else Ent.nil), (if l7 = true then Ent.row 127 3 (.slice am (L1 + L2) cm) (L1 + L2) ((p.moves ++ q.moves.map (shM (S : Int))).flatMap moveCells) else Ent.nil), (if l10 = true then Ent.row 3 1 (.slice af F1 cf) F1 (intCells p.firsts) else Ent.nil), (if l15 = true then Ent.row 3 1 (.slice ae E2 ce) E2 (intCells (q.ends.map (· + (S : Int)))) else Ent.nil)]) ?_ ?_ ?_
  · rintro listed a w' ⟨l0, l1, l2, l3, l4, l5, l6, l7, l8, l9, l10, l11, l12, l13, l14, l15, l16, l17, l18, am, cm, af, cf, ae, ce, bo, rfl, hd16, hd18, rfl, hS⟩ i hi
    obtain ⟨hun, o, ho, hall⟩ := mem_ready.1 hi
    have hlt := (Array.getElem?_eq_some_iff.1 ho).1
    refine wpOp_step ho (fun K hK => ?_)
    clear hi
    have HS := Lib.hid hS
    clear hS
    simp only [List.setIfInBounds_toArray, List.set_cons_zero, List.set_cons_succ, Array.getD_eq_getD_getElem?, List.getElem?_toArray, List.getElem?_cons_zero, List.getElem?_cons_succ, Option.getD_some]
    obtain h | h | h | h | h | h | h | h | h | h | h | h | h | h | h | h | h | h | h : i = 0 ∨ i = 1 ∨ i = 2 ∨ i = 3 ∨ i = 4 ∨ i = 5 ∨ i = 6 ∨ i = 7 ∨ i = 8 ∨ i = 9 ∨ i = 10 ∨ i = 11 ∨ i = 12 ∨ i = 13 ∨ i = 14 ∨ i = 15 ∨ i = 16 ∨ i = 17 ∨ i = 18 := by simp at hlt; omega
    all_goals subst h
    all_goals simp only [List.getElem?_toArray, List.getElem?_cons_zero, List.getElem?_cons_succ, Option.some.injEq] at ho
    all_goals subst ho
    all_goals simp [Region.binds] at hun hall
    · subst hun
      go_simp
      exact hK _ _ ⟨true, l1, l2, l3, l4, l5, l6, l7, l8, l9, l10, l11, l12, l13, l14, l15, l16, l17, l18, am, cm, af, cf, ae, ce, bo, rfl, hd16, hd18, (by simp), HS.out⟩
    · obtain rfl := hall
      subst hun
      have e0 := HS.out.cell (v := .int .i64 (S : Int)) 0 0 rfl rfl
      go_simp
      exact hK _ _ ⟨true, true, l2, l3, l4, l5, l6, l7, l8, l9, l10, l11, l12, l13, l14, l15, l16, l17, l18, am, cm, af, cf, ae, ce, bo, rfl, hd16, hd18, (by simp), HS.out⟩
    · subst hun
      go_simp
      exact hK _ _ ⟨l0, l1, true, l3, l4, l5, l6, l7, l8, l9, l10, l11, l12, l13, l14, l15, l16, l17, l18, am, cm, af, cf, ae, ce, bo, rfl, hd16, hd18, (by simp), HS.out⟩
    · obtain rfl := hall
      subst hun
      have e0 := HS.out.cell (v := .int .i64 (Q : Int)) 1 0 rfl rfl
      go_simp
      exact hK _ _ ⟨l0, l1, true, true, l4, l5, l6, l7, l8, l9, l10, l11, l12, l13, l14, l15, l16, l17, l18, am, cm, af, cf, ae, ce, bo, rfl, hd16, hd18, (by simp), HS.out⟩
    · obtain ⟨rfl, rfl⟩ := hall
      subst hun
      obtain rfl : l16 = false := by cases l16 with | false => rfl | true => simpa using hd16 rfl
      obtain rfl : l18 = false := offR hd18 rfl
      have hw : IntKind.i64.wrap ((S : Int) + (Q : Int)) = (S : Int) + (Q : Int) := IntWalk.i64_in _ (by omega)
      go_simp
      exact hK _ _ ⟨l0, true, l2, true, true, l5, l6, l7, l8, l9, l10, l11, l12, l13, l14, l15, false, l17, false, am, cm, af, cf, ae, ce, bo, rfl, by simp, by simp, (by simp), HS.out⟩
    · subst hun
      have e0 := HS.out.cell (v := .int .i64 (S : Int)) 0 0 rfl rfl
      have e1 := HS.out.cell (v := .slice pa1 L1 pc1) 0 1 rfl rfl
      have e2 := HS.out.cell (v := .slice pa2 F1 pc2) 0 2 rfl rfl
      have e3 := HS.out.cell (v := .slice pa3 E1 pc3) 0 3 rfl rfl
      go_simp
      exact hK _ _ ⟨l0, l1, l2, l3, l4, true, l6, l7, l8, l9, l10, l11, l12, l13, l14, l15, l16, l17, l18, am, cm, af, cf, ae, ce, bo, rfl, hd16, hd18, (by simp), HS.out⟩
    · subst hun
      have e0 := HS.out.cell (v := .int .i64 (Q : Int)) 1 0 rfl rfl
      have e1 := HS.out.cell (v := .slice qa1 L2 qc1) 1 1 rfl rfl
      have e2 := HS.out.cell (v := .slice qa2 F2 qc2) 1 2 rfl rfl
      have e3 := HS.out.cell (v := .slice qa3 E2 qc3) 1 3 rfl rfl
      go_simp
      exact hK _ _ ⟨l0, l1, l2, l3, l4, l5, true, l7, l8, l9, l10, l11, l12, l13, l14, l15, l16, l17, l18, am, cm, af, cf, ae, ce, bo, rfl, hd16, hd18, (by simp), HS.out⟩
    · obtain ⟨rfl, rfl⟩ := hall
      subst hun
      obtain rfl : l16 = false := by cases l16 with | false => rfl | true => simpa using hd16 rfl
      obtain rfl : l18 = false := offR hd18 rfl
      go_simp
      go_at_call 130
      refine (Hsm.out _ HS.out.bel).mono ?_
      rintro e u1 ⟨x1, d1, rfl, hb⟩
      have hS2 := (HS.out.cat hb).pick [0, 1, 2, 3, 7, 5, 6] (by decide)
      have HhS2 := Lib.hid hS2; clear hS2
      go_simp
      exact hK _ _ ⟨l0, l1, l2, l3, l4, true, true, true, l8, l9, l10, l11, l12, l13, l14, l15, false, l17, false, x1, d1, af, cf, ae, ce, bo, rfl, by simp, by simp, (by simp), HhS2.out⟩
    · subst hun
      go_simp
      exact hK _ _ ⟨l0, l1, l2, l3, l4, l5, l6, l7, true, l9, l10, l11, l12, l13, l14, l15, l16, l17, l18, am, cm, af, cf, ae, ce, bo, rfl, hd16, hd18, (by simp), HS.out⟩
    · obtain rfl := hall
      subst hun
      have e0 := HS.out.cell (v := .slice pa2 F1 pc2) 0 2 rfl rfl
      go_simp
      exact hK _ _ ⟨l0, l1, l2, l3, l4, l5, l6, l7, true, true, l10, l11, l12, l13, l14, l15, l16, l17, l18, am, cm, af, cf, ae, ce, bo, rfl, hd16, hd18, (by simp), HS.out⟩
    · obtain ⟨rfl, rfl⟩ := hall
      subst hun
      obtain rfl : l16 = false := by cases l16 with | false => rfl | true => simpa using hd16 rfl
      obtain rfl : l18 = false := offR hd18 rfl
      go_simp
      go_at_call 131
      refine (Hcf.out _ HS.out.bel).mono ?_
      rintro e u1 ⟨x1, d1, rfl, hb⟩
      have hS2 := (HS.out.cat hb).pick [0, 1, 2, 3, 4, 7, 6] (by decide)
      have HhS2 := Lib.hid hS2; clear hS2
      go_simp
      exact hK _ _ ⟨l0, l1, l2, l3, l4, l5, l6, true, l8, true, true, l11, l12, l13, l14, l15, false, l17, false, am, cm, x1, d1, ae, ce, bo, rfl, by simp, by simp, (by simp), HhS2.out⟩
    · subst hun
      go_simp
      exact hK _ _ ⟨l0, l1, l2, l3, l4, l5, l6, l7, l8, l9, l10, true, l12, l13, l14, l15, l16, l17, l18, am, cm, af, cf, ae, ce, bo, rfl, hd16, hd18, (by simp), HS.out⟩
    · obtain rfl := hall
      subst hun
      have e0 := HS.out.cell (v := .slice qa3 E2 qc3) 1 3 rfl rfl
      go_simp
      exact hK _ _ ⟨l0, l1, l2, l3, l4, l5, l6, l7, l8, l9, l10, true, true, l13, l14, l15, l16, l17, l18, am, cm, af, cf, ae, ce, bo, rfl, hd16, hd18, (by simp), HS.out⟩
    · subst hun
      go_simp
      exact hK _ _ ⟨l0, l1, l2, l3, l4, l5, l6, l7, l8, l9, l10, l11, l12, true, l14, l15, l16, l17, l18, am, cm, af, cf, ae, ce, bo, rfl, hd16, hd18, (by simp), HS.out⟩
    · obtain rfl := hall
      subst hun
      have e0 := HS.out.cell (v := .int .i64 (S : Int)) 0 0 rfl rfl
      go_simp
      exact hK _ _ ⟨l0, l1, l2, l3, l4, l5, l6, l7, l8, l9, l10, l11, l12, true, true, l15, l16, l17, l18, am, cm, af, cf, ae, ce, bo, rfl, hd16, hd18, (by simp), HS.out⟩
    · obtain ⟨rfl, rfl, rfl⟩ := hall
      subst hun
      obtain rfl : l16 = false := by cases l16 with | false => rfl | true => simpa using hd16 rfl
      obtain rfl : l18 = false := offR hd18 rfl
      go_simp
      go_at_call 132
      refine (Hse.out _ HS.out.bel).mono ?_
      rintro e u1 ⟨x1, d1, rfl, hb⟩
      have hS2 := (HS.out.cat hb).pick [0, 1, 2, 3, 4, 5, 7] (by decide)
      have HhS2 := Lib.hid hS2; clear hS2
      go_simp
      exact hK _ _ ⟨l0, l1, l2, l3, l4, l5, l6, l7, l8, l9, true, l11, true, l13, true, true, false, l17, false, am, cm, af, cf, x1, d1, bo, rfl, by simp, by simp, (by simp), HhS2.out⟩
    · obtain ⟨rfl, rfl, rfl, rfl⟩ := hall
      subst hun
      obtain rfl : l18 = false := offR hd18 rfl
      go_simp
      exact hK _ _ ⟨l0, l1, l2, l3, true, l5, l6, true, l8, l9, true, l11, l12, l13, l14, true, true, l17, false, am, cm, af, cf, ae, ce, bo, rfl, by simp, by simp, (by simp), HS.out⟩
    · subst hun
      obtain rfl : l18 = false := offL hd18 rfl
      have hS2 := (HS.out.alloc _ rfl #[.int .i64 0, .slice none 0 0, .slice none 0 0, .slice none 0 0] 96).pick [0, 1, 2, 7, 4, 5, 6] (by decide)
      have HhS2 := Lib.hid hS2; clear hS2
      go_simp
      exact hK _ _ ⟨l0, l1, l2, l3, l4, l5, l6, l7, l8, l9, l10, l11, l12, l13, l14, l15, l16, true, false, am, cm, af, cf, ae, ce, w'.heap.size, rfl, hd16, by simp, (by simp), HhS2.out⟩
    · obtain ⟨rfl, rfl, rfl, rfl, rfl, rfl, rfl, rfl, rfl, rfl, rfl, rfl, rfl, rfl, rfl, rfl, rfl, rfl, -, -, -⟩ := hall
      subst hun
      have f0 := HS.out.fr 3 0 rfl
      have k0 := HS.out.cell (v := .int .i64 0) 3 0 rfl rfl
      have f1 := HS.out.fr 3 1 rfl
      have k1 := HS.out.cell (v := .slice none 0 0) 3 1 rfl rfl
      have f2 := HS.out.fr 3 2 rfl
      have k2 := HS.out.cell (v := .slice none 0 0) 3 2 rfl rfl
      have f3 := HS.out.fr 3 3 rfl
      have k3 := HS.out.cell (v := .slice none 0 0) 3 3 rfl rfl
      go_simp
      exact hK _ _ ⟨true, true, true, true, true, true, true, true, true, true, true, true, true, true, true, true, true, true, true, am, cm, af, cf, ae, ce, bo, rfl, by simp, by simp, (by simp only [↓reduceIte, List.setIfInBounds_toArray, List.set_cons_zero, List.set_cons_succ]), ((((HS.out.set 3 rfl 0 (.int .i64 ((S : Int) + (Q : Int)))).set 3 rfl 1 (.slice am (L1 + L2) cm)).set 3 rfl 2 (.slice af F1 cf)).set 3 rfl 3 (.slice ae E2 ce))⟩
  · rintro listed a w' ⟨l0, l1, l2, l3, l4, l5, l6, l7, l8, l9, l10, l11, l12, l13, l14, l15, l16, l17, l18, am, cm, af, cf, ae, ce, bo, rfl, hd16, hd18, rfl, hS⟩ hr
    have hall := ready_nilM (by kernel_rfl) rfl hr
    obtain rfl : l0 = true := by simpa using hall 0 (by simp)
    obtain rfl : l1 = true := by simpa using hall 1 (by simp)
    obtain rfl : l2 = true := by simpa using hall 2 (by simp)
    obtain rfl : l3 = true := by simpa using hall 3 (by simp)
    obtain rfl : l4 = true := by simpa using hall 4 (by simp)
    obtain rfl : l5 = true := by simpa using hall 5 (by simp)
    obtain rfl : l6 = true := by simpa using hall 6 (by simp)
    obtain rfl : l7 = true := by simpa using hall 7 (by simp)
    obtain rfl : l8 = true := by simpa using hall 8 (by simp)
    obtain rfl : l9 = true := by simpa using hall 9 (by simp)
    obtain rfl : l10 = true := by simpa using hall 10 (by simp)
    obtain rfl : l11 = true := by simpa using hall 11 (by simp)
    obtain rfl : l12 = true := by simpa using hall 12 (by simp)
    obtain rfl : l13 = true := by simpa using hall 13 (by simp)
    obtain rfl : l14 = true := by simpa using hall 14 (by simp)
    obtain rfl : l15 = true := by simpa using hall 15 (by simp)
    obtain rfl : l16 = true := by simpa using hall 16 (by simp)
    obtain rfl : l17 = true := by simpa using hall 17 (by simp)
    obtain rfl : l18 = true := by simpa using hall 18 (by simp)
    clear hall hr hd16 hd18
    simp only [↓reduceIte] at hS ⊢
    simp only [List.setIfInBounds_toArray, List.set_cons_zero, List.set_cons_succ]
    have HS1 := Lib.hid (hS.pick [0, 1, 2, 3, 4, 5, 6] (by decide))
    clear hS
    have e9 := HS1.out.cell (v := .slice pa3 E1 pc3) 0 3 rfl rfl
    go_wp2
    go_loopw [30] (fun i wr => ∃ (k N c1 : Nat) (a1 : Option Addr), i = .int .i64 k ∧ k ≤ E1 ∧ N = (jm p q S k).length ∧ N ≤ 2000 + 40 * k ∧ St w wr [Ent.box w.heap.size #[.int .i64 (S : Int), .slice pa1 L1 pc1, .slice pa2 F1 pc2, .slice pa3 E1 pc3] 96, Ent.box (w.heap.size + 1) #[.int .i64 (Q : Int), .slice qa1 L2 qc1, .slice qa2 F2 qc2, .slice qa3 E2 qc3] 96, Ent.box (w.heap.size + 1 + 1) #[.int .i64 0, .slice none 0 0, .slice none 0 0, .slice none 0 0] 96, Ent.box bo #[.int .i64 ((S : Int) + (Q : Int)), .slice a1 N c1, .slice af F1 cf, .slice ae E2 ce] 96, Ent.row 127 3 (.slice a1 N c1) N ((jm p q S k).flatMap moveCells), Ent.row 3 1 (.slice af F1 cf) F1 (intCells p.firsts), Ent.row 3 1 (.slice ae E2 ce) E2 (intCells (q.ends.map (· + (S : Int))))]) (fun i _ => E1 - (intOf i).toNat)
    case atStart =>
      refine ⟨0, L1 + L2, cm, am, rfl, Nat.zero_le _, ?_, by omega, ?_⟩
      · rw [jm_zero, List.length_append, List.length_map, ← HhL1.out, ← HhL2.out]
      · rw [jm_zero]
        exact HS1.out
    case round =>
      obtain ⟨k, N, c1, a1, rfl, hk, hN, hNb, hS⟩ := hrel
      by_cases hlt : k < E1
      · have hlt2 : (k : Int) < E1 := by omega
        have hkn : k < p.ends.length := by have := HhE1.out; omega
        obtain ⟨b1, o1, rfl, -, hb1, hcs⟩ := Hr3.out (by omega)
        have m0 := hcs k hlt
        have hsn := jm_succ (q := q) (S := S) hkn
        obtain ⟨s, hs⟩ : ∃ s, s = p.ends.getD k 0 := ⟨_, rfl⟩
        rw [← hs] at m0 hsn
        have m1 := (bcell hS.bel b1 _ hb1).trans m0
        have e1 := hS.cell (v := .slice qa2 F2 qc2) 1 2 rfl rfl
        have HSo := Lib.hid hS
        obtain ⟨wo, hwo⟩ : ∃ wo : World, wo = wr := ⟨_, rfl⟩
        subst hwo
        have HhN := Lib.hid hN; clear hN
        have Hhs := Lib.hid hs; clear hs
        have Hhsn := Lib.hid hsn; clear hsn
        clear hS hcs m0 e9
        go_wp2
        go_loopw [37] (fun i wi => ∃ (j c2 : Nat) (a2 : Option Addr), i = .int .i64 j ∧ j ≤ F2 ∧ St w wi [Ent.box w.heap.size #[.int .i64 (S : Int), .slice pa1 L1 pc1, .slice pa2 F1 pc2, .slice (some ⟨b1, o1, none⟩) E1 pc3] 96, Ent.box (w.heap.size + 1) #[.int .i64 (Q : Int), .slice qa1 L2 qc1, .slice qa2 F2 qc2, .slice qa3 E2 qc3] 96, Ent.box (w.heap.size + 1 + 1) #[.int .i64 0, .slice none 0 0, .slice none 0 0, .slice none 0 0] 96, Ent.box bo #[.int .i64 ((S : Int) + (Q : Int)), .slice a2 (N + j) c2, .slice af F1 cf, .slice ae E2 ce] 96, Ent.row 127 3 (.slice a2 (N + j) c2) (N + j) ((jm p q S k ++ (q.firsts.take j).map fun t => (s, (-1 : Int), t + (S : Int))).flatMap moveCells), Ent.row 3 1 (.slice af F1 cf) F1 (intCells p.firsts), Ent.row 3 1 (.slice ae E2 ce) E2 (intCells (q.ends.map (· + (S : Int))))]) (fun i _ => F2 - (intOf i).toNat)
        case atStart =>
          refine ⟨0, c1, a1, rfl, Nat.zero_le _, ?_⟩
          rw [List.take_zero, List.map_nil, List.append_nil]
          exact HSo.out
        case round =>
          obtain ⟨j, c2, a2, rfl, hj, hS⟩ := hrel
          clear e1
          by_cases hjl : j < F2
          · have hjl2 : (j : Int) < F2 := by omega
            have hjn : j < q.firsts.length := by have := HhF2.out; omega
            obtain ⟨b2, o2, rfl, -, hb2, hcs2⟩ := Hr2.out (by omega)
            have n0 := hcs2 j hjl
            have hsj := take_map_snoc (fun t => (s, (-1 : Int), t + (S : Int))) (d := 0) hjn rfl
            have hxx := Hhqf.out _ (memD (d := 0) hjn)
            obtain ⟨p0, hp⟩ : ∃ p0, p0 = q.firsts.getD j 0 := ⟨_, rfl⟩
            rw [← hp] at n0 hsj hxx
            obtain ⟨hx0, hx1⟩ := hxx
            have n1 := (bcell hS.bel b2 _ hb2).trans n0
            have e0 := hS.cell (v := .int .i64 (S : Int)) 0 0 rfl rfl
            have y0 := hS.cell (v := .slice a2 (N + j) c2) 3 1 rfl rfl
            have hw : IntKind.i64.wrap (p0 + (S : Int)) = p0 + (S : Int) := IntWalk.i64_in _ (by omega)
            have hSa := hS.alloc_ (.cells #[.int .i64 s, .int .i64 (-1), .int .i64 (p0 + (S : Int))] 127)
            have HSa := Lib.hid hSa
            have HRa := Lib.hid (hSa.row 4 rfl)
            have Hhp := Lib.hid hp; clear hp
            have Hhsj := Lib.hid hsj; clear hsj
            clear hS hSa hcs2 n0
            go_wp2_with (at_builtin; refine wpList_append_lies _ rfl _ _ _ rfl _ 127 i0 (.agg #[.int .i64 0, .int .i64 0, .int .i64 0]) 3 24 Try.underlying94 Hhi.out Hhz0.out Hhz1.out Hhz2.out rfl (by omega) _ (N + j) _ rfl HRa.out ⟨wr.heap.size, 0, none⟩ 1 1 [.int .i64 s, .int .i64 (-1), .int .i64 (p0 + (S : Int))] rfl rfl (World.news_of_block (heap_alloc_new wr _)) one_mv (by omega) (by unfold maxLen; omega) (by omega) HSa.out.size _ rfl ?_; intro g6 c6 w6 hown6 hgrow6 hat6 hlt6; have HS6 := Lib.hid (HSa.out.app 4 rfl hown6 hgrow6 hat6); have y1 := HS6.out.cell (v := .slice a2 (N + j) c2) 3 1 rfl rfl; have y2 := HS6.out.fr 3 1 rfl; clear hown6 hgrow6 hat6 hlt6)
            go_roundw
            case rel =>
              refine ⟨j + 1, c6, some ⟨g6, 0, none⟩, by go_num, by omega, ?_⟩
              rw [Hhsj.out, ← List.append_assoc, List.flatMap_append (xs := _ ++ _)]
              exact HS6.out.set 3 rfl 1 (.slice (some ⟨g6, 0, none⟩) (N + j + 1) c6)
            case measure => simp [intOf]; omega
          · obtain rfl : F2 = j := by omega
            rw [show q.firsts.take F2 = q.firsts from List.take_of_length_le (by have := HhF2.out; omega), ← Hhsn.out] at hS
            have HSi := Lib.hid hS
            clear hS
            go_wp2
            go_roundw
            case rel => exact ⟨k + 1, N + F2, c2, a2, by go_num, by omega, by rw [Hhsn.out, List.length_append, List.length_map, ← HhN.out, ← HhF2.out], by omega, HSi.out⟩
            case measure => simp [intOf]; omega
      · obtain rfl : E1 = k := by omega
        have HSe := Lib.hid hS
        have HhN := Lib.hid hN; clear hN
        clear hS
        have e0 := HSe.out.cell (v := .int .i64 ((S : Int) + (Q : Int))) 3 0 rfl rfl
        have e1 := HSe.out.cell (v := .slice a1 N c1) 3 1 rfl rfl
        have e2 := HSe.out.cell (v := .slice af F1 cf) 3 2 rfl rfl
        have e3 := HSe.out.cell (v := .slice ae E2 ce) 3 3 rfl rfl
        have f0 := HSe.out.fr 2 0 rfl
        have k0 := HSe.out.cell (v := .int .i64 0) 2 0 rfl rfl
        have f1 := HSe.out.fr 2 1 rfl
        have k1 := HSe.out.cell (v := .slice none 0 0) 2 1 rfl rfl
        have f2 := HSe.out.fr 2 2 rfl
        have k2 := HSe.out.cell (v := .slice none 0 0) 2 2 rfl rfl
        have f3 := HSe.out.fr 2 3 rfl
        have k3 := HSe.out.cell (v := .slice none 0 0) 2 3 rfl rfl
        have HSr := Lib.hid ((((HSe.out.set 2 rfl 0 (.int .i64 ((S : Int) + (Q : Int)))).set 2 rfl 1 (.slice a1 N c1)).set 2 rfl 2 (.slice af F1 cf)).set 2 rfl 3 (.slice ae E2 ce))
        have q0 := HSr.out.cell (v := .int .i64 ((S : Int) + (Q : Int))) 2 0 rfl rfl
        have q1 := HSr.out.cell (v := .slice a1 N c1) 2 1 rfl rfl
        have q2 := HSr.out.cell (v := .slice af F1 cf) 2 2 rfl rfl
        have q3 := HSr.out.cell (v := .slice ae E2 ce) 2 3 rfl rfl
        go_wp2
        refine bodyPost_ret (v := .agg #[.int .i64 ((S : Int) + (Q : Int)), .slice a1 N c1, .slice af F1 cf, .slice ae E2 ce]) (by simp [results, Try.results103, go_sem, q0, q1, q2, q3]) rfl ?_
        have hj : joinN p q = ⟨(S : Int) + (Q : Int), jm p q S E1, p.firsts, q.ends.map (· + (S : Int))⟩ := by rw [HhE1.out]; exact joinN_eq HhSp.out HhQq.out
        have hl1 : (jm p q S E1).length = N := HhN.out.symm
        rw [hj]
        refine ⟨a1, c1, af, cf, ae, ce, ?_, ?_⟩
        · simp only [List.length_map, hl1, ← HhF1.out, ← HhE2.out]
        · simp only [List.length_map, hl1, ← HhF1.out, ← HhE2.out]
          exact HSr.out.pick [4, 5, 6] (by decide)
  · refine ⟨false, false, false, false, false, false, false, false, false, false, false, false, false, false, false, false, false, false, false, none, 0, none, 0, none, 0, 0, rfl, by simp, by simp, (by simp), ?_⟩
    exact HS0.out.drew.pick [0, 1, 2, 3, 4, 5, 6] (by decide)
end Go.Proofs.Ytfgpkadhegdffaa
