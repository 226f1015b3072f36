/-
  The walk over the program's learner where it adds a rest: refine.
  Conditions: the language and the guess are valid automata; the guess has a state for every start; the word tells them apart.
-/
import Derived.Test.YtclhcfmlkfiidaaLc
namespace Go.Proofs.Ytclhcfmlkfiidaa
open Go.RowKit

theorem slice_to (s : List Nat) (k : Nat) (j : Int) (hj : j = (k : Int)) (hk : k ≤ s.length) : ∀ w' : World, (Instr.slice 9 (.string (wdB s)) none (some (.int .i64 j)) none).run Try.prog w' = .ok (.string (wdB (s.take k))) w' := fun w' => by
  subst hj
  rw [run_slice_string_h w' 9 (wdB s) Try.underlying9 .i64 k (by omega) (by rw [wdB_size]; omega), Int.toNat_natCast, wdB_take]
theorem slice_from (s : List Nat) (k : Nat) (j : Int) (hj : j = (k : Int)) (hk : k ≤ s.length) : ∀ w' : World, (Instr.slice 9 (.string (wdB s)) (some (.int .i64 j)) none none).run Try.prog w' = .ok (.string (wdB (s.drop k))) w' := fun w' => by
  subst hj
  rw [run_slice_string_l w' 9 (wdB s) Try.underlying9 .i64 k (by omega) (by rw [wdB_size]; omega), Int.toNat_natCast, wdB_drop]

set_option maxRecDepth 100000 in
set_option maxHeartbeats 8000000 in
theorem lrefine_any (w0 w : World) (X : Ent) (d g : DfaD) (st re : List (List Nat)) (s : List Nat) (b n m : Nat) (vn ve vs vr gn ge : Value) (hd : dfaOk d.next d.ends = true) (hgo : dfaOk g.next g.ends = true) (hgl : g.next.length = st.length) (hst : LOk st) (hre : okWs re) (hrl : re.length ≤ 100000) (hs : isW s) (hsl : s.length ≤ 2000)
    (hl : DfaR 0 w0 (.agg #[vn, ve]) d) (hg : DfaR 0 w (.agg #[gn, ge]) g) (hc1 : cutW d st g s < s.length) (hc2 : (accD d (mixW st g s (cutW d st g s)) != accD d (mixW st g s (cutW d st g s + 1))) = true) (hc3 : ∀ k, k < cutW d st g s → (accD d (mixW st g s k) != accD d (mixW st g s (k + 1))) = false)
    (hS : St w0 w [Ent.box b #[vn, ve, vs, vr] 113, Ent.row 9 1 vs n (wdCells st), Ent.row 9 1 vr m (wdCells re), X]) :
    Calls Try.prog 93 #[.pointer (some ⟨b, 0, none⟩), .agg #[gn, ge], .string (wdB s)] w fun e w' => e = .returned (.tuple #[]) ∧ ∃ vr' m', St w0 w' [Ent.box b #[vn, ve, vs, vr'] 113, Ent.row 9 1 vs n (wdCells st), Ent.row 9 1 vr' m' (wdCells (re ++ [s.drop (cutW d st g s + 1)])), X] := by
  have hgn := dfaOk_len hgo
  have hst40 : st.length ≤ 40 := by omega
  have hss : (wdB s).size = s.length := wdB_size s
  obtain rfl : n = st.length := by have := (hS.row 1 rfl).1; simp at this; omega
  obtain rfl : m = re.length := by have := (hS.row 2 rfl).1; simp at this; omega
  obtain ⟨gs, cs, rfl⟩ := hS.rowform 1 rfl (by omega)
  obtain ⟨hcap1, hcap2⟩ := hS.rowcap 1 rfl
  obtain ⟨ar, cr, rfl, -⟩ := hS.rowany 2 rfl
  obtain ⟨C, hC⟩ : ∃ C, C = cutW d st g s := ⟨_, rfl⟩
  rw [← hC] at hc1 hc2 hc3
  rw [← hC]
  have hSg := hS.alloc _ rfl #[gn, ge] 32
  have hwg : Below w.heap.size w (w.alloc (.cells #[gn, ge] 32)) := (Below.refl _ _).alloc (Nat.le_refl _) _
  -- where the guess leads
  have hq : ∀ k, k ≤ s.length → ∃ q : Nat, q < st.length ∧ runD g 0 (s.take k) = (q : Int) := fun k hk => by
    obtain ⟨h1, h2⟩ := runD_in hgo (isW_take hs k) (s := 0) (by omega) (by omega)
    obtain ⟨q, hq⟩ := Int.eq_ofNat_of_zero_le h1
    exact ⟨q, by omega, hq⟩
  have hrun : ∀ k q : Nat, k ≤ s.length → runD g 0 (s.take k) = (q : Int) → ∀ w' : World, Below w.heap.size w w' → Calls Try.prog 119 #[.agg #[gn, ge], .int .i64 0, .string (wdB (s.take k))] w' fun e w2 => e = .returned (.int .i64 (q : Nat)) ∧ Below w'.heap.size w' w2 := fun k q hk hq w' hb => by
    have h := runD_any g 0 (s.take k) (.agg #[gn, ge]) w' hgo (by omega) (isW_take hs k) (by rw [List.length_take]; omega) (hg.below hb)
    have e : runD g ((0 : Nat) : Int) (s.take k) = (q : Int) := hq
    rw [e] at h
    exact h
  have hstw : ∀ q, q < st.length → isW (st.getD q []) ∧ (st.getD q []).length ≤ 40 := fun q hq => ⟨hst.1 _ (memD hq), by have := hst.2 q hq; omega⟩
  have hacc : ∀ (q k : Nat), q < st.length → ∀ w' : World, Below w0.heap.size w0 w' → Calls Try.prog 116 #[.agg #[vn, ve], .string (wdB (st.getD q [] ++ s.drop k))] w' fun e w2 => e = .returned (.bool (accD d (st.getD q [] ++ s.drop k))) ∧ Below w'.heap.size w' w2 := fun q k hq w' hb =>
    accepts_any d _ _ w' hd (isW_append (hstw q hq).1 (isW_drop hs k)) (by rw [List.length_append, List.length_drop]; have := (hstw q hq).2; omega) (hl.below hb)
  obtain ⟨i0, hi, hz0, hz1, hz2⟩ := info_parts Try.infoStr
  have Hq := Lib.hid hq
  have Hrun := Lib.hid hrun
  have Hstw := Lib.hid hstw
  have Hacc := Lib.hid hacc
  have Hhd := Lib.hid hd; clear hd
  have Hhgo := Lib.hid hgo; clear hgo
  have Hhst := Lib.hid hst; clear hst
  have Hhre := Lib.hid hre; clear hre
  have Hhs := Lib.hid hs; clear hs
  have Hhl := Lib.hid hl; clear hl
  have Hhg := Lib.hid hg; clear hg
  have Hhc1 := Lib.hid hc1; clear hc1
  have Hhc2 := Lib.hid hc2; clear hc2
  have Hhc3 := Lib.hid hc3; clear hc3
  have HhC := Lib.hid hC; clear hC
  have HhSg := Lib.hid hSg; clear hSg
  have Hhwg := Lib.hid hwg; clear hwg
  have Hhi := Lib.hid hi; clear hi
  have Hhz0 := Lib.hid hz0; clear hz0
  have Hhz1 := Lib.hid hz1; clear hz1
  have Hhz2 := Lib.hid hz2; clear hz2
  have Hhgn := Lib.hid hgn; clear hgn
  clear hS hq hrun hstw hacc hgl
  go_enter Try.func93, Try.ntmps93
  go_wp2
  go_loopw [11] (fun i wr => ∃ k : Nat, i = .int .i64 k ∧ k ≤ C ∧ Below w.heap.size w wr ∧ St w0 wr [Ent.box b #[vn, ve, .slice (some ⟨gs, 0, none⟩) st.length cs, .slice ar re.length cr] 113, Ent.row 9 1 (.slice (some ⟨gs, 0, none⟩) st.length cs) st.length (wdCells st), Ent.row 9 1 (.slice ar re.length cr) re.length (wdCells re), X, Ent.box w.heap.size #[gn, ge] 32])
    (fun i _ => C + 1 - (intOf i).toNat)
  case atStart => exact ⟨0, rfl, Nat.zero_le _, Hhwg.out, HhSg.out⟩
  case round =>
    obtain ⟨k, rfl, hk, hb, hS⟩ := hrel
    obtain ⟨wp, hwp⟩ : ∃ wp : World, wp = wr := ⟨_, rfl⟩
    subst hwp
    have hks : k < s.length := by have := Hhc1.out; omega
    have hks2 : (k : Int) < s.length := by omega
    have hk3 : (k : Int) + 1 ≤ s.length := by omega
    have hk4 : (0 : Int) ≤ (k : Int) + 1 := by omega
    have hk5 : IntKind.i64.wrap ((k : Int) + 1) = (k : Int) + 1 := IntWalk.i64_in _ (by omega)
    obtain ⟨q1, hq1, hr1⟩ := Hq.out k (by omega)
    obtain ⟨q2, hq2, hr2⟩ := Hq.out (k + 1) (by omega)
    have hm1 : mixW st g s k = st.getD q1 [] ++ s.drop k := by unfold mixW; rw [hr1]; rfl
    have hm2 : mixW st g s (k + 1) = st.getD q2 [] ++ s.drop (k + 1) := by unfold mixW; rw [hr2]; rfl
    have hw1 := Hstw.out q1 hq1
    have hw2 := Hstw.out q2 hq2
    obtain ⟨hadd1, hnlt1⟩ := add_words (st.getD q1 []) (s.drop k) (by omega) (by rw [List.length_drop]; omega)
    obtain ⟨hadd2, hnlt2⟩ := add_words (st.getD q2 []) (s.drop (k + 1)) (by omega) (by rw [List.length_drop]; omega)
    have t1 := slice_to s k (k : Int) rfl (by omega)
    have t2 := slice_to s (k + 1) ((k : Int) + 1) (by push_cast; rfl) (by omega)
    have f1 := slice_from s k (k : Int) rfl (by omega)
    have f2 := slice_from s (k + 1) ((k : Int) + 1) (by push_cast; rfl) (by omega)
    have R1 := Lib.hid (Hrun.out k q1 (by omega) hr1)
    have R2 := Lib.hid (Hrun.out (k + 1) q2 (by omega) hr2)
    have A1 := Lib.hid (Hacc.out q1 k hq1)
    have A2 := Lib.hid (Hacc.out q2 (k + 1) hq2)
    have e0 := hS.cell (v := vn) 0 0 rfl rfl
    have e1 := hS.cell (v := ve) 0 1 rfl rfl
    have e2 := hS.cell (v := .slice (some ⟨gs, 0, none⟩) st.length cs) 0 2 rfl rfl
    have g0 := hS.cell (v := gn) 4 0 rfl rfl
    have g1 := hS.cell (v := ge) 4 1 rfl rfl
    have x1 := hS.rcell (v := .string (wdB (st.getD q1 []))) 1 q1 rfl (by omega) (by simp [wdCells, hq1])
    have x2 := hS.rcell (v := .string (wdB (st.getD q2 []))) 1 q2 rfl (by omega) (by simp [wdCells, hq2])
    have lb := (hS.boxlt 0 rfl).2
    have lg := (hS.boxlt 4 rfl).2
    have ls := (hS.rowlt 1 rfl).2
    obtain ⟨u1, hu1⟩ : ∃ u1, u1 = st.getD q1 [] := ⟨_, rfl⟩
    obtain ⟨u2, hu2⟩ : ∃ u2, u2 = st.getD q2 [] := ⟨_, rfl⟩
    rw [← hu1] at hm1 hadd1 hnlt1 x1 A1
    rw [← hu2] at hm2 hadd2 hnlt2 x2 A2
    have Hk := Lib.hid (fun (w' : World) (h : Below wp.heap.size wp w') => (show w'.cell? ⟨b, 0, none⟩ = some vn ∧ w'.cell? ⟨b, 1, none⟩ = some ve ∧ w'.cell? ⟨b, 2, none⟩ = some (.slice (some ⟨gs, 0, none⟩) st.length cs) ∧ w'.cell? ⟨w.heap.size, 0, none⟩ = some gn ∧ w'.cell? ⟨w.heap.size, 1, none⟩ = some ge ∧ w'.cell? ⟨gs, q1, none⟩ = some (.string (wdB u1)) ∧ w'.cell? ⟨gs, q2, none⟩ = some (.string (wdB u2)) from
      ⟨(bcell h _ _ lb).trans e0, (bcell h _ _ lb).trans e1, (bcell h _ _ lb).trans e2, (bcell h _ _ lg).trans g0, (bcell h _ _ lg).trans g1, (bcell h _ _ ls).trans x1, (bcell h _ _ ls).trans x2⟩))
    have hq1i : (q1 : Int) < st.length := by omega
    have hq2i : (q2 : Int) < st.length := by omega
    have Hb := Lib.hid hb
    have HhS := Lib.hid hS; clear hS
    have Hhr1 := Lib.hid hr1; clear hr1
    have Hhr2 := Lib.hid hr2; clear hr2
    have Hhm1 := Lib.hid hm1; clear hm1
    have Hhm2 := Lib.hid hm2; clear hm2
    have Hhw1 := Lib.hid hw1; clear hw1
    have Hhw2 := Lib.hid hw2; clear hw2
    have Hhu1 := Lib.hid hu1; clear hu1
    have Hhu2 := Lib.hid hu2; clear hu2
    clear hb
    go_wp2
    go_region_held3 (fun w' => w'.cell? ⟨b, 0, none⟩ = some vn ∧ w'.cell? ⟨b, 1, none⟩ = some ve ∧ w'.cell? ⟨b, 2, none⟩ = some (.slice (some ⟨gs, 0, none⟩) st.length cs) ∧ w'.cell? ⟨w.heap.size, 0, none⟩ = some gn ∧ w'.cell? ⟨w.heap.size, 1, none⟩ = some ge ∧ w'.cell? ⟨gs, q1, none⟩ = some (.string (wdB u1)) ∧ w'.cell? ⟨gs, q2, none⟩ = some (.string (wdB u2)))
      (first | go_keep | exact Hk.out _ hq0)
      (first
        | (go_at_call 119; (with_reducible refine (R1.out _ Hb.out.drew).mono ?_); rintro e v1 ⟨rfl, hq0'⟩; have hq0 : Below wp.heap.size wp v1 := ((Below.refl _ _).drew).trans hq0'))
    have Hq0 := Lib.hid hq0
    have B1 := Lib.hid (Hb.out.trans (hq0.mono Hb.out.size))
    have k1 := Hk.out _ hq0
    obtain ⟨y0, y1, y2, y3, y4, y5, y6⟩ := k1
    clear hq0 hq0' e0 e1 e2 g0 g1 x1 x2
    go_wp2
    go_region_held3 (fun w' => w'.cell? ⟨b, 0, none⟩ = some vn ∧ w'.cell? ⟨b, 1, none⟩ = some ve ∧ w'.cell? ⟨b, 2, none⟩ = some (.slice (some ⟨gs, 0, none⟩) st.length cs) ∧ w'.cell? ⟨w.heap.size, 0, none⟩ = some gn ∧ w'.cell? ⟨w.heap.size, 1, none⟩ = some ge ∧ w'.cell? ⟨gs, q1, none⟩ = some (.string (wdB u1)) ∧ w'.cell? ⟨gs, q2, none⟩ = some (.string (wdB u2)))
      (first | go_keep | exact Hk.out _ hq1)
      (first
        | (go_at_call 119; (with_reducible refine (R2.out _ B1.out.drew).mono ?_); rintro e v2 ⟨rfl, hq1'⟩; have hq1 : Below wp.heap.size wp v2 := (Hq0.out.drew).trans (hq1'.mono Hq0.out.size)))
    have Hq1 := Lib.hid hq1
    have B2 := Lib.hid (Hb.out.trans (hq1.mono Hb.out.size))
    have hS2 := HhS.out.call hq1
    obtain ⟨z0, z1, z2, z3, z4, z5, z6⟩ := Hk.out _ hq1
    clear hq1 hq1' y0 y1 y2 y3 y4 y5 y6
    have HhS2 := Lib.hid hS2; clear hS2
    obtain ⟨α, hα⟩ : ∃ α, α = accD d (u1 ++ s.drop k) := ⟨_, rfl⟩
    obtain ⟨β, hβ⟩ : ∃ β, β = accD d (u2 ++ s.drop (k + 1)) := ⟨_, rfl⟩
    rw [← hα] at A1
    rw [← hβ] at A2
    have hcmpL : k < C → (α != β) = false := fun h => by
      have := Hhc3.out k h
      rw [Hhm1.out, Hhm2.out, ← hα, ← hβ] at this
      exact this
    have hcmpE : k = C → (α != β) = true := fun h => by
      have := Hhc2.out
      rw [← h, Hhm1.out, Hhm2.out, ← hα, ← hβ] at this
      exact this
    have D2 : Hid (Below w0.heap.size w0 v2.drew) := Lib.hid HhS2.out.drew.bel
    have Hhα := Lib.hid hα; clear hα
    have Hhβ := Lib.hid hβ; clear hβ
    by_cases hkC : k < C
    · have hcmp := hcmpL hkC
      have hcmp2 : (!(α == β)) = false := hcmp
      clear hcmpL hcmpE
      go_wp2
      go_region_held3 (fun w' => w'.cell? ⟨b, 0, none⟩ = some vn ∧ w'.cell? ⟨b, 1, none⟩ = some ve ∧ w'.cell? ⟨b, 2, none⟩ = some (.slice (some ⟨gs, 0, none⟩) st.length cs) ∧ w'.cell? ⟨w.heap.size, 0, none⟩ = some gn ∧ w'.cell? ⟨w.heap.size, 1, none⟩ = some ge ∧ w'.cell? ⟨gs, q1, none⟩ = some (.string (wdB u1)) ∧ w'.cell? ⟨gs, q2, none⟩ = some (.string (wdB u2)))
        (first | go_keep | exact Hk.out _ hq2 | exact Hk.out _ hq3)
        (first
          | (go_at_call 116; (with_reducible refine (A1.out _ D2.out).mono ?_); rintro e v3 ⟨rfl, hr2'⟩; have hq2 : Below wp.heap.size wp v3 := (Hq1.out.drew).trans (hr2'.mono Hq1.out.size); have D3 : Hid (Below w0.heap.size w0 v3) := Lib.hid (HhS.out.call hq2).bel)
          | (go_at_call 116; (with_reducible refine (A2.out _ D2.out).mono ?_); rintro e v3 ⟨rfl, hr2'⟩; have hq2 : Below wp.heap.size wp v3 := (Hq1.out.drew).trans (hr2'.mono Hq1.out.size); have D3 : Hid (Below w0.heap.size w0 v3) := Lib.hid (HhS.out.call hq2).bel)
          | (go_at_call 116; (with_reducible refine (A2.out v3 D3.out).mono ?_); rintro e v4 ⟨rfl, hr3'⟩; have hq3 : Below wp.heap.size wp v4 := hq2.trans (hr3'.mono hq2.size))
          | (go_at_call 116; (with_reducible refine (A1.out v3 D3.out).mono ?_); rintro e v4 ⟨rfl, hr3'⟩; have hq3 : Below wp.heap.size wp v4 := hq2.trans (hr3'.mono hq2.size)))
      all_goals
        have HS4 := Lib.hid (HhS.out.call hq3)
        have B4 := Lib.hid (Hb.out.trans (hq3.mono Hb.out.size))
        clear hq2 hq3 hr2' hr3' z0 z1 z2 z3 z4 z5 z6
        go_wp2
        go_roundw
        case rel => exact ⟨k + 1, by go_num, by omega, B4.out, HS4.out⟩
        case measure => simp [intOf]; omega
    · have hkC' : k = C := by omega
      have hcmp := hcmpE hkC'
      have hcmp2 : (!(α == β)) = true := hcmp
      have HhkC' := Lib.hid hkC'; clear hkC'
      clear hcmpL hcmpE
      go_wp2
      go_region_held3 (fun w' => w'.cell? ⟨b, 0, none⟩ = some vn ∧ w'.cell? ⟨b, 1, none⟩ = some ve ∧ w'.cell? ⟨b, 2, none⟩ = some (.slice (some ⟨gs, 0, none⟩) st.length cs) ∧ w'.cell? ⟨w.heap.size, 0, none⟩ = some gn ∧ w'.cell? ⟨w.heap.size, 1, none⟩ = some ge ∧ w'.cell? ⟨gs, q1, none⟩ = some (.string (wdB u1)) ∧ w'.cell? ⟨gs, q2, none⟩ = some (.string (wdB u2)))
        (first | go_keep | exact Hk.out _ hq2 | exact Hk.out _ hq3)
        (first
          | (go_at_call 116; (with_reducible refine (A1.out _ D2.out).mono ?_); rintro e v3 ⟨rfl, hr2'⟩; have hq2 : Below wp.heap.size wp v3 := (Hq1.out.drew).trans (hr2'.mono Hq1.out.size); have D3 : Hid (Below w0.heap.size w0 v3) := Lib.hid (HhS.out.call hq2).bel)
          | (go_at_call 116; (with_reducible refine (A2.out _ D2.out).mono ?_); rintro e v3 ⟨rfl, hr2'⟩; have hq2 : Below wp.heap.size wp v3 := (Hq1.out.drew).trans (hr2'.mono Hq1.out.size); have D3 : Hid (Below w0.heap.size w0 v3) := Lib.hid (HhS.out.call hq2).bel)
          | (go_at_call 116; (with_reducible refine (A2.out v3 D3.out).mono ?_); rintro e v4 ⟨rfl, hr3'⟩; have hq3 : Below wp.heap.size wp v4 := hq2.trans (hr3'.mono hq2.size))
          | (go_at_call 116; (with_reducible refine (A1.out v3 D3.out).mono ?_); rintro e v4 ⟨rfl, hr3'⟩; have hq3 : Below wp.heap.size wp v4 := hq2.trans (hr3'.mono hq2.size)))
      all_goals
        have hS4 := HhS.out.call hq3
        have z9 := hS4.cell (v := .slice ar re.length cr) 0 3 rfl rfl
        have HS4 := Lib.hid hS4
        have HSa := Lib.hid ((hS4.alloc_ (.cells #[.string (wdB (s.drop (k + 1)))] 9)).drew)
        have z7 := (hS4.alloc_ (.cells #[.string (wdB (s.drop (k + 1)))] 9)).cell (v := .slice ar re.length cr) 0 3 rfl rfl
        have z8 := HSa.out.cell (v := .slice ar re.length cr) 0 3 rfl rfl
        clear hq2 hq3 hr2' hr3' z0 z1 z2 z3 z4 z5 z6 hS4
        go_wp2
        go_region_law (first
          | (refine step_append_lies _ (by rfl) _ _ _ (by rfl) w0.heap.size 9 i0 (.string { data := #[] }) 1 16 Try.underlying103 Hhi.out Hhz0.out Hhz1.out Hhz2.out (by rfl) (by omega) (.slice ar re.length cr) re.length (wdCells re) (by rfl) (HSa.out.row 2 rfl) ⟨v4.heap.size, 0, none⟩ 1 1 [.string (wdB (s.drop (k + 1)))] (by rfl) (by rfl) (World.news_of_block (show (v4.alloc (.cells #[.string (wdB (s.drop (k + 1)))] 9)).drew.heap[v4.heap.size]? = _ from heap_alloc_new v4 _)) one_str (by omega) (by unfold maxLen; omega) (by omega) HSa.out.size (v4.heap.size + 1) (by simp) ?_; intro g7 c7 w7 hown7 hgrow7 hat7 hlt7; have HS7 := Lib.hid (HSa.out.app 2 rfl hown7 hgrow7 (by have h := hat7; simpa using h)); have y1 := HS7.out.cell (v := .slice ar re.length cr) 0 3 rfl rfl; have y2 := HS7.out.fr 0 3 rfl; clear hown7 hgrow7 hat7))
        all_goals
          go_wp2
          have hq := (HS7.out.set 0 rfl 3 (.slice (some ⟨g7, 0, none⟩) (re.length + 1) c7)).pick [0, 1, 2, 3] (by decide)
          refine bodyPost_ret (v := .tuple #[]) (by simp [results, Try.results93, go_sem]) rfl ⟨rfl, .slice (some ⟨g7, 0, none⟩) (re.length + 1) c7, re.length + 1, ?_⟩
          rw [← HhkC'.out, wdCells_snoc]
          exact hq
end Go.Proofs.Ytclhcfmlkfiidaa
