/-
  The walk over the law FnNfaClose.
  Condition: the argument reads as bytes.
-/
import Derived.Test.YtolkifpeblbfcaaDk
import Derived.Test.YtolkifpeblbfcaaCv
import Derived.Test.YtolkifpeblbfcaaSi
import Derived.Test.YtolkifpeblbfcaaTb
namespace Go.Proofs.Ytolkifpeblbfcaa
open Go.RowKit

theorem nfaR_rows {w0 w : World} {L : List Ent} {n : NfaD} {a1 a2 a3 : Option Addr} {c1 c2 c3 : Nat} (hS : St w0 w L) (i j k : Nat) {t1 t2 t3 : Nat}
    (h1 : L[i]? = some (Ent.row t1 3 (.slice a1 n.moves.length c1) n.moves.length (n.moves.flatMap moveCells))) (h2 : L[j]? = some (Ent.row t2 1 (.slice a2 n.firsts.length c2) n.firsts.length (intCells n.firsts))) (h3 : L[k]? = some (Ent.row t3 1 (.slice a3 n.ends.length c3) n.ends.length (intCells n.ends)))
    (hb1 : -9223372036854775808 ≤ n.states) (hb2 : n.states ≤ 9223372036854775807) : NfaR 0 w (.agg #[.int .i64 n.states, .slice a1 n.moves.length c1, .slice a2 n.firsts.length c2, .slice a3 n.ends.length c3]) n :=
  ⟨_, _, _, rfl, moves_of_row (hS.row i h1), ints_of_row' (hS.row j h2), ints_of_row' (hS.row k h3), hb1, hb2⟩

theorem row_ints {w0 w : World} {L : List Ent} (hS : St w0 w L) (i : Nat) {t c : Nat} {a : Option Addr} {xs : List Int} (hx : L[i]? = some (Ent.row t 1 (.slice a xs.length c) xs.length (intCells xs))) {k : Nat} (hk : k < xs.length) :
    ∃ g, a = some ⟨g, 0, none⟩ ∧ w.cell? ⟨g, k, none⟩ = some (.int .i64 (xs.getD k 0)) := by
  obtain ⟨g, cap, h⟩ := hS.rowform i hx (by omega)
  injection h with h1 h2 h3
  subst h1
  subst h3
  exact ⟨g, rfl, hS.rcell i k hx (by omega) (by simp [intCells, hk])⟩
theorem row_mvs {w0 w : World} {L : List Ent} (hS : St w0 w L) (i : Nat) {t c : Nat} {a : Option Addr} {xs : List (Int × Int × Int)} (hx : L[i]? = some (Ent.row t 3 (.slice a xs.length c) xs.length (xs.flatMap moveCells))) {k : Nat} (hk : k < xs.length) :
    ∃ g o, a = some ⟨g, o, none⟩ ∧ w.cell? ⟨g, o + k * 3, none⟩ = some (.int .i64 (xs.getD k (0, 0, 0)).1) ∧ w.cell? ⟨g, o + k * 3 + 1, none⟩ = some (.int .i64 (xs.getD k (0, 0, 0)).2.1) ∧ w.cell? ⟨g, o + k * 3 + 2, none⟩ = some (.int .i64 (xs.getD k (0, 0, 0)).2.2) := by
  obtain ⟨a', c', hv, -, -, hr⟩ := (moves_of_row (hS.row i hx)).form
  injection hv with h1 _ h3
  subst h1
  obtain ⟨b, o, rfl, -, -, hcs⟩ := hr (by omega)
  exact ⟨b, o, rfl, hcs k hk⟩

set_option maxRecDepth 100000 in
set_option maxHeartbeats 16000000 in
theorem nfaClose_walk (bs : List Nat) (v : Value) (w : World) (hb : Bytes 0 w v bs) :
    Calls Try.prog 5 #[v] w fun e w' => e = .returned (.bool true) ∧ Below w.heap.size w w' := by
  have HB := Lib.hid hb
  obtain ⟨av, cv, rfl, hcv1, hcv2, -⟩ := hb.form
  clear hb
  by_cases hlen : 1048576 < bs.length
  · have hl2 : (1048576 : Int) < bs.length := by omega
    go_enter Try.func5, Try.ntmps5
    go_wp2
    go_ret
    exact ⟨rfl, Below.refl _ _⟩
  have hl2 : ¬ (1048576 : Int) < bs.length := by omega
  obtain ⟨i0, hi, hz0, hz1, hz2⟩ := info_parts Try.infoBool
  have Hhi := Lib.hid hi; clear hi
  have Hhz0 := Lib.hid hz0; clear hz0
  have Hhz1 := Lib.hid hz1; clear hz1
  have Hhz2 := Lib.hid hz2; clear hz2
  go_enter Try.func5, Try.ntmps5
  go_wp2_with fail
  refine (drawClose_any bs _ _ HB.out (by omega)).mono ?_
  rintro e w1 ⟨n, L, a1, a2, a3, a4, c1, c2, c3, c4, hs0, hs1, hm, hf, he, hL, rfl, hS⟩
  have HS := Lib.hid (hS.alloc _ rfl #[.int .i64 n.states, .slice a1 n.moves.length c1, .slice a2 n.firsts.length c2, .slice a3 n.ends.length c3] 46)
  have e0 := HS.out.cell (v := .int .i64 n.states) 4 0 rfl rfl
  have e1 := HS.out.cell (v := .slice a1 n.moves.length c1) 4 1 rfl rfl
  have e2 := HS.out.cell (v := .slice a2 n.firsts.length c2) 4 2 rfl rfl
  have e3 := HS.out.cell (v := .slice a3 n.ends.length c3) 4 3 rfl rfl
  obtain ⟨F, hF⟩ : ∃ F, closeL n L = F := ⟨_, rfl⟩
  have HN := Lib.hid (nfaR_rows HS.out 0 1 2 rfl rfl rfl (by omega) (by omega))
  have HL := Lib.hid (ints_of_row' (HS.out.row 3 rfl))
  have HhF := Lib.hid hF; clear hF
  clear hS
  go_wp2_with fail
  refine (implClose_any n L _ _ _ HN.out HL.out (by omega) F HhF.out).mono ?_
  rintro e w2 ⟨a5, c5, rfl, hS'⟩
  have HS2 := Lib.hid (HS.out.cat hS')
  have HN2 := Lib.hid (HN.out.below hS'.bel)
  have HL2 := Lib.hid (HL.out.below hS'.bel)
  clear hS' e0 e1 e2 e3
  have e0 := HS2.out.cell (v := .int .i64 n.states) 4 0 rfl rfl
  have e1 := HS2.out.cell (v := .slice a1 n.moves.length c1) 4 1 rfl rfl
  have e2 := HS2.out.cell (v := .slice a2 n.firsts.length c2) 4 2 rfl rfl
  have e3 := HS2.out.cell (v := .slice a3 n.ends.length c3) 4 3 rfl rfl
  go_wp2_with fail
  refine (specClose_any n L _ _ _ HN2.out HL2.out (by omega) F HhF.out).mono ?_
  rintro e w3 ⟨a6, c6, rfl, hS'⟩
  have HS3 := Lib.hid (HS2.out.cat hS')
  clear hS' e0 e1 e2 e3
  go_wp2_with fail
  refine (sameInts_any F F _ _ _ (ints_of_row' (HS3.out.row 5 rfl)) (ints_of_row' (HS3.out.row 6 rfl)) true (by simp)).mono ?_
  rintro e w4 ⟨rfl, hb4⟩
  have HS4 := Lib.hid (HS3.out.call hb4)
  clear hb4
  by_cases hF0 : F.length = 0
  · have hF1 : ((F.length : Int) == 0) = true := by rw [beq_iff_eq]; omega
    go_wp2_with (go_at_call 32; refine (alive_any _).mono ?_; rintro e w' ⟨rfl, rfl⟩)
    go_ret
    exact ⟨rfl, HS4.out.bel⟩
  have hF1 : ((F.length : Int) == 0) = false := by rw [beq_eq_false_iff_ne]; omega
  obtain ⟨hok, hst⟩ : nfaOk n = true ∧ stOk L n.states = true := by
    cases h1 : nfaOk n
    · exact absurd (by rw [← HhF.out, closeL_bad (.inl h1)]; rfl) hF0
    · cases h2 : stOk L n.states
      · exact absurd (by rw [← HhF.out, closeL_bad (.inr h2)]; rfl) hF0
      · exact ⟨rfl, rfl⟩
  obtain ⟨X, hX, hXl, hXL, hXc, hXi⟩ := closeL_facts hok hst
  obtain ⟨m, hm2, hm40, hmv, -⟩ := nfaOk_facts hok
  have hmv := mvIn_40 hmv hm40
  have hin : inN 40 L := fun s hs => by rw [hm2] at hst; have := (stOk_facts hst).1 s hs; omega
  obtain rfl : members 40 X = F := by rw [← HhF.out, hX]
  have hFl := members_len 40 X
  have HhX := Lib.hid hX; clear hX
  have HhXl := Lib.hid hXl; clear hXl
  have HhXL := Lib.hid hXL; clear hXL
  have HhXc := Lib.hid hXc; clear hXc
  have HhXi := Lib.hid hXi; clear hXi
  have Hhmv := Lib.hid hmv; clear hmv
  have Hhin := Lib.hid hin; clear hin
  clear hok hst hm2
  go_wp2_with (at_make; refine wpList_make_full _ rfl _ _ 23 rfl w4.heap.size 4 i0 (.bool false) 1 Try.underlying23 Hhi.out Hhz0.out Hhz1.out .i64 .i64 _ _ 40 rfl rfl rfl rfl (by rw [Hhz2.out]; omega) (by unfold maxLen; omega) (Nat.le_refl _) ?_; intro w5 hown hgrow)
  have hS5 := HS4.out.made ((Below.refl _ _).grown hgrow (Nat.le_refl _) (fun _ h => by cases h)) (made_flags hown)
  have HS5 := Lib.hid (hS5.pick [0, 3, 4, 5, 7, 1, 2] (by decide))
  obtain ⟨g, hg⟩ : ∃ g, g = w4.heap.size := ⟨_, rfl⟩
  rw [← hg] at HS5
  rw [← hg]
  have Hhg := Lib.hid hg; clear hg
  clear hown hgrow hS5
  obtain ⟨M, hM⟩ : ∃ M, M = members 40 X := ⟨_, rfl⟩
  have hMin : inN 40 M := by rw [hM]; exact members_in
  have hMup : ∀ j, j + 1 < M.length → M.getD j 0 < M.getD (j + 1) 0 := by rw [hM]; exact fun j hj => members_at hj
  have hMset : setV M = X := by rw [hM]; exact setV_members HhXl.out
  rw [← hM] at hFl hF0 hF1 HS5 HhX HhXi
  rw [← hM]
  have HhM := Lib.hid hM; clear hM
  have HhMin := Lib.hid hMin; clear hMin
  have HhMup := Lib.hid hMup; clear hMup
  have HhMset := Lib.hid hMset; clear hMset
  go_loopw [7] (fun vi wr => ∃ k : Nat, vi = .int .i64 k ∧ k ≤ M.length ∧ St w wr [Ent.row 53 3 (.slice a1 n.moves.length c1) n.moves.length (n.moves.flatMap moveCells), Ent.row 3 1 (.slice a4 L.length c4) L.length (intCells L), Ent.box w1.heap.size #[.int .i64 n.states, .slice a1 n.moves.length c1, .slice a2 n.firsts.length c2, .slice a3 n.ends.length c3] 46, Ent.row 3 1 (.slice a5 M.length c5) M.length (intCells M), Ent.row 4 1 (.slice (some ⟨g, 0, none⟩) 40 40) 40 (boolCells (flags 40 (setV (M.take k)))), Ent.row 3 1 (.slice a2 n.firsts.length c2) n.firsts.length (intCells n.firsts), Ent.row 3 1 (.slice a3 n.ends.length c3) n.ends.length (intCells n.ends)]) (fun vi _ => M.length - (intOf vi).toNat)
  case atStart => exact ⟨0, rfl, Nat.zero_le _, HS5.out⟩
  case round =>
    obtain ⟨k, rfl, hk, hS⟩ := hrel
    by_cases hlt : k < M.length
    · have hkI : (k : Int) < M.length := by omega
      obtain ⟨g5, rfl, hx⟩ := row_ints hS 3 rfl hlt
      obtain ⟨s0, s1⟩ := HhMin.out _ (memD (d := 0) hlt)
      obtain ⟨s, hs⟩ := Int.eq_ofNat_of_zero_le s0
      rw [hs] at hx s1
      have d0 := hS.rcell 4 s rfl (by omega) (flag_cell (show s < 40 by omega))
      have f0 := hS.rfr 4 s rfl
      have s2 : decide ((s : Int) < 0) = false := decide_eq_false (by omega)
      have s3 : decide ((40 : Int) ≤ (s : Int)) = false := decide_eq_false (by omega)
      have s4 : s < 40 := by omega
      by_cases hk0 : k = 0
      · have g0 : decide (0 < k) = false := decide_eq_false (by omega)
        have Hhk0 := Lib.hid hk0; clear hk0
        have Hhs := Lib.hid hs; clear hs
        have HhS := Lib.hid hS; clear hS
        clear s0
        go_wp2_with fail
        go_quiet (fail)
        go_wp2
        go_roundw
        case rel =>
          refine ⟨k + 1, by go_num, by omega, ?_⟩
          have h := (HhS.out.drewN nq).store 4 rfl s (.bool true)
          rw [flags_set] at h
          rw [setV_succ hlt, Hhs.out]
          exact h
        case measure => simp [intOf]; omega
      · have g0 : 0 < k := by omega
        obtain ⟨j, hj⟩ : ∃ j, j + 1 = k := ⟨k - 1, by omega⟩
        have hjl : j < M.length := by omega
        obtain ⟨g6, hg6, hy⟩ := row_ints hS 3 rfl hjl
        obtain rfl : g5 = g6 := by simpa using hg6
        have hup := HhMup.out j (by omega)
        rw [hj, hs] at hup
        have hup := hup
        have hyp := (HhMin.out _ (memD (d := 0) hjl)).1
        obtain ⟨y, hy2⟩ : ∃ y : Int, M.getD j 0 = y := ⟨_, rfl⟩
        rw [hy2] at hy hup hyp
        have y1 : decide ((s : Int) ≤ y) = false := decide_eq_false (by omega)
        have y2 : IntKind.i64.wrap ((k : Int) - 1) = (j : Int) := by
          rw [← hj]
          have : (((j + 1 : Nat) : Int) - 1) = (j : Int) := by omega
          rw [this]
          exact IntWalk.i64_in _ (by omega)
        have y3 : (j : Int) < M.length := by omega
        have Hhk0 := Lib.hid hk0; clear hk0
        have Hhs := Lib.hid hs; clear hs
        have Hhj := Lib.hid hj; clear hj
        have Hhup := Lib.hid hup; clear hup
        have Hhy2 := Lib.hid hy2; clear hy2
        have Hhyp := Lib.hid hyp; clear hyp
        have HhS := Lib.hid hS; clear hS
        clear s0 hg6
        go_wp2_with fail
        go_quiet (fail)
        go_wp2
        go_roundw
        case rel =>
          refine ⟨k + 1, by go_num, by omega, ?_⟩
          have h := (HhS.out.drewN nq).store 4 rfl s (.bool true)
          rw [flags_set] at h
          rw [setV_succ hlt, Hhs.out]
          exact h
        case measure => simp [intOf]; omega
    · obtain rfl : k = M.length := by omega
      rw [List.take_length, HhMset.out] at hS
      have HS6 := Lib.hid hS
      clear hS
      go_wp2
      go_loopw [8] (fun vi wr => ∃ k : Nat, vi = .int .i64 k ∧ k ≤ L.length ∧ St w wr [Ent.row 53 3 (.slice a1 n.moves.length c1) n.moves.length (n.moves.flatMap moveCells), Ent.row 3 1 (.slice a4 L.length c4) L.length (intCells L), Ent.box w1.heap.size #[.int .i64 n.states, .slice a1 n.moves.length c1, .slice a2 n.firsts.length c2, .slice a3 n.ends.length c3] 46, Ent.row 3 1 (.slice a5 M.length c5) M.length (intCells M), Ent.row 4 1 (.slice (some ⟨g, 0, none⟩) 40 40) 40 (boolCells (flags 40 X)), Ent.row 3 1 (.slice a2 n.firsts.length c2) n.firsts.length (intCells n.firsts), Ent.row 3 1 (.slice a3 n.ends.length c3) n.ends.length (intCells n.ends)]) (fun vi _ => L.length - (intOf vi).toNat)
      case atStart => exact ⟨0, rfl, Nat.zero_le _, HS6.out⟩
      case round =>
        obtain ⟨k, rfl, hk, hS⟩ := hrel
        by_cases hlt : k < L.length
        · have hkI : (k : Int) < L.length := by omega
          obtain ⟨g7, rfl, hx⟩ := row_ints hS 1 rfl hlt
          have hm := memD (d := (0 : Int)) hlt
          obtain ⟨s0, s1⟩ := Hhin.out _ hm
          have hb := HhXL.out _ hm
          obtain ⟨s, hs⟩ := Int.eq_ofNat_of_zero_le s0
          rw [hs] at hx s1 hb
          rw [Int.toNat_natCast] at hb
          have s4 : s < 40 := by omega
          have d0 := hS.rcell 4 s rfl (by omega) (flag_cell (show s < 40 by omega))
          rw [hb] at d0
          have Hhs := Lib.hid hs; clear hs
          have HhS := Lib.hid hS; clear hS
          have Hhb := Lib.hid hb; clear hb
          clear s0 hm
          go_wp2
          go_roundw
          case rel => exact ⟨k + 1, by go_num, by omega, HhS.out⟩
          case measure => simp [intOf]; omega
        · obtain rfl : k = L.length := by omega
          have HS7 := Lib.hid hS
          clear hS
          go_wp2
          go_loopw [9] (fun vi wr => ∃ k : Nat, vi = .int .i64 k ∧ k ≤ n.moves.length ∧ St w wr [Ent.row 53 3 (.slice a1 n.moves.length c1) n.moves.length (n.moves.flatMap moveCells), Ent.row 3 1 (.slice a4 L.length c4) L.length (intCells L), Ent.box w1.heap.size #[.int .i64 n.states, .slice a1 n.moves.length c1, .slice a2 n.firsts.length c2, .slice a3 n.ends.length c3] 46, Ent.row 3 1 (.slice a5 M.length c5) M.length (intCells M), Ent.row 4 1 (.slice (some ⟨g, 0, none⟩) 40 40) 40 (boolCells (flags 40 X)), Ent.row 3 1 (.slice a2 n.firsts.length c2) n.firsts.length (intCells n.firsts), Ent.row 3 1 (.slice a3 n.ends.length c3) n.ends.length (intCells n.ends)]) (fun vi _ => n.moves.length - (intOf vi).toNat)
          case atStart => exact ⟨0, rfl, Nat.zero_le _, HS7.out⟩
          case round =>
            obtain ⟨k, rfl, hk, hS⟩ := hrel
            by_cases hlt : k < n.moves.length
            · have hkI : (k : Int) < n.moves.length := by omega
              obtain ⟨mb, mo, rfl, p1, p2, p3⟩ := row_mvs hS 0 rfl hlt
              have hm := memD (d := ((0 : Int), (0 : Int), (0 : Int))) hlt
              have hin2 := Hhmv.out _ hm
              have hcl := HhXc.out _ hm
              have e1 := hS.cell (v := .slice (some ⟨mb, mo, none⟩) n.moves.length c1) 2 1 rfl rfl
              obtain ⟨x, hx⟩ : ∃ x, n.moves.getD k (0, 0, 0) = x := ⟨_, rfl⟩
              rw [hx] at p1 p2 p3 hin2 hcl
              obtain ⟨f, l, t⟩ := x
              simp only at p1 p2 p3 hin2 hcl
              obtain ⟨⟨f0, f1⟩, t0, t1⟩ := hin2
              obtain ⟨f, rfl⟩ := Int.eq_ofNat_of_zero_le f0
              obtain ⟨t, rfl⟩ := Int.eq_ofNat_of_zero_le t0
              rw [Int.toNat_natCast, Int.toNat_natCast] at hcl
              have f2 : f < 40 := by omega
              have t2 : t < 40 := by omega
              have d0 := hS.rcell 4 f rfl (by omega) (flag_cell (show f < 40 by omega))
              have d1 := hS.rcell 4 t rfl (by omega) (flag_cell (show t < 40 by omega))
              have hS' := hS
              have Hhx := Lib.hid hx; clear hx
              have HhS := Lib.hid hS; clear hS
              clear hm f0 t0
              by_cases hl : l = -1
              · subst hl
                cases hf : X.testBit f
                · rw [hf] at d0
                  have Hhf := Lib.hid hf; clear hf
                  have Hhcl := Lib.hid hcl; clear hcl
                  have HhS' := Lib.hid hS'; clear hS'
                  go_wp2
                  go_roundw
                  case rel => exact ⟨k + 1, by go_num, by omega, HhS.out⟩
                  case measure => simp [intOf]; omega
                · rw [hf] at d0
                  have ht := hcl rfl hf
                  rw [ht] at d1
                  have Hhf := Lib.hid hf; clear hf
                  have Hhcl := Lib.hid hcl; clear hcl
                  have Hht := Lib.hid ht; clear ht
                  have HhS' := Lib.hid hS'; clear hS'
                  go_wp2
                  go_roundw
                  case rel => exact ⟨k + 1, by go_num, by omega, HhS.out⟩
                  case measure => simp [intOf]; omega
              · have hl2 : (l == -1) = false := by rw [beq_eq_false_iff_ne]; exact hl
                have Hhcl := Lib.hid hcl; clear hcl
                have HhS' := Lib.hid hS'; clear hS'
                have Hhl := Lib.hid hl; clear hl
                go_wp2
                go_roundw
                case rel => exact ⟨k + 1, by go_num, by omega, HhS.out⟩
                case measure => simp [intOf]; omega
            · obtain rfl : k = n.moves.length := by omega
              have HS8 := Lib.hid hS
              have e0 := HS8.out.cell (v := .int .i64 n.states) 2 0 rfl rfl
              have e1 := HS8.out.cell (v := .slice a1 n.moves.length c1) 2 1 rfl rfl
              have e2 := HS8.out.cell (v := .slice a2 n.firsts.length c2) 2 2 rfl rfl
              have e3 := HS8.out.cell (v := .slice a3 n.ends.length c3) 2 3 rfl rfl
              clear hS
              have HN3 := Lib.hid (nfaR_rows HS8.out 0 5 6 rfl rfl rfl (by omega) (by omega))
              have HM3 := Lib.hid (ints_of_row' (HS8.out.row 3 rfl))
              obtain ⟨F, hF⟩ : ∃ F, F = M := ⟨_, rfl⟩
              have hFi : closeL n M = F := by rw [hF]; exact HhXi.out
              have HhFi := Lib.hid hFi; clear hFi
              go_wp2_with fail
              refine (implClose_any n M _ _ _ HN3.out HM3.out (by omega) F HhFi.out).mono ?_
              rintro e w9 ⟨a9, c9, rfl, hS'⟩
              have HS9 := Lib.hid (HS8.out.cat hS')
              subst F
              clear hS'
              go_wp2_with fail
              refine (sameInts_any M M _ _ _ (ints_of_row' (HS9.out.row 7 rfl)) (ints_of_row' (HS9.out.row 3 rfl)) true (by simp)).mono ?_
              rintro e w10 ⟨rfl, hb10⟩
              go_wp2
              go_ret
              exact ⟨rfl, (HS9.out.call hb10).bel⟩
end Go.Proofs.Ytolkifpeblbfcaa
