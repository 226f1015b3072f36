/-
  The walk over the law FnNfaStep.
  Condition: the argument reads as bytes.
-/
import Derived.Test.YtolkifpeblbfcaaDy
import Derived.Test.YtolkifpeblbfcaaNq
import Derived.Test.YtolkifpeblbfcaaLNfaClose
namespace Go.Proofs.Ytolkifpeblbfcaa
open Go.RowKit

theorem any_snocS {p : Int → Bool} {F : List Int} {j : Nat} (hj : j < F.length) : (F.take (j + 1)).any p = ((F.take j).any p || p (F.getD j 0)) := by
  rw [List.take_succ_eq_append_getElem hj, List.any_append]
  simp [hj]
theorem Ints.takeS {w : World} {a : Option Addr} {len cap : Nat} {xs : List Int} (h : Ints 0 w (.slice a len cap) xs) {n : Nat} (hn : n ≤ xs.length) : Ints 0 w (.slice a n cap) (xs.take n) := by
  obtain ⟨hl, a', cap', hv, h1, h2, h3⟩ := h
  simp only [Value.slice.injEq] at hv
  obtain ⟨rfl, rfl, rfl⟩ := hv
  have e : (xs.take n).length = n := by rw [List.length_take]; omega
  unfold Ints
  rw [e]
  refine ⟨by rw [List.length_map, e]; omega, a, cap, rfl, by omega, h2, fun hn0 => ?_⟩
  obtain ⟨b, off, ha, hb, hlt, hc⟩ := h3 (by omega)
  refine ⟨b, off, ha, hb, hlt, fun j hj => ?_⟩
  rw [hc j (by omega), List.map_take, List.getElem?_take_of_lt (by omega)]
theorem Ints.dropS {w : World} {b off len cap : Nat} {xs : List Int} (h : Ints 0 w (.slice (some ⟨b, off, none⟩) len cap) xs) {n : Nat} (hn : n < xs.length) : Ints 0 w (.slice (some ⟨b, off + n, none⟩) (xs.length - n) (cap - n)) (xs.drop n) := by
  obtain ⟨hl, a', cap', hv, h1, h2, h3⟩ := h
  simp only [Value.slice.injEq] at hv
  obtain ⟨rfl, rfl, rfl⟩ := hv
  unfold Ints
  rw [List.length_drop]
  refine ⟨by rw [List.length_map, List.length_drop]; omega, _, _, rfl, by omega, by omega, fun hn0 => ?_⟩
  obtain ⟨b', off', ha, hb, hlt, hc⟩ := h3 (by omega)
  simp only [Option.some.injEq, Addr.mk.injEq, and_true] at ha
  obtain ⟨rfl, rfl⟩ := ha
  refine ⟨b, off + n, rfl, hb, hlt, fun j hj => ?_⟩
  rw [show off + n + j = off + (n + j) by omega, hc _ (by omega), List.map_drop, List.getElem?_drop]
set_option maxRecDepth 100000 in
set_option maxHeartbeats 16000000 in
theorem nfaStep_walk (bs : List Nat) (v : Value) (w : World) (hb : Bytes 0 w v bs) :
    Calls Try.prog 10 #[v] w fun e w' => e = .returned (.bool true) ∧ Below w.heap.size w w' := by
  have HB := Lib.hid hb
  obtain ⟨av, cv, rfl, hcv1, hcv2, -⟩ := hb.form
  clear hb
  by_cases hlen : 1048576 < bs.length
  · have hl2 : (1048576 : Int) < bs.length := by omega
    go_enter Try.func10, Try.ntmps10
    go_wp2
    go_ret
    exact ⟨rfl, Below.refl _ _⟩
  have hl2 : ¬ (1048576 : Int) < bs.length := by omega
  go_enter Try.func10, Try.ntmps10
  go_wp2_with fail
  refine (drawStep_any bs _ _ HB.out (by omega)).mono ?_
  rintro e w1 ⟨n, L, c, a1, a2, a3, a4, c1, c2, c3, c4, hs0, hs1, hm, hf, he, hL, rfl, hS⟩
  have HS := Lib.hid (hS.alloc _ rfl #[.int .i64 n.states, .slice a1 n.moves.length c1, .slice a2 n.firsts.length c2, .slice a3 n.ends.length c3] 46)
  have e0 := HS.out.cell (v := .int .i64 n.states) 4 0 rfl rfl
  have e1 := HS.out.cell (v := .slice a1 n.moves.length c1) 4 1 rfl rfl
  have e2 := HS.out.cell (v := .slice a2 n.firsts.length c2) 4 2 rfl rfl
  have e3 := HS.out.cell (v := .slice a3 n.ends.length c3) 4 3 rfl rfl
  obtain ⟨F, hF⟩ : ∃ F, stepL n L c = F := ⟨_, rfl⟩
  have HN := Lib.hid (nfaR_rows HS.out 0 1 2 rfl rfl rfl (by omega) (by omega))
  have HL := Lib.hid (ints_of_row' (HS.out.row 3 rfl))
  have HhF := Lib.hid hF; clear hF
  clear hS
  go_wp2_with fail
  refine (implStep_any n L _ _ _ HN.out HL.out (by omega) F c HhF.out).mono ?_
  rintro e w2 ⟨a5, c5, rfl, hS'⟩
  have HS2 := Lib.hid (HS.out.cat hS')
  have HN2 := Lib.hid (HN.out.below hS'.bel)
  have HL2 := Lib.hid (HL.out.below hS'.bel)
  clear hS' e0 e1 e2 e3
  have e0 := HS2.out.cell (v := .int .i64 n.states) 4 0 rfl rfl
  have e1 := HS2.out.cell (v := .slice a1 n.moves.length c1) 4 1 rfl rfl
  have e2 := HS2.out.cell (v := .slice a2 n.firsts.length c2) 4 2 rfl rfl
  have e3 := HS2.out.cell (v := .slice a3 n.ends.length c3) 4 3 rfl rfl
  go_wp2_with fail
  refine (specStep_any n L _ _ _ HN2.out HL2.out (by omega) F c HhF.out).mono ?_
  rintro e w3 ⟨a6, c6, rfl, hS'⟩
  have HS3 := Lib.hid (HS2.out.cat hS')
  clear hS' e0 e1 e2 e3
  go_wp2_with fail
  refine (sameInts_any F F _ _ _ (ints_of_row' (HS3.out.row 5 rfl)) (ints_of_row' (HS3.out.row 6 rfl)) true (by simp)).mono ?_
  rintro e w4 ⟨rfl, hb4⟩
  have HS4 := Lib.hid ((HS3.out.call hb4).pick [0, 1, 2, 3, 4, 5] (by decide))
  clear hb4
  by_cases hF0 : F.length = 0
  · have hF1 : ((F.length : Int) == 0) = true := by rw [beq_iff_eq]; omega
    go_wp2_with (go_at_call 32; refine (alive_any _).mono ?_; rintro e w' ⟨rfl, rfl⟩)
    go_ret
    exact ⟨rfl, HS4.out.bel⟩
  have hF1 : ((F.length : Int) == 0) = false := by rw [beq_eq_false_iff_ne]; omega
  obtain ⟨hok, hst, hlt⟩ : nfaOk n = true ∧ stOk L n.states = true ∧ inB c 0 2 = true := by
    cases h1 : nfaOk n
    · exact absurd (by rw [← HhF.out, stepL_bad (.inl h1)]; rfl) hF0
    · cases h2 : stOk L n.states
      · exact absurd (by rw [← HhF.out, stepL_bad (.inr (.inl h2))]; rfl) hF0
      · cases h3 : inB c 0 2
        · exact absurd (by rw [← HhF.out, stepL_bad (.inr (.inr h3))]; rfl) hF0
        · exact ⟨rfl, rfl, rfl⟩
  obtain ⟨h, hh⟩ : ∃ h, h = L.length / 2 := ⟨_, rfl⟩
  obtain ⟨hcl, hAB, hAl, hBl, hFl, hnil⟩ := stepL_facts hok hst hlt h
  rw [HhF.out] at hcl hAB hAl hBl hFl hnil
  have hL0 : 0 < L.length := by
    rcases Nat.eq_zero_or_pos L.length with h0 | h0
    · rw [hnil (List.length_eq_zero_iff.1 h0)] at hF0
      exact absurd rfl hF0
    · exact h0
  obtain ⟨A, hA⟩ : ∃ A, stepL n (L.take h) c = A := ⟨_, rfl⟩
  obtain ⟨B, hB⟩ : ∃ B, stepL n (L.drop h) c = B := ⟨_, rfl⟩
  rw [hA] at hAB hAl
  rw [hB] at hAB hBl
  obtain ⟨g4, cc, hv4⟩ := HS4.out.rowform 3 rfl hL0
  injection hv4 with ha4 _ hc4
  subst ha4
  subst hc4
  have hcap := HS4.out.rowcap 3 rfl
  have hquo : (L.length : Int).tdiv 2 = (h : Int) := by
    rw [hh, Int.tdiv_eq_ediv_of_nonneg (by omega)]
    omega
  have hwr : IntKind.i64.wrap (h : Int) = (h : Int) := IntWalk.i64_in _ (by omega)
  have hh1 : (h : Int) ≤ c4 := by omega
  have hh2 : (h : Int) ≤ L.length := by omega
  have hh3 : h < L.length := by omega
  have hne4 : (c4 = h) = False := by simp; omega
  have hT1 : (L.take h).length ≤ 1000000 := by rw [List.length_take]; omega
  have hT2 : (L.drop h).length ≤ 1000000 := by rw [List.length_drop]; omega
  have e0 := HS4.out.cell (v := .int .i64 n.states) 4 0 rfl rfl
  have e1 := HS4.out.cell (v := .slice a1 n.moves.length c1) 4 1 rfl rfl
  have e2 := HS4.out.cell (v := .slice a2 n.firsts.length c2) 4 2 rfl rfl
  have e3 := HS4.out.cell (v := .slice a3 n.ends.length c3) 4 3 rfl rfl
  have Hk : Hid (∀ w' : World, Below w4.drew.heap.size w4.drew w' → w'.cell? ⟨w1.heap.size, 0, none⟩ = some (.int .i64 n.states) ∧ w'.cell? ⟨w1.heap.size, 1, none⟩ = some (.slice a1 n.moves.length c1) ∧ w'.cell? ⟨w1.heap.size, 2, none⟩ = some (.slice a2 n.firsts.length c2) ∧ w'.cell? ⟨w1.heap.size, 3, none⟩ = some (.slice a3 n.ends.length c3)) := Lib.hid fun w' hb => ⟨(HS4.out.drew.call hb).cell 4 0 rfl rfl, (HS4.out.drew.call hb).cell 4 1 rfl rfl, (HS4.out.drew.call hb).cell 4 2 rfl rfl, (HS4.out.drew.call hb).cell 4 3 rfl rfl⟩
  have HN4 := Lib.hid (nfaR_rows HS4.out.drew 0 1 2 rfl rfl rfl (by omega) (by omega))
  have HL4 := Lib.hid ((ints_of_row' (HS4.out.drew.row 3 rfl)).takeS (Nat.le_of_lt hh3))
  have Hhcl := Lib.hid hcl; clear hcl
  have HhAB := Lib.hid hAB; clear hAB
  have HhA := Lib.hid hA; clear hA
  have HhB := Lib.hid hB; clear hB
  have Hhok := Lib.hid hok; clear hok
  have Hhst := Lib.hid hst; clear hst
  have Hhlt := Lib.hid hlt; clear hlt
  have Hhnil := Lib.hid hnil; clear hnil
  have Hhh := Lib.hid hh; clear hh
  clear hcap
  go_wp2_with fail
  go_region_held3 (fun w' => w'.cell? ⟨w1.heap.size, 0, none⟩ = some (.int .i64 n.states) ∧ w'.cell? ⟨w1.heap.size, 1, none⟩ = some (.slice a1 n.moves.length c1) ∧ w'.cell? ⟨w1.heap.size, 2, none⟩ = some (.slice a2 n.firsts.length c2) ∧ w'.cell? ⟨w1.heap.size, 3, none⟩ = some (.slice a3 n.ends.length c3))
    (first | go_keep | exact Hk.out _ hq5)
    ((go_at_call 51; (with_reducible refine (implStep_any n (L.take h) _ _ _ HN4.out HL4.out hT1 A c HhA.out).mono ?_); rintro e w5 ⟨a7, c7, rfl, hr5⟩; have hq5 := hr5.bel))
  have HS5 := Lib.hid (HS4.out.drew.cat hr5)
  clear hq5 hr5 e0 e1 e2 e3 Hk
  have e0 := HS5.out.cell (v := .int .i64 n.states) 4 0 rfl rfl
  have e1 := HS5.out.cell (v := .slice a1 n.moves.length c1) 4 1 rfl rfl
  have e2 := HS5.out.cell (v := .slice a2 n.firsts.length c2) 4 2 rfl rfl
  have e3 := HS5.out.cell (v := .slice a3 n.ends.length c3) 4 3 rfl rfl
  have Hk : Hid (∀ w' : World, Below w5.drew.heap.size w5.drew w' → w'.cell? ⟨w1.heap.size, 0, none⟩ = some (.int .i64 n.states) ∧ w'.cell? ⟨w1.heap.size, 1, none⟩ = some (.slice a1 n.moves.length c1) ∧ w'.cell? ⟨w1.heap.size, 2, none⟩ = some (.slice a2 n.firsts.length c2) ∧ w'.cell? ⟨w1.heap.size, 3, none⟩ = some (.slice a3 n.ends.length c3)) := Lib.hid fun w' hb => ⟨(HS5.out.drew.call hb).cell 4 0 rfl rfl, (HS5.out.drew.call hb).cell 4 1 rfl rfl, (HS5.out.drew.call hb).cell 4 2 rfl rfl, (HS5.out.drew.call hb).cell 4 3 rfl rfl⟩
  have HN5 := Lib.hid (nfaR_rows HS5.out.drew 0 1 2 rfl rfl rfl (by omega) (by omega))
  have hL5 : Ints 0 w5.drew (.slice (some ⟨g4, h, none⟩) (L.length - h) (c4 - h)) (L.drop h) := by
    have := (ints_of_row' (HS5.out.drew.row 3 rfl)).dropS hh3
    rwa [Nat.zero_add] at this
  have HL5 := Lib.hid hL5
  clear hL5
  go_wp2_with fail
  go_region_held3 (fun w' => w'.cell? ⟨w1.heap.size, 0, none⟩ = some (.int .i64 n.states) ∧ w'.cell? ⟨w1.heap.size, 1, none⟩ = some (.slice a1 n.moves.length c1) ∧ w'.cell? ⟨w1.heap.size, 2, none⟩ = some (.slice a2 n.firsts.length c2) ∧ w'.cell? ⟨w1.heap.size, 3, none⟩ = some (.slice a3 n.ends.length c3))
    (first | go_keep | exact Hk.out _ hq6)
    ((go_at_call 51; (with_reducible refine (implStep_any n (L.drop h) _ _ _ HN5.out HL5.out hT2 B c HhB.out).mono ?_); rintro e w6 ⟨a8, c8, rfl, hr6⟩; have hq6 := hr6.bel))
  have HS6 := Lib.hid ((HS5.out.drew.cat hr6).pick [0, 1, 2, 4, 5, 6, 7] (by decide))
  clear hq6 hr6 e0 e1 e2 e3 Hk
  go_wp2
  go_loopw [10] (fun vk wr => ∃ k : Nat, vk = .int .i64 k ∧ k ≤ F.length ∧ St w wr [Ent.row 53 3 (.slice a1 n.moves.length c1) n.moves.length (n.moves.flatMap moveCells), Ent.row 3 1 (.slice a2 n.firsts.length c2) n.firsts.length (intCells n.firsts), Ent.row 3 1 (.slice a3 n.ends.length c3) n.ends.length (intCells n.ends), Ent.box w1.heap.size #[.int .i64 n.states, .slice a1 n.moves.length c1, .slice a2 n.firsts.length c2, .slice a3 n.ends.length c3] 46, Ent.row 3 1 (.slice a5 F.length c5) F.length (intCells F), Ent.row 3 1 (.slice a7 A.length c7) A.length (intCells A), Ent.row 3 1 (.slice a8 B.length c8) B.length (intCells B)]) (fun vk _ => F.length - (intOf vk).toNat)
  case atStart => exact ⟨0, rfl, Nat.zero_le _, HS6.out⟩
  case round =>
    obtain ⟨k, rfl, hk, hS⟩ := hrel
    by_cases hlt : k < F.length
    · have hkI : (k : Int) < F.length := by omega
      obtain ⟨g5, rfl, hx0⟩ := row_ints hS 4 rfl hlt
      obtain ⟨x, hx2⟩ : ∃ x, F.getD k 0 = x := ⟨_, rfl⟩
      have HSo := Lib.hid hS
      have Hhx2 := Lib.hid hx2; clear hx2
      clear hx0 hS
      go_wp2
      replace hx2 := Hhx2.out
      go_loopw [11, 12] (fun vb vj wi => ∃ j : Nat, vj = .int .i64 j ∧ vb = .bool ((A.take j).any (· == x)) ∧ j ≤ A.length ∧ St w wi [Ent.row 53 3 (.slice a1 n.moves.length c1) n.moves.length (n.moves.flatMap moveCells), Ent.row 3 1 (.slice a2 n.firsts.length c2) n.firsts.length (intCells n.firsts), Ent.row 3 1 (.slice a3 n.ends.length c3) n.ends.length (intCells n.ends), Ent.box w1.heap.size #[.int .i64 n.states, .slice a1 n.moves.length c1, .slice a2 n.firsts.length c2, .slice a3 n.ends.length c3] 46, Ent.row 3 1 (.slice (some ⟨g5, 0, none⟩) F.length c5) F.length (intCells F), Ent.row 3 1 (.slice a7 A.length c7) A.length (intCells A), Ent.row 3 1 (.slice a8 B.length c8) B.length (intCells B)]) (fun _ vj _ => A.length - (intOf vj).toNat)
      case atStart => exact ⟨0, rfl, by simp, Nat.zero_le _, HSo.out⟩
      case round =>
        obtain ⟨j, rfl, rfl, hj, hSi⟩ := hrel
        obtain ⟨β, hβ⟩ : ∃ β, β = ((A.take j).any (· == x)) := ⟨_, rfl⟩
        rw [← hβ]
        by_cases hjl : j < A.length
        · have hjI : (j : Int) < A.length := by omega
          obtain ⟨gy, rfl, hy⟩ := row_ints hSi 5 rfl hjl
          obtain ⟨gx, hgx, hx⟩ := row_ints hSi 4 rfl hlt
          obtain rfl : g5 = gx := by simpa using hgx
          obtain ⟨y, hy2⟩ : ∃ y, A.getD j 0 = y := ⟨_, rfl⟩
          rw [hx2] at hx
          rw [hy2] at hy
          have hsn := any_snocS (p := (· == x)) hjl
          rw [hy2] at hsn
          have Hhx2 := Lib.hid hx2; clear hx2
          have Hhy2 := Lib.hid hy2; clear hy2
          have HhSi := Lib.hid hSi; clear hSi
          clear hgx
          cases β
          · cases hyx : (y == x)
            · have Hhβ := Lib.hid hβ; clear hβ
              have Hhsn := Lib.hid hsn; clear hsn
              go_wp2_with fail
              go_quiet (fail)
              go_wp2
              go_roundw
              case rel => exact ⟨j + 1, by go_num, by rw [Hhsn.out, ← Hhβ.out, hyx]; rfl, by omega, HhSi.out.drewN nq⟩
              case measure => simp [intOf]; omega
            · have Hhβ := Lib.hid hβ; clear hβ
              have Hhsn := Lib.hid hsn; clear hsn
              go_wp2_with fail
              go_quiet (fail)
              go_wp2
              go_roundw
              case rel => exact ⟨j + 1, by go_num, by rw [Hhsn.out, ← Hhβ.out, hyx]; rfl, by omega, HhSi.out.drewN nq⟩
              case measure => simp [intOf]; omega
          · have Hhβ := Lib.hid hβ; clear hβ
            have Hhsn := Lib.hid hsn; clear hsn
            go_wp2_with fail
            go_quiet (fail)
            go_wp2
            go_roundw
            case rel => exact ⟨j + 1, by go_num, by rw [Hhsn.out, ← Hhβ.out]; rfl, by omega, HhSi.out.drewN nq⟩
            case measure => simp [intOf]; omega
        · obtain rfl : j = A.length := by omega
          rw [List.take_length] at hβ
          have HSi1 := Lib.hid hSi
          clear hSi
          have Hhx2 := Lib.hid hx2; clear hx2
          go_wp2
          replace hx2 := Hhx2.out
          go_loopw [11, 13] (fun vb vj wi => ∃ j : Nat, vj = .int .i64 j ∧ vb = .bool (A.any (· == x) || (B.take j).any (· == x)) ∧ j ≤ B.length ∧ St w wi [Ent.row 53 3 (.slice a1 n.moves.length c1) n.moves.length (n.moves.flatMap moveCells), Ent.row 3 1 (.slice a2 n.firsts.length c2) n.firsts.length (intCells n.firsts), Ent.row 3 1 (.slice a3 n.ends.length c3) n.ends.length (intCells n.ends), Ent.box w1.heap.size #[.int .i64 n.states, .slice a1 n.moves.length c1, .slice a2 n.firsts.length c2, .slice a3 n.ends.length c3] 46, Ent.row 3 1 (.slice (some ⟨g5, 0, none⟩) F.length c5) F.length (intCells F), Ent.row 3 1 (.slice a7 A.length c7) A.length (intCells A), Ent.row 3 1 (.slice a8 B.length c8) B.length (intCells B)]) (fun _ vj _ => B.length - (intOf vj).toNat)
          case atStart => exact ⟨0, rfl, by rw [hβ]; simp, Nat.zero_le _, HSi1.out⟩
          case round =>
            obtain ⟨j, rfl, rfl, hj, hSi⟩ := hrel
            obtain ⟨β, hβ⟩ : ∃ β, β = (A.any (· == x) || (B.take j).any (· == x)) := ⟨_, rfl⟩
            rw [← hβ]
            by_cases hjl : j < B.length
            · have hjI : (j : Int) < B.length := by omega
              obtain ⟨gy, rfl, hy⟩ := row_ints hSi 6 rfl hjl
              obtain ⟨gx, hgx, hx⟩ := row_ints hSi 4 rfl hlt
              obtain rfl : g5 = gx := by simpa using hgx
              obtain ⟨y, hy2⟩ : ∃ y, B.getD j 0 = y := ⟨_, rfl⟩
              rw [hx2] at hx
              rw [hy2] at hy
              have hsn := any_snocS (p := (· == x)) hjl
              rw [hy2] at hsn
              have Hhx2 := Lib.hid hx2; clear hx2
              have Hhy2 := Lib.hid hy2; clear hy2
              have HhSi := Lib.hid hSi; clear hSi
              clear hgx
              cases β
              · cases hyx : (y == x)
                · have Hhβ := Lib.hid hβ; clear hβ
                  have Hhsn := Lib.hid hsn; clear hsn
                  go_wp2_with fail
                  go_quiet (fail)
                  go_wp2
                  go_roundw
                  case rel => exact ⟨j + 1, by go_num, by rw [Hhsn.out, ← Bool.or_assoc, ← Hhβ.out, hyx]; rfl, by omega, HhSi.out.drewN nq⟩
                  case measure => simp [intOf]; omega
                · have Hhβ := Lib.hid hβ; clear hβ
                  have Hhsn := Lib.hid hsn; clear hsn
                  go_wp2_with fail
                  go_quiet (fail)
                  go_wp2
                  go_roundw
                  case rel => exact ⟨j + 1, by go_num, by rw [Hhsn.out, ← Bool.or_assoc, ← Hhβ.out, hyx]; rfl, by omega, HhSi.out.drewN nq⟩
                  case measure => simp [intOf]; omega
              · have Hhβ := Lib.hid hβ; clear hβ
                have Hhsn := Lib.hid hsn; clear hsn
                go_wp2_with fail
                go_quiet (fail)
                go_wp2
                go_roundw
                case rel => exact ⟨j + 1, by go_num, by rw [Hhsn.out, ← Bool.or_assoc, ← Hhβ.out]; rfl, by omega, HhSi.out.drewN nq⟩
                case measure => simp [intOf]; omega
            · obtain rfl : j = B.length := by omega
              rw [List.take_length] at hβ
              have hβt : β = true := by
                rw [hβ, Bool.or_eq_true, List.any_eq_true, List.any_eq_true]
                rcases HhAB.out x (by rw [← hx2]; exact memD (d := 0) hlt) with h | h
                · exact .inl ⟨x, h, by simp⟩
                · exact .inr ⟨x, h, by simp⟩
              subst hβt
              have HSi := Lib.hid hSi
              have Hhβ := Lib.hid hβ; clear hβ
              have Hhx2 := Lib.hid hx2; clear hx2
              clear hSi
              go_wp2
              go_roundw
              case rel => exact ⟨k + 1, by go_num, by omega, HSi.out⟩
              case measure => simp [intOf]; omega
    · obtain rfl : k = F.length := by omega
      have HS8 := Lib.hid hS
      have HN8 := Lib.hid (nfaR_rows HS8.out 0 1 2 rfl rfl rfl (by omega) (by omega))
      have HM8 := Lib.hid (ints_of_row' (HS8.out.row 4 rfl))
      have e0 := HS8.out.cell (v := .int .i64 n.states) 3 0 rfl rfl
      have e1 := HS8.out.cell (v := .slice a1 n.moves.length c1) 3 1 rfl rfl
      have e2 := HS8.out.cell (v := .slice a2 n.firsts.length c2) 3 2 rfl rfl
      have e3 := HS8.out.cell (v := .slice a3 n.ends.length c3) 3 3 rfl rfl
      have hAl2 : (A.length : Int) ≤ F.length := by omega
      have hBl2 : (B.length : Int) ≤ F.length := by omega
      clear hS
      go_wp2_with fail
      refine (implClose_any n F _ _ _ HN8.out HM8.out (by omega) F Hhcl.out).mono ?_
      rintro e w9 ⟨a9, c9, rfl, hS'⟩
      have HS9 := Lib.hid (HS8.out.cat hS')
      clear hS'
      go_wp2_with fail
      refine (sameInts_any F F _ _ _ (ints_of_row' (HS9.out.row 7 rfl)) (ints_of_row' (HS9.out.row 4 rfl)) true (by simp)).mono ?_
      rintro e w10 ⟨rfl, hb10⟩
      go_wp2
      go_ret
      exact ⟨rfl, (HS9.out.call hb10).bel⟩
end Go.Proofs.Ytolkifpeblbfcaa
