/-
  The walk over the reference's NfaAccepts, and over DrawNfaAccepts.
  Conditions: the automaton is readable, the word is a text of bytes.
-/
import Derived.Test.YthigcohfjoodlaaLd
import Derived.Test.YthigcohfjoodlaaSn
import Derived.Test.YthigcohfjoodlaaNx
namespace Go.Proofs.Ythigcohfjoodlaa
open Go.RowKit

theorem accT_runL {n : NfaD} {l : List Nat} : accT n l = (runL n l).any fun x => decide (x ∈ n.ends) := by
  cases h1 : nfaOk n
  · rw [runL_bad (.inl h1)]; unfold accT; rw [h1]; rfl
  · cases h2 : wdOk l
    · rw [runL_bad (.inr h2)]; unfold accT; rw [h1, h2]; rfl
    · rw [runL_ok h1 h2, Bool.eq_iff_iff]
      unfold accT accS
      rw [h1, h2]
      simp only [Bool.true_and, List.any_eq_true, decide_eq_true_eq]
      obtain ⟨m, -, hm40, -, -, -, -, he, -⟩ := nfaOk_facts h1
      constructor
      · rintro ⟨x, hx, hb⟩
        have h3 := he x hx
        exact ⟨x, mem_members.2 ⟨x.toNat, by omega, hb, by omega⟩, hx⟩
      · rintro ⟨x, hx, hxe⟩
        obtain ⟨t, -, hb, rfl⟩ := mem_members.1 hx
        exact ⟨_, hxe, by rwa [Int.toNat_natCast]⟩
set_option maxRecDepth 100000 in
set_option maxHeartbeats 4000000 in
theorem specAccepts_any (n : NfaD) (l : List Nat) (v : Value) (w : World) (ht : isT l) (hll : l.length ≤ 1000) (hel : n.ends.length ≤ 1000000) (h : NfaR 0 w v n) (r : Bool) (hr : accT n l = r) :
    Calls Try.prog 37 #[v, .string (txB l)] w fun e w' => e = .returned (.bool r) ∧ Below w.heap.size w w' := by
  have H := Lib.hid h
  obtain ⟨v1, v2, v3, rfl, g1, g2, g3, -, -⟩ := h
  have G3 := Lib.hid g3
  have hS0 := (St.start w).alloc _ rfl #[.int .i64 n.states, v1, v2, v3] 51
  have e0 := hS0.cell (v := .int .i64 n.states) 0 0 rfl rfl
  have e1 := hS0.cell (v := v1) 0 1 rfl rfl
  have e2 := hS0.cell (v := v2) 0 2 rfl rfl
  have e3 := hS0.cell (v := v3) 0 3 rfl rfl
  obtain ⟨F, hF⟩ : ∃ F, runL n l = F := ⟨_, rfl⟩
  have hFl : F.length ≤ 40 := by
    rw [← hF]
    unfold runL
    split
    · exact members_len 40 _
    · simp
  rw [accT_runL, hF] at hr
  have Hht := Lib.hid ht; clear ht
  have HhF := Lib.hid hF; clear hF
  have Hhr := Lib.hid hr; clear hr
  have HhS0 := Lib.hid hS0; clear hS0
  clear g1 g2 g3
  go_enter Try.func37, Try.ntmps37
  go_wp2_with fail
  refine (specRun_any n l _ _ (H.out.below HhS0.out.bel) Hht.out hll F HhF.out).mono ?_
  rintro e w1 ⟨a5, c5, rfl, hS'⟩
  have HS1 := Lib.hid (HhS0.out.cat hS')
  clear hS' e0 e1 e2 e3
  go_wp2
  go_loopw [6] (fun i wr => ∃ k : Nat, i = .int .i64 k ∧ k ≤ F.length ∧ ((F.take k).any fun x => decide (x ∈ n.ends)) = false ∧ St w wr [Ent.box w.heap.size #[.int .i64 n.states, v1, v2, v3] 51, Ent.row 3 1 (.slice a5 F.length c5) F.length (intCells F)]) (fun i _ => F.length - (intOf i).toNat)
  case atStart => exact ⟨0, rfl, Nat.zero_le _, rfl, HS1.out⟩
  case round =>
    obtain ⟨k, rfl, hk, hn, hS⟩ := hrel
    by_cases hlt : k < F.length
    · have hkI : (k : Int) < F.length := by omega
      obtain ⟨g5, rfl, hx⟩ := row_ints hS 1 rfl hlt
      obtain ⟨x, hx2⟩ : ∃ x, F.getD k 0 = x := ⟨_, rfl⟩
      rw [hx2] at hx
      have e3 := hS.cell (v := v3) 0 3 rfl rfl
      have hsn : (F.take (k + 1)).any (fun x => decide (x ∈ n.ends)) = ((F.take k).any (fun x => decide (x ∈ n.ends)) || decide (x ∈ n.ends)) := by
        rw [List.take_succ_eq_append_getElem hlt, List.any_append, ← hx2]
        simp [hlt]
      have HG := Lib.hid (G3.out.below hS.drew.bel)
      have hk3 : Hid (∀ w' : World, Below wr.drew.heap.size wr.drew w' → w'.cell? ⟨w.heap.size, 3, none⟩ = some v3 ∧ w'.cell? ⟨g5, k, none⟩ = some (.int .i64 x)) := Lib.hid fun w' hb => ⟨(hS.drew.call hb).cell 0 3 rfl rfl, by
        obtain ⟨gy, hgy, hy⟩ := row_ints (hS.drew.call hb) 1 rfl hlt
        obtain rfl : g5 = gy := by simpa using hgy
        rwa [hx2] at hy⟩
      have hS' := hS.drew
      by_cases hin : x ∈ n.ends
      · have hnm : nameOf n.ends x = ((n.ends.idxOf x : Nat) : Int) := if_pos hin
        have hrt : r = true := by
          rw [← Hhr.out, List.any_eq_true]
          exact ⟨x, by rw [← hx2]; exact memD (d := 0) hlt, decide_eq_true hin⟩
        obtain ⟨j, hj⟩ : ∃ j, j = n.ends.idxOf x := ⟨_, rfl⟩
        rw [← hj] at hnm
        have hL := fun (u : World) (hu : Below wr.drew.heap.size wr.drew u) => l7Name_any n.ends x v3 u hel (HG.out.below hu)
        rw [hnm] at hL
        have HL := Lib.hid hL
        have hge : (0 : Int) ≤ (j : Int) := by omega
        have HhS := Lib.hid hS; clear hS
        have Hhx2 := Lib.hid hx2; clear hx2
        have Hhsn := Lib.hid hsn; clear hsn
        have Hhn := Lib.hid hn; clear hn
        have Hhj := Lib.hid hj; clear hj
        have Hhnm := Lib.hid hnm; clear hnm
        have Hhrt := Lib.hid hrt; clear hrt
        have HhS' := Lib.hid hS'; clear hS'
        clear hL hin
        go_wp2_with fail
        go_region_held3 (fun w' => w'.cell? ⟨w.heap.size, 3, none⟩ = some v3 ∧ w'.cell? ⟨g5, k, none⟩ = some (.int .i64 x))
          (first | go_keep | exact hk3.out _ (Below.refl _ _) | exact hk3.out _ hq)
          ((go_at_call 107; (with_reducible refine (HL.out _ (Below.refl _ _)).mono ?_); rintro e u1 ⟨rfl, hq⟩))
        go_wp2
        go_ret
        exact ⟨by rw [Hhrt.out]; rfl, (HhS'.out.call hq).bel⟩
      · have hnm : nameOf n.ends x = -1 := if_neg hin
        have hL := fun (u : World) (hu : Below wr.drew.heap.size wr.drew u) => l7Name_any n.ends x v3 u hel (HG.out.below hu)
        rw [hnm] at hL
        have HL := Lib.hid hL
        have hn2 : ((F.take (k + 1)).any fun x => decide (x ∈ n.ends)) = false := by rw [hsn, hn, decide_eq_false hin]; rfl
        have HhS := Lib.hid hS; clear hS
        have Hhx2 := Lib.hid hx2; clear hx2
        have Hhsn := Lib.hid hsn; clear hsn
        have Hhn := Lib.hid hn; clear hn
        have Hhn2 := Lib.hid hn2; clear hn2
        have Hhnm := Lib.hid hnm; clear hnm
        have HhS' := Lib.hid hS'; clear hS'
        clear hL hin
        go_wp2_with fail
        go_region_held3 (fun w' => w'.cell? ⟨w.heap.size, 3, none⟩ = some v3 ∧ w'.cell? ⟨g5, k, none⟩ = some (.int .i64 x))
          (first | go_keep | exact hk3.out _ (Below.refl _ _) | exact hk3.out _ hq)
          ((go_at_call 107; (with_reducible refine (HL.out _ (Below.refl _ _)).mono ?_); rintro e u1 ⟨rfl, hq⟩))
        have HS3 := Lib.hid (HhS'.out.call hq)
        clear hq
        go_wp2
        go_roundw
        case rel => exact ⟨k + 1, by go_num, by omega, Hhn2.out, HS3.out⟩
        case measure => simp [intOf]; omega
    · obtain rfl : k = F.length := by omega
      rw [List.take_length, Hhr.out] at hn
      have HS3 := Lib.hid hS
      have Hhn := Lib.hid hn; clear hn
      clear hS
      go_wp2
      go_ret
      exact ⟨by rw [Hhn.out]; rfl, HS3.out.bel⟩
end Go.Proofs.Ythigcohfjoodlaa
