/-
  Automata with choices that lie in the call's own blocks, as readable ones.
  No condition.
  The language of a determinized automaton, plain; the walk over the program's DfaAccepts at texts.
  Conditions: the automaton is readable.
  The walk over the reference's NfaAccepts, and over DrawNfaAccepts.
  Conditions: the automaton is readable, the word is a text of bytes.
-/
import Derived.Test.YtjcegbcmomfgaaaCv
import Derived.Test.YtjcegbcmomfgaaaDm
import Derived.Test.YtjcegbcmomfgaaaWs
import Derived.Test.YtjcegbcmomfgaaaTz
import Derived.Test.YtjcegbcmomfgaaaSn
namespace Go.Proofs.Ytjcegbcmomfgaaa
open Go.RowKit

theorem nfaR_rows {w0 w : World} {L : List Ent} {n : NfaD} {a1 a2 a3 : Option Addr} {c1 c2 c3 : Nat} (hS : St w0 w L) (i j k : Nat) {t1 t2 t3 : Nat}
    (h1 : L[i]? = some (Ent.row t1 3 (.slice a1 n.moves.length c1) n.moves.length (n.moves.flatMap moveCells))) (h2 : L[j]? = some (Ent.row t2 1 (.slice a2 n.firsts.length c2) n.firsts.length (intCells n.firsts))) (h3 : L[k]? = some (Ent.row t3 1 (.slice a3 n.ends.length c3) n.ends.length (intCells n.ends)))
    (hb1 : -9223372036854775808 ≤ n.states) (hb2 : n.states ≤ 9223372036854775807) : NfaR 0 w (.agg #[.int .i64 n.states, .slice a1 n.moves.length c1, .slice a2 n.firsts.length c2, .slice a3 n.ends.length c3]) n :=
  ⟨_, _, _, rfl, moves_of_row (hS.row i h1), ints_of_row' (hS.row j h2), ints_of_row' (hS.row k h3), hb1, hb2⟩

theorem row_ints {w0 w : World} {L : List Ent} (hS : St w0 w L) (i : Nat) {t c : Nat} {a : Option Addr} {xs : List Int} (hx : L[i]? = some (Ent.row t 1 (.slice a xs.length c) xs.length (intCells xs))) {k : Nat} (hk : k < xs.length) :
    ∃ g, a = some ⟨g, 0, none⟩ ∧ w.cell? ⟨g, k, none⟩ = some (.int .i64 (xs.getD k 0)) := by
  obtain ⟨g, cap, h⟩ := hS.rowform i hx (by omega)
  injection h with h1 h2 h3
  subst h1
  subst h3
  exact ⟨g, rfl, hS.rcell i k hx (by omega) (by simp [intCells, hk])⟩
theorem row_mvs {w0 w : World} {L : List Ent} (hS : St w0 w L) (i : Nat) {t c : Nat} {a : Option Addr} {xs : List (Int × Int × Int)} (hx : L[i]? = some (Ent.row t 3 (.slice a xs.length c) xs.length (xs.flatMap moveCells))) {k : Nat} (hk : k < xs.length) :
    ∃ g o, a = some ⟨g, o, none⟩ ∧ w.cell? ⟨g, o + k * 3, none⟩ = some (.int .i64 (xs.getD k (0, 0, 0)).1) ∧ w.cell? ⟨g, o + k * 3 + 1, none⟩ = some (.int .i64 (xs.getD k (0, 0, 0)).2.1) ∧ w.cell? ⟨g, o + k * 3 + 2, none⟩ = some (.int .i64 (xs.getD k (0, 0, 0)).2.2) := by
  obtain ⟨a', c', hv, -, -, hr⟩ := (moves_of_row (hS.row i hx)).form
  injection hv with h1 _ h3
  subst h1
  obtain ⟨b, o, rfl, -, -, hcs⟩ := hr (by omega)
  exact ⟨b, o, rfl, hcs k hk⟩
end Go.Proofs.Ytjcegbcmomfgaaa
namespace Go.Proofs.Ytjcegbcmomfgaaa
open Go.RowKit

section
variable {α : Type} [DecidableEq α] {nx : α → Nat → α} {a : α} {en : α → Bool} {K : Nat}
theorem placeOf_at {F : List α} {x : α} (h : x ∈ F) (d : α) : F.getD (placeOf F x) d = x := by
  have h1 := placeOf_lt h
  rw [getD_at h1]
  exact List.getElem_idxOf h1
theorem run_num (hK : (bat nx a K).met.length ≤ K) : ∀ (w : List Nat), isW w → ∀ x ∈ (bat nx a K).met, w.foldl nx x ∈ (bat nx a K).met ∧ runD (numDfa nx en (bat nx a K).met) (placeOf (bat nx a K).met x : Nat) w = (placeOf (bat nx a K).met (w.foldl nx x) : Nat)
  | [], _, x, hx => ⟨hx, rfl⟩
  | c :: w, hw, x, hx => by
    have hc : c < 3 := hw c (by simp)
    have hx2 := bat_closed hK hx hc
    have h1 := placeOf_lt hx
    obtain ⟨h2, h3⟩ := run_num hK w (fun b hb => hw b (by simp [hb])) (nx x c) hx2
    refine ⟨h2, ?_⟩
    unfold runD at *
    rw [List.foldl_cons, List.foldl_cons, ← h3, dnx_num (a := a) (by omega) (by omega) hc]
    unfold numNext
    rw [Int.toNat_natCast, placeOf_at hx]
theorem accD_num (hK : (bat nx a K).met.length ≤ K) {w : List Nat} (hw : isW w) : accD (numDfa nx en (bat nx a K).met) w = en (w.foldl nx a) := by
  have h0 := bat_mem_first (nx := nx) (a := a) K
  obtain ⟨h1, h2⟩ := run_num (en := en) hK w hw a h0
  have h3 : placeOf (bat nx a K).met a = 0 := by
    have hp := bat_pos (nx := nx) (a := a) K
    have hf := bat_first (nx := nx) (a := a) K
    have hn := (bat_good (nx := nx) (a := a) K).1
    rw [getD_at hp] at hf
    have := List.Nodup.idxOf_getElem hn 0 hp
    rw [hf] at this
    exact this
  rw [h3] at h2
  unfold accD
  rw [show ((0 : Nat) : Int) = 0 from rfl] at h2
  rw [h2, den_num (placeOf_lt h1)]
  congr 1
  exact List.getElem_idxOf _
end

theorem lets_isW {l : List Nat} (h : wdOk l = true) : isW (lets l) := fun c hc => by
  obtain ⟨b, hb, rfl⟩ := List.mem_map.1 hc
  have := (wdOk_iff.1 h).1 b hb
  omega
theorem txB_lets {l : List Nat} (h : wdOk l = true) : txB l = wdB (lets l) := by
  unfold txB wdB lets
  rw [List.map_map]
  congr 2
  apply List.map_congr_left
  intro b hb
  have := (wdOk_iff.1 h).1 b hb
  show UInt8.ofNat b = UInt8.ofNat (97 + (b - 97))
  congr 1
  omega
theorem det_okK {K : Nat} {n : NfaD} {D : DfaD} (h : detK K n = some D) : nfaOk n = true ∧ (metS n K).length ≤ K ∧ D = numDfa (nxS n) (enS n) (metS n K) := by
  unfold detK at h
  split at h
  · rename_i h1
    exact ⟨h1.1, h1.2, (Option.some.inj h).symm⟩
  · cases h
theorem foldl_nxS {n : NfaD} : ∀ (w : List Nat) (v : Nat), w.foldl (nxS n) (((v : Nat) : Int), 0) = (((w.foldl (fun v (c : Nat) => stV 40 n.moves v (c : Int)) v : Nat) : Int), 0)
  | [], _ => rfl
  | c :: w, v => by
    rw [List.foldl_cons, List.foldl_cons, ← foldl_nxS w]
    rfl
/-- The determinized automaton accepts the same words. -/
theorem det_accK {K : Nat} {n : NfaD} {D : DfaD} (h : detK K n = some D) {w : List Nat} (hw : isW w) : accD D w = accS n w := by
  obtain ⟨-, h2, rfl⟩ := det_okK h
  rw [accD_num h2 hw, foldl_nxS]
  rfl
/-- What DfaAccepts answers. -/
def accDT (d : DfaD) (l : List Nat) : Bool := dfaOk d.next d.ends && wdOk l && accD d (lets l)
set_option maxRecDepth 100000 in
set_option maxHeartbeats 4000000 in
theorem dfaAccepts_any (d : DfaD) (l : List Nat) (v : Value) (w : World) (ht : isT l) (hll : l.length ≤ 1000) (h : DfaR 0 w v d) (hd : dfaOk d.next d.ends = true) (hwd : wdOk l = true) :
    Calls Try.prog 11 #[v, .string (txB l)] w fun e w' => e = .returned (.bool (accD d (lets l))) ∧ Below w.heap.size w w' := by
  have H := Lib.hid h
  obtain ⟨v1, v2, rfl, g1, g2⟩ := h
  have hS0 := (St.start w).alloc _ rfl #[v1, v2] 33
  have e0 := hS0.cell (v := v1) 0 0 rfl rfl
  have e1 := hS0.cell (v := v2) 0 1 rfl rfl
  obtain ⟨q, hq⟩ : ∃ q, accD d (lets l) = q := ⟨_, rfl⟩
  have hacc := fun (u : World) (hu : Below w.heap.size w u) => accepts_any d (lets l) (.agg #[v1, v2]) u hd (lets_isW hwd) (by unfold lets; rw [List.length_map]; omega) (H.out.below hu)
  rw [← txB_lets hwd, hq] at hacc
  rw [hq]
  have Hacc := Lib.hid hacc
  have Hht := Lib.hid ht; clear ht
  have HhS0 := Lib.hid hS0; clear hS0
  have Hhd := Lib.hid hd; clear hd
  have Hhwd := Lib.hid hwd; clear hwd
  have Hhq := Lib.hid hq; clear hq
  clear g1 g2 hacc
  go_enter Try.func11, Try.ntmps11
  go_wp2_with fail
  refine (implDfaValid_any d _ _ (H.out.below HhS0.out.bel) _ Hhd.out).mono ?_
  rintro e w1 ⟨rfl, hb1⟩
  have HS1 := Lib.hid (HhS0.out.call hb1)
  clear hb1 e0 e1
  have e0 := HS1.out.cell (v := v1) 0 0 rfl rfl
  have e1 := HS1.out.cell (v := v2) 0 1 rfl rfl
  go_wp2_with (go_at_call 25; refine (implWordValid_any l _ Hht.out (by omega) _ Hhwd.out).mono ?_; rintro e w' ⟨rfl, rfl⟩)
  refine (Hacc.out _ HS1.out.bel).mono ?_
  rintro e w2 ⟨rfl, hb2⟩
  go_wp2
  go_ret
  exact ⟨rfl, (HS1.out.call hb2).bel⟩
end Go.Proofs.Ytjcegbcmomfgaaa
namespace Go.Proofs.Ytjcegbcmomfgaaa
open Go.RowKit

theorem accT_runL {n : NfaD} {l : List Nat} : accT n l = (runL n l).any fun x => decide (x ∈ n.ends) := by
  cases h1 : nfaOk n
  · rw [runL_bad (.inl h1)]; unfold accT; rw [h1]; rfl
  · cases h2 : wdOk l
    · rw [runL_bad (.inr h2)]; unfold accT; rw [h1, h2]; rfl
    · rw [runL_ok h1 h2, Bool.eq_iff_iff]
      unfold accT accS
      rw [h1, h2]
      simp only [Bool.true_and, List.any_eq_true, decide_eq_true_eq]
      obtain ⟨m, -, hm40, -, -, -, -, he, -⟩ := nfaOk_facts h1
      constructor
      · rintro ⟨x, hx, hb⟩
        have h3 := he x hx
        exact ⟨x, mem_members.2 ⟨x.toNat, by omega, hb, by omega⟩, hx⟩
      · rintro ⟨x, hx, hxe⟩
        obtain ⟨t, -, hb, rfl⟩ := mem_members.1 hx
        exact ⟨_, hxe, by rwa [Int.toNat_natCast]⟩
set_option maxRecDepth 100000 in
set_option maxHeartbeats 4000000 in
theorem specAccepts_any (n : NfaD) (l : List Nat) (v : Value) (w : World) (ht : isT l) (hll : l.length ≤ 1000) (hel : n.ends.length ≤ 1000000) (h : NfaR 0 w v n) (r : Bool) (hr : accT n l = r) :
    Calls Try.prog 8 #[v, .string (txB l)] w fun e w' => e = .returned (.bool r) ∧ Below w.heap.size w w' := by
  have H := Lib.hid h
  obtain ⟨v1, v2, v3, rfl, g1, g2, g3, -, -⟩ := h
  have G3 := Lib.hid g3
  have hS0 := (St.start w).alloc _ rfl #[.int .i64 n.states, v1, v2, v3] 26
  have e0 := hS0.cell (v := .int .i64 n.states) 0 0 rfl rfl
  have e1 := hS0.cell (v := v1) 0 1 rfl rfl
  have e2 := hS0.cell (v := v2) 0 2 rfl rfl
  have e3 := hS0.cell (v := v3) 0 3 rfl rfl
  obtain ⟨F, hF⟩ : ∃ F, runL n l = F := ⟨_, rfl⟩
  have hFl : F.length ≤ 40 := by
    rw [← hF]
    unfold runL
    split
    · exact members_len 40 _
    · simp
  rw [accT_runL, hF] at hr
  have Hht := Lib.hid ht; clear ht
  have HhF := Lib.hid hF; clear hF
  have Hhr := Lib.hid hr; clear hr
  have HhS0 := Lib.hid hS0; clear hS0
  clear g1 g2 g3
  go_enter Try.func8, Try.ntmps8
  go_wp2_with fail
  refine (specRun_any n l _ _ (H.out.below HhS0.out.bel) Hht.out hll F HhF.out).mono ?_
  rintro e w1 ⟨a5, c5, rfl, hS'⟩
  have HS1 := Lib.hid (HhS0.out.cat hS')
  clear hS' e0 e1 e2 e3
  go_wp2
  go_loopw [6] (fun i wr => ∃ k : Nat, i = .int .i64 k ∧ k ≤ F.length ∧ ((F.take k).any fun x => decide (x ∈ n.ends)) = false ∧ St w wr [Ent.box w.heap.size #[.int .i64 n.states, v1, v2, v3] 26, Ent.row 3 1 (.slice a5 F.length c5) F.length (intCells F)]) (fun i _ => F.length - (intOf i).toNat)
  case atStart => exact ⟨0, rfl, Nat.zero_le _, rfl, HS1.out⟩
  case round =>
    obtain ⟨k, rfl, hk, hn, hS⟩ := hrel
    by_cases hlt : k < F.length
    · have hkI : (k : Int) < F.length := by omega
      obtain ⟨g5, rfl, hx⟩ := row_ints hS 1 rfl hlt
      obtain ⟨x, hx2⟩ : ∃ x, F.getD k 0 = x := ⟨_, rfl⟩
      rw [hx2] at hx
      have e3 := hS.cell (v := v3) 0 3 rfl rfl
      have hsn : (F.take (k + 1)).any (fun x => decide (x ∈ n.ends)) = ((F.take k).any (fun x => decide (x ∈ n.ends)) || decide (x ∈ n.ends)) := by
        rw [List.take_succ_eq_append_getElem hlt, List.any_append, ← hx2]
        simp [hlt]
      have HG := Lib.hid (G3.out.below hS.drew.bel)
      have hk3 : Hid (∀ w' : World, Below wr.drew.heap.size wr.drew w' → w'.cell? ⟨w.heap.size, 3, none⟩ = some v3 ∧ w'.cell? ⟨g5, k, none⟩ = some (.int .i64 x)) := Lib.hid fun w' hb => ⟨(hS.drew.call hb).cell 0 3 rfl rfl, by
        obtain ⟨gy, hgy, hy⟩ := row_ints (hS.drew.call hb) 1 rfl hlt
        obtain rfl : g5 = gy := by simpa using hgy
        rwa [hx2] at hy⟩
      have hS' := hS.drew
      by_cases hin : x ∈ n.ends
      · have hnm : nameOf n.ends x = ((n.ends.idxOf x : Nat) : Int) := if_pos hin
        have hrt : r = true := by
          rw [← Hhr.out, List.any_eq_true]
          exact ⟨x, by rw [← hx2]; exact memD (d := 0) hlt, decide_eq_true hin⟩
        obtain ⟨j, hj⟩ : ∃ j, j = n.ends.idxOf x := ⟨_, rfl⟩
        rw [← hj] at hnm
        have hL := fun (u : World) (hu : Below wr.drew.heap.size wr.drew u) => l7Name_any n.ends x v3 u hel (HG.out.below hu)
        rw [hnm] at hL
        have HL := Lib.hid hL
        have hge : (0 : Int) ≤ (j : Int) := by omega
        have HhS := Lib.hid hS; clear hS
        have Hhx2 := Lib.hid hx2; clear hx2
        have Hhsn := Lib.hid hsn; clear hsn
        have Hhn := Lib.hid hn; clear hn
        have Hhj := Lib.hid hj; clear hj
        have Hhnm := Lib.hid hnm; clear hnm
        have Hhrt := Lib.hid hrt; clear hrt
        have HhS' := Lib.hid hS'; clear hS'
        clear hL hin
        go_wp2_with fail
        go_region_held3 (fun w' => w'.cell? ⟨w.heap.size, 3, none⟩ = some v3 ∧ w'.cell? ⟨g5, k, none⟩ = some (.int .i64 x))
          (first | go_keep | exact hk3.out _ (Below.refl _ _) | exact hk3.out _ hq)
          ((go_at_call 29; (with_reducible refine (HL.out _ (Below.refl _ _)).mono ?_); rintro e u1 ⟨rfl, hq⟩))
        go_wp2
        go_ret
        exact ⟨by rw [Hhrt.out]; rfl, (HhS'.out.call hq).bel⟩
      · have hnm : nameOf n.ends x = -1 := if_neg hin
        have hL := fun (u : World) (hu : Below wr.drew.heap.size wr.drew u) => l7Name_any n.ends x v3 u hel (HG.out.below hu)
        rw [hnm] at hL
        have HL := Lib.hid hL
        have hn2 : ((F.take (k + 1)).any fun x => decide (x ∈ n.ends)) = false := by rw [hsn, hn, decide_eq_false hin]; rfl
        have HhS := Lib.hid hS; clear hS
        have Hhx2 := Lib.hid hx2; clear hx2
        have Hhsn := Lib.hid hsn; clear hsn
        have Hhn := Lib.hid hn; clear hn
        have Hhn2 := Lib.hid hn2; clear hn2
        have Hhnm := Lib.hid hnm; clear hnm
        have HhS' := Lib.hid hS'; clear hS'
        clear hL hin
        go_wp2_with fail
        go_region_held3 (fun w' => w'.cell? ⟨w.heap.size, 3, none⟩ = some v3 ∧ w'.cell? ⟨g5, k, none⟩ = some (.int .i64 x))
          (first | go_keep | exact hk3.out _ (Below.refl _ _) | exact hk3.out _ hq)
          ((go_at_call 29; (with_reducible refine (HL.out _ (Below.refl _ _)).mono ?_); rintro e u1 ⟨rfl, hq⟩))
        have HS3 := Lib.hid (HhS'.out.call hq)
        clear hq
        go_wp2
        go_roundw
        case rel => exact ⟨k + 1, by go_num, by omega, Hhn2.out, HS3.out⟩
        case measure => simp [intOf]; omega
    · obtain rfl : k = F.length := by omega
      rw [List.take_length, Hhr.out] at hn
      have HS3 := Lib.hid hS
      have Hhn := Lib.hid hn; clear hn
      clear hS
      go_wp2
      go_ret
      exact ⟨by rw [Hhn.out]; rfl, HS3.out.bel⟩
end Go.Proofs.Ytjcegbcmomfgaaa
