/-
  The walks over the two checks of an automaton without choices: the program's and the reference's.
  Conditions: the argument reads as lists.
  Small laws for regions that draw their order and only read.
  No condition: this text speaks of no program.
  The walk over the reference's search for a pair in a list.
  Conditions: the list of pairs reads as a list.
  The walk over the program's check of an automaton without choices, and the walk over the reference's search for a pair in a list.
  Conditions: the argument reads as an automaton; a list of pairs reads as a list.
-/
import Derived.Test.YtjcegbcmomfgaaaProg
import Derived.Test.YtjcegbcmomfgaaaGrow
import Derived.Deep.RegionHeld3
import Derived.BigQuiet
namespace Go.Proofs.Ytjcegbcmomfgaaa
open Go.RowKit

def inB (x lo hi : Int) : Bool := decide (lo ≤ x) && decide (x ≤ hi)

set_option maxHeartbeats 400000 in
theorem l1In_any (x lo hi : Int) (w : World) (r : Bool) (hr : inB x lo hi = r) :
    Calls Try.prog 31 #[.int .i64 x, .int .i64 lo, .int .i64 hi] w fun e w' => e = .returned (.bool r) ∧ w = w' := by
  subst hr
  unfold inB
  go_enter Try.func31, Try.ntmps31
  go_wp2
  all_goals (go_ret; exact ⟨by simp [*] <;> omega, rfl⟩)
set_option maxHeartbeats 400000 in
theorem within_any (x lo hi : Int) (w : World) (r : Bool) (hr : inB x lo hi = r) :
    Calls Try.prog 45 #[.int .i64 x, .int .i64 lo, .int .i64 hi] w fun e w' => e = .returned (.bool r) ∧ w = w' := by
  subst hr
  unfold inB
  go_enter Try.func45, Try.ntmps45
  go_wp2
  all_goals (go_ret; exact ⟨by simp [*] <;> omega, rfl⟩)

def rowOk (n : Int) (row : List Int) : Bool := decide (row.length = 3) && row.all fun t => inB t 0 (n - 1)
def dfaOk (next : List (List Int)) (ends : List Bool) : Bool :=
  next.all (rowOk next.length) && inB next.length 1 40 && decide (ends.length = next.length)

theorem dfaOk_bad {next : List (List Int)} {ends : List Bool} {k : Nat} (hk : k < next.length) (h : rowOk next.length (next.getD k []) = false) : dfaOk next ends = false := by
  unfold dfaOk
  have : next.all (rowOk next.length) = false := by
    rw [List.all_eq_false]
    refine ⟨next[k], List.getElem_mem hk, ?_⟩
    simpa [hk] using h
  simp [this]
theorem rowOk_len {n : Int} {row : List Int} (h : row.length ≠ 3) : rowOk n row = false := by simp [rowOk, h]
theorem rowOk_bad {n : Int} {row : List Int} {c : Nat} (hc : c < row.length) (h : inB (row.getD c 0) 0 (n - 1) = false) : rowOk n row = false := by
  unfold rowOk
  have : (row.all fun t => inB t 0 (n - 1)) = false := by
    rw [List.all_eq_false]
    refine ⟨row[c], List.getElem_mem hc, ?_⟩
    simpa [hc] using h
  simp [this]
theorem all_snoc {α : Type} {p : α → Bool} {l : List α} {k : Nat} {d : α} (hk : k < l.length) (h : (l.take k).all p = true) (hp : p (l.getD k d) = true) : (l.take (k + 1)).all p = true := by
  rw [List.take_succ_eq_append_getElem hk, List.all_append, h]
  simpa [hk] using hp

end Go.Proofs.Ytjcegbcmomfgaaa
namespace Go.Proofs.Ytjcegbcmomfgaaa
open Go.RowKit

theorem quiet_eq {P : Program} {f : FuncId} {args : Array Value} {w : World} {n : Nat} {v : Value}
    (h : Calls P f args (w.drewN n) fun e w' => e = .returned v ∧ w.drewN n = w') : Calls P f args (w.drewN n) fun e w'' => e = .returned v ∧ ∃ m, w'' = w.drewN m :=
  h.mono fun _ _ ⟨he, hm⟩ => ⟨he, n, hm.symm⟩
end Go.Proofs.Ytjcegbcmomfgaaa
namespace Go.Proofs.Ytjcegbcmomfgaaa
open Go.RowKit

theorem mem_take_snoc {α : Type} {l : List α} {k : Nat} {d x : α} (hk : k < l.length) (h : ¬ x ∈ l.take k) (hp : l.getD k d ≠ x) : ¬ x ∈ l.take (k + 1) := by
  rw [List.take_succ_eq_append_getElem hk, List.mem_append]
  simp only [List.mem_singleton, not_or]
  exact ⟨h, fun e => hp (by rw [e]; simp [hk])⟩
theorem mem_getD {α : Type} {l : List α} {k : Nat} {d : α} (hk : k < l.length) : l.getD k d ∈ l := by
  simp [hk]

/-- '==' between two structs of two ints. -/
theorem eqFields2 {P : Program} {ti : TypeId} {fs : List Field} (d : Nat) (x1 x2 y1 y2 : Int) (w : World) (hi : P.underlying ti = some (.int .i64))
    (hf : fs.map (fun f => (f.name == "_", f.type, f.offset)) = [(false, ti, 0), (false, ti, 1)]) :
    (Op.eqFields (d + 1) #[.int .i64 x1, .int .i64 x2] #[.int .i64 y1, .int .i64 y2] fs).run P w = .ok (x1 == y1 && x2 == y2) w := by
  obtain ⟨f, g, rfl⟩ : ∃ f g, fs = [f, g] := by
    have hl : fs.length = 2 := by simpa using congrArg List.length hf
    match fs with
    | [] => simp at hl
    | [_] => simp at hl
    | [f, g] => exact ⟨f, g, rfl⟩
    | _ :: _ :: _ :: _ => simp at hl
  simp only [List.map_cons, List.map_nil, List.cons.injEq, Prod.mk.injEq, and_true] at hf
  obtain ⟨⟨f1, f2, f3⟩, g1, g2, g3⟩ := hf
  have f1' : f.name ≠ "_" := by simpa using f1
  have g1' : g.name ≠ "_" := by simpa using g1
  simp only [Op.eqFields, f1', g1', f2, f3, g2, g3, ne_eq, not_false_eq_true, if_true]
  cases h1 : x1 == y1 <;> cases h2 : x2 == y2 <;> simp [go_sem, hi, h1, h2, part, isAgg, run_underlying hi]

end Go.Proofs.Ytjcegbcmomfgaaa
namespace Go.Proofs.Ytjcegbcmomfgaaa
open Go.RowKit

def badT (n t : Int) : Bool := !inB t 0 (n - 1)
/-- The place of the first one with a property; -1 if there is none. -/
def firstIdx {α : Type} (p : α → Bool) (xs : List α) : Int := if xs.any p then (xs.findIdx p : Int) else -1
theorem firstIdx_hit {α : Type} {p : α → Bool} {xs : List α} {k : Nat} {d : α} (hk : k < xs.length) (h : (xs.take k).any p = false) (hp : p (xs.getD k d) = true) : firstIdx p xs = k := by
  have hp' : p xs[k] = true := by simpa [hk] using hp
  have h1 : xs.any p = true := List.any_eq_true.2 ⟨xs[k], List.getElem_mem hk, hp'⟩
  unfold firstIdx
  rw [if_pos h1]
  have : xs.findIdx p = k := by
    rw [List.findIdx_eq hk]
    refine ⟨hp', fun j hj => ?_⟩
    rw [List.any_eq_false] at h
    have := h xs[j] (by rw [List.mem_take_iff_getElem]; exact ⟨j, by omega, rfl⟩)
    simpa using this
  rw [this]
theorem firstIdx_miss {α : Type} {p : α → Bool} {xs : List α} {k : Nat} (hk : xs.length ≤ k) (h : (xs.take k).any p = false) : firstIdx p xs = -1 := by
  rw [List.take_of_length_le hk] at h
  unfold firstIdx
  rw [h]; rfl
theorem firstIdx_any {α : Type} (p : α → Bool) (xs : List α) : decide (0 ≤ firstIdx p xs) = xs.any p := by
  unfold firstIdx
  cases h : xs.any p <;> simp
theorem any_snoc {α : Type} {p : α → Bool} {l : List α} {k : Nat} {d : α} (hk : k < l.length) (h : (l.take k).any p = false) (hp : p (l.getD k d) = false) : (l.take (k + 1)).any p = false := by
  rw [List.take_succ_eq_append_getElem hk, List.any_append, h]
  simpa [hk] using hp

set_option maxHeartbeats 400000 in
theorem dfaValid1_any (x n : Int) (b : Nat) (w : World) (hn : 0 ≤ n ∧ n ≤ 9223372036854775807) (hc : w.cell? ⟨b, 0, none⟩ = some (.int .i64 n)) (r : Bool) (hr : badT n x = r) :
    Calls Try.prog 44 #[.int .i64 x, .pointer (some ⟨b, 0, none⟩)] w fun e w' => e = .returned (.bool r) ∧ w = w' := by
  subst hr
  obtain ⟨h1, h2⟩ := hn
  go_enter Try.func44, Try.ntmps44
  go_wp2_with (go_at_call 45; refine (within_any _ _ _ _ _ rfl).mono ?_; rintro e w' ⟨rfl, rfl⟩)
  go_ret
  exact ⟨rfl, rfl⟩

set_option maxHeartbeats 800000 in
theorem indexFuncDv_any (xs : List Int) (v : Value) (n : Int) (b : Nat) (w : World) (hn : 0 ≤ n ∧ n ≤ 9223372036854775807) (hc : w.cell? ⟨b, 0, none⟩ = some (.int .i64 n)) (h1 : Ints 0 w v xs) :
    Calls Try.prog 68 #[v, .func (.func 44) #[] #[.pointer (some ⟨b, 0, none⟩)]] w fun e w' => e = .returned (.int .i64 (firstIdx (badT n) xs)) ∧ w = w' := by
  obtain ⟨a1, c1, rfl, hc1, hm1, hr1⟩ := h1.form
  clear h1
  go_enter Try.func68, Try.ntmps68
  go_wp2
  go_loop [4, 8] (fun r i => ∃ k : Nat, k ≤ xs.length ∧ i = .int .i64 k ∧ (xs.take k).any (badT n) = false) (fun _ i => xs.length - (intOf i).toNat)
  case atStart => exact ⟨0, Nat.zero_le _, rfl, rfl⟩
  case round =>
    obtain ⟨k, hk, rfl, htk⟩ := hrel
    have Hhtk := Lib.hid htk; clear htk
    by_cases hlt : k < xs.length
    · obtain ⟨b1, o1, rfl, hB1, hbl1, hcs1⟩ := hr1 (by omega)
      have hx1 := hcs1 k hlt
      obtain ⟨x, hxx⟩ : ∃ x, x = xs.getD k 0 := ⟨_, rfl⟩
      rw [← hxx] at hx1
      have Hhxx := Lib.hid hxx; clear hxx
      clear hcs1 hr1
      cases hb : badT n x
      · have Hhb := Lib.hid hb; clear hb
        go_wp2_with (go_at_call 44; refine (dfaValid1_any x n b _ hn hc _ Hhb.out).mono ?_; rintro e w' ⟨rfl, rfl⟩)
        go_round
        case rel => exact ⟨k + 1, by omega, by go_num, any_snoc (d := 0) hlt Hhtk.out (by rw [← Hhxx.out]; exact Hhb.out)⟩
        case measure => simp [intOf]; omega
      · have Hhb := Lib.hid hb; clear hb
        go_wp2_with (go_at_call 44; refine (dfaValid1_any x n b _ hn hc _ Hhb.out).mono ?_; rintro e w' ⟨rfl, rfl⟩)
        go_ret
        exact ⟨ret_int (by rw [firstIdx_hit (d := 0) hlt Hhtk.out (by rw [← Hhxx.out]; exact Hhb.out)]), rfl⟩
    · clear hr1
      go_wp2
      go_ret
      exact ⟨ret_int (by rw [firstIdx_miss (by omega) Hhtk.out]), rfl⟩

set_option maxHeartbeats 800000 in
theorem containsFuncDv_any (xs : List Int) (v : Value) (n : Int) (b : Nat) (w : World) (hn : 0 ≤ n ∧ n ≤ 9223372036854775807) (hc : w.cell? ⟨b, 0, none⟩ = some (.int .i64 n)) (h1 : Ints 0 w v xs) (r : Bool) (hr : xs.any (badT n) = r) :
    Calls Try.prog 43 #[v, .func (.func 44) #[] #[.pointer (some ⟨b, 0, none⟩)]] w fun e w' => e = .returned (.bool r) ∧ w = w' := by
  obtain ⟨a1, c1, hv, -⟩ := h1.form
  have H1 := Lib.hid h1
  subst hv
  clear h1
  have Hhr := Lib.hid hr; clear hr
  go_enter Try.func43, Try.ntmps43
  go_wp2_with (go_at_call 68; refine (indexFuncDv_any xs _ n b _ hn hc H1.out).mono ?_; rintro e w' ⟨rfl, rfl⟩)
  go_ret
  exact ⟨ret_bool (by rw [← Hhr.out, firstIdx_any]), rfl⟩

theorem rowOk_any {n : Int} {row : List Int} (h : row.any (badT n) = true) : rowOk n row = false := by
  unfold rowOk
  have : (row.all fun t => inB t 0 (n - 1)) = false := by
    rw [List.any_eq_true] at h
    obtain ⟨x, hx, hp⟩ := h
    rw [List.all_eq_false]
    exact ⟨x, hx, by simpa [badT] using hp⟩
  simp [this]
theorem rowOk_yes {n : Int} {row : List Int} (hl : row.length = 3) (h : row.any (badT n) = false) : rowOk n row = true := by
  unfold rowOk
  rw [List.any_eq_false] at h
  simp only [hl, decide_true, Bool.true_and, List.all_eq_true]
  intro x hx
  have := h x hx
  simpa [badT] using this

set_option maxHeartbeats 1600000 in
theorem implDfaValid_any (d : DfaD) (v : Value) (w : World) (h : DfaR 0 w v d) (r : Bool) (hr : dfaOk d.next d.ends = r) :
    Calls Try.prog 21 #[v] w fun e w' => e = .returned (.bool r) ∧ Below w.heap.size w w' := by
  obtain ⟨next, ends⟩ := d
  obtain ⟨v1, v2, rfl, h1, h2⟩ := h
  simp only at h1 h2 hr
  obtain ⟨a1, c1, rfl, hc1, hm1, hr1⟩ := h1.formI
  obtain ⟨a2, c2, rfl, hc2, hm2, hr2⟩ := h2.form
  have Hr := Lib.hid hr
  clear h1 h2 hr hr2
  go_enter Try.func21, Try.ntmps21
  go_wp2
  go_loopw [2, 12] (fun r i wr => ∃ k : Nat, k ≤ next.length ∧ i = .int .i64 k ∧ (next.take k).all (rowOk next.length) = true ∧ Below (w.heap.size + 2) ((w.alloc (.cells #[.slice a1 next.length c1, .slice a2 ends.length c2] 33)).alloc (.cells #[.int .i64 next.length] 3)) wr)
    (fun _ i _ => next.length - (intOf i).toNat)
  case atStart => exact ⟨0, Nat.zero_le _, rfl, rfl, Below.refl _ _⟩
  case round =>
    obtain ⟨k, hk, rfl, hall, hb⟩ := hrel
    have hend : Below w.heap.size w wr := (((Below.refl _ _).alloc (Nat.le_refl _) _).alloc (by simp) _).trans (hb.mono (by omega))
    have x0 := ((Bx.new w _ _).alloc _).below hb (by omega)
    have x1 := (Bx.new (w.alloc _) _ _).below hb (by simp)
    have hx0 := x0.cell 0
    have hx2 := x0.cell 1
    have hx1 := x1.cell 0
    simp only [List.getElem?_toArray, List.getElem?_cons_zero, List.getElem?_cons_succ, World.size_alloc] at hx0 hx1 hx2
    have Hend := Lib.hid hend
    clear hend x0 x1
    by_cases hlt : k < next.length
    · obtain ⟨b, off, rfl, hB, hbl, hcs⟩ := hr1 (by omega)
      obtain ⟨row, hrw⟩ : ∃ row, row = next.getD k [] := ⟨_, rfl⟩
      have hcsk := hcs k hlt
      rw [← hrw] at hcsk
      have Hhrw := Lib.hid hrw; clear hrw
      obtain ⟨a', cap', hcell, hcc, hcm, hrow⟩ := hcsk
      have hx3 := (bcell Hend.out b (off + k) hbl).trans hcell
      have Hrow := Lib.hid (hrow.below Hend.out)
      have Hhall := Lib.hid hall; clear hall
      have Hhb := Lib.hid hb; clear hb
      clear hcs hr1 hcell hrow
      by_cases hlen : row.length = 3
      · have hl3 : ((row.length : Int) != 3) = false := by rw [hlen]; rfl
        have Hhlen := Lib.hid hlen; clear hlen
        cases hany : row.any (badT next.length)
        · have Hhany := Lib.hid hany; clear hany
          go_wp2_with (go_at_call 43; refine (containsFuncDv_any row _ next.length _ _ (by omega) hx1 Hrow.out _ Hhany.out).mono ?_; rintro e w' ⟨rfl, rfl⟩)
          go_roundw
          case rel => exact ⟨k + 1, by omega, by go_num, all_snoc (d := []) hlt Hhall.out (by rw [← Hhrw.out]; exact rowOk_yes Hhlen.out Hhany.out), Hhb.out⟩
          case measure => simp [intOf]; omega
        · have Hhany := Lib.hid hany; clear hany
          go_wp2_with (go_at_call 43; refine (containsFuncDv_any row _ next.length _ _ (by omega) hx1 Hrow.out _ Hhany.out).mono ?_; rintro e w' ⟨rfl, rfl⟩)
          go_ret
          exact ⟨by rw [← Hr.out, dfaOk_bad hlt (by rw [← Hhrw.out]; exact rowOk_any Hhany.out)]; rfl, Hend.out⟩
      · have hl3 : ((row.length : Int) != 3) = true := by rw [bne_iff_ne]; omega
        have Hhlen := Lib.hid hlen; clear hlen
        go_wp2
        go_ret
        exact ⟨by rw [← Hr.out, dfaOk_bad hlt (by rw [← Hhrw.out]; exact rowOk_len Hhlen.out)]; rfl, Hend.out⟩
    · have hfin : dfaOk next ends = (inB next.length 1 40 && decide (ends.length = next.length)) := by
        have h3 := hall
        rw [List.take_of_length_le (by omega)] at h3
        simp [dfaOk, h3]
      have Hhfin := Lib.hid hfin; clear hfin
      have Hhb := Lib.hid hb; clear hb
      clear hall hr1
      cases hin : inB next.length 1 40
      · have Hhin := Lib.hid hin; clear hin
        go_wp2_with (go_at_call 45; refine (within_any _ _ _ _ _ Hhin.out).mono ?_; rintro e w' ⟨rfl, rfl⟩)
        go_ret
        exact ⟨by rw [← Hr.out, Hhfin.out, Hhin.out]; rfl, Hend.out⟩
      · have Hhin := Lib.hid hin; clear hin
        go_wp2_with (go_at_call 45; refine (within_any _ _ _ _ _ Hhin.out).mono ?_; rintro e w' ⟨rfl, rfl⟩)
        go_ret
        exact ⟨ret_bool (by rw [← Hr.out, Hhfin.out, Hhin.out, beq_len]; rfl), Hend.out⟩

end Go.Proofs.Ytjcegbcmomfgaaa
