/-
  The plain meaning of 'pairs prove that two automata are alike', and the walk over the reference's CheckPairs.
  Conditions: the arguments read as automata and as a list of pairs.
-/
import Derived.Test.YthigcohfjoodlaaDvi
namespace Go.Proofs.Ythigcohfjoodlaa
open Go.RowKit

/-- The pair of the next states. -/
def stepP (a b : DfaD) (p : Int × Int) (c : Nat) : Int × Int := ((a.next.getD p.1.toNat []).getD c 0, (b.next.getD p.2.toNat []).getD c 0)
def inPair (a b : DfaD) (p : Int × Int) : Bool := inB p.1 0 ((a.next.length : Int) - 1) && inB p.2 0 ((b.next.length : Int) - 1)
def endsPair (a b : DfaD) (p : Int × Int) : Bool := a.ends.getD p.1.toNat false == b.ends.getD p.2.toNat false
def nextPair (a b : DfaD) (ps : List (Int × Int)) (p : Int × Int) : Bool := (List.range 3).all fun c => decide (stepP a b p c ∈ ps)
def pairOk (a b : DfaD) (ps : List (Int × Int)) (p : Int × Int) : Bool := inPair a b p && endsPair a b p && nextPair a b ps p
def provesB (a b : DfaD) (ps : List (Int × Int)) : Bool := decide (ps.length ≤ 1600) && ps.all (pairOk a b ps) && decide ((0, 0) ∈ ps)
def checkB (a b : DfaD) (ps : List (Int × Int)) : Bool := dfaOk a.next a.ends && dfaOk b.next b.ends && provesB a b ps

theorem provesB_bad {a b : DfaD} {ps : List (Int × Int)} {k : Nat} (hk : k < ps.length) (h : pairOk a b ps (ps.getD k (0, 0)) = false) : provesB a b ps = false := by
  unfold provesB
  have : ps.all (pairOk a b ps) = false := by
    rw [List.all_eq_false]
    exact ⟨_, mem_getD (d := (0, 0)) hk, by rw [h]; simp⟩
  simp [this]
theorem pairOk_in {a b : DfaD} {ps : List (Int × Int)} {p : Int × Int} (h : inPair a b p = false) : pairOk a b ps p = false := by simp [pairOk, h]
theorem pairOk_ends {a b : DfaD} {ps : List (Int × Int)} {p : Int × Int} (h : endsPair a b p = false) : pairOk a b ps p = false := by simp [pairOk, h]
theorem pairOk_next {a b : DfaD} {ps : List (Int × Int)} {p : Int × Int} {c : Nat} (hc : c < 3) (h : decide (stepP a b p c ∈ ps) = false) : pairOk a b ps p = false := by
  unfold pairOk nextPair
  have : ((List.range 3).all fun c => decide (stepP a b p c ∈ ps)) = false := by
    rw [List.all_eq_false]
    exact ⟨c, List.mem_range.2 hc, by rw [h]; simp⟩
  simp [this]
theorem inB_false_left {x lo hi : Int} (h : x < lo) : inB x lo hi = false := by simp [inB]; omega
theorem inB_true {x lo hi : Int} (h : inB x lo hi = true) : lo ≤ x ∧ x ≤ hi := by simpa [inB] using h

/-- What validity says of a row of an automaton. -/
theorem dfaOk_row {next : List (List Int)} {ends : List Bool} (h : dfaOk next ends = true) {i : Nat} (hi : i < next.length) :
    (next.getD i []).length = 3 ∧ ∀ c, c < 3 → 0 ≤ (next.getD i []).getD c 0 ∧ (next.getD i []).getD c 0 < next.length := by
  simp only [dfaOk, Bool.and_eq_true, List.all_eq_true] at h
  have hr := h.1.1 _ (mem_getD (d := []) hi)
  simp only [rowOk, Bool.and_eq_true, decide_eq_true_eq, List.all_eq_true] at hr
  refine ⟨hr.1, fun c hc => ?_⟩
  have := inB_true (hr.2 _ (mem_getD (d := 0) (show c < (next.getD i []).length by omega)))
  omega
theorem dfaOk_len {next : List (List Int)} {ends : List Bool} (h : dfaOk next ends = true) : 1 ≤ next.length ∧ next.length ≤ 40 ∧ ends.length = next.length := by
  simp only [dfaOk, Bool.and_eq_true, decide_eq_true_eq] at h
  have := inB_true h.1.2
  omega


/-- The rest of the reference's check, behind the checks of the automata. -/
theorem below_two {w w' : World} {o1 o2 : Obj} {B : Nat} (hb : Below B ((w.alloc o1).alloc o2) w') (hB : w.heap.size ≤ B) : Below w.heap.size w w' :=
  (((Below.refl _ _).alloc (Nat.le_refl _) _).alloc (by simp) _).trans (hb.mono hB)

set_option maxRecDepth 100000 in
set_option maxHeartbeats 4000000 in
theorem specCheckPairs_any (a b : DfaD) (ps : List (Int × Int)) (v1 v2 v3 : Value) (w : World) (h1 : DfaR 0 w v1 a) (h2 : DfaR 0 w v2 b) (h3 : Pairs 0 w v3 ps) (r : Bool) (hr : checkB a b ps = r) :
    Calls Try.prog 17 #[v1, v2, v3] w fun e w' => e = .returned (.bool r) ∧ Below w.heap.size w w' := by
  obtain ⟨u1, u2, rfl, g1, g2⟩ := h1
  obtain ⟨u3, u4, rfl, g3, g4⟩ := h2
  have H1 : Hid (DfaR 0 ((w.alloc (.cells #[u1, u2] 30)).alloc (.cells #[u3, u4] 30)) (.agg #[u1, u2]) a) := Lib.hid (DfaR.below ⟨_, _, rfl, g1, g2⟩ (((Below.refl _ _).alloc (Nat.le_refl _) _).alloc (by simp) _))
  have H2 : Hid (DfaR 0 w (.agg #[u3, u4]) b) := Lib.hid ⟨_, _, rfl, g3, g4⟩
  have H3 := Lib.hid h3
  obtain ⟨a1, c1, rfl, hc1, hm1, hr1⟩ := g1.formI
  obtain ⟨a2, c2, rfl, hc2, hm2, hr2⟩ := g2.form
  obtain ⟨a3, c3, rfl, hc3, hm3, hr3⟩ := g3.formI
  obtain ⟨a4, c4, rfl, hc4, hm4, hr4⟩ := g4.form
  obtain ⟨a5, c5, rfl, hc5, hm5, hr5⟩ := h3.form
  clear g1 g2 g3 g4 h3
  have Hhr := Lib.hid hr; clear hr
  have Hhr1 := Lib.hid hr1; clear hr1
  have Hhr2 := Lib.hid hr2; clear hr2
  have Hhr3 := Lib.hid hr3; clear hr3
  have Hhr4 := Lib.hid hr4; clear hr4
  have Hhr5 := Lib.hid hr5; clear hr5
  cases hda : dfaOk a.next a.ends
  · have Hhda := Lib.hid hda; clear hda
    go_enter Try.func17, Try.ntmps17
    go_wp2_with fail
    refine (specDfaValid_d a _ _ H1.out _ Hhda.out).mono ?_
    rintro e w1 ⟨rfl, hb1⟩
    have Hhb1 := Lib.hid hb1; clear hb1
    go_wp2
    go_ret
    exact ⟨by rw [← Hhr.out, checkB, Hhda.out]; rfl, below_two Hhb1.out (by simp; omega)⟩
  · have Hrow1 := Lib.hid (fun i hi => dfaOk_row hda (i := i) hi)
    have hla := dfaOk_len hda
    have Hhda := Lib.hid hda; clear hda
    have Hhla := Lib.hid hla; clear hla
    go_enter Try.func17, Try.ntmps17
    go_wp2_with fail
    refine (specDfaValid_d a _ _ H1.out _ Hhda.out).mono ?_
    rintro e w1 ⟨rfl, hb1⟩
    have x1 := (Bx.new (w.alloc _) _ _).below hb1 (by simp)
    have e0 := x1.cell 0
    have e1 := x1.cell 1
    simp only [List.getElem?_toArray, List.getElem?_cons_zero, List.getElem?_cons_succ, World.size_alloc] at e0 e1
    have H2' := Lib.hid (H2.out.below (below_two hb1 (by simp; omega)))
    have Hhb1 := Lib.hid hb1; clear hb1
    clear x1
    cases hdb : dfaOk b.next b.ends
    · have Hhdb := Lib.hid hdb; clear hdb
      go_wp2_with fail
      refine (specDfaValid_d b _ _ H2'.out _ Hhdb.out).mono ?_
      rintro e w2 ⟨rfl, hb2⟩
      have Hhb2 := Lib.hid hb2; clear hb2
      go_wp2
      go_ret
      exact ⟨by rw [← Hhr.out, checkB, Hhda.out, Hhdb.out]; rfl, (below_two Hhb1.out (by simp; omega)).trans (Hhb2.out.mono (below_two Hhb1.out (by simp; omega)).size)⟩
    · have Hrow2 := Lib.hid (fun i hi => dfaOk_row hdb (i := i) hi)
      have hlb := dfaOk_len hdb
      have hchk : checkB a b ps = provesB a b ps := by rw [checkB, Hhda.out, hdb]; rfl
      have Hhchk := Lib.hid hchk; clear hchk
      have Hhdb := Lib.hid hdb; clear hdb
      have Hhlb := Lib.hid hlb; clear hlb
      go_wp2_with fail
      refine (specDfaValid_d b _ _ H2'.out _ Hhdb.out).mono ?_
      rintro e w2 ⟨rfl, hb2⟩
      have hbb := (Hhb1.out.mono (B' := w.heap.size + 2) (by simp)).trans (hb2.mono (by have := Hhb1.out.size; simpa using this))
      have Hhb2 := Lib.hid hb2; clear hb2
      have Hhbb := Lib.hid hbb; clear hbb
      clear e0 e1
      by_cases hlen : ps.length ≤ 1600
      · have Hlen := Lib.hid hlen
        go_wp2
        go_loopw [6, 7] (fun r i wr => ∃ k : Nat, k ≤ ps.length ∧ i = .int .i64 k ∧ (ps.take k).all (pairOk a b ps) = true ∧ Below (w.heap.size + 2) ((w.alloc (.cells #[.slice a1 a.next.length c1, .slice a2 a.ends.length c2] 30)).alloc (.cells #[.slice a3 b.next.length c3, .slice a4 b.ends.length c4] 30)) wr) (fun _ i _ => ps.length - (intOf i).toNat)
        case atStart => exact ⟨0, Nat.zero_le _, rfl, rfl, Hhbb.out⟩
        case round =>
          obtain ⟨k, hk, rfl, hall, hb⟩ := hrel
          have hend := below_two hb (by omega)
          have hsz := hb.size
          simp only [World.size_alloc] at hsz
          have x0 := ((Bx.new w _ _).alloc _).below hb (by omega)
          have x1 := (Bx.new (w.alloc _) _ _).below hb (by simp)
          have b0 := x0.cell 0
          have b1 := x0.cell 1
          have b2 := x1.cell 0
          have b3 := x1.cell 1
          simp only [List.getElem?_toArray, List.getElem?_cons_zero, List.getElem?_cons_succ, World.size_alloc] at b0 b1 b2 b3
          have hs0 : w.heap.size < wr.heap.size := by omega
          have hs1 : w.heap.size + 1 < wr.heap.size := by omega
          have Hhall := Lib.hid hall; clear hall
          have Hhb := Lib.hid hb; clear hb
          have Hhend := Lib.hid hend; clear hend
          clear x0 x1
          by_cases hlt : k < ps.length
          · obtain ⟨q5, o5, rfl, hB5, hbl5, hcs5⟩ := Hhr5.out (by omega)
            have p1 := (bcell Hhend.out q5 (o5 + k * 2) hbl5).trans (hcs5 k hlt).1
            have p2 := (bcell Hhend.out q5 (o5 + k * 2 + 1) hbl5).trans (hcs5 k hlt).2
            obtain ⟨x, hxx⟩ : ∃ x, x = ps.getD k (0, 0) := ⟨_, rfl⟩
            rw [← hxx] at p1 p2
            obtain ⟨x1, x2⟩ := x
            have Hhxx := Lib.hid hxx; clear hxx
            simp only at p1 p2
            clear hcs5
            have hwa : IntKind.i64.wrap ((a.next.length : Int) - 1) = (a.next.length : Int) - 1 := IntWalk.i64_in _ (by have := Hhla.out; omega)
            have hwb : IntKind.i64.wrap ((b.next.length : Int) - 1) = (b.next.length : Int) - 1 := IntWalk.i64_in _ (by have := Hhlb.out; omega)
            cases hin1 : inB x1 0 ((a.next.length : Int) - 1)
            · have Hhin1 := Lib.hid hin1; clear hin1
              go_wp2
              go_quiet (((go_at_call 77; with_reducible exact quiet_eq (l1In_any _ _ _ _ _ Hhin1.out))))
              go_wp2
              go_ret
              exact ⟨by rw [← Hhr.out, Hhchk.out, provesB_bad hlt (by rw [← Hhxx.out]; exact pairOk_in (by simp [inPair, Hhin1.out]))]; rfl, below_drewN (Hhend.out.alloc (by omega) _) _⟩
            · cases hin2 : inB x2 0 ((b.next.length : Int) - 1)
              · have Hhin1 := Lib.hid hin1; clear hin1
                have Hhin2 := Lib.hid hin2; clear hin2
                go_wp2
                go_quiet ((first | (go_at_call 77; with_reducible exact quiet_eq (l1In_any _ _ _ _ _ Hhin1.out)) | (go_at_call 77; with_reducible exact quiet_eq (l1In_any _ _ _ _ _ Hhin2.out))))
                go_wp2
                go_ret
                exact ⟨by rw [← Hhr.out, Hhchk.out, provesB_bad hlt (by rw [← Hhxx.out]; exact pairOk_in (by simp [inPair, Hhin2.out]))]; rfl, below_drewN (Hhend.out.alloc (by omega) _) _⟩
              · obtain ⟨hi1, hi2⟩ := inB_true hin1
                obtain ⟨hj1, hj2⟩ := inB_true hin2
                obtain ⟨i, rfl⟩ := Int.eq_ofNat_of_zero_le hi1
                obtain ⟨j, rfl⟩ := Int.eq_ofNat_of_zero_le hj1
                have hia : i < a.next.length := by omega
                have hjb : j < b.next.length := by omega
                have hie : (i : Int) < a.ends.length := by have := Hhla.out; omega
                have hje : (j : Int) < b.ends.length := by have := Hhlb.out; omega
                have hinp : inPair a b ((i : Int), (j : Int)) = true := by simp [inPair, hin1, hin2]
                obtain ⟨q2, o2, rfl, hB2, hbl2, hcs2⟩ := Hhr2.out (by omega)
                obtain ⟨q4, o4, rfl, hB4, hbl4, hcs4⟩ := Hhr4.out (by omega)
                have ea0 := (bcell Hhend.out q2 (o2 + i) hbl2).trans (hcs2 i (by omega))
                have eb0 := (bcell Hhend.out q4 (o4 + j) hbl4).trans (hcs4 j (by omega))
                obtain ⟨ea, hea⟩ : ∃ ea, ea = a.ends.getD i false := ⟨_, rfl⟩
                obtain ⟨eb, heb⟩ : ∃ eb, eb = b.ends.getD j false := ⟨_, rfl⟩
                rw [← hea] at ea0
                rw [← heb] at eb0
                have hq2 : q2 < wr.heap.size := by omega
                have hq4 : q4 < wr.heap.size := by omega
                have Hhin1 := Lib.hid hin1; clear hin1
                have Hhin2 := Lib.hid hin2; clear hin2
                have Hhea := Lib.hid hea; clear hea
                have Hheb := Lib.hid heb; clear heb
                have Hhinp := Lib.hid hinp; clear hinp
                clear hi1 hi2 hj1 hj2 hcs2 hcs4
                by_cases hee : ea = eb
                · have g1 : (ea != eb) = false := by simpa using hee
                  have g2 : (!(ea == eb)) = false := by simpa using hee
                  have Hhee := Lib.hid hee; clear hee
                  go_wp2
                  go_quiet ((first | (go_at_call 77; with_reducible exact quiet_eq (l1In_any _ _ _ _ _ Hhin1.out)) | (go_at_call 77; with_reducible exact quiet_eq (l1In_any _ _ _ _ _ Hhin2.out))))
                  go_wp2
                  obtain ⟨wo, hwo⟩ : ∃ wo : World, wo = wr := ⟨_, rfl⟩
                  subst hwo
                  clear p1 p2 b0 b1 b2 b3 ea0 eb0
                  go_loopw [6, 9] (fun r c wi => ∃ n : Nat, n ≤ 3 ∧ c = .int .i64 n ∧ ((List.range n).all fun c => decide (stepP a b ((i : Int), (j : Int)) c ∈ ps)) = true ∧ Below (wo.heap.size + 1) ((wo.alloc (.cells #[.int .i64 i, .int .i64 j] 88)).drewN nq) wi) (fun _ c _ => 3 - (intOf c).toNat)
                  case atStart => exact ⟨0, by omega, rfl, rfl, Below.refl _ _⟩
                  case round =>
                    obtain ⟨n, hn, rfl, hall', hbi⟩ := hrel
                    have hW : Below wo.heap.size wo wr := (below_drewN ((Below.refl _ _).alloc (Nat.le_refl _) _) _).trans (hbi.mono (by omega))
                    have hsz3 := hbi.size
                    have hsz4 : wo.heap.size + 1 ≤ wr.heap.size := by simpa using hsz3
                    have hall0 : Below (w.heap.size + 2) ((w.alloc (.cells #[.slice a1 a.next.length c1, .slice (some ⟨q2, o2, none⟩) a.ends.length c2] 30)).alloc (.cells #[.slice a3 b.next.length c3, .slice (some ⟨q4, o4, none⟩) b.ends.length c4] 30)) wr := Hhb.out.trans (hW.mono (by omega))
                    have y0 := (((Bx.new w _ _).alloc _).below hall0 (by omega)).cell 0
                    have y1 := ((Bx.new (w.alloc _) _ _).below hall0 (by simp)).cell 0
                    have y2 := (show Bx ((wo.alloc (.cells #[.int .i64 i, .int .i64 j] 88)).drewN nq) wo.heap.size _ _ from Bx.new wo _ _).below hbi (by omega)
                    have y3 := y2.cell 0
                    have y4 := y2.cell 1
                    simp only [List.getElem?_toArray, List.getElem?_cons_zero, List.getElem?_cons_succ, World.size_alloc] at y0 y1 y3 y4
                    have hendi : Below w.heap.size w wr := Hhend.out.trans (hW.mono Hhend.out.size)
                    have Hhall' := Lib.hid hall'; clear hall'
                    have Hhbi := Lib.hid hbi; clear hbi
                    have HhW := Lib.hid hW; clear hW
                    have Hhendi := Lib.hid hendi; clear hendi
                    have Hhall0 := Lib.hid hall0; clear hall0
                    clear y2 hsz3
                    by_cases hn3 : n < 3
                    · obtain ⟨q1, o1, rfl, hB1, hbl1, hcs1⟩ := Hhr1.out (by omega)
                      obtain ⟨q3, o3, rfl, hB3, hbl3, hcs3⟩ := Hhr3.out (by omega)
                      obtain ⟨r1, s1, hc1', hl1', hm1', hI1⟩ := hcs1 i hia
                      obtain ⟨r3, s3, hc3', hl3', hm3', hI3⟩ := hcs3 j hjb
                      obtain ⟨hL1, hT1⟩ := Hrow1.out i hia
                      obtain ⟨hL3, hT3⟩ := Hrow2.out j hjb
                      obtain ⟨ra, hra⟩ : ∃ ra, ra = a.next.getD i [] := ⟨_, rfl⟩
                      obtain ⟨rb, hrb⟩ : ∃ rb, rb = b.next.getD j [] := ⟨_, rfl⟩
                      rw [← hra] at hc1' hl1' hI1 hL1 hT1
                      rw [← hrb] at hc3' hl3' hI3 hL3 hT3
                      obtain ⟨_, _, he1, -, -, hf1⟩ := hI1.form
                      obtain ⟨_, _, he3, -, -, hf3⟩ := hI3.form
                      simp only [Value.slice.injEq, true_and] at he1 he3
                      obtain ⟨rfl, rfl⟩ := he1
                      obtain ⟨rfl, rfl⟩ := he3
                      obtain ⟨z1, t1, rfl, -, hz1, hg1⟩ := hf1 (by omega)
                      obtain ⟨z3, t3, rfl, -, hz3, hg3⟩ := hf3 (by omega)
                      have k1 := (bcell Hhendi.out q1 (o1 + i) hbl1).trans hc1'
                      have k3 := (bcell Hhendi.out q3 (o3 + j) hbl3).trans hc3'
                      have k2 := (bcell Hhendi.out z1 (t1 + n) hz1).trans (hg1 n (by omega))
                      have k4 := (bcell Hhendi.out z3 (t3 + n) hz3).trans (hg3 n (by omega))
                      obtain ⟨ta, hta⟩ : ∃ ta, ta = ra.getD n 0 := ⟨_, rfl⟩
                      obtain ⟨tb, htb⟩ : ∃ tb, tb = rb.getD n 0 := ⟨_, rfl⟩
                      rw [← hta] at k2
                      rw [← htb] at k4
                      have hiA : (i : Int) < a.next.length := by omega
                      have hjB : (j : Int) < b.next.length := by omega
                      have hnA : (n : Int) < ra.length := by omega
                      have hnB : (n : Int) < rb.length := by omega
                      have hstep : stepP a b ((i : Int), (j : Int)) n = (ta, tb) := by
                        simp only [stepP, Int.toNat_natCast, ← hra, ← hrb, ← hta, ← htb]
                      have d1 : w.heap.size < wr.heap.size := by omega
                      have d2 : w.heap.size + 1 < wr.heap.size := by omega
                      have d3 : wo.heap.size < wr.heap.size := by omega
                      have d4 : q1 < wr.heap.size := by omega
                      have d5 : q3 < wr.heap.size := by omega
                      have d6 : z1 < wr.heap.size := by omega
                      have d7 : z3 < wr.heap.size := by omega
                      have Hhra := Lib.hid hra; clear hra
                      have Hhrb := Lib.hid hrb; clear hrb
                      have Hhta := Lib.hid hta; clear hta
                      have Hhtb := Lib.hid htb; clear htb
                      have Hhstep := Lib.hid hstep; clear hstep
                      have Hkeep := Lib.hid (fun (w' : World) (h : Below wr.drew.heap.size wr.drew w') => (show w'.cell? ⟨w.heap.size, 0, none⟩ = some (.slice (some ⟨q1, o1, none⟩) a.next.length c1) ∧ w'.cell? ⟨w.heap.size + 1, 0, none⟩ = some (.slice (some ⟨q3, o3, none⟩) b.next.length c3) ∧ w'.cell? ⟨wo.heap.size, 0, none⟩ = some (.int .i64 i) ∧ w'.cell? ⟨wo.heap.size, 1, none⟩ = some (.int .i64 j) ∧ w'.cell? ⟨q1, o1 + i, none⟩ = some (.slice (some ⟨z1, t1, none⟩) ra.length s1) ∧ w'.cell? ⟨q3, o3 + j, none⟩ = some (.slice (some ⟨z3, t3, none⟩) rb.length s3) ∧ w'.cell? ⟨z1, t1 + n, none⟩ = some (.int .i64 ta) ∧ w'.cell? ⟨z3, t3 + n, none⟩ = some (.int .i64 tb) from ⟨(bcell h _ _ d1).trans y0, (bcell h _ _ d2).trans y1, (bcell h _ _ d3).trans y3, (bcell h _ _ d3).trans y4, (bcell h _ _ d4).trans k1, (bcell h _ _ d5).trans k3, (bcell h _ _ d6).trans k2, (bcell h _ _ d7).trans k4⟩))
                      clear hcs1 hcs3 hf1 hf3 hg1 hg3 hc1' hc3' hI1 hI3 hL1 hL3 hT1 hT3
                      cases hmem : decide ((ta, tb) ∈ ps)
                      all_goals
                        have Hhmem := Lib.hid hmem; clear hmem
                        go_wp2
                        go_region_held3 (fun w' => w'.cell? ⟨w.heap.size, 0, none⟩ = some (.slice (some ⟨q1, o1, none⟩) a.next.length c1) ∧ w'.cell? ⟨w.heap.size + 1, 0, none⟩ = some (.slice (some ⟨q3, o3, none⟩) b.next.length c3) ∧ w'.cell? ⟨wo.heap.size, 0, none⟩ = some (.int .i64 i) ∧ w'.cell? ⟨wo.heap.size, 1, none⟩ = some (.int .i64 j) ∧ w'.cell? ⟨q1, o1 + i, none⟩ = some (.slice (some ⟨z1, t1, none⟩) ra.length s1) ∧ w'.cell? ⟨q3, o3 + j, none⟩ = some (.slice (some ⟨z3, t3, none⟩) rb.length s3) ∧ w'.cell? ⟨z1, t1 + n, none⟩ = some (.int .i64 ta) ∧ w'.cell? ⟨z3, t3 + n, none⟩ = some (.int .i64 tb))
                          (first | go_keep | exact Hkeep.out _ hb4)
                          (first | (go_at_call 78; refine (l24Has_any ps (ta, tb) _ _ (H3.out.below Hhendi.out.drew) _ Hhmem.out).mono ?_; rintro e w4 ⟨rfl, hb4⟩))
                        go_wp2
                      · go_ret
                        exact ⟨by rw [← Hhr.out, Hhchk.out, provesB_bad hlt (by rw [← Hhxx.out]; exact pairOk_next hn3 (by rw [Hhstep.out]; exact Hhmem.out))]; rfl, Hhendi.out.drew.trans (hb4.mono Hhendi.out.size)⟩
                      · go_roundw
                        case rel => exact ⟨n + 1, by omega, by go_num, by rw [List.range_succ, List.all_append, Hhall'.out]; simp only [List.all_cons, List.all_nil, Bool.and_true, Bool.true_and]; rw [Hhstep.out]; exact Hhmem.out, Hhbi.out.drew.trans (hb4.mono (by simpa using hsz4))⟩
                        case measure => simp [intOf]; omega
                    · obtain rfl : n = 3 := by omega
                      go_wp2
                      go_roundw
                      case rel =>
                        have hok : pairOk a b ps (ps.getD k (0, 0)) = true := by
                          rw [← Hhxx.out]
                          have hends : endsPair a b ((i : Int), (j : Int)) = true := by
                            simp [endsPair, -List.getD_eq_getElem?_getD, ← Hhea.out, ← Hheb.out, Hhee.out]
                          unfold pairOk nextPair
                          rw [Hhinp.out, hends, Hhall'.out]
                          rfl
                        exact ⟨k + 1, by omega, by go_num, all_snoc (d := (0, 0)) hlt Hhall.out hok, Hhall0.out⟩
                      case measure => simp [intOf]; omega
                · have g1 : (ea != eb) = true := by simpa using hee
                  have g2 : (!(ea == eb)) = true := by simpa using hee
                  have Hhee := Lib.hid hee; clear hee
                  go_wp2
                  go_quiet ((first | (go_at_call 77; with_reducible exact quiet_eq (l1In_any _ _ _ _ _ Hhin1.out)) | (go_at_call 77; with_reducible exact quiet_eq (l1In_any _ _ _ _ _ Hhin2.out))))
                  go_wp2
                  go_ret
                  exact ⟨by rw [← Hhr.out, Hhchk.out, provesB_bad hlt (by rw [← Hhxx.out]; exact pairOk_ends (by simp [endsPair, -List.getD_eq_getElem?_getD, ← Hhea.out, ← Hheb.out, Hhee.out]))]; rfl, below_drewN (Hhend.out.alloc (by omega) _) _⟩
          · have hfin : provesB a b ps = decide ((0, 0) ∈ ps) := by
              have h3 := Hhall.out
              rw [List.take_of_length_le (by omega)] at h3
              simp [provesB, h3, Hlen.out]
            have Hhfin := Lib.hid hfin; clear hfin
            cases hz : decide ((0, 0) ∈ ps)
            all_goals
              have Hhz := Lib.hid hz; clear hz
              go_wp2_with fail
              refine (l24Has_any ps (0, 0) _ _ (H3.out.below Hhend.out) _ Hhz.out).mono ?_
              rintro e w3 ⟨rfl, hb3⟩
              have Hhb3 := Lib.hid hb3; clear hb3
              go_wp2
              go_ret
              exact ⟨by rw [← Hhr.out, Hhchk.out, Hhfin.out, Hhz.out]; rfl, Hhend.out.trans (Hhb3.out.mono Hhend.out.size)⟩
      · go_wp2
        go_ret
        exact ⟨by rw [← Hhr.out, Hhchk.out, provesB, decide_eq_false hlen]; rfl, below_two Hhbb.out (by omega)⟩
end Go.Proofs.Ythigcohfjoodlaa
