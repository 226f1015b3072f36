/-
  The plain meaning of 'pairs prove that two automata are alike', and the walk over the reference's CheckPairs.
  Conditions: the arguments read as automata and as a list of pairs.
-/
import Derived.Test.YthhbjkgchabfmaaPk03Det
namespace Go.Proofs.Ythhbjkgchabfmaa
open Go.RowKit
def stepP (a b : DfaD) (p : Int × Int) (c : Nat) : Int × Int := ((a.next.getD p.1.toNat []).getD c 0, (b.next.getD p.2.toNat []).getD c 0)
def inPair (a b : DfaD) (p : Int × Int) : Bool := inB p.1 0 ((a.next.length : Int) - 1) && inB p.2 0 ((b.next.length : Int) - 1)
def endsPair (a b : DfaD) (p : Int × Int) : Bool := a.ends.getD p.1.toNat false == b.ends.getD p.2.toNat false
def nextPair (a b : DfaD) (ps : List (Int × Int)) (p : Int × Int) : Bool := (List.range 3).all fun c => decide (stepP a b p c ∈ ps)
def pairOk (a b : DfaD) (ps : List (Int × Int)) (p : Int × Int) : Bool := inPair a b p && endsPair a b p && nextPair a b ps p
def provesB (a b : DfaD) (ps : List (Int × Int)) : Bool := decide (ps.length ≤ 1600) && ps.all (pairOk a b ps) && decide ((0, 0) ∈ ps)
def checkB (a b : DfaD) (ps : List (Int × Int)) : Bool := dfaOk a.next a.ends && dfaOk b.next b.ends && provesB a b ps
theorem provesB_bad {a b : DfaD} {ps : List (Int × Int)} {k : Nat} (hk : k < ps.length) (h : pairOk a b ps (ps.getD k (0, 0)) = false) : provesB a b ps = false := by
  unfold provesB
  have : ps.all (pairOk a b ps) = false := by
    rw [List.all_eq_false]
    exact ⟨_, mem_getD (d := (0, 0)) hk, by rw [h]; simp⟩
  simp [this]
theorem pairOk_in {a b : DfaD} {ps : List (Int × Int)} {p : Int × Int} (h : inPair a b p = false) : pairOk a b ps p = false := by simp [pairOk, h]
theorem pairOk_ends {a b : DfaD} {ps : List (Int × Int)} {p : Int × Int} (h : endsPair a b p = false) : pairOk a b ps p = false := by simp [pairOk, h]
theorem pairOk_next {a b : DfaD} {ps : List (Int × Int)} {p : Int × Int} {c : Nat} (hc : c < 3) (h : decide (stepP a b p c ∈ ps) = false) : pairOk a b ps p = false := by
  unfold pairOk nextPair
  have : ((List.range 3).all fun c => decide (stepP a b p c ∈ ps)) = false := by
    rw [List.all_eq_false]
    exact ⟨c, List.mem_range.2 hc, by rw [h]; simp⟩
  simp [this]
theorem inB_true {x lo hi : Int} (h : inB x lo hi = true) : lo ≤ x ∧ x ≤ hi := by simpa [inB] using h
theorem dfaOk_row {next : List (List Int)} {ends : List Bool} (h : dfaOk next ends = true) {i : Nat} (hi : i < next.length) :
    (next.getD i []).length = 3 ∧ ∀ c, c < 3 → 0 ≤ (next.getD i []).getD c 0 ∧ (next.getD i []).getD c 0 < next.length := by
  simp only [dfaOk, Bool.and_eq_true, List.all_eq_true] at h
  have hr := h.1.1 _ (mem_getD (d := []) hi)
  simp only [rowOk, Bool.and_eq_true, decide_eq_true_eq, List.all_eq_true] at hr
  refine ⟨hr.1, fun c hc => ?_⟩
  have := inB_true (hr.2 _ (mem_getD (d := 0) (show c < (next.getD i []).length by omega)))
  omega
theorem dfaOk_len {next : List (List Int)} {ends : List Bool} (h : dfaOk next ends = true) : 1 ≤ next.length ∧ next.length ≤ 40 ∧ ends.length = next.length := by
  simp only [dfaOk, Bool.and_eq_true, decide_eq_true_eq] at h
  have := inB_true h.1.2
  omega
theorem below_two {w w' : World} {o1 o2 : Obj} {B : Nat} (hb : Below B ((w.alloc o1).alloc o2) w') (hB : w.heap.size ≤ B) : Below w.heap.size w w' :=
  (((Below.refl _ _).alloc (Nat.le_refl _) _).alloc (by simp) _).trans (hb.mono hB)
set_option maxRecDepth 100000 in
set_option maxHeartbeats 4000000 in
theorem specCheckPairs_any (a b : DfaD) (ps : List (Int × Int)) (v1 v2 v3 : Value) (w : World) (h1 : DfaR 0 w v1 a) (h2 : DfaR 0 w v2 b) (h3 : Pairs 0 w v3 ps) (r : Bool) (hr : checkB a b ps = r) :
    Calls Try.prog 46 #[v1, v2, v3] w fun e w' => e = .returned (.bool r) ∧ Below w.heap.size w w' := by
  obtain ⟨u1, u2, rfl, g1, g2⟩ := h1
  obtain ⟨u3, u4, rfl, g3, g4⟩ := h2
  have H1 : Hid (DfaR 0 ((w.alloc (.cells #[u1, u2] 26)).alloc (.cells #[u3, u4] 26)) (.agg #[u1, u2]) a) := Lib.hid (DfaR.below ⟨_, _, rfl, g1, g2⟩ (((Below.refl _ _).alloc (Nat.le_refl _) _).alloc (by simp) _))
  have H2 : Hid (DfaR 0 w (.agg #[u3, u4]) b) := Lib.hid ⟨_, _, rfl, g3, g4⟩
  have H3 := Lib.hid h3
  obtain ⟨a1, c1, rfl, hc1, hm1, hr1⟩ := g1.formI
  obtain ⟨a2, c2, rfl, hc2, hm2, hr2⟩ := g2.form
  obtain ⟨a3, c3, rfl, hc3, hm3, hr3⟩ := g3.formI
  obtain ⟨a4, c4, rfl, hc4, hm4, hr4⟩ := g4.form
  obtain ⟨a5, c5, rfl, hc5, hm5, hr5⟩ := h3.form
  clear g1 g2 g3 g4 h3
  have Hhr := Lib.hid hr; clear hr
  have Hhr1 := Lib.hid hr1; clear hr1
  have Hhr2 := Lib.hid hr2; clear hr2
  have Hhr3 := Lib.hid hr3; clear hr3
  have Hhr4 := Lib.hid hr4; clear hr4
  have Hhr5 := Lib.hid hr5; clear hr5
  cases hda : dfaOk a.next a.ends
  · have Hhda := Lib.hid hda; clear hda
    go_enter Try.func46, Try.ntmps46
    go_wp2_with fail
    refine (specDfaValid_d a _ _ H1.out _ Hhda.out).mono ?_
    rintro e w1 ⟨rfl, hb1⟩
    have Hhb1 := Lib.hid hb1; clear hb1
    go_wp2
    go_ret
    exact ⟨by rw [← Hhr.out, checkB, Hhda.out]; rfl, below_two Hhb1.out (by simp; omega)⟩
  · have Hrow1 := Lib.hid (fun i hi => dfaOk_row hda (i := i) hi)
    have hla := dfaOk_len hda
    have Hhda := Lib.hid hda; clear hda
    have Hhla := Lib.hid hla; clear hla
    go_enter Try.func46, Try.ntmps46
    go_wp2_with fail
    refine (specDfaValid_d a _ _ H1.out _ Hhda.out).mono ?_
    rintro e w1 ⟨rfl, hb1⟩
    have x1 := (Bx.new (w.alloc _) _ _).below hb1 (by simp)
    have e0 := x1.cell 0
    have e1 := x1.cell 1
    simp only [List.getElem?_toArray, List.getElem?_cons_zero, List.getElem?_cons_succ, World.size_alloc] at e0 e1
    have H2' := Lib.hid (H2.out.below (below_two hb1 (by simp; omega)))
    have Hhb1 := Lib.hid hb1; clear hb1
    clear x1
    cases hdb : dfaOk b.next b.ends
    · have Hhdb := Lib.hid hdb; clear hdb
      go_wp2_with fail
      refine (specDfaValid_d b _ _ H2'.out _ Hhdb.out).mono ?_
      rintro e w2 ⟨rfl, hb2⟩
      have Hhb2 := Lib.hid hb2; clear hb2
      go_wp2
      go_ret
      exact ⟨by rw [← Hhr.out, checkB, Hhda.out, Hhdb.out]; rfl, (below_two Hhb1.out (by simp; omega)).trans (Hhb2.out.mono (below_two Hhb1.out (by simp; omega)).size)⟩
    · have Hrow2 := Lib.hid (fun i hi => dfaOk_row hdb (i := i) hi)
      have hlb := dfaOk_len hdb
      have hchk : checkB a b ps = provesB a b ps := by rw [checkB, Hhda.out, hdb]; rfl
      have Hhchk := Lib.hid hchk; clear hchk
      have Hhdb := Lib.hid hdb; clear hdb
      have Hhlb := Lib.hid hlb; clear hlb
      go_wp2_with fail
      refine (specDfaValid_d b _ _ H2'.out _ Hhdb.out).mono ?_
      rintro e w2 ⟨rfl, hb2⟩
      have hbb := (Hhb1.out.mono (B' := w.heap.size + 2) (by simp)).trans (hb2.mono (by have := Hhb1.out.size; simpa using this))
      have Hhb2 := Lib.hid hb2; clear hb2
      have Hhbb := Lib.hid hbb; clear hbb
      clear e0 e1
      by_cases hlen : ps.length ≤ 1600
      · have Hlen := Lib.hid hlen
        go_wp2
        go_loopw [6, 7] (fun r i wr => ∃ k : Nat, k ≤ ps.length ∧ i = .int .i64 k ∧ (ps.take k).all (pairOk a b ps) = true ∧ Below (w.heap.size + 2) ((w.alloc (.cells #[.slice a1 a.next.length c1, .slice a2 a.ends.length c2] 26)).alloc (.cells #[.slice a3 b.next.length c3, .slice a4 b.ends.length c4] 26)) wr) (fun _ i _ => ps.length - (intOf i).toNat)
        case atStart => exact ⟨0, Nat.zero_le _, rfl, rfl, Hhbb.out⟩
        case round =>
          obtain ⟨k, hk, rfl, hall, hb⟩ := hrel
          have hend := below_two hb (by omega)
          have hsz := hb.size
          simp only [World.size_alloc] at hsz
          have x0 := ((Bx.new w _ _).alloc _).below hb (by omega)
          have x1 := (Bx.new (w.alloc _) _ _).below hb (by simp)
          have b0 := x0.cell 0
          have b1 := x0.cell 1
          have b2 := x1.cell 0
          have b3 := x1.cell 1
          simp only [List.getElem?_toArray, List.getElem?_cons_zero, List.getElem?_cons_succ, World.size_alloc] at b0 b1 b2 b3
          have hs0 : w.heap.size < wr.heap.size := by omega
          have hs1 : w.heap.size + 1 < wr.heap.size := by omega
          have Hhall := Lib.hid hall; clear hall
          have Hhb := Lib.hid hb; clear hb
          have Hhend := Lib.hid hend; clear hend
          clear x0 x1
          by_cases hlt : k < ps.length
          · obtain ⟨q5, o5, rfl, hB5, hbl5, hcs5⟩ := Hhr5.out (by omega)
            have p1 := (bcell Hhend.out q5 (o5 + k * 2) hbl5).trans (hcs5 k hlt).1
            have p2 := (bcell Hhend.out q5 (o5 + k * 2 + 1) hbl5).trans (hcs5 k hlt).2
            obtain ⟨x, hxx⟩ : ∃ x, x = ps.getD k (0, 0) := ⟨_, rfl⟩
            rw [← hxx] at p1 p2
            obtain ⟨x1, x2⟩ := x
            have Hhxx := Lib.hid hxx; clear hxx
            simp only at p1 p2
            clear hcs5
            have hwa : IntKind.i64.wrap ((a.next.length : Int) - 1) = (a.next.length : Int) - 1 := IntWalk.i64_in _ (by have := Hhla.out; omega)
            have hwb : IntKind.i64.wrap ((b.next.length : Int) - 1) = (b.next.length : Int) - 1 := IntWalk.i64_in _ (by have := Hhlb.out; omega)
            cases hin1 : inB x1 0 ((a.next.length : Int) - 1)
            · have Hhin1 := Lib.hid hin1; clear hin1
              go_wp2
              go_quiet (((go_at_call 65; with_reducible exact quiet_eq (l1In_any _ _ _ _ _ Hhin1.out))))
              go_wp2
              go_ret
              exact ⟨by rw [← Hhr.out, Hhchk.out, provesB_bad hlt (by rw [← Hhxx.out]; exact pairOk_in (by simp [inPair, Hhin1.out]))]; rfl, below_drewN (Hhend.out.alloc (by omega) _) _⟩
            · cases hin2 : inB x2 0 ((b.next.length : Int) - 1)
              · have Hhin1 := Lib.hid hin1; clear hin1
                have Hhin2 := Lib.hid hin2; clear hin2
                go_wp2
                go_quiet ((first | (go_at_call 65; with_reducible exact quiet_eq (l1In_any _ _ _ _ _ Hhin1.out)) | (go_at_call 65; with_reducible exact quiet_eq (l1In_any _ _ _ _ _ Hhin2.out))))
                go_wp2
                go_ret
                exact ⟨by rw [← Hhr.out, Hhchk.out, provesB_bad hlt (by rw [← Hhxx.out]; exact pairOk_in (by simp [inPair, Hhin2.out]))]; rfl, below_drewN (Hhend.out.alloc (by omega) _) _⟩
              · obtain ⟨hi1, hi2⟩ := inB_true hin1
                obtain ⟨hj1, hj2⟩ := inB_true hin2
                obtain ⟨i, rfl⟩ := Int.eq_ofNat_of_zero_le hi1
                obtain ⟨j, rfl⟩ := Int.eq_ofNat_of_zero_le hj1
                have hia : i < a.next.length := by omega
                have hjb : j < b.next.length := by omega
                have hie : (i : Int) < a.ends.length := by have := Hhla.out; omega
                have hje : (j : Int) < b.ends.length := by have := Hhlb.out; omega
                have hinp : inPair a b ((i : Int), (j : Int)) = true := by simp [inPair, hin1, hin2]
                obtain ⟨q2, o2, rfl, hB2, hbl2, hcs2⟩ := Hhr2.out (by omega)
                obtain ⟨q4, o4, rfl, hB4, hbl4, hcs4⟩ := Hhr4.out (by omega)
                have ea0 := (bcell Hhend.out q2 (o2 + i) hbl2).trans (hcs2 i (by omega))
                have eb0 := (bcell Hhend.out q4 (o4 + j) hbl4).trans (hcs4 j (by omega))
                obtain ⟨ea, hea⟩ : ∃ ea, ea = a.ends.getD i false := ⟨_, rfl⟩
                obtain ⟨eb, heb⟩ : ∃ eb, eb = b.ends.getD j false := ⟨_, rfl⟩
                rw [← hea] at ea0
                rw [← heb] at eb0
                have hq2 : q2 < wr.heap.size := by omega
                have hq4 : q4 < wr.heap.size := by omega
                have Hhin1 := Lib.hid hin1; clear hin1
                have Hhin2 := Lib.hid hin2; clear hin2
                have Hhea := Lib.hid hea; clear hea
                have Hheb := Lib.hid heb; clear heb
                have Hhinp := Lib.hid hinp; clear hinp
                clear hi1 hi2 hj1 hj2 hcs2 hcs4
                by_cases hee : ea = eb
                · have g1 : (ea != eb) = false := by simpa using hee
                  have g2 : (!(ea == eb)) = false := by simpa using hee
                  have Hhee := Lib.hid hee; clear hee
                  go_wp2
                  go_quiet ((first | (go_at_call 65; with_reducible exact quiet_eq (l1In_any _ _ _ _ _ Hhin1.out)) | (go_at_call 65; with_reducible exact quiet_eq (l1In_any _ _ _ _ _ Hhin2.out))))
                  go_wp2
                  obtain ⟨wo, hwo⟩ : ∃ wo : World, wo = wr := ⟨_, rfl⟩
                  subst hwo
                  clear p1 p2 b0 b1 b2 b3 ea0 eb0
                  go_loopw [6, 9] (fun r c wi => ∃ n : Nat, n ≤ 3 ∧ c = .int .i64 n ∧ ((List.range n).all fun c => decide (stepP a b ((i : Int), (j : Int)) c ∈ ps)) = true ∧ Below (wo.heap.size + 1) ((wo.alloc (.cells #[.int .i64 i, .int .i64 j] 56)).drewN nq) wi) (fun _ c _ => 3 - (intOf c).toNat)
                  case atStart => exact ⟨0, by omega, rfl, rfl, Below.refl _ _⟩
                  case round =>
                    obtain ⟨n, hn, rfl, hall', hbi⟩ := hrel
                    have hW : Below wo.heap.size wo wr := (below_drewN ((Below.refl _ _).alloc (Nat.le_refl _) _) _).trans (hbi.mono (by omega))
                    have hsz3 := hbi.size
                    have hsz4 : wo.heap.size + 1 ≤ wr.heap.size := by simpa using hsz3
                    have hall0 : Below (w.heap.size + 2) ((w.alloc (.cells #[.slice a1 a.next.length c1, .slice (some ⟨q2, o2, none⟩) a.ends.length c2] 26)).alloc (.cells #[.slice a3 b.next.length c3, .slice (some ⟨q4, o4, none⟩) b.ends.length c4] 26)) wr := Hhb.out.trans (hW.mono (by omega))
                    have y0 := (((Bx.new w _ _).alloc _).below hall0 (by omega)).cell 0
                    have y1 := ((Bx.new (w.alloc _) _ _).below hall0 (by simp)).cell 0
                    have y2 := (show Bx ((wo.alloc (.cells #[.int .i64 i, .int .i64 j] 56)).drewN nq) wo.heap.size _ _ from Bx.new wo _ _).below hbi (by omega)
                    have y3 := y2.cell 0
                    have y4 := y2.cell 1
                    simp only [List.getElem?_toArray, List.getElem?_cons_zero, List.getElem?_cons_succ, World.size_alloc] at y0 y1 y3 y4
                    have hendi : Below w.heap.size w wr := Hhend.out.trans (hW.mono Hhend.out.size)
                    have Hhall' := Lib.hid hall'; clear hall'
                    have Hhbi := Lib.hid hbi; clear hbi
                    have HhW := Lib.hid hW; clear hW
                    have Hhendi := Lib.hid hendi; clear hendi
                    have Hhall0 := Lib.hid hall0; clear hall0
                    clear y2 hsz3
                    by_cases hn3 : n < 3
                    · obtain ⟨q1, o1, rfl, hB1, hbl1, hcs1⟩ := Hhr1.out (by omega)
                      obtain ⟨q3, o3, rfl, hB3, hbl3, hcs3⟩ := Hhr3.out (by omega)
                      obtain ⟨r1, s1, hc1', hl1', hm1', hI1⟩ := hcs1 i hia
                      obtain ⟨r3, s3, hc3', hl3', hm3', hI3⟩ := hcs3 j hjb
                      obtain ⟨hL1, hT1⟩ := Hrow1.out i hia
                      obtain ⟨hL3, hT3⟩ := Hrow2.out j hjb
                      obtain ⟨ra, hra⟩ : ∃ ra, ra = a.next.getD i [] := ⟨_, rfl⟩
                      obtain ⟨rb, hrb⟩ : ∃ rb, rb = b.next.getD j [] := ⟨_, rfl⟩
                      rw [← hra] at hc1' hl1' hI1 hL1 hT1
                      rw [← hrb] at hc3' hl3' hI3 hL3 hT3
                      obtain ⟨_, _, he1, -, -, hf1⟩ := hI1.form
                      obtain ⟨_, _, he3, -, -, hf3⟩ := hI3.form
                      simp only [Value.slice.injEq, true_and] at he1 he3
                      obtain ⟨rfl, rfl⟩ := he1
                      obtain ⟨rfl, rfl⟩ := he3
                      obtain ⟨z1, t1, rfl, -, hz1, hg1⟩ := hf1 (by omega)
                      obtain ⟨z3, t3, rfl, -, hz3, hg3⟩ := hf3 (by omega)
                      have k1 := (bcell Hhendi.out q1 (o1 + i) hbl1).trans hc1'
                      have k3 := (bcell Hhendi.out q3 (o3 + j) hbl3).trans hc3'
                      have k2 := (bcell Hhendi.out z1 (t1 + n) hz1).trans (hg1 n (by omega))
                      have k4 := (bcell Hhendi.out z3 (t3 + n) hz3).trans (hg3 n (by omega))
                      obtain ⟨ta, hta⟩ : ∃ ta, ta = ra.getD n 0 := ⟨_, rfl⟩
                      obtain ⟨tb, htb⟩ : ∃ tb, tb = rb.getD n 0 := ⟨_, rfl⟩
                      rw [← hta] at k2
                      rw [← htb] at k4
                      have hiA : (i : Int) < a.next.length := by omega
                      have hjB : (j : Int) < b.next.length := by omega
                      have hnA : (n : Int) < ra.length := by omega
                      have hnB : (n : Int) < rb.length := by omega
                      have hstep : stepP a b ((i : Int), (j : Int)) n = (ta, tb) := by
                        simp only [stepP, Int.toNat_natCast, ← hra, ← hrb, ← hta, ← htb]
                      have d1 : w.heap.size < wr.heap.size := by omega
                      have d2 : w.heap.size + 1 < wr.heap.size := by omega
                      have d3 : wo.heap.size < wr.heap.size := by omega
                      have d4 : q1 < wr.heap.size := by omega
                      have d5 : q3 < wr.heap.size := by omega
                      have d6 : z1 < wr.heap.size := by omega
                      have d7 : z3 < wr.heap.size := by omega
                      have Hhra := Lib.hid hra; clear hra
                      have Hhrb := Lib.hid hrb; clear hrb
                      have Hhta := Lib.hid hta; clear hta
                      have Hhtb := Lib.hid htb; clear htb
                      have Hhstep := Lib.hid hstep; clear hstep
                      have Hkeep := Lib.hid (fun (w' : World) (h : Below wr.drew.heap.size wr.drew w') => (show w'.cell? ⟨w.heap.size, 0, none⟩ = some (.slice (some ⟨q1, o1, none⟩) a.next.length c1) ∧ w'.cell? ⟨w.heap.size + 1, 0, none⟩ = some (.slice (some ⟨q3, o3, none⟩) b.next.length c3) ∧ w'.cell? ⟨wo.heap.size, 0, none⟩ = some (.int .i64 i) ∧ w'.cell? ⟨wo.heap.size, 1, none⟩ = some (.int .i64 j) ∧ w'.cell? ⟨q1, o1 + i, none⟩ = some (.slice (some ⟨z1, t1, none⟩) ra.length s1) ∧ w'.cell? ⟨q3, o3 + j, none⟩ = some (.slice (some ⟨z3, t3, none⟩) rb.length s3) ∧ w'.cell? ⟨z1, t1 + n, none⟩ = some (.int .i64 ta) ∧ w'.cell? ⟨z3, t3 + n, none⟩ = some (.int .i64 tb) from ⟨(bcell h _ _ d1).trans y0, (bcell h _ _ d2).trans y1, (bcell h _ _ d3).trans y3, (bcell h _ _ d3).trans y4, (bcell h _ _ d4).trans k1, (bcell h _ _ d5).trans k3, (bcell h _ _ d6).trans k2, (bcell h _ _ d7).trans k4⟩))
                      clear hcs1 hcs3 hf1 hf3 hg1 hg3 hc1' hc3' hI1 hI3 hL1 hL3 hT1 hT3
                      cases hmem : decide ((ta, tb) ∈ ps)
                      all_goals
                        have Hhmem := Lib.hid hmem; clear hmem
                        go_wp2
                        go_region_held3 (fun w' => w'.cell? ⟨w.heap.size, 0, none⟩ = some (.slice (some ⟨q1, o1, none⟩) a.next.length c1) ∧ w'.cell? ⟨w.heap.size + 1, 0, none⟩ = some (.slice (some ⟨q3, o3, none⟩) b.next.length c3) ∧ w'.cell? ⟨wo.heap.size, 0, none⟩ = some (.int .i64 i) ∧ w'.cell? ⟨wo.heap.size, 1, none⟩ = some (.int .i64 j) ∧ w'.cell? ⟨q1, o1 + i, none⟩ = some (.slice (some ⟨z1, t1, none⟩) ra.length s1) ∧ w'.cell? ⟨q3, o3 + j, none⟩ = some (.slice (some ⟨z3, t3, none⟩) rb.length s3) ∧ w'.cell? ⟨z1, t1 + n, none⟩ = some (.int .i64 ta) ∧ w'.cell? ⟨z3, t3 + n, none⟩ = some (.int .i64 tb))
                          (first | go_keep | exact Hkeep.out _ hb4)
                          (first | (go_at_call 93; refine (l24Has_any ps (ta, tb) _ _ (H3.out.below Hhendi.out.drew) _ Hhmem.out).mono ?_; rintro e w4 ⟨rfl, hb4⟩))
                        go_wp2
                      · go_ret
                        exact ⟨by rw [← Hhr.out, Hhchk.out, provesB_bad hlt (by rw [← Hhxx.out]; exact pairOk_next hn3 (by rw [Hhstep.out]; exact Hhmem.out))]; rfl, Hhendi.out.drew.trans (hb4.mono Hhendi.out.size)⟩
                      · go_roundw
                        case rel => exact ⟨n + 1, by omega, by go_num, by rw [List.range_succ, List.all_append, Hhall'.out]; simp only [List.all_cons, List.all_nil, Bool.and_true, Bool.true_and]; rw [Hhstep.out]; exact Hhmem.out, Hhbi.out.drew.trans (hb4.mono (by simpa using hsz4))⟩
                        case measure => simp [intOf]; omega
                    · obtain rfl : n = 3 := by omega
                      go_wp2
                      go_roundw
                      case rel =>
                        have hok : pairOk a b ps (ps.getD k (0, 0)) = true := by
                          rw [← Hhxx.out]
                          have hends : endsPair a b ((i : Int), (j : Int)) = true := by
                            simp [endsPair, -List.getD_eq_getElem?_getD, ← Hhea.out, ← Hheb.out, Hhee.out]
                          unfold pairOk nextPair
                          rw [Hhinp.out, hends, Hhall'.out]
                          rfl
                        exact ⟨k + 1, by omega, by go_num, all_snoc (d := (0, 0)) hlt Hhall.out hok, Hhall0.out⟩
                      case measure => simp [intOf]; omega
                · have g1 : (ea != eb) = true := by simpa using hee
                  have g2 : (!(ea == eb)) = true := by simpa using hee
                  have Hhee := Lib.hid hee; clear hee
                  go_wp2
                  go_quiet ((first | (go_at_call 65; with_reducible exact quiet_eq (l1In_any _ _ _ _ _ Hhin1.out)) | (go_at_call 65; with_reducible exact quiet_eq (l1In_any _ _ _ _ _ Hhin2.out))))
                  go_wp2
                  go_ret
                  exact ⟨by rw [← Hhr.out, Hhchk.out, provesB_bad hlt (by rw [← Hhxx.out]; exact pairOk_ends (by simp [endsPair, -List.getD_eq_getElem?_getD, ← Hhea.out, ← Hheb.out, Hhee.out]))]; rfl, below_drewN (Hhend.out.alloc (by omega) _) _⟩
          · have hfin : provesB a b ps = decide ((0, 0) ∈ ps) := by
              have h3 := Hhall.out
              rw [List.take_of_length_le (by omega)] at h3
              simp [provesB, h3, Hlen.out]
            have Hhfin := Lib.hid hfin; clear hfin
            cases hz : decide ((0, 0) ∈ ps)
            all_goals
              have Hhz := Lib.hid hz; clear hz
              go_wp2_with fail
              refine (l24Has_any ps (0, 0) _ _ (H3.out.below Hhend.out) _ Hhz.out).mono ?_
              rintro e w3 ⟨rfl, hb3⟩
              have Hhb3 := Lib.hid hb3; clear hb3
              go_wp2
              go_ret
              exact ⟨by rw [← Hhr.out, Hhchk.out, Hhfin.out, Hhz.out]; rfl, Hhend.out.trans (Hhb3.out.mono Hhend.out.size)⟩
      · go_wp2
        go_ret
        exact ⟨by rw [← Hhr.out, Hhchk.out, provesB, decide_eq_false hlen]; rfl, below_two Hhbb.out (by omega)⟩
theorem Sl.keptJ {B B' : Nat} {w w' : World} {v : Value} {n size : Nat} {cs : List Value} (h : Sl B w v n size cs) (hB : B' ≤ B) (hs : w.heap.size ≤ w'.heap.size) (hk : ∀ k, B ≤ k → k < w.heap.size → w'.heap[k]? = w.heap[k]?) : Sl B' w' v n size cs := by
  obtain ⟨hl, a, cap, hv, h1, h2, h3⟩ := h
  refine ⟨hl, a, cap, hv, h1, h2, fun hn => ?_⟩
  obtain ⟨b, off, ha, hb, hlt, hc⟩ := h3 hn
  refine ⟨b, off, ha, by omega, by omega, fun j hj => ?_⟩
  rw [← hc j hj]
  exact World.cell?_of_block (hk b hb hlt)
theorem Sl.drop1 {B : Nat} {w : World} {b off n cap : Nat} {cs : List Value} (h : Sl B w (.slice (some ⟨b, off, none⟩) n cap) n 1 cs) (hn : 0 < n) : Sl B w (.slice (some ⟨b, off + 1, none⟩) (n - 1) (cap - 1)) (n - 1) 1 (cs.drop 1) := by
  obtain ⟨hl, a', cap', hv, h1, h2, h3⟩ := h
  simp only [Value.slice.injEq] at hv
  obtain ⟨rfl, -, rfl⟩ := hv
  refine ⟨by rw [List.length_drop]; omega, _, _, rfl, by omega, by omega, fun hn0 => ?_⟩
  obtain ⟨b', off', ha, hb, hlt, hc⟩ := h3 (by omega)
  simp only [Option.some.injEq, Addr.mk.injEq, and_true] at ha
  obtain ⟨rfl, rfl⟩ := ha
  refine ⟨b, off + 1, rfl, hb, hlt, fun j hj => ?_⟩
  rw [show off + 1 + j = off + (1 + j) by omega, hc _ (by omega), List.getElem?_drop]
def DfaE (w w' : World) : Ent := ⟨fun k => w.heap.size ≤ k ∧ k < w'.heap.size, fun u => ∀ k, w.heap.size ≤ k → k < w'.heap.size → u.heap[k]? = w'.heap[k]?, fun _ _ h hk k h1 h2 => (hk k ⟨h1, h2⟩).trans (h k h1 h2)⟩
theorem St.dfaE {w0 w w' : World} {L : List Ent} (h : St w0 w L) (hb : Below w.heap.size w w') : St w0 w' (L ++ [DfaE w w']) := h.add hb _ (fun _ _ _ => rfl) fun _ hk => hk
structure DfaH (E : Ent) (v1 v2 : Value) (vs : List Value) (D : DfaD) : Prop where
  rd : ∀ w, E.holds w → (∀ k, E.foot k → k < w.heap.size) → Sl 0 w v1 D.next.length 1 vs ∧ (∀ i, i < D.next.length → Ints 0 w (vs.getD i undef) (D.next.getD i [])) ∧ Bools 0 w v2 D.ends
theorem DfaH.at {w0 w : World} {L : List Ent} {E : Ent} {v1 v2 : Value} {vs : List Value} {D : DfaD} (h : DfaH E v1 v2 vs D) (hS : St w0 w L) (i : Nat) (hx : L[i]? = some E) : Sl 0 w v1 D.next.length 1 vs ∧ (∀ i, i < D.next.length → Ints 0 w (vs.getD i undef) (D.next.getD i [])) ∧ Bools 0 w v2 D.ends :=
  h.rd w (hS.has i _ hx).1 fun k hk => ((hS.has i _ hx).2 k hk).2
theorem DfaH.r {w0 w : World} {L : List Ent} {E : Ent} {v1 v2 : Value} {vs : List Value} {D : DfaD} (h : DfaH E v1 v2 vs D) (hS : St w0 w L) (i : Nat) (hx : L[i]? = some E) : DfaR 0 w (.agg #[v1, v2]) D := by
  obtain ⟨h1, h2, h3⟩ := h.at hS i hx
  exact ⟨v1, v2, rfl, ⟨vs, h1, h2⟩, h3⟩
theorem dfaH_call {w w' : World} {v1 v2 : Value} {D : DfaD} (h : DfaR w.heap.size w' (.agg #[v1, v2]) D) (hn : 0 < D.next.length) : ∃ vs, DfaH (DfaE w w') v1 v2 vs D := by
  obtain ⟨_, _, hv, ⟨vs, h1, h2⟩, h3⟩ := h
  simp only [Value.agg.injEq, Array.mk.injEq, List.cons.injEq, and_true] at hv
  obtain ⟨rfl, rfl⟩ := hv
  have hlt : w.heap.size < w'.heap.size := by
    obtain ⟨-, a, cap, -, -, -, h4⟩ := h1
    obtain ⟨b, off, -, h5, h6, -⟩ := h4 (by omega)
    omega
  refine ⟨vs, ⟨fun u hu hf => ?_⟩⟩
  have hs : w'.heap.size ≤ u.heap.size := by
    have : w'.heap.size - 1 < u.heap.size := hf (w'.heap.size - 1) (show w.heap.size ≤ w'.heap.size - 1 ∧ w'.heap.size - 1 < w'.heap.size by omega)
    omega
  exact ⟨h1.keptJ (Nat.zero_le _) hs hu, fun i hi => Sl.keptJ (h2 i hi) (Nat.zero_le _) hs hu, Sl.keptJ h3 (Nat.zero_le _) hs hu⟩
theorem dfaH_rows (es e e' : Nat) (v1 v2 : Value) (vs : List Value) (D : DfaD) : DfaH (Ent.all [Ent.rows es e v1 vs (D.next.map intCells), Ent.row e' 1 v2 D.ends.length (boolCells D.ends)]) v1 v2 vs D := by
  refine ⟨fun w h _ => ?_⟩
  have h1 : (Ent.rows es e v1 vs (D.next.map intCells)).holds w := h _ (by simp)
  have h2 : (Ent.row e' 1 v2 D.ends.length (boolCells D.ends)).holds w := h _ (by simp)
  obtain ⟨p1, p2, -⟩ := h1
  rw [List.length_map] at p1 p2
  refine ⟨Sl.mono ((own_of_row p1).sl (by omega)) (Nat.zero_le _), fun i hi => ?_, Sl.mono ((own_of_row h2).sl (by omega)) (Nat.zero_le _)⟩
  have := p2 i hi
  have e1 : (D.next.map intCells).getD i [] = intCells (D.next.getD i []) := by simp [hi]
  rw [e1] at this
  have h3 := (own_of_row this).sl (by omega)
  rw [show (intCells (D.next.getD i [])).length = (D.next.getD i []).length by simp [intCells]] at h3
  exact Sl.mono h3 (Nat.zero_le _)
theorem DfaH.tailE {E : Ent} {v1 : Value} {b o n c : Nat} {vs : List Value} {D : DfaD} (h : DfaH E v1 (.slice (some ⟨b, o, none⟩) n c) vs D) (hn : n = D.ends.length) (h0 : 0 < n) : DfaH E v1 (.slice (some ⟨b, o + 1, none⟩) (n - 1) (c - 1)) vs ⟨D.next, D.ends.drop 1⟩ := by
  subst hn
  refine ⟨fun w h1 h2 => ?_⟩
  obtain ⟨p1, p2, p3⟩ := h.rd w h1 h2
  refine ⟨p1, p2, ?_⟩
  have h4 := Sl.drop1 p3 h0
  show Sl 0 w _ (D.ends.drop 1).length 1 (boolCells (D.ends.drop 1))
  rw [List.length_drop, show boolCells (D.ends.drop 1) = (boolCells D.ends).drop 1 by simp [boolCells]]
  exact h4
theorem DfaH.noE {E : Ent} {v1 v2 : Value} {a : Option Addr} {vs : List Value} {D : DfaD} (h : DfaH E v1 v2 vs D) : DfaH E v1 (.slice a 0 0) vs ⟨D.next, []⟩ :=
  ⟨fun w h1 h2 => ⟨(h.rd w h1 h2).1, (h.rd w h1 h2).2.1, ⟨rfl, a, 0, rfl, Nat.le_refl _, Nat.zero_le _, fun h => absurd h (by simp)⟩⟩⟩
theorem DfaH.one {E : Ent} {v1 v2 : Value} {vs : List Value} {D : DfaD} (h : DfaH E v1 v2 vs D) {es e m : Nat} {v rv : Value} {row : List Int} (hm : m = row.length) : DfaH (Ent.all [E, Ent.row es 1 v 1 [rv], Ent.row e 1 rv m (intCells row)]) v v2 [rv] ⟨[row], D.ends⟩ := by
  subst hm
  refine ⟨fun w h1 h2 => ?_⟩
  have g1 : E.holds w := h1 _ (by simp)
  have g2 : (Ent.row es 1 v 1 [rv]).holds w := h1 _ (by simp)
  have g3 : (Ent.row e 1 rv row.length (intCells row)).holds w := h1 _ (by simp)
  obtain ⟨-, -, p3⟩ := h.rd w g1 fun k hk => h2 k ⟨E, by simp, hk⟩
  refine ⟨Sl.mono ((own_of_row g2).sl (by omega)) (Nat.zero_le _), fun i hi => ?_, p3⟩
  have hi : i < 1 := hi
  obtain rfl : i = 0 := by omega
  exact Sl.mono ((own_of_row g3).sl (by omega)) (Nat.zero_le _)
theorem sl_nil (w : World) (a : Option Addr) : Sl 0 w (.slice a 0 0) 0 1 [] := ⟨rfl, a, 0, rfl, Nat.le_refl _, Nat.zero_le _, fun h => absurd h (by simp)⟩
theorem DfaH.head {E : Ent} {v1 v2 : Value} {vs : List Value} {D : DfaD} (h : DfaH E v1 v2 vs D) (h0 : 0 < D.next.length) {es e n m : Nat} {v rv : Value} {row : List Int} (hn : n = 1 + (D.next.length - 1)) (hm : m = row.length) : DfaH (Ent.all [E, Ent.row es 1 v n (rv :: vs.drop 1), Ent.row e 1 rv m (intCells row)]) v v2 (rv :: vs.drop 1) ⟨row :: D.next.drop 1, D.ends⟩ := by
  subst hm
  refine ⟨fun w h1 h2 => ?_⟩
  have g1 : E.holds w := h1 _ (by simp)
  have g2 : (Ent.row es 1 v n (rv :: vs.drop 1)).holds w := h1 _ (by simp)
  have g3 : (Ent.row e 1 rv row.length (intCells row)).holds w := h1 _ (by simp)
  obtain ⟨p1, p2, p3⟩ := h.rd w g1 fun k hk => h2 k ⟨E, by simp, hk⟩
  have hl : (row :: D.next.drop 1).length = n := by simp; omega
  refine ⟨?_, fun i hi => ?_, p3⟩
  · show Sl 0 w v (row :: D.next.drop 1).length 1 _
    rw [hl]
    exact Sl.mono ((own_of_row g2).sl (by omega)) (Nat.zero_le _)
  · cases i with
    | zero => exact Sl.mono ((own_of_row g3).sl (by omega)) (Nat.zero_le _)
    | succ i =>
      have hi : i + 1 < (row :: D.next.drop 1).length := hi
      simp only [List.length_cons, List.length_drop] at hi
      have := p2 (i + 1) (by omega)
      have e1 : (rv :: vs.drop 1).getD (i + 1) undef = vs.getD (i + 1) undef := by simp
      have e2 : (row :: D.next.drop 1).getD (i + 1) [] = D.next.getD (i + 1) [] := by simp
      show Ints 0 w ((rv :: vs.drop 1).getD (i + 1) undef) ((row :: D.next.drop 1).getD (i + 1) [])
      rw [e1, e2]
      exact this
theorem dfaH_zero : DfaH Ent.nil (.slice none 0 0) (.slice none 0 0) [] ⟨[], []⟩ :=
  ⟨fun _ _ _ => ⟨⟨rfl, none, 0, rfl, Nat.le_refl _, Nat.zero_le _, fun h => absurd h (by simp)⟩, fun i hi => absurd hi (by simp), ⟨rfl, none, 0, rfl, Nat.le_refl _, Nat.zero_le _, fun h => absurd h (by simp)⟩⟩⟩
structure SmallD (D : DfaD) : Prop where
  n : D.next.length ≤ 40
  e : D.ends.length ≤ 40
  r : ∀ x ∈ D.next, x.length ≤ 3
theorem small_dfa {D : DfaD} (h : dfaOk D.next D.ends = true) : SmallD D := by
  have hl := dfaOk_len h
  refine ⟨hl.2.1, by omega, fun x hx => ?_⟩
  obtain ⟨i, hi, rfl⟩ := List.getElem_of_mem hx
  have := (dfaOk_row h hi).1
  rw [getD_at hi] at this
  omega
theorem dfa_cell {w : World} {v1 : Value} {next : List (List Int)} {ends : List Bool} (h : IntSS 0 w v1 next) (hd : dfaOk next ends = true) {i c : Nat} (hi : i < next.length) (hc : c < 3) :
    ∃ q o cap z t s, v1 = .slice (some ⟨q, o, none⟩) next.length cap ∧ next.length ≤ cap ∧ cap ≤ 9223372036854775807 ∧ w.cell? ⟨q, o + i, none⟩ = some (.slice (some ⟨z, t, none⟩) 3 s) ∧ 3 ≤ s ∧ s ≤ 9223372036854775807 ∧
      w.cell? ⟨z, t + c, none⟩ = some (.int .i64 ((next.getD i []).getD c 0)) ∧ q < w.heap.size ∧ z < w.heap.size := by
  obtain ⟨a, cap, rfl, h1, h2, h3⟩ := h.form
  obtain ⟨q, o, rfl, _, hq, hr⟩ := h3 (by omega)
  obtain ⟨a', s, e1, e2, e3, e4⟩ := hr i hi
  obtain ⟨hl, _⟩ := dfaOk_row hd hi
  rw [hl] at e1 e2 e4
  obtain ⟨z, t, rfl, _, hz, e5⟩ := e4 (by omega)
  exact ⟨q, o, cap, z, t, s, rfl, h1, h2, e1, e2, e3, e5 c hc, hq, hz⟩
theorem bool_cell {w : World} {v1 : Value} {xs : List Bool} (h : Bools 0 w v1 xs) {i : Nat} (hi : i < xs.length) :
    ∃ q o cap, v1 = .slice (some ⟨q, o, none⟩) xs.length cap ∧ xs.length ≤ cap ∧ cap ≤ 9223372036854775807 ∧ w.cell? ⟨q, o + i, none⟩ = some (.bool (xs.getD i false)) ∧ q < w.heap.size := by
  obtain ⟨a, cap, rfl, h1, h2, h3⟩ := h.form
  obtain ⟨q, o, rfl, _, hq, hr⟩ := h3 (by omega)
  exact ⟨q, o, cap, rfl, h1, h2, hr i hi, hq⟩
theorem inPair_nat {a b : DfaD} {p : Int × Int} (h : inPair a b p = true) : ∃ i j : Nat, p = ((i : Int), (j : Int)) ∧ i < a.next.length ∧ j < b.next.length := by
  unfold inPair at h
  rw [Bool.and_eq_true] at h
  obtain ⟨x, y⟩ := p
  obtain ⟨h1, h2⟩ := inB_true h.1
  obtain ⟨h3, h4⟩ := inB_true h.2
  simp only at h1 h2 h3 h4
  obtain ⟨i, rfl⟩ := Int.eq_ofNat_of_zero_le h1
  obtain ⟨j, rfl⟩ := Int.eq_ofNat_of_zero_le h3
  exact ⟨i, j, rfl, by omega, by omega⟩
def DfaAt (w : World) (b : Nat) (d : DfaD) : Prop := ∃ v1 v2, Bx w b #[v1, v2] 26 ∧ IntSS 0 w v1 d.next ∧ Bools 0 w v2 d.ends
theorem DfaAt.below {w w' : World} {b : Nat} {d : DfaD} (h : DfaAt w b d) (hb : Below w.heap.size w w') : DfaAt w' b d := by
  obtain ⟨v1, v2, h1, h2, h3⟩ := h
  exact ⟨v1, v2, h1.below hb h1.lt, h2.below hb, h3.below hb⟩
set_option maxRecDepth 100000 in
set_option maxHeartbeats 1600000 in
theorem product1_any (a b : DfaD) (x : Int × Int) (c ba bb : Nat) (w : World) (hda : dfaOk a.next a.ends = true) (hdb : dfaOk b.next b.ends = true) (h1 : DfaAt w ba a) (h2 : DfaAt w bb b) (hx : inPair a b x = true) (hc : c < 3) :
    Calls Try.prog 131 #[.agg #[.int .i64 x.1, .int .i64 x.2], .int .i64 c, .pointer (some ⟨ba, 0, none⟩), .pointer (some ⟨bb, 0, none⟩)] w fun e w' => e = .returned (.agg #[.int .i64 (stepP a b x c).1, .int .i64 (stepP a b x c).2]) ∧ Below w.heap.size w w' := by
  obtain ⟨i, j, rfl, hi, hj⟩ := inPair_nat hx
  obtain ⟨u1, u2, hB1, g1, -⟩ := h1
  obtain ⟨u3, u4, hB2, g2, -⟩ := h2
  obtain ⟨q1, o1, c1, z1, t1, s1, rfl, hc1, hm1, e1, l1, m1, e2, d1, d2⟩ := dfa_cell g1 hda hi hc
  obtain ⟨q2, o2, c2, z2, t2, s2, rfl, hc2, hm2, e3, l2, m2, e4, d3, d4⟩ := dfa_cell g2 hdb hj hc
  obtain ⟨ta, hta⟩ : ∃ ta, ta = (stepP a b ((i : Int), (j : Int)) c).1 := ⟨_, rfl⟩
  obtain ⟨tb, htb⟩ : ∃ tb, tb = (stepP a b ((i : Int), (j : Int)) c).2 := ⟨_, rfl⟩
  have e2' : w.cell? ⟨z1, t1 + c, none⟩ = some (.int .i64 ta) := by rw [hta]; exact e2
  have e4' : w.cell? ⟨z2, t2 + c, none⟩ = some (.int .i64 tb) := by rw [htb]; exact e4
  rw [← hta, ← htb]
  have hla := dfaOk_len hda
  have hlb := dfaOk_len hdb
  have ca := hB1.cell 0
  have cb := hB2.cell 0
  simp only [List.getElem?_toArray, List.getElem?_cons_zero] at ca cb
  have d5 := hB1.lt
  have d6 := hB2.lt
  have hci : (c : Int) < 3 := by omega
  have hii : (i : Int) < a.next.length := by omega
  have hjj : (j : Int) < b.next.length := by omega
  clear g1 g2 hB1 hB2 hta htb e2 e4 hx hda hdb
  obtain ⟨h41, h42, -⟩ := hla
  obtain ⟨h43, h44, -⟩ := hlb
  go_enter Try.func131, Try.ntmps131
  go_wp2
  go_region_held3 (fun w' => w'.cell? ⟨w.heap.size, 0, none⟩ = some (.int .i64 i) ∧ w'.cell? ⟨w.heap.size, 1, none⟩ = some (.int .i64 j) ∧ w'.cell? ⟨ba, 0, none⟩ = some (.slice (some ⟨q1, o1, none⟩) a.next.length c1) ∧ w'.cell? ⟨bb, 0, none⟩ = some (.slice (some ⟨q2, o2, none⟩) b.next.length c2) ∧ w'.cell? ⟨q1, o1 + i, none⟩ = some (.slice (some ⟨z1, t1, none⟩) 3 s1) ∧ w'.cell? ⟨q2, o2 + j, none⟩ = some (.slice (some ⟨z2, t2, none⟩) 3 s2) ∧ w'.cell? ⟨z1, t1 + c, none⟩ = some (.int .i64 ta) ∧ w'.cell? ⟨z2, t2 + c, none⟩ = some (.int .i64 tb))
    (first | go_keep) (fail)
  go_wp2
  refine bodyPost_ret (v := .agg #[.int .i64 ta, .int .i64 tb]) (by simp [results, Try.results131, go_sem]) rfl ⟨rfl, ?_⟩
  exact (((Below.refl _ _).alloc (Nat.le_refl _) _).alloc (by simp) _).drew
theorem differ1_any (x y r : Bool) (hr : (x != y) = r) (w : World) : Calls Try.prog 129 #[.bool x, .bool y] w fun e w' => e = .returned (.bool r) ∧ w = w' := by
  subst hr
  go_enter Try.func129, Try.ntmps129
  go_wp2
  go_ret
  exact ⟨rfl, rfl⟩
theorem makePairs1_any (x y r : Bool) (hr : false = r) (w : World) : Calls Try.prog 90 #[.bool x, .bool y] w fun e w' => e = .returned (.bool r) ∧ w = w' := by
  subst hr
  go_enter Try.func90, Try.ntmps90
  go_wp2
  go_ret
  exact ⟨rfl, rfl⟩
def endsF (f : Bool → Bool → Bool) (a b : DfaD) (p : Int × Int) : Bool := f (a.ends.getD p.1.toNat false) (b.ends.getD p.2.toNat false)
set_option maxRecDepth 100000 in
set_option maxHeartbeats 1600000 in
theorem product2_differ (a b : DfaD) (x : Int × Int) (bf ba bb : Nat) (w : World) (hda : dfaOk a.next a.ends = true) (hdb : dfaOk b.next b.ends = true) (hf : Bx w bf #[.func (.func 129) #[] #[]] 90) (h1 : DfaAt w ba a) (h2 : DfaAt w bb b) (hx : inPair a b x = true) :
    Calls Try.prog 132 #[.agg #[.int .i64 x.1, .int .i64 x.2], .pointer (some ⟨bf, 0, none⟩), .pointer (some ⟨ba, 0, none⟩), .pointer (some ⟨bb, 0, none⟩)] w fun e w' => e = .returned (.bool (endsF (fun x y => x != y) a b x)) ∧ Below w.heap.size w w' := by
  obtain ⟨i, j, rfl, hi, hj⟩ := inPair_nat hx
  have hla := dfaOk_len hda
  have hlb := dfaOk_len hdb
  obtain ⟨u1, u2, hB1, -, g1⟩ := h1
  obtain ⟨u3, u4, hB2, -, g2⟩ := h2
  obtain ⟨q1, o1, c1, rfl, hc1, hm1, e1, d1⟩ := bool_cell g1 (i := i) (by omega)
  obtain ⟨q2, o2, c2, rfl, hc2, hm2, e2, d2⟩ := bool_cell g2 (i := j) (by omega)
  obtain ⟨ta, hta⟩ : ∃ ta, ta = a.ends.getD i false := ⟨_, rfl⟩
  obtain ⟨tb, htb⟩ : ∃ tb, tb = b.ends.getD j false := ⟨_, rfl⟩
  rw [← hta] at e1
  rw [← htb] at e2
  obtain ⟨r, hr⟩ : ∃ r, (ta != tb) = r := ⟨_, rfl⟩
  have hres : endsF (fun x y => x != y) a b ((i : Int), (j : Int)) = r := by
    rw [← hr, hta, htb]
    rfl
  rw [hres]
  have ca := hB1.cell 1
  have cb := hB2.cell 1
  have cf := hf.cell 0
  simp only [List.getElem?_toArray, List.getElem?_cons_zero, List.getElem?_cons_succ] at ca cb cf
  have d5 := hB1.lt
  have d6 := hB2.lt
  have d7 := hf.lt
  obtain ⟨l1, l2, l3⟩ := hla
  obtain ⟨l4, l5, l6⟩ := hlb
  have hii : (i : Int) < a.ends.length := by omega
  have hjj : (j : Int) < b.ends.length := by omega
  have Hr := Lib.hid hr
  clear g1 g2 hB1 hB2 hta htb hx hda hdb hf hres hr l3 l6
  go_enter Try.func132, Try.ntmps132
  go_wp2
  go_quiet ((go_at_call 129; with_reducible exact quiet_eq (differ1_any _ _ _ Hr.out _)))
  go_wp2
  go_ret
  exact ⟨rfl, below_drewN ((Below.refl _ _).alloc (Nat.le_refl _) _) _⟩
set_option maxRecDepth 100000 in
set_option maxHeartbeats 1600000 in
theorem product2_make (a b : DfaD) (x : Int × Int) (bf ba bb : Nat) (w : World) (hda : dfaOk a.next a.ends = true) (hdb : dfaOk b.next b.ends = true) (hf : Bx w bf #[.func (.func 90) #[] #[]] 90) (h1 : DfaAt w ba a) (h2 : DfaAt w bb b) (hx : inPair a b x = true) :
    Calls Try.prog 132 #[.agg #[.int .i64 x.1, .int .i64 x.2], .pointer (some ⟨bf, 0, none⟩), .pointer (some ⟨ba, 0, none⟩), .pointer (some ⟨bb, 0, none⟩)] w fun e w' => e = .returned (.bool (endsF (fun _ _ => false) a b x)) ∧ Below w.heap.size w w' := by
  obtain ⟨i, j, rfl, hi, hj⟩ := inPair_nat hx
  have hla := dfaOk_len hda
  have hlb := dfaOk_len hdb
  obtain ⟨u1, u2, hB1, -, g1⟩ := h1
  obtain ⟨u3, u4, hB2, -, g2⟩ := h2
  obtain ⟨q1, o1, c1, rfl, hc1, hm1, e1, d1⟩ := bool_cell g1 (i := i) (by omega)
  obtain ⟨q2, o2, c2, rfl, hc2, hm2, e2, d2⟩ := bool_cell g2 (i := j) (by omega)
  obtain ⟨ta, hta⟩ : ∃ ta, ta = a.ends.getD i false := ⟨_, rfl⟩
  obtain ⟨tb, htb⟩ : ∃ tb, tb = b.ends.getD j false := ⟨_, rfl⟩
  rw [← hta] at e1
  rw [← htb] at e2
  obtain ⟨r, hr⟩ : ∃ r, false = r := ⟨_, rfl⟩
  have hres : endsF (fun _ _ => false) a b ((i : Int), (j : Int)) = r := by
    rw [← hr]
    rfl
  rw [hres]
  have ca := hB1.cell 1
  have cb := hB2.cell 1
  have cf := hf.cell 0
  simp only [List.getElem?_toArray, List.getElem?_cons_zero, List.getElem?_cons_succ] at ca cb cf
  have d5 := hB1.lt
  have d6 := hB2.lt
  have d7 := hf.lt
  obtain ⟨l1, l2, l3⟩ := hla
  obtain ⟨l4, l5, l6⟩ := hlb
  have hii : (i : Int) < a.ends.length := by omega
  have hjj : (j : Int) < b.ends.length := by omega
  have Hr := Lib.hid hr
  clear g1 g2 hB1 hB2 hta htb hx hda hdb hf hres hr l3 l6
  go_enter Try.func132, Try.ntmps132
  go_wp2
  go_quiet ((go_at_call 90; with_reducible exact quiet_eq (makePairs1_any _ _ _ Hr.out _)))
  go_wp2
  go_ret
  exact ⟨rfl, below_drewN ((Below.refl _ _).alloc (Nat.le_refl _) _) _⟩
theorem nodup_of_map {α β : Type} {f : α → β} : ∀ {l : List α}, (l.map f).Nodup → l.Nodup
  | [], _ => List.nodup_nil
  | x :: l, h => by
    rw [List.map_cons, List.nodup_cons] at h
    exact List.nodup_cons.2 ⟨fun hx => h.1 (List.mem_map.2 ⟨x, hx, rfl⟩), nodup_of_map h.2⟩
/-! Closing a list of words: a word becomes a start if no start has its key. -/
section
variable {β : Type} [DecidableEq β] (key : List Nat → β)
variable {key} {s0 : List (List Nat)}
end
/-! The table. -/
def runD (d : DfaD) (s : Int) (w : List Nat) : Int := w.foldl (dnx d) s
def accD (d : DfaD) (w : List Nat) : Bool := den d (runD d 0 w)
def rowW (d : DfaD) (rests : List (List Nat)) (w : List Nat) : List Bool := rests.map fun r => accD d (w ++ r)
theorem runD_append (d : DfaD) (s : Int) (u v : List Nat) : runD d s (u ++ v) = runD d (runD d s u) v := by simp [runD]
theorem accD_append (d : DfaD) (u v : List Nat) : accD d (u ++ v) = den d (runD d (runD d 0 u) v) := by rw [accD, runD_append]
def isW (w : List Nat) : Prop := ∀ c ∈ w, c < 3
theorem isW_append {u v : List Nat} (hu : isW u) (hv : isW v) : isW (u ++ v) := fun c hc => by
  rcases List.mem_append.1 hc with h | h
  · exact hu c h
  · exact hv c h
theorem isW_one {c : Nat} (h : c < 3) : isW [c] := fun x hx => by simp at hx; omega
theorem runD_in {d : DfaD} (hd : dfaOk d.next d.ends = true) : ∀ {w : List Nat}, isW w → ∀ {s : Int}, 0 ≤ s → s < d.next.length → 0 ≤ runD d s w ∧ runD d s w < d.next.length
  | [], _, s, h0, h1 => ⟨h0, h1⟩
  | c :: w, hw, s, h0, h1 => by
    have hc : c < 3 := hw c (by simp)
    have hr := (dfaOk_row hd (i := s.toNat) (by omega)).2 c hc
    exact runD_in hd (w := w) (fun x hx => hw x (by simp [hx])) (s := dnx d s c) hr.1 hr.2
theorem rows_le {d : DfaD} (hd : dfaOk d.next d.ends = true) {rests l : List (List Nat)} (hl : ∀ w ∈ l, isW w) (hn : (l.map (rowW d rests)).Nodup) : l.length ≤ d.next.length := by
  have h0 := (dfaOk_len hd).1
  have hm : (l.map (runD d 0)).Nodup := by
    have e : l.map (rowW d rests) = (l.map (runD d 0)).map fun s => rests.map fun r => den d (runD d s r) := by
      rw [List.map_map]
      apply List.map_congr_left
      intro w _
      simp [rowW, accD_append]
    rw [e] at hn
    exact nodup_of_map hn
  have h1 := nodup_le (m := upInts d.next.length) hm fun x hx => by
    obtain ⟨w, hw, rfl⟩ := List.mem_map.1 hx
    obtain ⟨a, b⟩ := runD_in hd (hl w hw) (s := 0) (by omega) (by omega)
    obtain ⟨n, hn⟩ := Int.eq_ofNat_of_zero_le a
    rw [hn] at b ⊢
    exact mem_upInts.2 (by omega)
  simpa [upInts_len] using h1
structure LInv (d : DfaD) (s r : List (List Nat)) : Prop where
  sw : ∀ x ∈ s, isW x
  rw : ∀ x ∈ r, isW x
  s0 : s.head? = some []
  r0 : r.head? = some []
  nd : (s.map (rowW d r)).Nodup
  cl : ∀ i c, i < s.length → c < 3 → rowW d r (s.getD i [] ++ [c]) ∈ s.map (rowW d r)
theorem LInv.first {d : DfaD} {s r : List (List Nat)} (h : LInv d s r) : s.getD 0 [] = [] := by
  have := h.s0
  cases s with
  | nil => rfl
  | cons x l => simpa using this
theorem LInv.le {d : DfaD} (hd : dfaOk d.next d.ends = true) {s r : List (List Nat)} (h : LInv d s r) : s.length ≤ d.next.length := rows_le hd h.sw h.nd
theorem dfaOk_of {next : List (List Int)} {ends : List Bool} (h1 : 1 ≤ next.length) (h2 : next.length ≤ 40) (h3 : ends.length = next.length) (hr : ∀ i, i < next.length → (next.getD i []).length = 3 ∧ ∀ c, c < 3 → 0 ≤ (next.getD i []).getD c 0 ∧ (next.getD i []).getD c 0 < next.length) : dfaOk next ends = true := by
  simp only [dfaOk, Bool.and_eq_true, List.all_eq_true, decide_eq_true_eq]
  refine ⟨⟨fun x hx => ?_, ?_⟩, h3⟩
  · obtain ⟨i, hi, e⟩ := List.getElem_of_mem hx
    obtain ⟨a, b⟩ := hr i hi
    rw [getD_at hi, e] at a b
    simp only [rowOk, Bool.and_eq_true, decide_eq_true_eq, List.all_eq_true]
    refine ⟨a, fun y hy => ?_⟩
    obtain ⟨c, hc, e2⟩ := List.getElem_of_mem hy
    have := b c (by omega)
    rw [getD_at hc, e2] at this
    simp [inB]
    omega
  · simp [inB]
    omega
def rowM (d : DfaD) (s : Nat) : List (Int × Int × Int) := (List.range 3).map fun (c : Nat) => ((s : Int), (c : Int), (d.next.getD s []).getD c 0)
def mvs (d : DfaD) : Nat → List (Int × Int × Int)
  | 0 => []
  | s + 1 => mvs d s ++ rowM d s
def nfaOf (d : DfaD) : NfaD := ⟨d.next.length, mvs d d.next.length, [0], eds d d.next.length⟩
theorem rowM_len (d : DfaD) (s : Nat) : (rowM d s).length = 3 := by simp [rowM]
theorem rowM_take (d : DfaD) (s : Nat) {c : Nat} (hc : c < 3) : (rowM d s).take (c + 1) = (rowM d s).take c ++ [((s : Int), (c : Int), (d.next.getD s []).getD c 0)] := by
  rw [List.take_succ_eq_append_getElem (by rw [rowM_len]; exact hc)]
  simp [rowM]
theorem mvs_len (d : DfaD) : ∀ s, (mvs d s).length = 3 * s
  | 0 => rfl
  | s + 1 => by
    show (mvs d s ++ rowM d s).length = _
    rw [List.length_append, mvs_len d s, rowM_len]
    omega
theorem eds_in (d : DfaD) : ∀ s, ∀ x ∈ eds d s, 0 ≤ x ∧ x < (s : Int)
  | 0, x, hx => by simp [eds] at hx
  | s + 1, x, hx => by
    have ih := eds_in d s
    unfold eds at hx
    split at hx
    · rcases List.mem_append.1 hx with hx | hx
      · have := ih x hx; omega
      · simp only [List.mem_singleton] at hx
        omega
    · have := ih x hx; omega
theorem mvs_in {d : DfaD} (hd : dfaOk d.next d.ends = true) : ∀ s, s ≤ d.next.length → mvIn d.next.length (mvs d s)
  | 0, _, x, hx => by simp [mvs] at hx
  | s + 1, hs, x, hx => by
    have hx : x ∈ mvs d s ++ rowM d s := hx
    rcases List.mem_append.1 hx with hx | hx
    · exact mvs_in hd s (by omega) x hx
    · obtain ⟨c, hc, rfl⟩ := List.mem_map.1 hx
      have := (dfaOk_row hd (show s < d.next.length by omega)).2 c (List.mem_range.1 hc)
      simp only
      omega
end Go.Proofs.Ythhbjkgchabfmaa
namespace Go.Proofs.Ythhbjkgchabfmaa
open Go.RowKit
end Go.Proofs.Ythhbjkgchabfmaa
