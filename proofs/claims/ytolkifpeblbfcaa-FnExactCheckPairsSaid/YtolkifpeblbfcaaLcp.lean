/-
  The walk over the law FnExactCheckPairs: whatever the arguments, it answers true and leaves old memory alone.
  Conditions: the arguments read as two automata and a list of pairs.
-/
import Derived.Test.YtolkifpeblbfcaaPr
import Derived.Test.YtolkifpeblbfcaaSz
import Derived.Test.YtolkifpeblbfcaaTo
import Derived.Test.YtolkifpeblbfcaaEqd
namespace Go.Proofs.Ytolkifpeblbfcaa
open Go.RowKit

theorem le_sum_of_mem {l : List Nat} {x : Nat} (h : x ∈ l) : x ≤ l.sum := by
  induction l with
  | nil => simp at h
  | cons a l ih =>
    simp only [List.sum_cons]
    rcases List.mem_cons.1 h with rfl | h
    · omega
    · have := ih h; omega
theorem small_of_tot {d : DfaD} {n : Int} (h : (totDfa d.next d.ends : Int) ≤ n) (hn : n ≤ 1048576) : small d := by
  unfold totDfa totSS at h
  refine ⟨by omega, fun i hi => ?_, by omega⟩
  have : (d.next.getD i []).length ≤ (d.next.map List.length).sum := le_sum_of_mem (List.mem_map.2 ⟨_, mem_getD hi, rfl⟩)
  omega

theorem DfaR.shape {B : Nat} {w : World} {v : Value} {d : DfaD} (h : DfaR B w v d) : ∃ a1 c1 a2 c2, v = .agg #[.slice a1 d.next.length c1, .slice a2 d.ends.length c2] := by
  obtain ⟨u1, u2, rfl, g1, g2⟩ := h
  obtain ⟨a1, c1, rfl, -⟩ := g1.form
  obtain ⟨a2, c2, rfl, -⟩ := g2.form
  exact ⟨_, _, _, _, rfl⟩

set_option maxRecDepth 100000 in
set_option maxHeartbeats 8000000 in
theorem exactCheckPairs_walk (a b : DfaD) (ps : List (Int × Int)) (v1 v2 v3 : Value) (w : World) (h1 : DfaR 0 w v1 a) (h2 : DfaR 0 w v2 b) (h3 : Pairs 0 w v3 ps) :
    Calls Try.prog 3 #[v1, v2, v3] w fun e w' => e = .returned (.bool true) ∧ Below w.heap.size w w' := by
  have H1 := Lib.hid h1
  have H2 := Lib.hid h2
  have H3 := Lib.hid h3
  obtain ⟨a1, c1, a2, c2, rfl⟩ := h1.shape
  obtain ⟨a3, c3, a4, c4, rfl⟩ := h2.shape
  obtain ⟨a5, c5, rfl, hl5, hm5, -⟩ := h3.form
  clear h1 h2 h3
  have hW2 : Below w.heap.size w ((w.alloc (.cells #[.slice a1 a.next.length c1, .slice a2 a.ends.length c2] 25)).alloc (.cells #[.slice a3 b.next.length c3, .slice a4 b.ends.length c4] 25)) :=
    ((Below.refl _ _).alloc (Nat.le_refl _) _).alloc (by simp) _
  have HhW2 := Lib.hid hW2; clear hW2
  by_cases hA : (totDfa a.next a.ends : Int) ≤ 1048576
  · go_enter Try.func3, Try.ntmps3
    go_wp2_with fail
    refine (szDfa_d a _ _ (by omega) (by omega) _ (H1.out.below HhW2.out) _ (szV_yes hA)).mono ?_
    rintro e w1 ⟨rfl, hb1⟩
    have hC1 : Below (w.heap.size + 2) _ w1 := hb1.mono (by simp)
    have x1 := ((Bx.new (w.alloc _) _ _).below hC1 (by simp))
    have e2 := x1.cell 0
    have e3 := x1.cell 1
    simp only [List.getElem?_toArray, List.getElem?_cons_zero, List.getElem?_cons_succ, World.size_alloc] at e2 e3
    have hB1 := HhW2.out.trans (hC1.mono (by omega))
    have hleft : 0 ≤ 1048576 - (totDfa a.next a.ends : Int) := by omega
    have Hhb1 := Lib.hid hb1; clear hb1
    have HhC1 := Lib.hid hC1; clear hC1
    have HhB1 := Lib.hid hB1; clear hB1
    clear x1
    go_wp2_with fail
    by_cases hB : (totDfa b.next b.ends : Int) ≤ 1048576 - totDfa a.next a.ends
    · refine (szDfa_d b _ _ (by omega) (by omega) _ (H2.out.below HhB1.out) _ (szV_yes hB)).mono ?_
      rintro e w2 ⟨rfl, hb2⟩
      have hC2 := HhC1.out.trans (hb2.mono (by have := HhC1.out.size; simpa using this))
      have x0 := (((Bx.new w _ _).alloc _).below hC2 (by omega))
      have x1 := ((Bx.new (w.alloc _) _ _).below hC2 (by simp))
      have f0 := x0.cell 0
      have f1 := x0.cell 1
      have f2 := x1.cell 0
      have f3 := x1.cell 1
      simp only [List.getElem?_toArray, List.getElem?_cons_zero, List.getElem?_cons_succ, World.size_alloc] at f0 f1 f2 f3
      have hB2 := HhB1.out.trans (hb2.mono HhB1.out.size)
      have hsz2 : w.heap.size + 2 ≤ w2.heap.size := by have := hC2.size; simpa using this
      have hleft2 : 0 ≤ 1048576 - (totDfa a.next a.ends : Int) - totDfa b.next b.ends := by omega
      have hsa : small a := small_of_tot hA (by omega)
      have hsb : small b := small_of_tot hB (by omega)
      have Hhb2 := Lib.hid hb2; clear hb2
      have HhC2 := Lib.hid hC2; clear hC2
      have HhB2 := Lib.hid hB2; clear hB2
      have Hhsa := Lib.hid hsa; clear hsa
      have Hhsb := Lib.hid hsb; clear hsb
      clear x0 x1 e2 e3
      go_wp2_with fail
      by_cases hP : (ps.length : Int) ≤ 1048576 - (totDfa a.next a.ends : Int) - totDfa b.next b.ends
      · refine (szPairS_any _ _ _ (by omega) _ (by omega) (by omega) _ _ (szV_yes hP)).mono ?_
        rintro e w' ⟨rfl, rfl⟩
        have hpl : ps.length ≤ 1048576 := by omega
        have d0 : w.heap.size < w2.drew.heap.size := Nat.lt_of_lt_of_le (by omega) hsz2
        have d1 : w.heap.size + 1 < w2.drew.heap.size := Nat.lt_of_lt_of_le (by omega) hsz2
        have Hk := Lib.hid (fun (w' : World) (h : Below w2.drew.heap.size w2.drew w') => (show w'.cell? ⟨w.heap.size, 0, none⟩ = some (.slice a1 a.next.length c1) ∧ w'.cell? ⟨w.heap.size, 1, none⟩ = some (.slice a2 a.ends.length c2) ∧ w'.cell? ⟨w.heap.size + 1, 0, none⟩ = some (.slice a3 b.next.length c3) ∧ w'.cell? ⟨w.heap.size + 1, 1, none⟩ = some (.slice a4 b.ends.length c4) from ⟨(bcell h _ _ d0).trans f0, (bcell h _ _ d0).trans f1, (bcell h _ _ d1).trans f2, (bcell h _ _ d1).trans f3⟩))
        have HB2 : Hid (Below w.heap.size w w2.drew) := Lib.hid HhB2.out.drew
        have Hhpl := Lib.hid hpl; clear hpl
        obtain ⟨r, hr⟩ : ∃ r, r = checkB a b ps := ⟨_, rfl⟩
        have Hhr := Lib.hid hr; clear hr
        go_wp2_with fail
        go_region_held3 (fun w' => w'.cell? ⟨w.heap.size, 0, none⟩ = some (.slice a1 a.next.length c1) ∧ w'.cell? ⟨w.heap.size, 1, none⟩ = some (.slice a2 a.ends.length c2) ∧ w'.cell? ⟨w.heap.size + 1, 0, none⟩ = some (.slice a3 b.next.length c3) ∧ w'.cell? ⟨w.heap.size + 1, 1, none⟩ = some (.slice a4 b.ends.length c4))
          (first | go_keep | exact Hk.out _ hq3 | exact Hk.out _ hq4 | exact Hk.out _ hq5 | exact Hk.out _ hq6)
          (first
            | (go_at_call 18; (with_reducible refine (toDfa_any a _ _ Hhsa.out (H1.out.below HB2.out)).mono ?_); rintro e w3 ⟨⟨m1, n1, m2, n2, rfl, ho3⟩, hq3⟩)
            | (go_at_call 18; (with_reducible refine (toDfa_any b _ _ Hhsb.out (H2.out.below (HB2.out.trans (hq3.mono HB2.out.size)))).mono ?_); rintro e w4 ⟨⟨m3, n3, m4, n4, rfl, ho4⟩, hb4⟩; have hq4 := hq3.trans (hb4.mono hq3.size))
            | (go_at_call 19; (with_reducible refine (toPairS_any ps _ _ Hhpl.out (H3.out.below (HB2.out.trans (hq4.mono HB2.out.size)))).mono ?_); rintro e w5 ⟨⟨m5, n5, rfl, ho5⟩, hb5⟩; have hq5 := hq4.trans (hb5.mono hq4.size))
            | (go_at_call 17; (with_reducible refine (specCheckPairs_any a b ps _ _ _ _ (((ho3.r.mono (Nat.zero_le _)).below hb4).below hb5) ((ho4.r.mono (Nat.zero_le _)).below hb5) (ho5.pairs.mono (Nat.zero_le _)) r Hhr.out.symm).mono ?_); rintro e w6 ⟨rfl, hb6⟩; have hq6 := hq5.trans (hb6.mono hq5.size)))
        have Hq3 := Lib.hid hq3
        have Hq6 := Lib.hid hq6
        have hB6 : Below w.heap.size w w6 := HB2.out.trans (hq6.mono HB2.out.size)
        obtain ⟨f0', f1', f2', f3'⟩ := Hk.out _ hq6
        have hsz6 : w.heap.size + 2 ≤ w6.heap.size := Nat.le_trans hsz2 hq6.size
        clear hq3 hq4 hq5 hq6 hb4 hb5 hb6 ho3 ho4 ho5 f0 f1 f2 f3 d0 d1
        have HhB6 := Lib.hid hB6; clear hB6
        -- x0 := toDfa(aA)
        go_wp2_with fail
        refine (toDfa_any a _ _ Hhsa.out (H1.out.below HhB6.out)).mono ?_
        rintro e w7 ⟨⟨p1, q1, p2, q2, rfl, ho7⟩, hb7⟩
        have hB7 := HhB6.out.trans (hb7.mono HhB6.out.size)
        have f0 := (bcell hb7 w.heap.size 0 (by omega)).trans f0'
        have f1 := (bcell hb7 w.heap.size 1 (by omega)).trans f1'
        have f2 := (bcell hb7 (w.heap.size + 1) 0 (by omega)).trans f2'
        have f3 := (bcell hb7 (w.heap.size + 1) 1 (by omega)).trans f3'
        have hsz7 : w.heap.size + 2 ≤ w7.heap.size := Nat.le_trans hsz6 hb7.size
        have hl7 : w.heap.size < w7.heap.size := by omega
        have hl7' : w.heap.size + 1 < w7.heap.size := by omega
        have R7 := Lib.hid (ho7.r.mono (Nat.zero_le _))
        have Hhb7 := Lib.hid hb7; clear hb7
        have Hho7 := Lib.hid ho7; clear ho7
        have HhB7 := Lib.hid hB7; clear hB7
        clear f0' f1' f2' f3'
        -- x1 := toDfa(aB)
        go_wp2_with fail
        refine (toDfa_any b _ _ Hhsb.out (H2.out.below (HhB7.out.alloc (by omega) _))).mono ?_
        rintro e w8 ⟨⟨p3, q3, p4, q4, rfl, ho8⟩, hb8⟩
        have x7 := (Bx.new w7 #[.slice p1 a.next.length q1, .slice p2 a.ends.length q2] 30).below hb8 (by simp)
        have hB8 := (HhB7.out.alloc (by omega) (.cells #[.slice p1 a.next.length q1, .slice p2 a.ends.length q2] 30)).trans (hb8.mono (by simp; omega))
        have g0 := (bcell hb8 w.heap.size 0 (by simp; omega)).trans ((alloc_old _ _ _ _ hl7).trans f0)
        have g1 := (bcell hb8 w.heap.size 1 (by simp; omega)).trans ((alloc_old _ _ _ _ hl7).trans f1)
        have g2 := (bcell hb8 (w.heap.size + 1) 0 (by simp; omega)).trans ((alloc_old _ _ _ _ hl7').trans f2)
        have g3 := (bcell hb8 (w.heap.size + 1) 1 (by simp; omega)).trans ((alloc_old _ _ _ _ hl7').trans f3)
        have R7' := Lib.hid ((R7.out.below ((Below.refl _ _).alloc (Nat.le_refl _) _)).below hb8)
        have R8 := Lib.hid (ho8.r.mono (Nat.zero_le _))
        have hsz8 : w7.heap.size + 1 ≤ w8.heap.size := by have := hb8.size; simpa using this
        have Hhb8 := Lib.hid hb8; clear hb8
        have Hho8 := Lib.hid ho8; clear ho8
        have HhB8 := Lib.hid hB8; clear hB8
        have Hx7 := Lib.hid x7; clear x7
        clear f0 f1 f2 f3
        -- x2 := toPairS(aList)
        go_wp2_with fail
        refine (toPairS_any ps _ _ Hhpl.out (H3.out.below (HhB8.out.alloc (by omega) _))).mono ?_
        rintro e w9 ⟨⟨p5, q5, rfl, ho9⟩, hb9⟩
        have x8 := (Bx.new w8 #[.slice p3 b.next.length q3, .slice p4 b.ends.length q4] 30).below hb9 (by simp)
        have y7 := (Hx7.out.alloc (.cells #[.slice p3 b.next.length q3, .slice p4 b.ends.length q4] 30)).below hb9 (by simp; omega)
        have hB9 := (HhB8.out.alloc (by omega) (.cells #[.slice p3 b.next.length q3, .slice p4 b.ends.length q4] 30)).trans (hb9.mono (by simp; omega))
        have hl8 : w.heap.size < w8.heap.size := by omega
        have hl8' : w.heap.size + 1 < w8.heap.size := by omega
        have f0 := (bcell hb9 w.heap.size 0 (by simp; omega)).trans ((alloc_old _ _ _ _ hl8).trans g0)
        have f1 := (bcell hb9 w.heap.size 1 (by simp; omega)).trans ((alloc_old _ _ _ _ hl8).trans g1)
        have f2 := (bcell hb9 (w.heap.size + 1) 0 (by simp; omega)).trans ((alloc_old _ _ _ _ hl8').trans g2)
        have f3 := (bcell hb9 (w.heap.size + 1) 1 (by simp; omega)).trans ((alloc_old _ _ _ _ hl8').trans g3)
        have R7'' := Lib.hid ((R7'.out.below ((Below.refl _ _).alloc (Nat.le_refl _) _)).below hb9)
        have R8' := Lib.hid ((R8.out.below ((Below.refl _ _).alloc (Nat.le_refl _) _)).below hb9)
        have R9 := Lib.hid (ho9.pairs.mono (Nat.zero_le _))
        have hsz9 : w8.heap.size + 1 ≤ w9.heap.size := by have := hb9.size; simpa using this
        have h70 := y7.cell 0
        have h71 := y7.cell 1
        have h80 := x8.cell 0
        have h81 := x8.cell 1
        simp only [List.getElem?_toArray, List.getElem?_cons_zero, List.getElem?_cons_succ] at h70 h71 h80 h81
        have Hhb9 := Lib.hid hb9; clear hb9
        have Hho9 := Lib.hid ho9; clear ho9
        have HhB9 := Lib.hid hB9; clear hB9
        clear g0 g1 g2 g3 x8 y7
        -- g0 := impl.CheckPairs(x0, x1, x2)
        go_wp2_with fail
        refine (implCheckPairs_any a b ps _ _ _ _ R7''.out R8'.out R9.out r Hhr.out.symm).mono ?_
        rintro e w10 ⟨rfl, hb10⟩
        have hB10 := HhB9.out.trans (hb10.mono HhB9.out.size)
        have e70 := (bcell hb10 w7.heap.size 0 (by omega)).trans h70
        have e71 := (bcell hb10 w7.heap.size 1 (by omega)).trans h71
        have e80 := (bcell hb10 w8.heap.size 0 (by omega)).trans h80
        have e81 := (bcell hb10 w8.heap.size 1 (by omega)).trans h81
        have g0 := (bcell hb10 w.heap.size 0 (by omega)).trans f0
        have g1 := (bcell hb10 w.heap.size 1 (by omega)).trans f1
        have g2 := (bcell hb10 (w.heap.size + 1) 0 (by omega)).trans f2
        have g3 := (bcell hb10 (w.heap.size + 1) 1 (by omega)).trans f3
        have Q7 := Lib.hid (R7''.out.below hb10)
        have Q8 := Lib.hid (R8'.out.below hb10)
        have Q9 := Lib.hid (R9.out.below hb10)
        have hsz10 := hb10.size
        have Hhb10 := Lib.hid hb10; clear hb10
        have HhB10 := Lib.hid hB10; clear hB10
        clear f0 f1 f2 f3 h70 h71 h80 h81
        have z0 : w.heap.size < w10.drew.heap.size := Nat.lt_of_lt_of_le (by omega) hsz10
        have z1 : w7.heap.size < w10.drew.heap.size := Nat.lt_of_lt_of_le (by omega) hsz10
        have Hk1 := Lib.hid (fun (w' : World) (h : Below w10.drew.heap.size w10.drew w') => (show w'.cell? ⟨w.heap.size, 0, none⟩ = some (.slice a1 a.next.length c1) ∧ w'.cell? ⟨w.heap.size, 1, none⟩ = some (.slice a2 a.ends.length c2) ∧ w'.cell? ⟨w7.heap.size, 0, none⟩ = some (.slice p1 a.next.length q1) ∧ w'.cell? ⟨w7.heap.size, 1, none⟩ = some (.slice p2 a.ends.length q2) from ⟨(bcell h _ _ z0).trans g0, (bcell h _ _ z0).trans g1, (bcell h _ _ z1).trans e70, (bcell h _ _ z1).trans e71⟩))
        go_wp2
        go_region_held3 (fun w' => w'.cell? ⟨w.heap.size, 0, none⟩ = some (.slice a1 a.next.length c1) ∧ w'.cell? ⟨w.heap.size, 1, none⟩ = some (.slice a2 a.ends.length c2) ∧ w'.cell? ⟨w7.heap.size, 0, none⟩ = some (.slice p1 a.next.length q1) ∧ w'.cell? ⟨w7.heap.size, 1, none⟩ = some (.slice p2 a.ends.length q2))
          (first | go_keep | exact Hk1.out _ hq11 | exact Hk1.out _ hq12)
          (first
            | (go_at_call 18; (with_reducible refine (toDfa_any a _ _ Hhsa.out (H1.out.below HhB10.out.drew)).mono ?_); rintro e w11 ⟨⟨m1', n1', m2', n2', rfl, ho11⟩, hq11⟩)
            | (go_at_call 21; (with_reducible refine (eqDfa_any a a _ _ _ ((Q7.out.below (Below.refl _ _).drew).below hq11) (ho11.r.mono (Nat.zero_le _)) true (by simp)).mono ?_); rintro e w12 ⟨rfl, hb12⟩; have hq12 := hq11.trans (hb12.mono hq11.size)))
        have hB12 : Below w.heap.size w w12 := HhB10.out.drew.trans (hq12.mono HhB10.out.size)
        have e80' := (bcell hq12 w8.heap.size 0 (Nat.lt_of_lt_of_le (by omega) hsz10)).trans e80
        have e81' := (bcell hq12 w8.heap.size 1 (Nat.lt_of_lt_of_le (by omega) hsz10)).trans e81
        have f2 := (bcell hq12 (w.heap.size + 1) 0 (Nat.lt_of_lt_of_le (by omega) hsz10)).trans g2
        have f3 := (bcell hq12 (w.heap.size + 1) 1 (Nat.lt_of_lt_of_le (by omega) hsz10)).trans g3
        have P8 := Lib.hid ((Q8.out.below (Below.refl _ _).drew).below hq12)
        have P9 := Lib.hid ((Q9.out.below (Below.refl _ _).drew).below hq12)
        have hsz12 : w10.heap.size ≤ w12.heap.size := hq12.size
        clear hq11 hq12 hb12 ho11 g0 g1 g2 g3 e70 e71 e80 e81 z0 z1
        have HhB12 := Lib.hid hB12; clear hB12
        have z0 : w.heap.size + 1 < w12.drew.heap.size := Nat.lt_of_lt_of_le (by omega) hsz12
        have z1 : w8.heap.size < w12.drew.heap.size := Nat.lt_of_lt_of_le (by omega) hsz12
        have Hk2 := Lib.hid (fun (w' : World) (h : Below w12.drew.heap.size w12.drew w') => (show w'.cell? ⟨w.heap.size + 1, 0, none⟩ = some (.slice a3 b.next.length c3) ∧ w'.cell? ⟨w.heap.size + 1, 1, none⟩ = some (.slice a4 b.ends.length c4) ∧ w'.cell? ⟨w8.heap.size, 0, none⟩ = some (.slice p3 b.next.length q3) ∧ w'.cell? ⟨w8.heap.size, 1, none⟩ = some (.slice p4 b.ends.length q4) from ⟨(bcell h _ _ z0).trans f2, (bcell h _ _ z0).trans f3, (bcell h _ _ z1).trans e80', (bcell h _ _ z1).trans e81'⟩))
        go_wp2
        go_region_held3 (fun w' => w'.cell? ⟨w.heap.size + 1, 0, none⟩ = some (.slice a3 b.next.length c3) ∧ w'.cell? ⟨w.heap.size + 1, 1, none⟩ = some (.slice a4 b.ends.length c4) ∧ w'.cell? ⟨w8.heap.size, 0, none⟩ = some (.slice p3 b.next.length q3) ∧ w'.cell? ⟨w8.heap.size, 1, none⟩ = some (.slice p4 b.ends.length q4))
          (first | go_keep | exact Hk2.out _ hq13 | exact Hk2.out _ hq14)
          (first
            | (go_at_call 18; (with_reducible refine (toDfa_any b _ _ Hhsb.out (H2.out.below HhB12.out.drew)).mono ?_); rintro e w13 ⟨⟨m1'', n1'', m2'', n2'', rfl, ho13⟩, hq13⟩)
            | (go_at_call 21; (with_reducible refine (eqDfa_any b b _ _ _ ((P8.out.below (Below.refl _ _).drew).below hq13) (ho13.r.mono (Nat.zero_le _)) true (by simp)).mono ?_); rintro e w14 ⟨rfl, hb14⟩; have hq14 := hq13.trans (hb14.mono hq13.size)))
        have hB14 : Below w.heap.size w w14 := HhB12.out.drew.trans (hq14.mono HhB12.out.size)
        have O9 := Lib.hid ((P9.out.below (Below.refl _ _).drew).below hq14)
        clear hq13 hq14 hb14 ho13 f2 f3 e80' e81' z0 z1
        have HhB14 := Lib.hid hB14; clear hB14
        go_wp2_with fail
        refine (toPairS_any ps _ _ Hhpl.out (H3.out.below HhB14.out)).mono ?_
        rintro e w15 ⟨⟨m5', n5', rfl, ho15⟩, hb15⟩
        have hB15 := HhB14.out.trans (hb15.mono HhB14.out.size)
        have O9' := Lib.hid (O9.out.below hb15)
        have O15 := Lib.hid (ho15.pairs.mono (Nat.zero_le _))
        have HhB15 := Lib.hid hB15; clear hB15
        clear hb15 ho15
        go_wp2_with fail
        refine (eqPairS_any ps ps _ _ _ O9'.out O15.out true (by simp)).mono ?_
        rintro e w16 ⟨rfl, hb16⟩
        have Hhb16 := Lib.hid hb16; clear hb16
        go_wp2
        go_ret
        exact ⟨rfl, HhB15.out.trans (Hhb16.out.mono HhB15.out.size)⟩
      · refine (szPairS_any _ _ _ (by omega) _ (by omega) (by omega) _ _ (szV_no (by omega))).mono ?_
        rintro e w' ⟨rfl, rfl⟩
        go_wp2
        go_ret
        exact ⟨rfl, HhB2.out⟩
    · refine (szDfa_d b _ _ (by omega) (by omega) _ (H2.out.below HhB1.out) _ (szV_no (by omega))).mono ?_
      rintro e w2 ⟨rfl, hb2⟩
      have Hhb2 := Lib.hid hb2; clear hb2
      go_wp2
      go_ret
      exact ⟨rfl, HhB1.out.trans (Hhb2.out.mono HhB1.out.size)⟩
  · go_enter Try.func3, Try.ntmps3
    go_wp2_with fail
    refine (szDfa_d a _ _ (by omega) (by omega) _ (H1.out.below HhW2.out) _ (szV_no (by omega))).mono ?_
    rintro e w1 ⟨rfl, hb1⟩
    have Hhb1 := Lib.hid hb1; clear hb1
    go_wp2
    go_ret
    exact ⟨rfl, HhW2.out.trans (Hhb1.out.mono HhW2.out.size)⟩
end Go.Proofs.Ytolkifpeblbfcaa
