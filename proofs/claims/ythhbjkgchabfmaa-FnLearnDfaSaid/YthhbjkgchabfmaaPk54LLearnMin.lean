/-
  The walks over the functions that copy an argument of a law into new memory.
  Conditions: the argument reads as a list; its length is at most 1048576.
  What lies in memory while states are explored: the states met, their numbers in a map, the automaton that grows.
  Conditions: the things met lie in blocks of a type of their own.
  The walks over the functions of the laws that write numbers into what a call has handed back, and look for them again.
  Conditions: what is written is the call's own; the numbers stay below ten thousand million.
-/
import Derived.Test.YthhbjkgchabfmaaPk19Jg
import Derived.Test.YthhbjkgchabfmaaPk31Ll
import Derived.Test.YthhbjkgchabfmaaPk33Jv
import Derived.Test.YthhbjkgchabfmaaPk36Li
import Derived.Test.YthhbjkgchabfmaaPk37Sd
import Derived.Test.YthhbjkgchabfmaaPk44Pa
import Derived.Test.YthhbjkgchabfmaaPk46Pg
namespace Go.Proofs.Ythhbjkgchabfmaa
open Go.RowKit
def RDfa (tS tI tB lo : Nat) (d : DfaD) (en : Ending) (w' : World) : Prop := ∃ a1 c1 a2 c2, en = .returned (.agg #[.slice a1 d.next.length c1, .slice a2 d.ends.length c2]) ∧ DfaO tS tI tB lo w'.heap.size w' (.agg #[.slice a1 d.next.length c1, .slice a2 d.ends.length c2]) d
end Go.Proofs.Ythhbjkgchabfmaa
namespace Go.Proofs.Ythhbjkgchabfmaa
open Go.RowKit Go.Maps
section
variable {α : Type}
variable {kt sz B B1 B2 B4 hi : Nat} {enc : α → Value} {cel : α → List Value} {w w' : World} {met : List α} {rows : List (List Int)} {ends : List Bool} {vm vn ve : Value}
end
end Go.Proofs.Ythhbjkgchabfmaa
namespace Go.Proofs.Ythhbjkgchabfmaa
open Go.RowKit
set_option maxRecDepth 100000 in
set_option maxHeartbeats 4000000 in
theorem drawLearnDfaD_any (bs : List Nat) (v : Value) (w : World) (hb : Bytes 0 w v bs) (hlen : bs.length ≤ 100000000) :
    Calls Try.prog 57 #[v] w fun e w' => RDraw w e w' := by
  have hS0 := (St.start w).alloc _ rfl #[.slice none 0 0, .slice none 0 0] 26
  have Hb := Lib.hid hb
  have HhS0 := Lib.hid hS0; clear hS0
  clear hb
  go_enter Try.func57, Try.ntmps57
  go_wp2_with fail
  refine (openJ_any bs v _ (Hb.out.below HhS0.out.bel) hlen).mono ?_
  rintro e w1 ⟨vb, bs', hl', hB, rfl, hS'⟩
  obtain ⟨b, hbb⟩ : ∃ b, b = (w.alloc (.cells #[.slice none 0 0, .slice none 0 0] 26)).heap.size := ⟨_, rfl⟩
  rw [← hbb] at hS'
  rw [← hbb]
  have hB1 := hB w Hb.out
  have HB := Lib.hid hB1
  have HS1 := Lib.hid ((HhS0.out.cat hS').pick [1, 0] (by decide))
  have Hhbb := Lib.hid hbb; clear hbb
  clear hS' hB hB1
  go_wp2_with fail
  refine (l20Dfa_any bs' vb b 0 12 w w1 _ HB.out hl' (by omega) (by omega) HS1.out).mono ?_
  rintro e w2 ⟨D, pn, a1, a2, c1, c2, vs, E, hpn, hsm, rfl, hh, hS2⟩
  have HS := Lib.hid hS2
  clear hS2
  have f0 := HS.out.fr 1 0 rfl
  have k0 := HS.out.cell (v := .slice none 0 0) 1 0 rfl rfl
  have f1 := HS.out.fr 1 1 rfl
  have k1 := HS.out.cell (v := .slice none 0 0) 1 1 rfl rfl
  have HS3 := Lib.hid ((HS.out.set 1 rfl 0 (.slice a1 D.next.length c1)).set 1 rfl 1 (.slice a2 D.ends.length c2))
  have q0 := HS3.out.cell (v := .slice a1 D.next.length c1) 1 0 rfl rfl
  have q1 := HS3.out.cell (v := .slice a2 D.ends.length c2) 1 1 rfl rfl
  go_wp2
  refine bodyPost_ret (v := .agg #[.slice a1 D.next.length c1, .slice a2 D.ends.length c2]) (by simp [results, Try.results57, go_sem, q0, q1]) rfl ?_
  exact ⟨D, a1, a2, c1, c2, hsm, rfl, hh.r HS3.out 2 rfl, HS3.out.bel⟩
def learnD (d : DfaD) (J : Nat) : DfaD := if dfaOk d.next d.ends = true then gueW d J else ⟨[], []⟩
theorem nilD_own (w : World) (B tS tI tB : Nat) : DfaO tS tI tB B w.heap.size w (.agg #[.slice none 0 0, .slice none 0 0]) ⟨[], []⟩ :=
  ⟨_, _, rfl, ⟨[], own_of_row ⟨by simp, Or.inl ⟨rfl, rfl⟩⟩, fun i hi => absurd hi (by simp), fun i j k _ hj => absurd hj (by simp)⟩, own_of_row ⟨by simp, Or.inl ⟨rfl, rfl⟩⟩⟩
set_option maxRecDepth 100000 in
set_option maxHeartbeats 4000000 in
theorem implLearnDfa_any (d : DfaD) (J : Nat) (hJ : lastG d J) (D : DfaD) (hD : learnD d J = D) (v : Value) (w : World) (h : DfaR 0 w v d) :
    Calls Try.prog 58 #[v] w fun e w' => RDfa 29 3 4 w.heap.size D e w' ∧ Below w.heap.size w w' := by
  have HD := Lib.hid h
  obtain ⟨v1, v2, rfl, -, -⟩ := h
  have hS := ((St.start w).alloc _ rfl #[v1, v2] 26).alloc (w.heap.size + 1) (by simp) #[.slice none 0 0, .slice none 0 0] 26
  unfold learnD at hD
  have HhS := Lib.hid hS; clear hS
  cases hok : dfaOk d.next d.ends
  · rw [hok, if_neg (by simp)] at hD
    have Hhok := Lib.hid hok; clear hok
    subst hD
    go_enter Try.func58, Try.ntmps58
    go_wp2_with fail
    refine (implDfaValid_any d _ _ (HD.out.below HhS.out.bel) _ Hhok.out).mono ?_
    rintro e w1 ⟨rfl, hb⟩
    have hS1 := HhS.out.call hb
    have f0 := hS1.fr 1 0 rfl
    have f1 := hS1.fr 1 1 rfl
    have k0 := hS1.cell (v := .slice none 0 0) 1 0 rfl rfl
    have k1 := hS1.cell (v := .slice none 0 0) 1 1 rfl rfl
    have HhS1 := Lib.hid hS1; clear hS1
    clear hb
    go_wp2
    have hq := (HhS1.out.set 1 rfl 0 (.slice none 0 0)).set 1 rfl 1 (.slice none 0 0)
    have q0 := hq.cell (v := .slice none 0 0) 1 0 rfl rfl
    have q1 := hq.cell (v := .slice none 0 0) 1 1 rfl rfl
    refine bodyPost_ret (v := .agg #[.slice none 0 0, .slice none 0 0]) (by simp [results, Try.results58, go_sem, q0, q1]) rfl ⟨?_, hq.bel⟩
    exact ⟨none, 0, none, 0, rfl, nilD_own _ _ _ _ _⟩
  · rw [hok, if_pos rfl] at hD
    obtain ⟨hj1, hj2⟩ := hJ hok
    have hJ40 := lastG_lt hok hJ
    have hgl : ((List.range (J + 1)).map (gueW d)).getD J ⟨[], []⟩ = D := by rw [← hD]; simp
    have hgn : J < ((List.range (J + 1)).map (gueW d)).length := by simp
    have hlearn := fun (w' : World) (hb : Below w.heap.size w w') => learn_any d J _ w' hok hj1 hj2 (HD.out.below hb)
    unfold RLearn at hlearn
    obtain ⟨gs, hgs⟩ : ∃ gs, gs = (List.range (J + 1)).map (gueW d) := ⟨_, rfl⟩
    rw [← hgs] at hgl hgn hlearn
    have hgsl : gs.length = J + 1 := by rw [hgs]; simp
    have Hlearn := Lib.hid hlearn
    have Hhok := Lib.hid hok; clear hok
    have HhD := Lib.hid hD; clear hD
    have Hhgl := Lib.hid hgl; clear hgl
    have Hhgn := Lib.hid hgn; clear hgn
    have Hhgs := Lib.hid hgs; clear hgs
    have Hhgsl := Lib.hid hgsl; clear hgsl
    clear hj1 hj2 hlearn hJ
    go_enter Try.func58, Try.ntmps58
    go_wp2_with fail
    refine (implDfaValid_any d _ _ (HD.out.below HhS.out.bel) _ Hhok.out).mono ?_
    rintro e w1 ⟨rfl, hb⟩
    have hS1 := HhS.out.call hb
    have e0 := hS1.cell (v := v1) 0 0 rfl rfl
    have e1 := hS1.cell (v := v2) 0 1 rfl rfl
    have HhS1 := Lib.hid hS1; clear hS1
    clear hb
    go_wp2_with fail
    refine (Hlearn.out _ HhS1.out.bel).mono ?_
    rintro e w2 ⟨a, c, vals, X, rfl, hG, hS2⟩
    have hS3 := HhS1.out.cat hS2
    obtain ⟨a1, c1, a2, c2, hval, hel, -⟩ := hG.own hS3 3 rfl Hhgn.out
    rw [Hhgl.out] at hval hel
    obtain ⟨g0, c0, hv0⟩ := hS3.rowform 2 rfl (by omega)
    simp only [Value.slice.injEq] at hv0
    obtain ⟨rfl, -, rfl⟩ := hv0
    obtain ⟨hcp1, hcp2⟩ := hS3.rowcap 2 rfl
    have hvl : vals.length = J + 1 := by rw [hG.1]; exact Hhgsl.out
    have f0 := flat_get valCells 2 (fun _ => rfl) vals J 0 (undef, undef) (by omega) (by omega)
    have f1 := flat_get valCells 2 (fun _ => rfl) vals J 1 (undef, undef) (by omega) (by omega)
    rw [hval] at f0 f1
    have x0 := hS3.rcell (v := .slice a1 D.next.length c1) 2 (J * 2 + 0) rfl (by omega) (by rw [f0]; rfl)
    have x1 := hS3.rcell (v := .slice a2 D.next.length c2) 2 (J * 2 + 1) rfl (by omega) (by rw [f1]; rfl)
    simp only [Nat.add_zero] at x0
    have r0 := hS3.fr 1 0 rfl
    have r1 := hS3.fr 1 1 rfl
    have k0 := hS3.cell (v := .slice none 0 0) 1 0 rfl rfl
    have k1 := hS3.cell (v := .slice none 0 0) 1 1 rfl rfl
    have hwj : IntKind.i64.wrap ((J : Int) + 1 - 1) = (J : Int) := by rw [IntWalk.i64_in _ (by omega)]; omega
    have hJI : (J : Int) < (J : Int) + 1 := by omega
    have HhS3 := Lib.hid hS3; clear hS3
    have HhG := Lib.hid hG; clear hG
    have Hhel := Lib.hid hel; clear hel
    have Hhval := Lib.hid hval; clear hval
    clear hS2 e0 e1 f0 f1 hvl
    go_wp2
    have hq := (HhS3.out.set 1 rfl 0 (.slice a1 D.next.length c1)).set 1 rfl 1 (.slice a2 D.next.length c2)
    have q0 := hq.cell (v := .slice a1 D.next.length c1) 1 0 rfl rfl
    have q1 := hq.cell (v := .slice a2 D.next.length c2) 1 1 rfl rfl
    refine bodyPost_ret (v := .agg #[.slice a1 D.next.length c1, .slice a2 D.next.length c2]) (by simp [results, Try.results58, go_sem, q0, q1]) rfl ⟨?_, hq.bel⟩
    obtain ⟨p1, t1, p2, t2, hval2, -, hown⟩ := HhG.out.own hq 3 rfl Hhgn.out
    rw [Hhgl.out] at hval2 hown
    rw [Hhval.out] at hval2
    simp only [Prod.mk.injEq, Value.slice.injEq, true_and] at hval2
    obtain ⟨⟨rfl, rfl⟩, rfl, rfl⟩ := hval2
    exact ⟨a1, c1, a2, c2, by rw [Hhel.out], by rw [Hhel.out]; exact hown⟩
set_option maxRecDepth 100000 in
set_option maxHeartbeats 4000000 in
theorem specLearnDfa_any (d : DfaD) (J : Nat) (hJ : lastG d J) (D : DfaD) (hD : learnD d J = D) (v : Value) (w : World) (h : DfaR 0 w v d) :
    Calls Try.prog 59 #[v] w fun e w' => RDfa 29 3 4 w.heap.size D e w' ∧ Below w.heap.size w w' := by
  have HD := Lib.hid h
  obtain ⟨v1, v2, rfl, -, -⟩ := h
  have hS := ((St.start w).alloc _ rfl #[v1, v2] 26).alloc (w.heap.size + 1) (by simp) #[.slice none 0 0, .slice none 0 0] 26
  unfold learnD at hD
  have HhS := Lib.hid hS; clear hS
  cases hok : dfaOk d.next d.ends
  · rw [hok, if_neg (by simp)] at hD
    have Hhok := Lib.hid hok; clear hok
    subst hD
    go_enter Try.func59, Try.ntmps59
    go_wp2_with fail
    refine (specDfaValidD_any d _ _ (HD.out.below HhS.out.bel) _ Hhok.out).mono ?_
    rintro e w1 ⟨rfl, hb⟩
    have hS1 := HhS.out.call hb
    have f0 := hS1.fr 1 0 rfl
    have f1 := hS1.fr 1 1 rfl
    have k0 := hS1.cell (v := .slice none 0 0) 1 0 rfl rfl
    have k1 := hS1.cell (v := .slice none 0 0) 1 1 rfl rfl
    have HhS1 := Lib.hid hS1; clear hS1
    clear hb
    go_wp2
    have hq := (HhS1.out.set 1 rfl 0 (.slice none 0 0)).set 1 rfl 1 (.slice none 0 0)
    have q0 := hq.cell (v := .slice none 0 0) 1 0 rfl rfl
    have q1 := hq.cell (v := .slice none 0 0) 1 1 rfl rfl
    refine bodyPost_ret (v := .agg #[.slice none 0 0, .slice none 0 0]) (by simp [results, Try.results59, go_sem, q0, q1]) rfl ⟨?_, hq.bel⟩
    exact ⟨none, 0, none, 0, rfl, nilD_own _ _ _ _ _⟩
  · rw [hok, if_pos rfl] at hD
    obtain ⟨hj1, hj2⟩ := hJ hok
    have hJ40 := lastG_lt hok hJ
    have hgl : ((List.range (J + 1)).map (gueW d)).getD J ⟨[], []⟩ = D := by rw [← hD]; simp
    have hgn : J < ((List.range (J + 1)).map (gueW d)).length := by simp
    have hlearn := fun (w' : World) (hb : Below w.heap.size w w') => l23Learn_any d J _ w' hok hj1 hj2 (HD.out.below hb)
    unfold RLearn at hlearn
    obtain ⟨gs, hgs⟩ : ∃ gs, gs = (List.range (J + 1)).map (gueW d) := ⟨_, rfl⟩
    rw [← hgs] at hgl hgn hlearn
    have hgsl : gs.length = J + 1 := by rw [hgs]; simp
    have Hlearn := Lib.hid hlearn
    have Hhok := Lib.hid hok; clear hok
    have HhD := Lib.hid hD; clear hD
    have Hhgl := Lib.hid hgl; clear hgl
    have Hhgn := Lib.hid hgn; clear hgn
    have Hhgs := Lib.hid hgs; clear hgs
    have Hhgsl := Lib.hid hgsl; clear hgsl
    clear hj1 hj2 hlearn hJ
    go_enter Try.func59, Try.ntmps59
    go_wp2_with fail
    refine (specDfaValidD_any d _ _ (HD.out.below HhS.out.bel) _ Hhok.out).mono ?_
    rintro e w1 ⟨rfl, hb⟩
    have hS1 := HhS.out.call hb
    have e0 := hS1.cell (v := v1) 0 0 rfl rfl
    have e1 := hS1.cell (v := v2) 0 1 rfl rfl
    have HhS1 := Lib.hid hS1; clear hS1
    clear hb
    go_wp2_with fail
    refine (Hlearn.out _ HhS1.out.bel).mono ?_
    rintro e w2 ⟨a, c, vals, X, rfl, hG, hS2⟩
    have hS3 := HhS1.out.cat hS2
    obtain ⟨a1, c1, a2, c2, hval, hel, -⟩ := hG.own hS3 3 rfl Hhgn.out
    rw [Hhgl.out] at hval hel
    obtain ⟨g0, c0, hv0⟩ := hS3.rowform 2 rfl (by omega)
    simp only [Value.slice.injEq] at hv0
    obtain ⟨rfl, -, rfl⟩ := hv0
    obtain ⟨hcp1, hcp2⟩ := hS3.rowcap 2 rfl
    have hvl : vals.length = J + 1 := by rw [hG.1]; exact Hhgsl.out
    have f0 := flat_get valCells 2 (fun _ => rfl) vals J 0 (undef, undef) (by omega) (by omega)
    have f1 := flat_get valCells 2 (fun _ => rfl) vals J 1 (undef, undef) (by omega) (by omega)
    rw [hval] at f0 f1
    have x0 := hS3.rcell (v := .slice a1 D.next.length c1) 2 (J * 2 + 0) rfl (by omega) (by rw [f0]; rfl)
    have x1 := hS3.rcell (v := .slice a2 D.next.length c2) 2 (J * 2 + 1) rfl (by omega) (by rw [f1]; rfl)
    simp only [Nat.add_zero] at x0
    have r0 := hS3.fr 1 0 rfl
    have r1 := hS3.fr 1 1 rfl
    have k0 := hS3.cell (v := .slice none 0 0) 1 0 rfl rfl
    have k1 := hS3.cell (v := .slice none 0 0) 1 1 rfl rfl
    have hwj : IntKind.i64.wrap ((J : Int) + 1 - 1) = (J : Int) := by rw [IntWalk.i64_in _ (by omega)]; omega
    have hJI : (J : Int) < (J : Int) + 1 := by omega
    have HhS3 := Lib.hid hS3; clear hS3
    have HhG := Lib.hid hG; clear hG
    have Hhel := Lib.hid hel; clear hel
    have Hhval := Lib.hid hval; clear hval
    clear hS2 e0 e1 f0 f1 hvl
    go_wp2
    have hq := (HhS3.out.set 1 rfl 0 (.slice a1 D.next.length c1)).set 1 rfl 1 (.slice a2 D.next.length c2)
    have q0 := hq.cell (v := .slice a1 D.next.length c1) 1 0 rfl rfl
    have q1 := hq.cell (v := .slice a2 D.next.length c2) 1 1 rfl rfl
    refine bodyPost_ret (v := .agg #[.slice a1 D.next.length c1, .slice a2 D.next.length c2]) (by simp [results, Try.results59, go_sem, q0, q1]) rfl ⟨?_, hq.bel⟩
    obtain ⟨p1, t1, p2, t2, hval2, -, hown⟩ := HhG.out.own hq 3 rfl Hhgn.out
    rw [Hhgl.out] at hval2 hown
    rw [Hhval.out] at hval2
    simp only [Prod.mk.injEq, Value.slice.injEq, true_and] at hval2
    obtain ⟨⟨rfl, rfl⟩, rfl, rfl⟩ := hval2
    exact ⟨a1, c1, a2, c2, by rw [Hhel.out], by rw [Hhel.out]; exact hown⟩
theorem learn_same {d : DfaD} (hd : dfaOk d.next d.ends = true) {J : Nat} (hJ : lastG d J) : sameB (gueW d J) d = true :=
  sameB_iff.2 ⟨gueW_ok hd (hJ hd).2, hd, fun w hw => (gueW_same hd hJ w hw).symm⟩
set_option maxRecDepth 100000 in
set_option maxHeartbeats 16000000 in
theorem learnMin_walk (bs : List Nat) (v : Value) (w : World) (hb : Bytes 0 w v bs) :
    Calls Try.prog 13 #[v] w fun e w' => e = .returned (.bool true) ∧ Below w.heap.size w w' := by
  have HB := Lib.hid hb
  obtain ⟨av, cv, rfl, hcv1, hcv2, -⟩ := hb.form
  clear hb
  by_cases hlen : 1048576 < bs.length
  · have hl2 : (1048576 : Int) < bs.length := by omega
    go_enter Try.func13, Try.ntmps13
    go_wp2
    go_ret
    exact ⟨rfl, Below.refl _ _⟩
  have hl2 : ¬ (1048576 : Int) < bs.length := by omega
  go_enter Try.func13, Try.ntmps13
  go_wp2_with fail
  refine (drawLearnDfaD_any bs _ _ HB.out (by omega)).mono ?_
  rintro e w1 ⟨d, a1, a2, c1, c2, hsm, rfl, hd, hb1⟩
  have HS1 := Lib.hid (((St.start w).call hb1).alloc _ rfl #[.slice a1 d.next.length c1, .slice a2 d.ends.length c2] 26)
  have HR := Lib.hid (hd.below ((Below.refl w1.heap.size w1).alloc (Nat.le_refl _) (.cells #[.slice a1 d.next.length c1, .slice a2 d.ends.length c2] 26)))
  clear hb1 hd
  obtain ⟨J, hJ⟩ := lastG_ex d
  obtain ⟨X, hX⟩ : ∃ X, learnD d J = X := ⟨_, rfl⟩
  cases hok : dfaOk d.next d.ends
  · have hz0 : ((X.next.length : Int) == 0) = true := by rw [← hX, learnD, if_neg (by rw [hok]; simp)]; rfl
    have HhJ := Lib.hid hJ; clear hJ
    have HhX := Lib.hid hX; clear hX
    have Hhok := Lib.hid hok; clear hok
    have e0 := HS1.out.cell (v := .slice a1 d.next.length c1) 0 0 rfl rfl
    have e1 := HS1.out.cell (v := .slice a2 d.ends.length c2) 0 1 rfl rfl
    go_wp2_with fail
    refine (implLearnDfa_any d J HhJ.out X HhX.out _ _ HR.out).mono ?_
    rintro e w2 ⟨⟨x1, y1, x2, y2, rfl, hx⟩, hb⟩
    have HS2 := Lib.hid ((HS1.out.call hb).alloc _ rfl #[.slice x1 X.next.length y1, .slice x2 X.ends.length y2] 26)
    have HX := Lib.hid (((hx.r).mono (Nat.zero_le _)).below ((Below.refl w2.heap.size w2).alloc (Nat.le_refl _) (.cells #[.slice x1 X.next.length y1, .slice x2 X.ends.length y2] 26)))
    have HR2 := Lib.hid ((HR.out.below hb).below ((Below.refl w2.heap.size w2).alloc (Nat.le_refl _) (.cells #[.slice x1 X.next.length y1, .slice x2 X.ends.length y2] 26)))
    clear HR hb hx e0 e1
    have D0 := Lib.hid (HS2.out.cell (v := .slice a1 d.next.length c1) 0 0 rfl rfl)
    have D1 := Lib.hid (HS2.out.cell (v := .slice a2 d.ends.length c2) 0 1 rfl rfl)
    have HltD := Lib.hid (HS2.out.boxlt 0 rfl).2
    have C0 := Lib.hid (HS2.out.cell (v := .slice x1 X.next.length y1) 1 0 rfl rfl)
    have C1 := Lib.hid (HS2.out.cell (v := .slice x2 X.ends.length y2) 1 1 rfl rfl)
    have HltC := Lib.hid (HS2.out.boxlt 1 rfl).2
    go_wp2
    refine wp_region_any (by kernel_rfl) ?_
    refine wpAny_invA (fun A listed a w' => ∃ (l0 l1 l2 l3 l4 : Bool) (ax1 : Option Addr) (cx1 : Nat) (ax2 : Option Addr) (cx2 : Nat) (vb : Nat) (vh : Nat), listed = #[l0, l1, l2, l3, l4] ∧
        a = ⟨(((((A.tmps.setIfInBounds 12 (if l0 = true then .agg #[.slice x1 X.next.length y1, .slice x2 X.ends.length y2] else A.tmps.getD 12 undef)).setIfInBounds 13 (if l1 = true then .agg #[.slice a1 d.next.length c1, .slice a2 d.ends.length c2] else A.tmps.getD 13 undef)).setIfInBounds 14 (if l2 = true then .agg #[.slice ax1 X.next.length cx1, .slice ax2 X.ends.length cx2] else A.tmps.getD 14 undef)).setIfInBounds 15 (if l3 = true then .bool true else A.tmps.getD 15 undef)).setIfInBounds 16 (if l4 = true then .bool false else A.tmps.getD 16 undef)), A.defers⟩ ∧
        St (w2.alloc (.cells #[.slice x1 X.next.length y1, .slice x2 X.ends.length y2] 26)) w' [(if l2 = true then DfaV vb vh (.slice ax1 X.next.length cx1) (.slice ax2 X.ends.length cx2) X else Ent.nil)]) ?_ ?_ ?_
    · rintro listed a w' ⟨l0, l1, l2, l3, l4, ax1, cx1, ax2, cx2, vb, vh, rfl, rfl, hS⟩ i hi
      obtain ⟨hun, o, ho, hall⟩ := mem_ready.1 hi
      have hlt := (Array.getElem?_eq_some_iff.1 ho).1
      refine wpOp_step ho (fun K hK => ?_)
      clear hi
      have HS := Lib.hid hS
      clear hS
      simp only [List.setIfInBounds_toArray, List.set_cons_zero, List.set_cons_succ, Array.getD_eq_getD_getElem?, List.getElem?_toArray, List.getElem?_cons_zero, List.getElem?_cons_succ, Option.getD_some]
      obtain h | h | h | h | h : i = 0 ∨ i = 1 ∨ i = 2 ∨ i = 3 ∨ i = 4 := by simp at hlt; omega
      all_goals subst h
      all_goals simp only [List.getElem?_toArray, List.getElem?_cons_zero, List.getElem?_cons_succ, Option.some.injEq] at ho
      all_goals subst ho
      all_goals simp [Region.binds] at hun hall
      · subst hun
        have e0 := (bcell HS.out.bel (w2.heap.size) 0 HltC.out).trans C0.out
        have e1 := (bcell HS.out.bel (w2.heap.size) 1 HltC.out).trans C1.out
        go_simp
        exact hK _ _ ⟨true, l1, l2, l3, l4, ax1, cx1, ax2, cx2, vb, vh, rfl, (by simp), HS.out⟩
      · subst hun
        have e0 := (bcell HS.out.bel (w1.heap.size) 0 HltD.out).trans D0.out
        have e1 := (bcell HS.out.bel (w1.heap.size) 1 HltD.out).trans D1.out
        go_simp
        exact hK _ _ ⟨l0, true, l2, l3, l4, ax1, cx1, ax2, cx2, vb, vh, rfl, (by simp), HS.out⟩
      · obtain rfl := hall
        subst hun
        go_simp
        go_at_call 59
        refine (specLearnDfa_any d J HhJ.out X HhX.out _ _ (HR2.out.below HS.out.bel)).mono ?_
        rintro e u1 ⟨⟨z1, z2, z3, z4, rfl, hr⟩, hb⟩
        have hS2 := (HS.out.dfaV hb hr.r).pick [1] (by decide)
        have HhS2 := Lib.hid hS2; clear hS2
        go_simp
        exact hK _ _ ⟨l0, true, true, l3, l4, z1, z2, z3, z4, w'.heap.size, u1.heap.size, rfl, (by simp), HhS2.out⟩
      · obtain ⟨rfl, rfl⟩ := hall
        subst hun
        go_simp
        go_at_call 23
        refine (sameDfa_any X _ _ _ (HX.out.below HS.out.bel) (HS.out.dfaVr 0 rfl)).mono ?_
        rintro e u1 ⟨rfl, hb⟩
        have hS2 := HS.out.call hb
        have HhS2 := Lib.hid hS2; clear hS2
        go_simp
        exact hK _ _ ⟨true, l1, true, true, l4, ax1, cx1, ax2, cx2, vb, vh, rfl, (by simp), HhS2.out⟩
      · obtain rfl := hall
        subst hun
        go_simp
        exact hK _ _ ⟨l0, l1, l2, true, true, ax1, cx1, ax2, cx2, vb, vh, rfl, (by simp), HS.out⟩
    · rintro listed a w' ⟨l0, l1, l2, l3, l4, ax1, cx1, ax2, cx2, vb, vh, rfl, rfl, hS⟩ hr
      have hall := ready_nilM (by kernel_rfl) rfl hr
      obtain rfl : l0 = true := by simpa using hall 0 (by simp)
      obtain rfl : l1 = true := by simpa using hall 1 (by simp)
      obtain rfl : l2 = true := by simpa using hall 2 (by simp)
      obtain rfl : l3 = true := by simpa using hall 3 (by simp)
      obtain rfl : l4 = true := by simpa using hall 4 (by simp)
      clear hall hr 
      simp only [↓reduceIte] at hS ⊢
      simp only [List.setIfInBounds_toArray, List.set_cons_zero, List.set_cons_succ]
      have HS4 := Lib.hid (HS2.out.call (hS.bel.mono (Nat.le_refl _)))
      have HX4 := Lib.hid (HX.out.below hS.bel)
      have HR4 := Lib.hid (HR2.out.below hS.bel)
      clear hS
      obtain ⟨w4, hw4⟩ : ∃ u : World, u = w' := ⟨_, rfl⟩
      subst hw4
      have e0 := HS4.out.cell (v := .slice a1 d.next.length c1) 0 0 rfl rfl
      have e1 := HS4.out.cell (v := .slice a2 d.ends.length c2) 0 1 rfl rfl
      go_wp2_with fail
      refine (specDfaValidD2_any d _ _ HR4.out false Hhok.out).mono ?_
      rintro e w5 ⟨rfl, hb⟩
      have HS5 := Lib.hid (HS4.out.call hb)
      have HX5 := Lib.hid (HX4.out.below hb)
      have HR5 := Lib.hid (HR4.out.below hb)
      clear hb e0 e1
      have e0 := HS5.out.cell (v := .slice x1 X.next.length y1) 1 0 rfl rfl
      have e1 := HS5.out.cell (v := .slice x2 X.ends.length y2) 1 1 rfl rfl
      go_wp2_with (go_at_call 20; refine (alive_any _).mono ?_; rintro e w' ⟨rfl, rfl⟩)
      go_ret
      exact ⟨rfl, HS5.out.bel⟩
    · refine ⟨false, false, false, false, false, none, 0, none, 0, 0, 0, rfl, (by simp), ?_⟩
      exact (St.start (w2.alloc (.cells #[.slice x1 X.next.length y1, .slice x2 X.ends.length y2] 26))).drew.pick [0] (by decide)
  · obtain rfl : gueW d J = X := by rw [← hX, learnD, if_pos hok]
    have hxok := gueW_ok hok (hJ hok).2
    have hsame := learn_same hok hJ
    obtain ⟨X, hGX⟩ : ∃ X, gueW d J = X := ⟨_, rfl⟩
    obtain ⟨M, hM⟩ : ∃ M, minQ d = M := ⟨_, rfl⟩
    have hMX : ((X.next.length : Int) == (M.next.length : Int)) = true := by
      rw [← hGX, gueW_last hok hJ, ← hM, minQ, if_pos hok]
      simp
    rw [hGX] at hX hxok hsame
    have HhGX := Lib.hid hGX; clear hGX
    have HhM := Lib.hid hM; clear hM
    have HhJ := Lib.hid hJ; clear hJ
    have HhX := Lib.hid hX; clear hX
    have Hhok := Lib.hid hok; clear hok
    have Hhxok := Lib.hid hxok; clear hxok
    have Hhsame := Lib.hid hsame; clear hsame
    have e0 := HS1.out.cell (v := .slice a1 d.next.length c1) 0 0 rfl rfl
    have e1 := HS1.out.cell (v := .slice a2 d.ends.length c2) 0 1 rfl rfl
    go_wp2_with fail
    refine (implLearnDfa_any d J HhJ.out X HhX.out _ _ HR.out).mono ?_
    rintro e w2 ⟨⟨x1, y1, x2, y2, rfl, hx⟩, hb⟩
    have HS2 := Lib.hid ((HS1.out.call hb).alloc _ rfl #[.slice x1 X.next.length y1, .slice x2 X.ends.length y2] 26)
    have HX := Lib.hid (((hx.r).mono (Nat.zero_le _)).below ((Below.refl w2.heap.size w2).alloc (Nat.le_refl _) (.cells #[.slice x1 X.next.length y1, .slice x2 X.ends.length y2] 26)))
    have HR2 := Lib.hid ((HR.out.below hb).below ((Below.refl w2.heap.size w2).alloc (Nat.le_refl _) (.cells #[.slice x1 X.next.length y1, .slice x2 X.ends.length y2] 26)))
    clear HR hb hx e0 e1
    have D0 := Lib.hid (HS2.out.cell (v := .slice a1 d.next.length c1) 0 0 rfl rfl)
    have D1 := Lib.hid (HS2.out.cell (v := .slice a2 d.ends.length c2) 0 1 rfl rfl)
    have HltD := Lib.hid (HS2.out.boxlt 0 rfl).2
    have C0 := Lib.hid (HS2.out.cell (v := .slice x1 X.next.length y1) 1 0 rfl rfl)
    have C1 := Lib.hid (HS2.out.cell (v := .slice x2 X.ends.length y2) 1 1 rfl rfl)
    have HltC := Lib.hid (HS2.out.boxlt 1 rfl).2
    go_wp2
    refine wp_region_any (by kernel_rfl) ?_
    refine wpAny_invA (fun A listed a w' => ∃ (l0 l1 l2 l3 l4 : Bool) (ax1 : Option Addr) (cx1 : Nat) (ax2 : Option Addr) (cx2 : Nat) (vb : Nat) (vh : Nat), listed = #[l0, l1, l2, l3, l4] ∧
        a = ⟨(((((A.tmps.setIfInBounds 12 (if l0 = true then .agg #[.slice x1 X.next.length y1, .slice x2 X.ends.length y2] else A.tmps.getD 12 undef)).setIfInBounds 13 (if l1 = true then .agg #[.slice a1 d.next.length c1, .slice a2 d.ends.length c2] else A.tmps.getD 13 undef)).setIfInBounds 14 (if l2 = true then .agg #[.slice ax1 X.next.length cx1, .slice ax2 X.ends.length cx2] else A.tmps.getD 14 undef)).setIfInBounds 15 (if l3 = true then .bool true else A.tmps.getD 15 undef)).setIfInBounds 16 (if l4 = true then .bool false else A.tmps.getD 16 undef)), A.defers⟩ ∧
        St (w2.alloc (.cells #[.slice x1 X.next.length y1, .slice x2 X.ends.length y2] 26)) w' [(if l2 = true then DfaV vb vh (.slice ax1 X.next.length cx1) (.slice ax2 X.ends.length cx2) X else Ent.nil)]) ?_ ?_ ?_
    · rintro listed a w' ⟨l0, l1, l2, l3, l4, ax1, cx1, ax2, cx2, vb, vh, rfl, rfl, hS⟩ i hi
      obtain ⟨hun, o, ho, hall⟩ := mem_ready.1 hi
      have hlt := (Array.getElem?_eq_some_iff.1 ho).1
      refine wpOp_step ho (fun K hK => ?_)
      clear hi
      have HS := Lib.hid hS
      clear hS
      simp only [List.setIfInBounds_toArray, List.set_cons_zero, List.set_cons_succ, Array.getD_eq_getD_getElem?, List.getElem?_toArray, List.getElem?_cons_zero, List.getElem?_cons_succ, Option.getD_some]
      obtain h | h | h | h | h : i = 0 ∨ i = 1 ∨ i = 2 ∨ i = 3 ∨ i = 4 := by simp at hlt; omega
      all_goals subst h
      all_goals simp only [List.getElem?_toArray, List.getElem?_cons_zero, List.getElem?_cons_succ, Option.some.injEq] at ho
      all_goals subst ho
      all_goals simp [Region.binds] at hun hall
      · subst hun
        have e0 := (bcell HS.out.bel (w2.heap.size) 0 HltC.out).trans C0.out
        have e1 := (bcell HS.out.bel (w2.heap.size) 1 HltC.out).trans C1.out
        go_simp
        exact hK _ _ ⟨true, l1, l2, l3, l4, ax1, cx1, ax2, cx2, vb, vh, rfl, (by simp), HS.out⟩
      · subst hun
        have e0 := (bcell HS.out.bel (w1.heap.size) 0 HltD.out).trans D0.out
        have e1 := (bcell HS.out.bel (w1.heap.size) 1 HltD.out).trans D1.out
        go_simp
        exact hK _ _ ⟨l0, true, l2, l3, l4, ax1, cx1, ax2, cx2, vb, vh, rfl, (by simp), HS.out⟩
      · obtain rfl := hall
        subst hun
        go_simp
        go_at_call 59
        refine (specLearnDfa_any d J HhJ.out X HhX.out _ _ (HR2.out.below HS.out.bel)).mono ?_
        rintro e u1 ⟨⟨z1, z2, z3, z4, rfl, hr⟩, hb⟩
        have hS2 := (HS.out.dfaV hb hr.r).pick [1] (by decide)
        have HhS2 := Lib.hid hS2; clear hS2
        go_simp
        exact hK _ _ ⟨l0, true, true, l3, l4, z1, z2, z3, z4, w'.heap.size, u1.heap.size, rfl, (by simp), HhS2.out⟩
      · obtain ⟨rfl, rfl⟩ := hall
        subst hun
        go_simp
        go_at_call 23
        refine (sameDfa_any X _ _ _ (HX.out.below HS.out.bel) (HS.out.dfaVr 0 rfl)).mono ?_
        rintro e u1 ⟨rfl, hb⟩
        have hS2 := HS.out.call hb
        have HhS2 := Lib.hid hS2; clear hS2
        go_simp
        exact hK _ _ ⟨true, l1, true, true, l4, ax1, cx1, ax2, cx2, vb, vh, rfl, (by simp), HhS2.out⟩
      · obtain rfl := hall
        subst hun
        go_simp
        exact hK _ _ ⟨l0, l1, l2, true, true, ax1, cx1, ax2, cx2, vb, vh, rfl, (by simp), HS.out⟩
    · rintro listed a w' ⟨l0, l1, l2, l3, l4, ax1, cx1, ax2, cx2, vb, vh, rfl, rfl, hS⟩ hr
      have hall := ready_nilM (by kernel_rfl) rfl hr
      obtain rfl : l0 = true := by simpa using hall 0 (by simp)
      obtain rfl : l1 = true := by simpa using hall 1 (by simp)
      obtain rfl : l2 = true := by simpa using hall 2 (by simp)
      obtain rfl : l3 = true := by simpa using hall 3 (by simp)
      obtain rfl : l4 = true := by simpa using hall 4 (by simp)
      clear hall hr 
      simp only [↓reduceIte] at hS ⊢
      simp only [List.setIfInBounds_toArray, List.set_cons_zero, List.set_cons_succ]
      have HS4 := Lib.hid (HS2.out.call (hS.bel.mono (Nat.le_refl _)))
      have HX4 := Lib.hid (HX.out.below hS.bel)
      have HR4 := Lib.hid (HR2.out.below hS.bel)
      clear hS
      obtain ⟨w4, hw4⟩ : ∃ u : World, u = w' := ⟨_, rfl⟩
      subst hw4
      have e0 := HS4.out.cell (v := .slice a1 d.next.length c1) 0 0 rfl rfl
      have e1 := HS4.out.cell (v := .slice a2 d.ends.length c2) 0 1 rfl rfl
      go_wp2_with fail
      refine (specDfaValidD2_any d _ _ HR4.out true Hhok.out).mono ?_
      rintro e w5 ⟨rfl, hb⟩
      have HS5 := Lib.hid (HS4.out.call hb)
      have HX5 := Lib.hid (HX4.out.below hb)
      have HR5 := Lib.hid (HR4.out.below hb)
      clear hb e0 e1
      clear D0 D1 C0 C1 HltD HltC
      have D0 := Lib.hid (HS5.out.cell (v := .slice a1 d.next.length c1) 0 0 rfl rfl)
      have D1 := Lib.hid (HS5.out.cell (v := .slice a2 d.ends.length c2) 0 1 rfl rfl)
      have HltD := Lib.hid (HS5.out.boxlt 0 rfl).2
      have C0 := Lib.hid (HS5.out.cell (v := .slice x1 X.next.length y1) 1 0 rfl rfl)
      have C1 := Lib.hid (HS5.out.cell (v := .slice x2 X.ends.length y2) 1 1 rfl rfl)
      have HltC := Lib.hid (HS5.out.boxlt 1 rfl).2
      go_wp2
      refine wp_region_any (by kernel_rfl) ?_
      refine wpAny_invA (fun A listed a w' => ∃ (l0 l1 l2 l3 l4 l5 l6 l7 l8 l9 l10 l11 l12 l13 l14 l15 l16 l17 : Bool) (ax1 : Option Addr) (cx1 : Nat) (ax2 : Option Addr) (cx2 : Nat) (vb : Nat) (vh : Nat), listed = #[l0, l1, l2, l3, l4, l5, l6, l7, l8, l9, l10, l11, l12, l13, l14, l15, l16, l17] ∧ (l13 = true → l12 = true) ∧
          a = ⟨((((((((((((((((((A.tmps.setIfInBounds 27 (if l0 = true then .agg #[.slice x1 X.next.length y1, .slice x2 X.ends.length y2] else A.tmps.getD 27 undef)).setIfInBounds 28 (if l1 = true then .bool true else A.tmps.getD 28 undef)).setIfInBounds 29 (if l2 = true then .bool true else A.tmps.getD 29 undef)).setIfInBounds 30 (if l3 = true then .agg #[.slice x1 X.next.length y1, .slice x2 X.ends.length y2] else A.tmps.getD 30 undef)).setIfInBounds 31 (if l4 = true then .agg #[.slice a1 d.next.length c1, .slice a2 d.ends.length c2] else A.tmps.getD 31 undef)).setIfInBounds 32 (if l5 = true then .bool true else A.tmps.getD 32 undef)).setIfInBounds 33 (if l6 = true then .bool true else A.tmps.getD 33 undef)).setIfInBounds 34 (if l7 = true then .bool true else A.tmps.getD 34 undef)).setIfInBounds 35 (if l8 = true then .pointer (some ⟨w2.heap.size, 0, none⟩) else A.tmps.getD 35 undef)).setIfInBounds 36 (if l9 = true then .slice x1 X.next.length y1 else A.tmps.getD 36 undef)).setIfInBounds 37 (if l10 = true then .int .i64 (X.next.length : Int) else A.tmps.getD 37 undef)).setIfInBounds 38 (if l11 = true then .agg #[.slice a1 d.next.length c1, .slice a2 d.ends.length c2] else A.tmps.getD 38 undef)).setIfInBounds 39 (if l12 = true then .agg #[.slice ax1 M.next.length cx1, .slice ax2 M.ends.length cx2] else A.tmps.getD 39 undef)).setIfInBounds 40 (if l13 = true then .slice ax1 M.next.length cx1 else A.tmps.getD 40 undef)).setIfInBounds 41 (if l14 = true then .int .i64 (M.next.length : Int) else A.tmps.getD 41 undef)).setIfInBounds 42 (if l15 = true then .bool true else A.tmps.getD 42 undef)).setIfInBounds 43 (if l16 = true then .bool true else A.tmps.getD 43 undef)).setIfInBounds 2 (.bool l17)), A.defers⟩ ∧
          St w5 w' [(if l12 = true then DfaV vb vh (.slice ax1 M.next.length cx1) (.slice ax2 M.ends.length cx2) M else Ent.nil)]) ?_ ?_ ?_
      · rintro listed a w' ⟨l0, l1, l2, l3, l4, l5, l6, l7, l8, l9, l10, l11, l12, l13, l14, l15, l16, l17, ax1, cx1, ax2, cx2, vb, vh, rfl, hd13, rfl, hS⟩ i hi
        obtain ⟨hun, o, ho, hall⟩ := mem_ready.1 hi
        have hlt := (Array.getElem?_eq_some_iff.1 ho).1
        refine wpOp_step ho (fun K hK => ?_)
        clear hi
        have HS := Lib.hid hS
        clear hS
        simp only [List.setIfInBounds_toArray, List.set_cons_zero, List.set_cons_succ, Array.getD_eq_getD_getElem?, List.getElem?_toArray, List.getElem?_cons_zero, List.getElem?_cons_succ, Option.getD_some]
        obtain h | h | h | h | h | h | h | h | h | h | h | h | h | h | h | h | h | h : i = 0 ∨ i = 1 ∨ i = 2 ∨ i = 3 ∨ i = 4 ∨ i = 5 ∨ i = 6 ∨ i = 7 ∨ i = 8 ∨ i = 9 ∨ i = 10 ∨ i = 11 ∨ i = 12 ∨ i = 13 ∨ i = 14 ∨ i = 15 ∨ i = 16 ∨ i = 17 := by simp at hlt; omega
        all_goals subst h
        all_goals simp only [List.getElem?_toArray, List.getElem?_cons_zero, List.getElem?_cons_succ, Option.some.injEq] at ho
        all_goals subst ho
        all_goals simp [Region.binds] at hun hall
        · subst hun
          have e0 := (bcell HS.out.bel (w2.heap.size) 0 HltC.out).trans C0.out
          have e1 := (bcell HS.out.bel (w2.heap.size) 1 HltC.out).trans C1.out
          go_simp
          exact hK _ _ ⟨true, l1, l2, l3, l4, l5, l6, l7, l8, l9, l10, l11, l12, l13, l14, l15, l16, l17, ax1, cx1, ax2, cx2, vb, vh, rfl, hd13, (by simp), HS.out⟩
        · obtain rfl := hall
          subst hun
          go_simp
          go_at_call 39
          refine (implDfaValid_any X _ _ (HX5.out.below HS.out.bel) _ Hhxok.out).mono ?_
          rintro e u1 ⟨rfl, hb⟩
          have hS2 := HS.out.call hb
          have HhS2 := Lib.hid hS2; clear hS2
          go_simp
          exact hK _ _ ⟨true, true, l2, l3, l4, l5, l6, l7, l8, l9, l10, l11, l12, l13, l14, l15, l16, l17, ax1, cx1, ax2, cx2, vb, vh, rfl, hd13, (by simp), HhS2.out⟩
        · obtain rfl := hall
          subst hun
          go_simp
          exact hK _ _ ⟨l0, true, true, l3, l4, l5, l6, l7, l8, l9, l10, l11, l12, l13, l14, l15, l16, l17, ax1, cx1, ax2, cx2, vb, vh, rfl, hd13, (by simp), HS.out⟩
        · obtain rfl := hall
          subst hun
          have e0 := (bcell HS.out.bel (w2.heap.size) 0 HltC.out).trans C0.out
          have e1 := (bcell HS.out.bel (w2.heap.size) 1 HltC.out).trans C1.out
          go_simp
          exact hK _ _ ⟨l0, l1, true, true, l4, l5, l6, l7, l8, l9, l10, l11, l12, l13, l14, l15, l16, l17, ax1, cx1, ax2, cx2, vb, vh, rfl, hd13, (by simp), HS.out⟩
        · obtain rfl := hall
          subst hun
          have e0 := (bcell HS.out.bel (w1.heap.size) 0 HltD.out).trans D0.out
          have e1 := (bcell HS.out.bel (w1.heap.size) 1 HltD.out).trans D1.out
          go_simp
          exact hK _ _ ⟨l0, l1, true, l3, true, l5, l6, l7, l8, l9, l10, l11, l12, l13, l14, l15, l16, l17, ax1, cx1, ax2, cx2, vb, vh, rfl, hd13, (by simp), HS.out⟩
        · obtain ⟨rfl, rfl, rfl⟩ := hall
          subst hun
          go_simp
          go_at_call 40
          refine (implSame_any X d _ _ _ (HX5.out.below HS.out.bel) (HR5.out.below HS.out.bel) _ Hhsame.out).mono ?_
          rintro e u1 ⟨rfl, hb⟩
          have hS2 := HS.out.call hb
          have HhS2 := Lib.hid hS2; clear hS2
          go_simp
          exact hK _ _ ⟨l0, l1, true, true, true, true, l6, l7, l8, l9, l10, l11, l12, l13, l14, l15, l16, l17, ax1, cx1, ax2, cx2, vb, vh, rfl, hd13, (by simp), HhS2.out⟩
        · obtain ⟨rfl, rfl⟩ := hall
          subst hun
          go_simp
          exact hK _ _ ⟨l0, l1, true, l3, l4, true, true, l7, l8, l9, l10, l11, l12, l13, l14, l15, l16, l17, ax1, cx1, ax2, cx2, vb, vh, rfl, hd13, (by simp), HS.out⟩
        · obtain ⟨rfl, rfl⟩ := hall
          subst hun
          go_simp
          exact hK _ _ ⟨l0, l1, l2, l3, l4, true, true, true, l8, l9, l10, l11, l12, l13, l14, l15, l16, l17, ax1, cx1, ax2, cx2, vb, vh, rfl, hd13, (by simp), HS.out⟩
        · obtain rfl := hall
          subst hun
          go_simp
          exact hK _ _ ⟨l0, l1, l2, l3, l4, l5, l6, true, true, l9, l10, l11, l12, l13, l14, l15, l16, l17, ax1, cx1, ax2, cx2, vb, vh, rfl, hd13, (by simp), HS.out⟩
        · obtain ⟨rfl, rfl⟩ := hall
          subst hun
          have e0 := (bcell HS.out.bel (w2.heap.size) 0 HltC.out).trans C0.out
          go_simp
          exact hK _ _ ⟨l0, l1, l2, l3, l4, l5, l6, true, true, true, l10, l11, l12, l13, l14, l15, l16, l17, ax1, cx1, ax2, cx2, vb, vh, rfl, hd13, (by simp), HS.out⟩
        · obtain ⟨rfl, rfl⟩ := hall
          subst hun
          go_simp
          exact hK _ _ ⟨l0, l1, l2, l3, l4, l5, l6, true, l8, true, true, l11, l12, l13, l14, l15, l16, l17, ax1, cx1, ax2, cx2, vb, vh, rfl, hd13, (by simp), HS.out⟩
        · obtain rfl := hall
          subst hun
          have e0 := (bcell HS.out.bel (w1.heap.size) 0 HltD.out).trans D0.out
          have e1 := (bcell HS.out.bel (w1.heap.size) 1 HltD.out).trans D1.out
          go_simp
          exact hK _ _ ⟨l0, l1, l2, l3, l4, l5, l6, true, l8, l9, l10, true, l12, l13, l14, l15, l16, l17, ax1, cx1, ax2, cx2, vb, vh, rfl, hd13, (by simp), HS.out⟩
        · obtain ⟨rfl, rfl⟩ := hall
          subst hun
          obtain rfl : l13 = false := by cases l13 with | false => rfl | true => simpa using hd13 rfl
          go_simp
          go_at_call 28
          refine (implMinimize_any d M HhM.out _ _ (HR5.out.below HS.out.bel)).mono ?_
          rintro e u1 ⟨z1, z2, z3, z4, rfl, hr, hb⟩
          have hS2 := (HS.out.dfaV hb hr).pick [1] (by decide)
          have HhS2 := Lib.hid hS2; clear hS2
          go_simp
          exact hK _ _ ⟨l0, l1, l2, l3, l4, l5, l6, true, l8, l9, l10, true, true, false, l14, l15, l16, l17, z1, z2, z3, z4, w'.heap.size, u1.heap.size, rfl, by simp, (by simp), HhS2.out⟩
        · obtain ⟨rfl, rfl⟩ := hall
          subst hun
          go_simp
          exact hK _ _ ⟨l0, l1, l2, l3, l4, l5, l6, true, l8, l9, l10, l11, true, true, l14, l15, l16, l17, ax1, cx1, ax2, cx2, vb, vh, rfl, by simp, (by simp only [↓reduceIte, List.setIfInBounds_toArray, List.set_cons_zero, List.set_cons_succ, Array.getD_eq_getD_getElem?, List.getElem?_toArray, List.getElem?_cons_zero, List.getElem?_cons_succ, Option.getD_some]; rfl), HS.out⟩
        · obtain ⟨rfl, rfl⟩ := hall
          subst hun
          obtain rfl := hd13 rfl
          go_simp
          exact hK _ _ ⟨l0, l1, l2, l3, l4, l5, l6, true, l8, l9, l10, l11, true, true, true, l15, l16, l17, ax1, cx1, ax2, cx2, vb, vh, rfl, by simp, (by simp), HS.out⟩
        · obtain ⟨rfl, rfl, rfl⟩ := hall
          subst hun
          go_simp
          exact hK _ _ ⟨l0, l1, l2, l3, l4, l5, l6, true, l8, l9, true, l11, l12, l13, true, true, l16, l17, ax1, cx1, ax2, cx2, vb, vh, rfl, hd13, (by simp), HS.out⟩
        · obtain ⟨rfl, rfl⟩ := hall
          subst hun
          go_simp
          exact hK _ _ ⟨l0, l1, l2, l3, l4, l5, l6, true, l8, l9, l10, l11, l12, l13, l14, true, true, l17, ax1, cx1, ax2, cx2, vb, vh, rfl, hd13, (by simp), HS.out⟩
        · obtain ⟨rfl, rfl, rfl, rfl, rfl, rfl, rfl, rfl, rfl, rfl, rfl, rfl, rfl, rfl, -, rfl, rfl, rfl, -⟩ := hall
          subst hun
          go_simp
          exact hK _ _ ⟨true, true, true, true, true, true, true, true, true, true, true, true, true, true, true, true, true, true, ax1, cx1, ax2, cx2, vb, vh, rfl, by simp, (by simp only [↓reduceIte, List.setIfInBounds_toArray, List.set_cons_zero, List.set_cons_succ]), HS.out⟩
      · rintro listed a w' ⟨l0, l1, l2, l3, l4, l5, l6, l7, l8, l9, l10, l11, l12, l13, l14, l15, l16, l17, ax1, cx1, ax2, cx2, vb, vh, rfl, hd13, rfl, hS⟩ hr
        have hall := ready_nilM (by kernel_rfl) rfl hr
        obtain rfl : l0 = true := by simpa using hall 0 (by simp)
        obtain rfl : l1 = true := by simpa using hall 1 (by simp)
        obtain rfl : l2 = true := by simpa using hall 2 (by simp)
        obtain rfl : l3 = true := by simpa using hall 3 (by simp)
        obtain rfl : l4 = true := by simpa using hall 4 (by simp)
        obtain rfl : l5 = true := by simpa using hall 5 (by simp)
        obtain rfl : l6 = true := by simpa using hall 6 (by simp)
        obtain rfl : l7 = true := by simpa using hall 7 (by simp)
        obtain rfl : l8 = true := by simpa using hall 8 (by simp)
        obtain rfl : l9 = true := by simpa using hall 9 (by simp)
        obtain rfl : l10 = true := by simpa using hall 10 (by simp)
        obtain rfl : l11 = true := by simpa using hall 11 (by simp)
        obtain rfl : l12 = true := by simpa using hall 12 (by simp)
        obtain rfl : l13 = true := by simpa using hall 13 (by simp)
        obtain rfl : l14 = true := by simpa using hall 14 (by simp)
        obtain rfl : l15 = true := by simpa using hall 15 (by simp)
        obtain rfl : l16 = true := by simpa using hall 16 (by simp)
        obtain rfl : l17 = true := by simpa using hall 17 (by simp)
        clear hall hr hd13
        simp only [↓reduceIte] at hS ⊢
        simp only [List.setIfInBounds_toArray, List.set_cons_zero, List.set_cons_succ]
        have HSf := Lib.hid hS
        clear hS
        go_wp2
        go_ret
        exact ⟨rfl, HS5.out.bel.trans (HSf.out.bel.mono HS5.out.bel.size)⟩
      · refine ⟨false, false, false, false, false, false, false, false, false, false, false, false, false, false, false, false, false, false, none, 0, none, 0, 0, 0, rfl, by simp, (by simp), ?_⟩
        exact (St.start w5).drew.pick [0] (by decide)
    · refine ⟨false, false, false, false, false, none, 0, none, 0, 0, 0, rfl, (by simp), ?_⟩
      exact (St.start (w2.alloc (.cells #[.slice x1 X.next.length y1, .slice x2 X.ends.length y2] 26))).drew.pick [0] (by decide)
end Go.Proofs.Ythhbjkgchabfmaa
