/-
  The walks over the reference's GuessCount, GuessStates and LearnDfa.
  Conditions: the automaton reads as such; J is the number of the guess that does not differ.
-/
import Derived.Test.YtclhcfmlkfiidaaLi
import Derived.Test.YtclhcfmlkfiidaaLl
import Derived.Test.YtclhcfmlkfiidaaMk
namespace Go.Proofs.Ytclhcfmlkfiidaa
open Go.RowKit

theorem specDfaValidD_any (d : DfaD) (v : Value) (w : World) (h : DfaR 0 w v d) (r : Bool) (hr : dfaOk d.next d.ends = r) :
    Calls Try.prog 50 #[v] w fun e w' => e = .returned (.bool r) ∧ Below w.heap.size w w' := by
  obtain ⟨v1, v2, rfl, q1, q2⟩ := h
  exact specDfaValid_any d.next d.ends v1 v2 w q1 q2 r hr
set_option maxHeartbeats 1600000 in
theorem specGuessCount_any (d : DfaD) (J : Nat) (hJ : lastG d J) (r : Int) (hr : (if dfaOk d.next d.ends = true then (J : Int) + 1 else -1) = r) (v : Value) (w : World) (h : DfaR 0 w v d) :
    Calls Try.prog 23 #[v] w fun e w' => e = .returned (.int .i64 r) ∧ Below w.heap.size w w' := by
  have HD := Lib.hid h
  obtain ⟨v1, v2, rfl, -, -⟩ := h
  have hS := (St.start w).alloc _ rfl #[v1, v2] 32
  have HhS := Lib.hid hS; clear hS
  have HhJ := Lib.hid hJ; clear hJ
  cases hok : dfaOk d.next d.ends
  · rw [hok, if_neg (by simp)] at hr
    have Hhok := Lib.hid hok; clear hok
    have Hhr := Lib.hid hr; clear hr
    go_enter Try.func23, Try.ntmps23
    go_wp2_with fail
    refine (specDfaValidD_any d _ _ (HD.out.below HhS.out.bel) _ Hhok.out).mono ?_
    rintro e w1 ⟨rfl, hb⟩
    have hS1 := HhS.out.call hb
    have HhS1 := Lib.hid hS1; clear hS1
    clear hb
    go_wp2
    go_ret
    exact ⟨ret_int Hhr.out, HhS1.out.bel⟩
  · rw [hok, if_pos rfl] at hr
    obtain ⟨hj1, hj2⟩ := HhJ.out hok
    have Hhok := Lib.hid hok; clear hok
    have Hhr := Lib.hid hr; clear hr
    have Hhj1 := Lib.hid hj1; clear hj1
    have Hhj2 := Lib.hid hj2; clear hj2
    go_enter Try.func23, Try.ntmps23
    go_wp2_with fail
    refine (specDfaValidD_any d _ _ (HD.out.below HhS.out.bel) _ Hhok.out).mono ?_
    rintro e w1 ⟨rfl, hb⟩
    have hS1 := HhS.out.call hb
    have e0 := hS1.cell (v := v1) 0 0 rfl rfl
    have e1 := hS1.cell (v := v2) 0 1 rfl rfl
    have HhS1 := Lib.hid hS1; clear hS1
    clear hb
    go_wp2_with fail
    refine (l23Learn_any d J _ _ Hhok.out Hhj1.out Hhj2.out (HD.out.below HhS1.out.bel)).mono ?_
    rintro e w2 ⟨a, c, vals, X, rfl, hG, hS2⟩
    have hS3 := HhS1.out.call hS2.bel
    have HhS3 := Lib.hid hS3; clear hS3
    clear hS2 hG e0 e1
    go_wp2
    go_ret
    exact ⟨ret_int (by rw [← Hhr.out]), HhS3.out.bel⟩

set_option maxRecDepth 100000 in
set_option maxHeartbeats 4000000 in
theorem specGuessStates_any (d : DfaD) (J : Nat) (hJ : lastG d J) (F : List Int) (hF : stsG d J = F) (v : Value) (w : World) (h : DfaR 0 w v d) :
    Calls Try.prog 25 #[v] w fun e w' => RInts 3 w.heap.size F e w' ∧ Below w.heap.size w w' := by
  have HD := Lib.hid h
  obtain ⟨v1, v2, rfl, -, -⟩ := h
  have hS := ((St.start w).alloc _ rfl #[v1, v2] 32).alloc (w.heap.size + 1) (by simp) #[] 3
  obtain ⟨i0, hi, hz0, hz1, hz2⟩ := info_parts Try.infoInt
  unfold stsG at hF
  have HhS := Lib.hid hS; clear hS
  have Hhi := Lib.hid hi; clear hi
  have Hhz0 := Lib.hid hz0; clear hz0
  have Hhz1 := Lib.hid hz1; clear hz1
  have Hhz2 := Lib.hid hz2; clear hz2
  cases hok : dfaOk d.next d.ends
  · rw [hok, if_neg (by simp)] at hF
    have Hhok := Lib.hid hok; clear hok
    subst hF
    go_enter Try.func25, Try.ntmps25
    go_wp2_with fail
    refine (specDfaValidD_any d _ _ (HD.out.below HhS.out.bel) _ Hhok.out).mono ?_
    rintro e w1 ⟨rfl, hb⟩
    have hS1 := HhS.out.call hb
    have HhS1 := Lib.hid hS1; clear hS1
    clear hb
    go_wp2
    go_ret
    exact ⟨⟨some ⟨w.heap.size + 1, 0, none⟩, 0, rfl, own_of_row ((HhS1.out.boxrow 1 0 1 [] rfl rfl (Nat.zero_le _)).row 1 rfl)⟩, HhS1.out.bel⟩
  · rw [hok, if_pos rfl] at hF
    obtain ⟨hj1, hj2⟩ := hJ hok
    have hJ40 := lastG_lt hok hJ
    obtain ⟨N, hN⟩ : ∃ N, N = J + 1 := ⟨_, rfl⟩
    have hFl : F.length = N := by rw [← hF, hN]; simp
    have hFt : ∀ k, k < N → F.take (k + 1) = F.take k ++ [((gueW d k).next.length : Int)] := fun k hk => by
      rw [← hF, ← hN]
      exact range_take (fun i => ((gueW d i).next.length : Int)) hk
    have hgl : ∀ i, i < N → ((List.range (J + 1)).map (gueW d)).getD i ⟨[], []⟩ = gueW d i := fun i hi => by
      rw [hN] at hi
      simp [hi]
    have hlearn := fun (w' : World) (hb : Below w.heap.size w w') => l23Learn_any d J _ w' hok hj1 hj2 (HD.out.below hb)
    unfold RLearn at hlearn
    rw [← hN] at hlearn hgl
    have Hlearn := Lib.hid hlearn
    have Hhok := Lib.hid hok; clear hok
    have HhF := Lib.hid hF; clear hF
    have HhFl := Lib.hid hFl; clear hFl
    have HhFt := Lib.hid hFt; clear hFt
    have Hhgl := Lib.hid hgl; clear hgl
    clear hj1 hj2 hlearn hJ
    have hN41 : N ≤ 41 := by omega
    clear hN hJ40
    go_enter Try.func25, Try.ntmps25
    go_wp2_with fail
    refine (specDfaValidD_any d _ _ (HD.out.below HhS.out.bel) _ Hhok.out).mono ?_
    rintro e w1 ⟨rfl, hb⟩
    have hS1 := HhS.out.call hb
    have e0 := hS1.cell (v := v1) 0 0 rfl rfl
    have e1 := hS1.cell (v := v2) 0 1 rfl rfl
    have HhS1 := Lib.hid hS1; clear hS1
    clear hb
    go_wp2_with fail
    refine (Hlearn.out _ HhS1.out.bel).mono ?_
    rintro e w2 ⟨a, c, vals, X, rfl, hG, hS2⟩
    have hS3 : St w w2 [Ent.row 32 2 (.slice a N c) N (vals.flatMap valCells), X, Ent.row 3 1 (.slice (some ⟨w.heap.size + 1, 0, none⟩) 0 0) 0 []] := (((HhS1.out.boxrow 1 0 1 [] rfl rfl (Nat.zero_le _)).cat hS2).pick [2, 3, 1] (by decide))
    have HhS3 := Lib.hid hS3; clear hS3
    have HhG := Lib.hid hG; clear hG
    clear hS2 e0 e1
    go_wp2
    go_loopw [3, 5] (fun ov i wr => ∃ (k c3 : Nat) (a3 : Option Addr), i = .int .i64 k ∧ ov = .slice a3 k c3 ∧ k ≤ N ∧ St w wr [Ent.row 32 2 (.slice a N c) N (vals.flatMap valCells), X, Ent.row 3 1 (.slice a3 k c3) k (intCells (F.take k))])
      (fun _ i _ => N - (intOf i).toNat)
    case atStart => exact ⟨0, 0, _, rfl, rfl, Nat.zero_le _, HhS3.out⟩
    case round =>
      obtain ⟨k, c3, a3, rfl, rfl, hk, hSr⟩ := hrel
      by_cases hlt : k < N
      · obtain ⟨p1, r1, p2, r2, us, hval, -, -⟩ := HhG.out.2 k (by rw [← HhG.out.1]; have := (hSr.row 0 rfl).1; rw [flat_len valCells 2 (fun _ => rfl)] at this; omega)
        rw [Hhgl.out k hlt] at hval
        obtain ⟨g0, c0, hv0⟩ := hSr.rowform 0 rfl (by omega)
        simp only [Value.slice.injEq] at hv0
        obtain ⟨rfl, -, rfl⟩ := hv0
        have hvl : vals.length = N := by have := (hSr.row 0 rfl).1; rw [flat_len valCells 2 (fun _ => rfl)] at this; omega
        have f0 := flat_get valCells 2 (fun _ => rfl) vals k 0 (undef, undef) (by omega) (by omega)
        have f1 := flat_get valCells 2 (fun _ => rfl) vals k 1 (undef, undef) (by omega) (by omega)
        rw [hval] at f0 f1
        obtain ⟨L, hL⟩ : ∃ L, L = (gueW d k).next.length := ⟨_, rfl⟩
        have hFk := Hhgl.out k hlt
        have hFs := HhFt.out k hlt
        rw [← hL] at f0 f1 hFs
        have x0 := hSr.rcell (v := .slice p1 L r1) 0 (k * 2 + 0) rfl (by omega) (by rw [f0]; rfl)
        have x1 := hSr.rcell (v := .slice p2 L r2) 0 (k * 2 + 1) rfl (by omega) (by rw [f1]; rfl)
        simp only [Nat.add_zero] at x0
        have hkN : (k : Int) < N := by omega
        have hSa := hSr.alloc _ rfl #[.int .i64 (L : Int)] 3
        have hbx := hSa.box 3 rfl
        have Hhbx := Lib.hid hbx; clear hbx
        have hRw := hSa.row 2 rfl
        have HhSr := Lib.hid hSr; clear hSr
        have HhSa := Lib.hid hSa; clear hSa
        have HhRw := Lib.hid hRw; clear hRw
        have HhL := Lib.hid hL; clear hL
        have HhFs := Lib.hid hFs; clear hFs
        have Hhvl := Lib.hid hvl; clear hvl
        clear f0 f1 hval hFk
        go_wp2_with (at_builtin; refine wpList_append_lies _ rfl _ _ _ rfl _ 3 i0 (.int .i64 0) 1 8 Try.underlying44 Hhi.out Hhz0.out Hhz1.out Hhz2.out rfl (by omega) _ k _ rfl HhRw.out ⟨wr.heap.size, 0, none⟩ 1 1 [.int .i64 (L : Int)] rfl rfl (World.news_of_block Hhbx.out) one_i (by omega) (by unfold maxLen; omega) (by omega) HhSa.out.size _ rfl ?_; intro g6 c6 w6 hown6 hgrow6 hat6 hlt6; have HS6 := Lib.hid (HhSa.out.app 2 rfl hown6 hgrow6 hat6); clear hown6 hgrow6 hat6 hlt6)
        go_roundw
        case rel =>
          refine ⟨k + 1, c6, some ⟨g6, 0, none⟩, by go_num, rfl, by omega, ?_⟩
          rw [HhFs.out, intC_snoc]
          exact HS6.out.pick [0, 1, 2] (by decide)
        case measure => simp [intOf]; omega
      · obtain rfl : k = N := by omega
        have hx : F.take k = F := List.take_of_length_le (by rw [HhFl.out]; exact Nat.le_refl _)
        rw [hx] at hSr
        have HhSr := Lib.hid hSr; clear hSr
        go_wp2
        go_ret
        refine ⟨⟨a3, c3, by rw [HhFl.out]; rfl, ?_⟩, HhSr.out.bel⟩
        unfold OInts
        rw [HhFl.out]
        exact own_of_row (HhSr.out.row 2 rfl)

set_option maxRecDepth 100000 in
set_option maxHeartbeats 4000000 in
theorem specLearnDfa_any (d : DfaD) (J : Nat) (hJ : lastG d J) (D : DfaD) (hD : learnD d J = D) (v : Value) (w : World) (h : DfaR 0 w v d) :
    Calls Try.prog 30 #[v] w fun e w' => RDfa 44 3 4 w.heap.size D e w' ∧ Below w.heap.size w w' := by
  have HD := Lib.hid h
  obtain ⟨v1, v2, rfl, -, -⟩ := h
  have hS := ((St.start w).alloc _ rfl #[v1, v2] 32).alloc (w.heap.size + 1) (by simp) #[.slice none 0 0, .slice none 0 0] 32
  unfold learnD at hD
  have HhS := Lib.hid hS; clear hS
  cases hok : dfaOk d.next d.ends
  · rw [hok, if_neg (by simp)] at hD
    have Hhok := Lib.hid hok; clear hok
    subst hD
    go_enter Try.func30, Try.ntmps30
    go_wp2_with fail
    refine (specDfaValidD_any d _ _ (HD.out.below HhS.out.bel) _ Hhok.out).mono ?_
    rintro e w1 ⟨rfl, hb⟩
    have hS1 := HhS.out.call hb
    have f0 := hS1.fr 1 0 rfl
    have f1 := hS1.fr 1 1 rfl
    have k0 := hS1.cell (v := .slice none 0 0) 1 0 rfl rfl
    have k1 := hS1.cell (v := .slice none 0 0) 1 1 rfl rfl
    have HhS1 := Lib.hid hS1; clear hS1
    clear hb
    go_wp2
    have hq := (HhS1.out.set 1 rfl 0 (.slice none 0 0)).set 1 rfl 1 (.slice none 0 0)
    have q0 := hq.cell (v := .slice none 0 0) 1 0 rfl rfl
    have q1 := hq.cell (v := .slice none 0 0) 1 1 rfl rfl
    refine bodyPost_ret (v := .agg #[.slice none 0 0, .slice none 0 0]) (by simp [results, Try.results30, go_sem, q0, q1]) rfl ⟨?_, hq.bel⟩
    exact ⟨none, 0, none, 0, rfl, nilD_own _ _ _ _ _⟩
  · rw [hok, if_pos rfl] at hD
    obtain ⟨hj1, hj2⟩ := hJ hok
    have hJ40 := lastG_lt hok hJ
    have hgl : ((List.range (J + 1)).map (gueW d)).getD J ⟨[], []⟩ = D := by rw [← hD]; simp
    have hgn : J < ((List.range (J + 1)).map (gueW d)).length := by simp
    have hlearn := fun (w' : World) (hb : Below w.heap.size w w') => l23Learn_any d J _ w' hok hj1 hj2 (HD.out.below hb)
    unfold RLearn at hlearn
    obtain ⟨gs, hgs⟩ : ∃ gs, gs = (List.range (J + 1)).map (gueW d) := ⟨_, rfl⟩
    rw [← hgs] at hgl hgn hlearn
    have hgsl : gs.length = J + 1 := by rw [hgs]; simp
    have Hlearn := Lib.hid hlearn
    have Hhok := Lib.hid hok; clear hok
    have HhD := Lib.hid hD; clear hD
    have Hhgl := Lib.hid hgl; clear hgl
    have Hhgn := Lib.hid hgn; clear hgn
    have Hhgs := Lib.hid hgs; clear hgs
    have Hhgsl := Lib.hid hgsl; clear hgsl
    clear hj1 hj2 hlearn hJ
    go_enter Try.func30, Try.ntmps30
    go_wp2_with fail
    refine (specDfaValidD_any d _ _ (HD.out.below HhS.out.bel) _ Hhok.out).mono ?_
    rintro e w1 ⟨rfl, hb⟩
    have hS1 := HhS.out.call hb
    have e0 := hS1.cell (v := v1) 0 0 rfl rfl
    have e1 := hS1.cell (v := v2) 0 1 rfl rfl
    have HhS1 := Lib.hid hS1; clear hS1
    clear hb
    go_wp2_with fail
    refine (Hlearn.out _ HhS1.out.bel).mono ?_
    rintro e w2 ⟨a, c, vals, X, rfl, hG, hS2⟩
    have hS3 := HhS1.out.cat hS2
    obtain ⟨a1, c1, a2, c2, hval, hel, -⟩ := hG.own hS3 3 rfl Hhgn.out
    rw [Hhgl.out] at hval hel
    obtain ⟨g0, c0, hv0⟩ := hS3.rowform 2 rfl (by omega)
    simp only [Value.slice.injEq] at hv0
    obtain ⟨rfl, -, rfl⟩ := hv0
    obtain ⟨hcp1, hcp2⟩ := hS3.rowcap 2 rfl
    have hvl : vals.length = J + 1 := by rw [hG.1]; exact Hhgsl.out
    have f0 := flat_get valCells 2 (fun _ => rfl) vals J 0 (undef, undef) (by omega) (by omega)
    have f1 := flat_get valCells 2 (fun _ => rfl) vals J 1 (undef, undef) (by omega) (by omega)
    rw [hval] at f0 f1
    have x0 := hS3.rcell (v := .slice a1 D.next.length c1) 2 (J * 2 + 0) rfl (by omega) (by rw [f0]; rfl)
    have x1 := hS3.rcell (v := .slice a2 D.next.length c2) 2 (J * 2 + 1) rfl (by omega) (by rw [f1]; rfl)
    simp only [Nat.add_zero] at x0
    have r0 := hS3.fr 1 0 rfl
    have r1 := hS3.fr 1 1 rfl
    have k0 := hS3.cell (v := .slice none 0 0) 1 0 rfl rfl
    have k1 := hS3.cell (v := .slice none 0 0) 1 1 rfl rfl
    have hwj : IntKind.i64.wrap ((J : Int) + 1 - 1) = (J : Int) := by rw [IntWalk.i64_in _ (by omega)]; omega
    have hJI : (J : Int) < (J : Int) + 1 := by omega
    have HhS3 := Lib.hid hS3; clear hS3
    have HhG := Lib.hid hG; clear hG
    have Hhel := Lib.hid hel; clear hel
    have Hhval := Lib.hid hval; clear hval
    clear hS2 e0 e1 f0 f1 hvl
    go_wp2
    have hq := (HhS3.out.set 1 rfl 0 (.slice a1 D.next.length c1)).set 1 rfl 1 (.slice a2 D.next.length c2)
    have q0 := hq.cell (v := .slice a1 D.next.length c1) 1 0 rfl rfl
    have q1 := hq.cell (v := .slice a2 D.next.length c2) 1 1 rfl rfl
    refine bodyPost_ret (v := .agg #[.slice a1 D.next.length c1, .slice a2 D.next.length c2]) (by simp [results, Try.results30, go_sem, q0, q1]) rfl ⟨?_, hq.bel⟩
    obtain ⟨p1, t1, p2, t2, hval2, -, hown⟩ := HhG.out.own hq 3 rfl Hhgn.out
    rw [Hhgl.out] at hval2 hown
    rw [Hhval.out] at hval2
    simp only [Prod.mk.injEq, Value.slice.injEq, true_and] at hval2
    obtain ⟨⟨rfl, rfl⟩, rfl, rfl⟩ := hval2
    exact ⟨a1, c1, a2, c2, by rw [Hhel.out], by rw [Hhel.out]; exact hown⟩


theorem specGuessStatesR_any (d : DfaD) (J : Nat) (hJ : lastG d J) (F : List Int) (hF : stsG d J = F) (v : Value) (w : World) (h : DfaR 0 w v d) :
    Calls Try.prog 25 #[v] w fun e w' => (∃ a c, e = .returned (.slice a F.length c) ∧ Ints 0 w' (.slice a F.length c) F) ∧ Below w.heap.size w w' := by
  refine (specGuessStates_any d J hJ F hF v w h).mono ?_
  rintro e w' ⟨⟨a, c, rfl, ho⟩, hb⟩
  exact ⟨⟨a, c, rfl, (OInts.ints ho).mono (Nat.zero_le _)⟩, hb⟩
theorem specLearnDfaR_any (d : DfaD) (J : Nat) (hJ : lastG d J) (D : DfaD) (hD : learnD d J = D) (v : Value) (w : World) (h : DfaR 0 w v d) :
    Calls Try.prog 30 #[v] w fun e w' => (∃ a1 c1 a2 c2, e = .returned (.agg #[.slice a1 D.next.length c1, .slice a2 D.ends.length c2]) ∧ DfaR 0 w' (.agg #[.slice a1 D.next.length c1, .slice a2 D.ends.length c2]) D) ∧ Below w.heap.size w w' := by
  refine (specLearnDfa_any d J hJ D hD v w h).mono ?_
  rintro e w' ⟨⟨a1, c1, a2, c2, rfl, ho⟩, hb⟩
  exact ⟨⟨a1, c1, a2, c2, rfl, ho.r.mono (Nat.zero_le _)⟩, hb⟩
theorem stsG_len {d : DfaD} {J : Nat} (hJ : lastG d J) : (stsG d J).length ≤ 40 := by
  unfold stsG
  split
  · rename_i h
    have := lastG_lt h hJ
    simp
    omega
  · simp
theorem sum_rows3 {xss : List (List Int)} (h : ∀ x ∈ xss, x.length = 3) : sumLen xss = 3 * xss.length := by
  induction xss with
  | nil => rfl
  | cons x l ih =>
    have h1 := h x (by simp)
    have h2 := ih fun y hy => h y (by simp [hy])
    simp only [sumLen, List.map_cons, List.sum_cons, List.length_cons] at h2 ⊢
    omega
theorem dfaOk_small {d : DfaD} (h : dfaOk d.next d.ends = true) : d.next.length ≤ 40 ∧ sumLen d.next ≤ 120 ∧ d.ends.length ≤ 40 := by
  have h1 := dfaOk_len h
  have h2 := sum_rows3 (xss := d.next) fun x hx => by
    obtain ⟨i, hi, e⟩ := List.getElem_of_mem hx
    have := (dfaOk_row h hi).1
    rw [getD_at hi, e] at this
    exact this
  omega
theorem learnD_small {d : DfaD} {J : Nat} (hJ : lastG d J) : (learnD d J).next.length ≤ 40 ∧ sumLen (learnD d J).next ≤ 120 ∧ (learnD d J).ends.length ≤ 40 := by
  unfold learnD
  split
  · rename_i h
    exact dfaOk_small (guess_ok h (LTab.at h J (hJ h).2).inv)
  · exact ⟨Nat.zero_le _, Nat.zero_le _, Nat.zero_le _⟩
end Go.Proofs.Ytclhcfmlkfiidaa
