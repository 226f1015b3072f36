/-
  Small facts about slices in memory: what a slice value reads as, and that it still reads so in a later world.
  No condition: this text speaks of no program.
  What a call made for itself: slices in blocks of numbers from lo on and below hi, that may be written.
  No condition: this text speaks of no program.
  A map that a call makes, as a list of keys and values in the order in which the keys came: looking a key up, and storing.
  Conditions: the keys are encoded data that can be keys of the map's type; no key stands there twice.
  What a call made for itself, where one of its slices grows or one of its variables is written: blocks of different types are different blocks.
  No condition: this text speaks of no program.
-/
import Derived.Test.YthhbjkgchabfmaaPk19Jg
import Derived.Test.YthhbjkgchabfmaaPk20Mn
import Derived.Test.YthhbjkgchabfmaaPk31Ll
import Derived.Test.YthhbjkgchabfmaaPk32Pg
import Derived.Test.YthhbjkgchabfmaaPk36Li
namespace Go.Proofs.Ythhbjkgchabfmaa
open Go.RowKit
theorem bne_len (a b : Nat) : ((a : Int) != b) = !decide (a = b) := by rw [Bool.eq_iff_iff]; simp; omega
/-! Slices of structs of ints -/
theorem flat_len {α : Type} (f : α → List Value) (s : Nat) (hf : ∀ a, (f a).length = s) (l : List α) : (l.flatMap f).length = l.length * s := by
  induction l with
  | nil => simp
  | cons a l ih => simp [hf, ih, Nat.succ_mul]; omega
/-! Comparing lists place by place -/
theorem eq_of_take {α : Type} {xs ys : List α} {k : Nat} (hl : xs.length = ys.length) (hk : xs.length ≤ k) (h : xs.take k = ys.take k) : xs = ys := by
  rwa [List.take_of_length_le hk, List.take_of_length_le (by omega)] at h
end Go.Proofs.Ythhbjkgchabfmaa
namespace Go.Proofs.Ythhbjkgchabfmaa
open Go.RowKit
end Go.Proofs.Ythhbjkgchabfmaa
namespace Go.Proofs.Ythhbjkgchabfmaa
open Go.RowKit Go.Maps
section
variable {α : Type} [DecidableEq α]
variable {P : Program} {kt : TypeId} {enc : α → Value} {w : World} {b : Nat} {L : List (α × Value)}
end
end Go.Proofs.Ythhbjkgchabfmaa
namespace Go.Proofs.Ythhbjkgchabfmaa
open Go.RowKit
def RInts (e lo : Nat) (xs : List Int) (en : Ending) (w' : World) : Prop := ∃ a cap, en = .returned (.slice a xs.length cap) ∧ OInts e lo w'.heap.size w' (.slice a xs.length cap) xs
end Go.Proofs.Ythhbjkgchabfmaa
namespace Go.Proofs.Ythhbjkgchabfmaa
open Go.RowKit Go.Maps
section
variable {α : Type}
variable {kt sz B B1 B2 B4 hi : Nat} {enc : α → Value} {cel : α → List Value} {w w' : World} {met : List α} {rows : List (List Int)} {ends : List Bool} {vm vn ve : Value}
end
end Go.Proofs.Ythhbjkgchabfmaa
namespace Go.Proofs.Ythhbjkgchabfmaa
open Go.RowKit
set_option maxRecDepth 100000 in
set_option maxHeartbeats 4000000 in
theorem drawGuessStatesD_any (bs : List Nat) (v : Value) (w : World) (hb : Bytes 0 w v bs) (hlen : bs.length ≤ 100000000) :
    Calls Try.prog 53 #[v] w fun e w' => RDraw w e w' := by
  have hS0 := (St.start w).alloc _ rfl #[.slice none 0 0, .slice none 0 0] 26
  have Hb := Lib.hid hb
  have HhS0 := Lib.hid hS0; clear hS0
  clear hb
  go_enter Try.func53, Try.ntmps53
  go_wp2_with fail
  refine (openJ_any bs v _ (Hb.out.below HhS0.out.bel) hlen).mono ?_
  rintro e w1 ⟨vb, bs', hl', hB, rfl, hS'⟩
  obtain ⟨b, hbb⟩ : ∃ b, b = (w.alloc (.cells #[.slice none 0 0, .slice none 0 0] 26)).heap.size := ⟨_, rfl⟩
  rw [← hbb] at hS'
  rw [← hbb]
  have hB1 := hB w Hb.out
  have HB := Lib.hid hB1
  have HS1 := Lib.hid ((HhS0.out.cat hS').pick [1, 0] (by decide))
  have Hhbb := Lib.hid hbb; clear hbb
  clear hS' hB hB1
  go_wp2_with fail
  refine (l20Dfa_any bs' vb b 0 12 w w1 _ HB.out hl' (by omega) (by omega) HS1.out).mono ?_
  rintro e w2 ⟨D, pn, a1, a2, c1, c2, vs, E, hpn, hsm, rfl, hh, hS2⟩
  have HS := Lib.hid hS2
  clear hS2
  have f0 := HS.out.fr 1 0 rfl
  have k0 := HS.out.cell (v := .slice none 0 0) 1 0 rfl rfl
  have f1 := HS.out.fr 1 1 rfl
  have k1 := HS.out.cell (v := .slice none 0 0) 1 1 rfl rfl
  have HS3 := Lib.hid ((HS.out.set 1 rfl 0 (.slice a1 D.next.length c1)).set 1 rfl 1 (.slice a2 D.ends.length c2))
  have q0 := HS3.out.cell (v := .slice a1 D.next.length c1) 1 0 rfl rfl
  have q1 := HS3.out.cell (v := .slice a2 D.ends.length c2) 1 1 rfl rfl
  go_wp2
  refine bodyPost_ret (v := .agg #[.slice a1 D.next.length c1, .slice a2 D.ends.length c2]) (by simp [results, Try.results53, go_sem, q0, q1]) rfl ?_
  exact ⟨D, a1, a2, c1, c2, hsm, rfl, hh.r HS3.out 2 rfl, HS3.out.bel⟩
theorem range_take {α : Type} (f : Nat → α) {N k : Nat} (hk : k < N) : ((List.range N).map f).take (k + 1) = ((List.range N).map f).take k ++ [f k] := by
  rw [List.take_succ_eq_append_getElem (by simpa using hk)]
  simp
def stsG (d : DfaD) (J : Nat) : List Int := if dfaOk d.next d.ends = true then (List.range (J + 1)).map fun i => ((gueW d i).next.length : Int) else []
set_option maxRecDepth 100000 in
set_option maxHeartbeats 4000000 in
theorem implGuessStates_any (d : DfaD) (J : Nat) (hJ : lastG d J) (F : List Int) (hF : stsG d J = F) (v : Value) (w : World) (h : DfaR 0 w v d) :
    Calls Try.prog 54 #[v] w fun e w' => RInts 3 w.heap.size F e w' ∧ Below w.heap.size w w' := by
  have HD := Lib.hid h
  obtain ⟨v1, v2, rfl, -, -⟩ := h
  have hS := (St.start w).alloc _ rfl #[v1, v2] 26
  obtain ⟨i0, hi, hz0, hz1, hz2⟩ := info_parts Try.infoInt
  unfold stsG at hF
  have HhS := Lib.hid hS; clear hS
  have Hhi := Lib.hid hi; clear hi
  have Hhz0 := Lib.hid hz0; clear hz0
  have Hhz1 := Lib.hid hz1; clear hz1
  have Hhz2 := Lib.hid hz2; clear hz2
  cases hok : dfaOk d.next d.ends
  · rw [hok, if_neg (by simp)] at hF
    have Hhok := Lib.hid hok; clear hok
    subst hF
    go_enter Try.func54, Try.ntmps54
    go_wp2_with fail
    refine (implDfaValid_any d _ _ (HD.out.below HhS.out.bel) _ Hhok.out).mono ?_
    rintro e w1 ⟨rfl, hb⟩
    have hS1 := HhS.out.call hb
    have HhS1 := Lib.hid hS1; clear hS1
    clear hb
    go_wp2
    go_ret
    exact ⟨⟨none, 0, rfl, own_of_row ⟨by simp, Or.inl ⟨rfl, rfl⟩⟩⟩, HhS1.out.bel⟩
  · rw [hok, if_pos rfl] at hF
    obtain ⟨hj1, hj2⟩ := hJ hok
    have hJ40 := lastG_lt hok hJ
    obtain ⟨N, hN⟩ : ∃ N, N = J + 1 := ⟨_, rfl⟩
    have hFl : F.length = N := by rw [← hF, hN]; simp
    have hFt : ∀ k, k < N → F.take (k + 1) = F.take k ++ [((gueW d k).next.length : Int)] := fun k hk => by
      rw [← hF, ← hN]
      exact range_take (fun i => ((gueW d i).next.length : Int)) hk
    have hgl : ∀ i, i < N → ((List.range (J + 1)).map (gueW d)).getD i ⟨[], []⟩ = gueW d i := fun i hi => by
      rw [hN] at hi
      simp [hi]
    have hlearn := fun (w' : World) (hb : Below w.heap.size w w') => learn_any d J _ w' hok hj1 hj2 (HD.out.below hb)
    unfold RLearn at hlearn
    rw [← hN] at hlearn hgl
    have Hlearn := Lib.hid hlearn
    have Hhok := Lib.hid hok; clear hok
    have HhF := Lib.hid hF; clear hF
    have HhFl := Lib.hid hFl; clear hFl
    have HhFt := Lib.hid hFt; clear hFt
    have Hhgl := Lib.hid hgl; clear hgl
    clear hj1 hj2 hlearn hJ
    have hN41 : N ≤ 41 := by omega
    clear hN hJ40
    go_enter Try.func54, Try.ntmps54
    go_wp2_with fail
    refine (implDfaValid_any d _ _ (HD.out.below HhS.out.bel) _ Hhok.out).mono ?_
    rintro e w1 ⟨rfl, hb⟩
    have hS1 := HhS.out.call hb
    have e0 := hS1.cell (v := v1) 0 0 rfl rfl
    have e1 := hS1.cell (v := v2) 0 1 rfl rfl
    have HhS1 := Lib.hid hS1; clear hS1
    clear hb
    go_wp2_with fail
    refine (Hlearn.out _ HhS1.out.bel).mono ?_
    rintro e w2 ⟨a, c, vals, X, rfl, hG, hS2⟩
    have hS3 : St w w2 [Ent.row 26 2 (.slice a N c) N (vals.flatMap valCells), X, Ent.row 3 1 (.slice none 0 0) 0 []] := ((HhS1.out.cat hS2).pick [1, 2] (by decide)).nilRow 3 1
    have HhS3 := Lib.hid hS3; clear hS3
    have HhG := Lib.hid hG; clear hG
    clear hS2 e0 e1
    go_wp2
    go_loopw [3, 12] (fun ov i wr => ∃ (k c3 : Nat) (a3 : Option Addr), i = .int .i64 k ∧ ov = .slice a3 k c3 ∧ k ≤ N ∧ St w wr [Ent.row 26 2 (.slice a N c) N (vals.flatMap valCells), X, Ent.row 3 1 (.slice a3 k c3) k (intCells (F.take k))])
      (fun _ i _ => N - (intOf i).toNat)
    case atStart => exact ⟨0, 0, none, rfl, rfl, Nat.zero_le _, HhS3.out⟩
    case round =>
      obtain ⟨k, c3, a3, rfl, rfl, hk, hSr⟩ := hrel
      by_cases hlt : k < N
      · obtain ⟨p1, r1, p2, r2, us, hval, -, -⟩ := HhG.out.2 k (by rw [← HhG.out.1]; have := (hSr.row 0 rfl).1; rw [flat_len valCells 2 (fun _ => rfl)] at this; omega)
        rw [Hhgl.out k hlt] at hval
        obtain ⟨g0, c0, hv0⟩ := hSr.rowform 0 rfl (by omega)
        simp only [Value.slice.injEq] at hv0
        obtain ⟨rfl, -, rfl⟩ := hv0
        have hvl : vals.length = N := by have := (hSr.row 0 rfl).1; rw [flat_len valCells 2 (fun _ => rfl)] at this; omega
        have f0 := flat_get valCells 2 (fun _ => rfl) vals k 0 (undef, undef) (by omega) (by omega)
        have f1 := flat_get valCells 2 (fun _ => rfl) vals k 1 (undef, undef) (by omega) (by omega)
        rw [hval] at f0 f1
        obtain ⟨L, hL⟩ : ∃ L, L = (gueW d k).next.length := ⟨_, rfl⟩
        have hFk := Hhgl.out k hlt
        have hFs := HhFt.out k hlt
        rw [← hL] at f0 f1 hFs
        have x0 := hSr.rcell (v := .slice p1 L r1) 0 (k * 2 + 0) rfl (by omega) (by rw [f0]; rfl)
        have x1 := hSr.rcell (v := .slice p2 L r2) 0 (k * 2 + 1) rfl (by omega) (by rw [f1]; rfl)
        simp only [Nat.add_zero] at x0
        have hkN : (k : Int) < N := by omega
        have hSa := (hSr.alloc _ rfl #[.slice p1 L r1, .slice p2 L r2] 26).alloc (wr.heap.size + 1) (by simp) #[.int .i64 (L : Int)] 3
        have hbx := hSa.box 4 rfl
        have Hhbx := Lib.hid hbx; clear hbx
        have hRw := hSa.row 2 rfl
        have HhSr := Lib.hid hSr; clear hSr
        have HhSa := Lib.hid hSa; clear hSa
        have HhRw := Lib.hid hRw; clear hRw
        have HhL := Lib.hid hL; clear hL
        have HhFs := Lib.hid hFs; clear hFs
        have Hhvl := Lib.hid hvl; clear hvl
        clear f0 f1 hval hFk
        go_wp2_with (at_builtin; refine wpList_append_lies _ rfl _ _ _ rfl _ 3 i0 (.int .i64 0) 1 8 Try.underlying29 Hhi.out Hhz0.out Hhz1.out Hhz2.out rfl (by omega) _ k _ rfl HhRw.out ⟨wr.heap.size + 1, 0, none⟩ 1 1 [.int .i64 (L : Int)] rfl rfl (World.news_of_block Hhbx.out) one_i (by omega) (by unfold maxLen; omega) (by omega) HhSa.out.size _ rfl ?_; intro g6 c6 w6 hown6 hgrow6 hat6 hlt6; have HS6 := Lib.hid (HhSa.out.app 2 rfl hown6 hgrow6 hat6); clear hown6 hgrow6 hat6 hlt6)
        go_roundw
        case rel =>
          refine ⟨k + 1, c6, some ⟨g6, 0, none⟩, by go_num, rfl, by omega, ?_⟩
          rw [HhFs.out, intC_snoc]
          exact HS6.out.pick [0, 1, 2] (by decide)
        case measure => simp [intOf]; omega
      · obtain rfl : k = N := by omega
        have hx : F.take k = F := List.take_of_length_le (by rw [HhFl.out]; exact Nat.le_refl _)
        rw [hx] at hSr
        have HhSr := Lib.hid hSr; clear hSr
        go_wp2
        go_ret
        refine ⟨⟨a3, c3, by rw [HhFl.out]; rfl, ?_⟩, HhSr.out.bel⟩
        unfold OInts
        rw [HhFl.out]
        exact own_of_row (HhSr.out.row 2 rfl)
set_option maxRecDepth 100000 in
set_option maxHeartbeats 4000000 in
theorem specGuessStates_any (d : DfaD) (J : Nat) (hJ : lastG d J) (F : List Int) (hF : stsG d J = F) (v : Value) (w : World) (h : DfaR 0 w v d) :
    Calls Try.prog 56 #[v] w fun e w' => RInts 3 w.heap.size F e w' ∧ Below w.heap.size w w' := by
  have HD := Lib.hid h
  obtain ⟨v1, v2, rfl, -, -⟩ := h
  have hS := ((St.start w).alloc _ rfl #[v1, v2] 26).alloc (w.heap.size + 1) (by simp) #[] 3
  obtain ⟨i0, hi, hz0, hz1, hz2⟩ := info_parts Try.infoInt
  unfold stsG at hF
  have HhS := Lib.hid hS; clear hS
  have Hhi := Lib.hid hi; clear hi
  have Hhz0 := Lib.hid hz0; clear hz0
  have Hhz1 := Lib.hid hz1; clear hz1
  have Hhz2 := Lib.hid hz2; clear hz2
  cases hok : dfaOk d.next d.ends
  · rw [hok, if_neg (by simp)] at hF
    have Hhok := Lib.hid hok; clear hok
    subst hF
    go_enter Try.func56, Try.ntmps56
    go_wp2_with fail
    refine (specDfaValidD_any d _ _ (HD.out.below HhS.out.bel) _ Hhok.out).mono ?_
    rintro e w1 ⟨rfl, hb⟩
    have hS1 := HhS.out.call hb
    have HhS1 := Lib.hid hS1; clear hS1
    clear hb
    go_wp2
    go_ret
    exact ⟨⟨some ⟨w.heap.size + 1, 0, none⟩, 0, rfl, own_of_row ((HhS1.out.boxrow 1 0 1 [] rfl rfl (Nat.zero_le _)).row 1 rfl)⟩, HhS1.out.bel⟩
  · rw [hok, if_pos rfl] at hF
    obtain ⟨hj1, hj2⟩ := hJ hok
    have hJ40 := lastG_lt hok hJ
    obtain ⟨N, hN⟩ : ∃ N, N = J + 1 := ⟨_, rfl⟩
    have hFl : F.length = N := by rw [← hF, hN]; simp
    have hFt : ∀ k, k < N → F.take (k + 1) = F.take k ++ [((gueW d k).next.length : Int)] := fun k hk => by
      rw [← hF, ← hN]
      exact range_take (fun i => ((gueW d i).next.length : Int)) hk
    have hgl : ∀ i, i < N → ((List.range (J + 1)).map (gueW d)).getD i ⟨[], []⟩ = gueW d i := fun i hi => by
      rw [hN] at hi
      simp [hi]
    have hlearn := fun (w' : World) (hb : Below w.heap.size w w') => l23Learn_any d J _ w' hok hj1 hj2 (HD.out.below hb)
    unfold RLearn at hlearn
    rw [← hN] at hlearn hgl
    have Hlearn := Lib.hid hlearn
    have Hhok := Lib.hid hok; clear hok
    have HhF := Lib.hid hF; clear hF
    have HhFl := Lib.hid hFl; clear hFl
    have HhFt := Lib.hid hFt; clear hFt
    have Hhgl := Lib.hid hgl; clear hgl
    clear hj1 hj2 hlearn hJ
    have hN41 : N ≤ 41 := by omega
    clear hN hJ40
    go_enter Try.func56, Try.ntmps56
    go_wp2_with fail
    refine (specDfaValidD_any d _ _ (HD.out.below HhS.out.bel) _ Hhok.out).mono ?_
    rintro e w1 ⟨rfl, hb⟩
    have hS1 := HhS.out.call hb
    have e0 := hS1.cell (v := v1) 0 0 rfl rfl
    have e1 := hS1.cell (v := v2) 0 1 rfl rfl
    have HhS1 := Lib.hid hS1; clear hS1
    clear hb
    go_wp2_with fail
    refine (Hlearn.out _ HhS1.out.bel).mono ?_
    rintro e w2 ⟨a, c, vals, X, rfl, hG, hS2⟩
    have hS3 : St w w2 [Ent.row 26 2 (.slice a N c) N (vals.flatMap valCells), X, Ent.row 3 1 (.slice (some ⟨w.heap.size + 1, 0, none⟩) 0 0) 0 []] := (((HhS1.out.boxrow 1 0 1 [] rfl rfl (Nat.zero_le _)).cat hS2).pick [2, 3, 1] (by decide))
    have HhS3 := Lib.hid hS3; clear hS3
    have HhG := Lib.hid hG; clear hG
    clear hS2 e0 e1
    go_wp2
    go_loopw [3, 5] (fun ov i wr => ∃ (k c3 : Nat) (a3 : Option Addr), i = .int .i64 k ∧ ov = .slice a3 k c3 ∧ k ≤ N ∧ St w wr [Ent.row 26 2 (.slice a N c) N (vals.flatMap valCells), X, Ent.row 3 1 (.slice a3 k c3) k (intCells (F.take k))])
      (fun _ i _ => N - (intOf i).toNat)
    case atStart => exact ⟨0, 0, _, rfl, rfl, Nat.zero_le _, HhS3.out⟩
    case round =>
      obtain ⟨k, c3, a3, rfl, rfl, hk, hSr⟩ := hrel
      by_cases hlt : k < N
      · obtain ⟨p1, r1, p2, r2, us, hval, -, -⟩ := HhG.out.2 k (by rw [← HhG.out.1]; have := (hSr.row 0 rfl).1; rw [flat_len valCells 2 (fun _ => rfl)] at this; omega)
        rw [Hhgl.out k hlt] at hval
        obtain ⟨g0, c0, hv0⟩ := hSr.rowform 0 rfl (by omega)
        simp only [Value.slice.injEq] at hv0
        obtain ⟨rfl, -, rfl⟩ := hv0
        have hvl : vals.length = N := by have := (hSr.row 0 rfl).1; rw [flat_len valCells 2 (fun _ => rfl)] at this; omega
        have f0 := flat_get valCells 2 (fun _ => rfl) vals k 0 (undef, undef) (by omega) (by omega)
        have f1 := flat_get valCells 2 (fun _ => rfl) vals k 1 (undef, undef) (by omega) (by omega)
        rw [hval] at f0 f1
        obtain ⟨L, hL⟩ : ∃ L, L = (gueW d k).next.length := ⟨_, rfl⟩
        have hFk := Hhgl.out k hlt
        have hFs := HhFt.out k hlt
        rw [← hL] at f0 f1 hFs
        have x0 := hSr.rcell (v := .slice p1 L r1) 0 (k * 2 + 0) rfl (by omega) (by rw [f0]; rfl)
        have x1 := hSr.rcell (v := .slice p2 L r2) 0 (k * 2 + 1) rfl (by omega) (by rw [f1]; rfl)
        simp only [Nat.add_zero] at x0
        have hkN : (k : Int) < N := by omega
        have hSa := hSr.alloc _ rfl #[.int .i64 (L : Int)] 3
        have hbx := hSa.box 3 rfl
        have Hhbx := Lib.hid hbx; clear hbx
        have hRw := hSa.row 2 rfl
        have HhSr := Lib.hid hSr; clear hSr
        have HhSa := Lib.hid hSa; clear hSa
        have HhRw := Lib.hid hRw; clear hRw
        have HhL := Lib.hid hL; clear hL
        have HhFs := Lib.hid hFs; clear hFs
        have Hhvl := Lib.hid hvl; clear hvl
        clear f0 f1 hval hFk
        go_wp2_with (at_builtin; refine wpList_append_lies _ rfl _ _ _ rfl _ 3 i0 (.int .i64 0) 1 8 Try.underlying29 Hhi.out Hhz0.out Hhz1.out Hhz2.out rfl (by omega) _ k _ rfl HhRw.out ⟨wr.heap.size, 0, none⟩ 1 1 [.int .i64 (L : Int)] rfl rfl (World.news_of_block Hhbx.out) one_i (by omega) (by unfold maxLen; omega) (by omega) HhSa.out.size _ rfl ?_; intro g6 c6 w6 hown6 hgrow6 hat6 hlt6; have HS6 := Lib.hid (HhSa.out.app 2 rfl hown6 hgrow6 hat6); clear hown6 hgrow6 hat6 hlt6)
        go_roundw
        case rel =>
          refine ⟨k + 1, c6, some ⟨g6, 0, none⟩, by go_num, rfl, by omega, ?_⟩
          rw [HhFs.out, intC_snoc]
          exact HS6.out.pick [0, 1, 2] (by decide)
        case measure => simp [intOf]; omega
      · obtain rfl : k = N := by omega
        have hx : F.take k = F := List.take_of_length_le (by rw [HhFl.out]; exact Nat.le_refl _)
        rw [hx] at hSr
        have HhSr := Lib.hid hSr; clear hSr
        go_wp2
        go_ret
        refine ⟨⟨a3, c3, by rw [HhFl.out]; rfl, ?_⟩, HhSr.out.bel⟩
        unfold OInts
        rw [HhFl.out]
        exact own_of_row (HhSr.out.row 2 rfl)
theorem specGuessStatesR_any (d : DfaD) (J : Nat) (hJ : lastG d J) (F : List Int) (hF : stsG d J = F) (v : Value) (w : World) (h : DfaR 0 w v d) :
    Calls Try.prog 56 #[v] w fun e w' => (∃ a c, e = .returned (.slice a F.length c) ∧ Ints 0 w' (.slice a F.length c) F) ∧ Below w.heap.size w w' := by
  refine (specGuessStates_any d J hJ F hF v w h).mono ?_
  rintro e w' ⟨⟨a, c, rfl, ho⟩, hb⟩
  exact ⟨⟨a, c, rfl, (OInts.ints ho).mono (Nat.zero_le _)⟩, hb⟩
end Go.Proofs.Ythhbjkgchabfmaa
namespace Go.Proofs.Ythhbjkgchabfmaa
open Go.RowKit
set_option maxHeartbeats 800000 in
theorem sameInts_any (xs ys : List Int) (v1 v2 : Value) (w : World) (h1 : Ints 0 w v1 xs) (h2 : Ints 0 w v2 ys) (r : Bool) (hr : decide (xs = ys) = r) :
    Calls Try.prog 55 #[v1, v2] w fun e w' => e = .returned (.bool r) ∧ Below w.heap.size w w' := by
  obtain ⟨a1, c1, rfl, hc1, hm1, hr1⟩ := h1.form
  obtain ⟨a2, c2, rfl, hc2, hm2, hr2⟩ := h2.form
  clear h1 h2
  have Hhr := Lib.hid hr; clear hr
  by_cases hlen : xs.length = ys.length
  · have hl : ((xs.length : Int) != ys.length) = false := by rw [bne_len]; simpa using hlen
    have Hhlen := Lib.hid hlen; clear hlen
    go_enter Try.func55, Try.ntmps55
    go_wp2
    go_loopw [4, 5] (fun r i wr => ∃ k : Nat, k ≤ xs.length ∧ i = .int .i64 k ∧ xs.take k = ys.take k ∧ Below w.heap.size w wr) (fun _ i _ => xs.length - (intOf i).toNat)
    case atStart => exact ⟨0, Nat.zero_le _, rfl, rfl, Below.refl _ _⟩
    case round =>
      obtain ⟨k, hk, rfl, htk, hb⟩ := hrel
      have Hhtk := Lib.hid htk; clear htk
      by_cases hlt : k < xs.length
      · have hlt2 : k < ys.length := by have := Hhlen.out; omega
        obtain ⟨b1, o1, rfl, hB1, hbl1, hcs1⟩ := hr1 (by omega)
        obtain ⟨b2, o2, rfl, hB2, hbl2, hcs2⟩ := hr2 (by omega)
        have hx1 := (bcell hb b1 (o1 + k) hbl1).trans (hcs1 k hlt)
        have hx2 := (bcell hb b2 (o2 + k) hbl2).trans (hcs2 k hlt2)
        obtain ⟨x, hx⟩ : ∃ x, x = xs.getD k 0 := ⟨_, rfl⟩
        obtain ⟨y, hy⟩ : ∃ y, y = ys.getD k 0 := ⟨_, rfl⟩
        rw [← hx] at hx1
        rw [← hy] at hx2
        have Hhx := Lib.hid hx; clear hx
        have Hhy := Lib.hid hy; clear hy
        have Hhb := Lib.hid hb; clear hb
        clear hcs1 hcs2 hr1 hr2
        by_cases he : x = y
        · have hne : (x != y) = false := by simpa using he
          have hne' : (!(x == y)) = false := by simpa using he
          have Hhe := Lib.hid he; clear he
          go_wp2
          go_quiet (fail)
          go_wp2
          go_roundw
          case rel => exact ⟨k + 1, by omega, by go_num, take_snoc_eq (d := 0) hlt hlt2 Hhtk.out (by rw [← Hhx.out, ← Hhy.out]; exact Hhe.out), below_drewN Hhb.out _⟩
          case measure => simp [intOf]; omega
        · have hne : (x != y) = true := by simpa using he
          have hne' : (!(x == y)) = true := by simpa using he
          have Hhe := Lib.hid he; clear he
          go_wp2
          go_quiet (fail)
          go_wp2
          go_ret
          exact ⟨by rw [← Hhr.out, decide_eq_false (ne_of_getD (k := k) (d := 0) (by rw [← Hhx.out, ← Hhy.out]; exact Hhe.out))]; rfl, below_drewN Hhb.out _⟩
      · clear hr1 hr2
        have Hhb := Lib.hid hb; clear hb
        go_wp2
        go_ret
        exact ⟨by rw [← Hhr.out, decide_eq_true (eq_of_take Hhlen.out (by omega) Hhtk.out)]; rfl, Hhb.out⟩
  · have hl : ((xs.length : Int) != ys.length) = true := by rw [bne_len]; simpa using hlen
    have Hhlen := Lib.hid hlen; clear hlen
    clear hr1 hr2
    go_enter Try.func55, Try.ntmps55
    go_wp2
    go_ret
    exact ⟨by rw [← Hhr.out, decide_eq_false (fun h => Hhlen.out (by rw [h]))]; rfl, Below.refl _ _⟩
theorem implGSn_any (d : DfaD) (J : Nat) (hJ : lastG d J) (F : List Int) (hF : stsG d J = F) (n : Nat) (hn : F.length = n) (v : Value) (w : World) (h : DfaR 0 w v d) :
    Calls Try.prog 54 #[v] w fun e w' => ∃ a c, e = .returned (.slice a n c) ∧ Ints 0 w' (.slice a n c) F ∧ Below w.heap.size w w' := by
  subst hn
  refine (implGuessStates_any d J hJ F hF v w h).mono ?_
  rintro e w' ⟨⟨a, c, rfl, hx⟩, hb⟩
  exact ⟨a, c, rfl, (hx.sl (by omega)).mono (Nat.zero_le _), hb⟩
theorem specGSn_any (d : DfaD) (J : Nat) (hJ : lastG d J) (F : List Int) (hF : stsG d J = F) (n : Nat) (hn : F.length = n) (v : Value) (w : World) (h : DfaR 0 w v d) :
    Calls Try.prog 56 #[v] w fun e w' => ∃ a c, e = .returned (.slice a n c) ∧ Ints 0 w' (.slice a n c) F ∧ Below w.heap.size w w' := by
  subst hn
  refine (specGuessStatesR_any d J hJ F hF v w h).mono ?_
  rintro e w' ⟨⟨a, c, rfl, hx⟩, hb⟩
  exact ⟨a, c, rfl, hx, hb⟩
end Go.Proofs.Ythhbjkgchabfmaa
