/-
  The walks over impl.product with the functions that are handed to it.
  Conditions: the automata read as such and are valid.
-/
import Derived.Test.YthigcohfjoodlaaExp
namespace Go.Proofs.Ythigcohfjoodlaa
open Go.RowKit Go.Maps

/-- The pairs that two automata meet. -/
abbrev metP (a b : DfaD) (most : Nat) : List (Int × Int) := (bat (stepP a b) (0, 0) most).met
theorem inPair_zero {a b : DfaD} (hda : dfaOk a.next a.ends = true) (hdb : dfaOk b.next b.ends = true) : inPair a b (0, 0) = true := by
  have h1 := dfaOk_len hda
  have h2 := dfaOk_len hdb
  simp [inPair, inB]
  omega
theorem inPair_step {a b : DfaD} (hda : dfaOk a.next a.ends = true) (hdb : dfaOk b.next b.ends = true) {x : Int × Int} {c : Nat} (hc : c < 3) (hx : inPair a b x = true) : inPair a b (stepP a b x c) = true := by
  obtain ⟨i, j, rfl, hi, hj⟩ := inPair_nat hx
  have h1 := (dfaOk_row hda hi).2 c hc
  have h2 := (dfaOk_row hdb hj).2 c hc
  have e : stepP a b ((i : Int), (j : Int)) c = ((a.next.getD i []).getD c 0, (b.next.getD j []).getD c 0) := rfl
  rw [e]
  simp only [inPair, inB, Bool.and_eq_true, decide_eq_true_eq]
  omega
theorem inPair_fit {a b : DfaD} (hda : dfaOk a.next a.ends = true) (hdb : dfaOk b.next b.ends = true) {x : Int × Int} (hx : inPair a b x = true) : fitI x.1 ∧ fitI x.2 := by
  obtain ⟨i, j, rfl, hi, hj⟩ := inPair_nat hx
  have h1 := dfaOk_len hda
  have h2 := dfaOk_len hdb
  unfold fitI
  simp only
  omega

set_option maxHeartbeats 1600000 in
theorem productD_any (a b : DfaD) (most : Nat) (v1 v2 : Value) (w : World) (hda : dfaOk a.next a.ends = true) (hdb : dfaOk b.next b.ends = true) (hm0 : 0 < most) (hm1 : most ≤ 100000) (h1 : DfaR 0 w v1 a) (h2 : DfaR 0 w v2 b) :
    Calls Try.prog 88 #[v1, v2, .int .i64 most, .func (.func 181) #[] #[]] w fun e w' => RExp (stepP a b) (endsF (fun x y => x != y) a b) most w.heap.size e w' ∧ Below w.heap.size w w' := by
  obtain ⟨u1, u2, rfl, g1, g2⟩ := h1
  obtain ⟨u3, u4, rfl, g3, g4⟩ := h2
  go_enter Try.func88, Try.ntmps88
  go_wp2_with fail
  obtain ⟨W, hW⟩ : ∃ W, W = ((((w.alloc (.cells #[u1, u2] 30)).alloc (.cells #[u3, u4] 30)).alloc (.cells #[.func (.func 181) #[] #[]] 101)).alloc (.cells #[.slice none 0 0, .slice none 0 0] 30)) := ⟨_, rfl⟩
  have hbW : Below w.heap.size w W := by rw [hW]; exact ((((Below.refl _ _).alloc (Nat.le_refl _) _).alloc (by simp) _).alloc (by simp; omega) _).alloc (by simp; omega) _
  have xA : Bx W w.heap.size #[u1, u2] 30 := by rw [hW]; exact (((Bx.new w _ _).alloc _).alloc _).alloc _
  have xB : Bx W (w.heap.size + 1) #[u3, u4] 30 := by rw [hW]; simpa using ((Bx.new (w.alloc (.cells #[u1, u2] 30)) #[u3, u4] 30).alloc _).alloc _
  have xF : Bx W (w.heap.size + 1 + 1) #[.func (.func 181) #[] #[]] 101 := by rw [hW]; simpa using (Bx.new ((w.alloc (.cells #[u1, u2] 30)).alloc (.cells #[u3, u4] 30)) #[.func (.func 181) #[] #[]] 101).alloc _
  have xR : Bx W (w.heap.size + 1 + 1 + 1) #[.slice none 0 0, .slice none 0 0] 30 := by rw [hW]; simpa using Bx.new (((w.alloc (.cells #[u1, u2] 30)).alloc (.cells #[u3, u4] 30)).alloc (.cells #[.func (.func 181) #[] #[]] 101)) #[.slice none 0 0, .slice none 0 0] 30
  have hA : DfaAt W w.heap.size a := ⟨u1, u2, xA, g1.below hbW, g2.below hbW⟩
  have hB : DfaAt W (w.heap.size + 1) b := ⟨u3, u4, xB, g3.below hbW, g4.below hbW⟩
  have hz := xR.lt
  rw [← hW]
  refine (exploredPair_any (stepP a b) (endsF (fun x y => x != y) a b) (fun x => inPair a b x = true) most (w.heap.size + 1 + 1) w.heap.size (w.heap.size + 1) W (inPair_zero hda hdb) (fun x c hc hx => inPair_step hda hdb hc hx) (fun x hx => inPair_fit hda hdb hx) hm0 hm1
    (fun x c w' hx hc hb => product1_any a b x c _ _ w' hda hdb (hA.below hb) (hB.below hb) hx hc)
    (fun x w' hx hb => product2_differ a b x _ _ _ w' hda hdb (xF.below hb xF.lt) (hA.below hb) (hB.below hb) hx)).mono ?_
  rintro e w2 ⟨hr, hb2⟩
  have yR := xR.below hb2 hz
  have r0 := yR.cell 0
  have r1 := yR.cell 1
  have f0 := yR.fr 0
  have f1 := yR.fr 1
  simp only [List.getElem?_toArray, List.getElem?_cons_zero, List.getElem?_cons_succ] at r0 r1
  unfold RExp at hr
  have hbw2 := hbW.trans (hb2.mono hbW.size)
  have hz0 : w.heap.size ≤ W.heap.size := hbW.size
  have Hhbw2 := Lib.hid hbw2; clear hbw2
  have HyR := Lib.hid yR; clear yR
  clear hA hB xA xB xF xR g1 g2 g3 g4 hda hdb hW hbW hb2
  by_cases hle : (bat (stepP a b) (0, 0) most).met.length ≤ most
  · rw [if_pos hle] at hr
    obtain ⟨an, cn, ae, ce, am, cm, rfl, ⟨q1, q2, hq, hd1, hd2⟩, hp⟩ := hr
    simp only [Value.agg.injEq] at hq
    have e1 := congrArg (fun (l : Array Value) => l[0]?) hq
    have e2 := congrArg (fun (l : Array Value) => l[1]?) hq
    simp at e1 e2
    subst e1
    subst e2
    clear hq
    obtain ⟨F, hF⟩ : ∃ F, F = (bat (stepP a b) (0, 0) most).met := ⟨_, rfl⟩
    rw [← hF] at hd1 hd2 hp hle
    rw [← hF]
    have Hhd1 := Lib.hid hd1; clear hd1
    have Hhd2 := Lib.hid hd2; clear hd2
    have Hhp := Lib.hid hp; clear hp
    have HhF := Lib.hid hF; clear hF
    go_wp2
    have b1 := HyR.out.set 0 (.slice an F.length cn)
    have b2 := b1.set 1 (.slice ae F.length ce)
    have z0 := b2.cell 0
    have z1 := b2.cell 1
    simp only [List.getElem?_toArray, List.getElem?_cons_zero, List.getElem?_cons_succ, List.setIfInBounds_toArray, List.set_cons_zero, List.set_cons_succ] at z0 z1
    have g1 := grown_set w2 (w.heap.size + 1 + 1 + 1) 0 (.slice an F.length cn)
    have g2 := grown_set (w2.setCell ⟨w.heap.size + 1 + 1 + 1, 0, none⟩ (.slice an F.length cn)) (w.heap.size + 1 + 1 + 1) 1 (.slice ae F.length ce)
    refine bodyPost_ret (v := .tuple #[.agg #[.slice an F.length cn, .slice ae F.length ce], .slice am F.length cm, .bool true]) (by simp [results, Try.results88, go_sem, z0, z1]) rfl ⟨?_, ?_⟩
    · unfold RExp
      rw [← HhF.out, if_pos hle]
      have ha : ∀ e, 30 ≠ e → Apart w2 (some (w.heap.size + 1 + 1 + 1)) e := fun e he => HyR.out.apart he
      have ha2 : ∀ e, 30 ≠ e → Apart (w2.setCell ⟨w.heap.size + 1 + 1 + 1, 0, none⟩ (.slice an F.length cn)) (some (w.heap.size + 1 + 1 + 1)) e := fun e he => b1.apart he
      refine ⟨_, _, _, _, _, _, rfl, ⟨_, _, rfl, ?_, ?_⟩, ?_⟩
      · exact ((Hhd1.out.grown g1 (ha _ (by decide)) (ha _ (by decide))).grown g2 (ha2 _ (by decide)) (ha2 _ (by decide))).mono hz0 (by simp)
      · exact Own.mono (Own.grown (Own.grown Hhd2.out g1 (ha _ (by decide))) g2 (ha2 _ (by decide))) hz0 (by simp)
      · exact Own.mono (Own.grown (Own.grown Hhp.out g1 (ha _ (by decide))) g2 (ha2 _ (by decide))) hz0 (by simp)
    · exact (Hhbw2.out.setCell (by simp; omega) _).setCell (by simp; omega) _
  · rw [if_neg hle] at hr
    subst hr
    go_wp2
    have b1 := HyR.out.set 0 (.slice none 0 0)
    have b2 := b1.set 1 (.slice none 0 0)
    have z0 := b2.cell 0
    have z1 := b2.cell 1
    simp only [List.getElem?_toArray, List.getElem?_cons_zero, List.getElem?_cons_succ, List.setIfInBounds_toArray, List.set_cons_zero, List.set_cons_succ] at z0 z1
    refine bodyPost_ret (v := .tuple #[.agg #[.slice none 0 0, .slice none 0 0], .slice none 0 0, .bool false]) (by simp [results, Try.results88, go_sem, z0, z1]) rfl ⟨?_, ?_⟩
    · unfold RExp
      rw [if_neg hle]
    · exact (Hhbw2.out.setCell (by simp; omega) _).setCell (by simp; omega) _
set_option maxHeartbeats 1600000 in
theorem productM_any (a b : DfaD) (most : Nat) (v1 v2 : Value) (w : World) (hda : dfaOk a.next a.ends = true) (hdb : dfaOk b.next b.ends = true) (hm0 : 0 < most) (hm1 : most ≤ 100000) (h1 : DfaR 0 w v1 a) (h2 : DfaR 0 w v2 b) :
    Calls Try.prog 88 #[v1, v2, .int .i64 most, .func (.func 89) #[] #[]] w fun e w' => RExp (stepP a b) (endsF (fun _ _ => false) a b) most w.heap.size e w' ∧ Below w.heap.size w w' := by
  obtain ⟨u1, u2, rfl, g1, g2⟩ := h1
  obtain ⟨u3, u4, rfl, g3, g4⟩ := h2
  go_enter Try.func88, Try.ntmps88
  go_wp2_with fail
  obtain ⟨W, hW⟩ : ∃ W, W = ((((w.alloc (.cells #[u1, u2] 30)).alloc (.cells #[u3, u4] 30)).alloc (.cells #[.func (.func 89) #[] #[]] 101)).alloc (.cells #[.slice none 0 0, .slice none 0 0] 30)) := ⟨_, rfl⟩
  have hbW : Below w.heap.size w W := by rw [hW]; exact ((((Below.refl _ _).alloc (Nat.le_refl _) _).alloc (by simp) _).alloc (by simp; omega) _).alloc (by simp; omega) _
  have xA : Bx W w.heap.size #[u1, u2] 30 := by rw [hW]; exact (((Bx.new w _ _).alloc _).alloc _).alloc _
  have xB : Bx W (w.heap.size + 1) #[u3, u4] 30 := by rw [hW]; simpa using ((Bx.new (w.alloc (.cells #[u1, u2] 30)) #[u3, u4] 30).alloc _).alloc _
  have xF : Bx W (w.heap.size + 1 + 1) #[.func (.func 89) #[] #[]] 101 := by rw [hW]; simpa using (Bx.new ((w.alloc (.cells #[u1, u2] 30)).alloc (.cells #[u3, u4] 30)) #[.func (.func 89) #[] #[]] 101).alloc _
  have xR : Bx W (w.heap.size + 1 + 1 + 1) #[.slice none 0 0, .slice none 0 0] 30 := by rw [hW]; simpa using Bx.new (((w.alloc (.cells #[u1, u2] 30)).alloc (.cells #[u3, u4] 30)).alloc (.cells #[.func (.func 89) #[] #[]] 101)) #[.slice none 0 0, .slice none 0 0] 30
  have hA : DfaAt W w.heap.size a := ⟨u1, u2, xA, g1.below hbW, g2.below hbW⟩
  have hB : DfaAt W (w.heap.size + 1) b := ⟨u3, u4, xB, g3.below hbW, g4.below hbW⟩
  have hz := xR.lt
  rw [← hW]
  refine (exploredPair_any (stepP a b) (endsF (fun _ _ => false) a b) (fun x => inPair a b x = true) most (w.heap.size + 1 + 1) w.heap.size (w.heap.size + 1) W (inPair_zero hda hdb) (fun x c hc hx => inPair_step hda hdb hc hx) (fun x hx => inPair_fit hda hdb hx) hm0 hm1
    (fun x c w' hx hc hb => product1_any a b x c _ _ w' hda hdb (hA.below hb) (hB.below hb) hx hc)
    (fun x w' hx hb => product2_make a b x _ _ _ w' hda hdb (xF.below hb xF.lt) (hA.below hb) (hB.below hb) hx)).mono ?_
  rintro e w2 ⟨hr, hb2⟩
  have yR := xR.below hb2 hz
  have r0 := yR.cell 0
  have r1 := yR.cell 1
  have f0 := yR.fr 0
  have f1 := yR.fr 1
  simp only [List.getElem?_toArray, List.getElem?_cons_zero, List.getElem?_cons_succ] at r0 r1
  unfold RExp at hr
  have hbw2 := hbW.trans (hb2.mono hbW.size)
  have hz0 : w.heap.size ≤ W.heap.size := hbW.size
  have Hhbw2 := Lib.hid hbw2; clear hbw2
  have HyR := Lib.hid yR; clear yR
  clear hA hB xA xB xF xR g1 g2 g3 g4 hda hdb hW hbW hb2
  by_cases hle : (bat (stepP a b) (0, 0) most).met.length ≤ most
  · rw [if_pos hle] at hr
    obtain ⟨an, cn, ae, ce, am, cm, rfl, ⟨q1, q2, hq, hd1, hd2⟩, hp⟩ := hr
    simp only [Value.agg.injEq] at hq
    have e1 := congrArg (fun (l : Array Value) => l[0]?) hq
    have e2 := congrArg (fun (l : Array Value) => l[1]?) hq
    simp at e1 e2
    subst e1
    subst e2
    clear hq
    obtain ⟨F, hF⟩ : ∃ F, F = (bat (stepP a b) (0, 0) most).met := ⟨_, rfl⟩
    rw [← hF] at hd1 hd2 hp hle
    rw [← hF]
    have Hhd1 := Lib.hid hd1; clear hd1
    have Hhd2 := Lib.hid hd2; clear hd2
    have Hhp := Lib.hid hp; clear hp
    have HhF := Lib.hid hF; clear hF
    go_wp2
    have b1 := HyR.out.set 0 (.slice an F.length cn)
    have b2 := b1.set 1 (.slice ae F.length ce)
    have z0 := b2.cell 0
    have z1 := b2.cell 1
    simp only [List.getElem?_toArray, List.getElem?_cons_zero, List.getElem?_cons_succ, List.setIfInBounds_toArray, List.set_cons_zero, List.set_cons_succ] at z0 z1
    have g1 := grown_set w2 (w.heap.size + 1 + 1 + 1) 0 (.slice an F.length cn)
    have g2 := grown_set (w2.setCell ⟨w.heap.size + 1 + 1 + 1, 0, none⟩ (.slice an F.length cn)) (w.heap.size + 1 + 1 + 1) 1 (.slice ae F.length ce)
    refine bodyPost_ret (v := .tuple #[.agg #[.slice an F.length cn, .slice ae F.length ce], .slice am F.length cm, .bool true]) (by simp [results, Try.results88, go_sem, z0, z1]) rfl ⟨?_, ?_⟩
    · unfold RExp
      rw [← HhF.out, if_pos hle]
      have ha : ∀ e, 30 ≠ e → Apart w2 (some (w.heap.size + 1 + 1 + 1)) e := fun e he => HyR.out.apart he
      have ha2 : ∀ e, 30 ≠ e → Apart (w2.setCell ⟨w.heap.size + 1 + 1 + 1, 0, none⟩ (.slice an F.length cn)) (some (w.heap.size + 1 + 1 + 1)) e := fun e he => b1.apart he
      refine ⟨_, _, _, _, _, _, rfl, ⟨_, _, rfl, ?_, ?_⟩, ?_⟩
      · exact ((Hhd1.out.grown g1 (ha _ (by decide)) (ha _ (by decide))).grown g2 (ha2 _ (by decide)) (ha2 _ (by decide))).mono hz0 (by simp)
      · exact Own.mono (Own.grown (Own.grown Hhd2.out g1 (ha _ (by decide))) g2 (ha2 _ (by decide))) hz0 (by simp)
      · exact Own.mono (Own.grown (Own.grown Hhp.out g1 (ha _ (by decide))) g2 (ha2 _ (by decide))) hz0 (by simp)
    · exact (Hhbw2.out.setCell (by simp; omega) _).setCell (by simp; omega) _
  · rw [if_neg hle] at hr
    subst hr
    go_wp2
    have b1 := HyR.out.set 0 (.slice none 0 0)
    have b2 := b1.set 1 (.slice none 0 0)
    have z0 := b2.cell 0
    have z1 := b2.cell 1
    simp only [List.getElem?_toArray, List.getElem?_cons_zero, List.getElem?_cons_succ, List.setIfInBounds_toArray, List.set_cons_zero, List.set_cons_succ] at z0 z1
    refine bodyPost_ret (v := .tuple #[.agg #[.slice none 0 0, .slice none 0 0], .slice none 0 0, .bool false]) (by simp [results, Try.results88, go_sem, z0, z1]) rfl ⟨?_, ?_⟩
    · unfold RExp
      rw [if_neg hle]
    · exact (Hhbw2.out.setCell (by simp; omega) _).setCell (by simp; omega) _
end Go.Proofs.Ythigcohfjoodlaa
