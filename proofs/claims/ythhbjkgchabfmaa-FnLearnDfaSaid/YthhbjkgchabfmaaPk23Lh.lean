/-
  The walks over impl.product with the functions that are handed to it.
  Conditions: the automata read as such and are valid.
-/
import Derived.Test.YthhbjkgchabfmaaPk21Ry
import Derived.Test.YthhbjkgchabfmaaPk22Exp
namespace Go.Proofs.Ythhbjkgchabfmaa
open Go.RowKit Go.Maps
theorem inPair_fit {a b : DfaD} (hda : dfaOk a.next a.ends = true) (hdb : dfaOk b.next b.ends = true) {x : Int × Int} (hx : inPair a b x = true) : fitI x.1 ∧ fitI x.2 := by
  obtain ⟨i, j, rfl, hi, hj⟩ := inPair_nat hx
  have h1 := dfaOk_len hda
  have h2 := dfaOk_len hdb
  unfold fitI
  simp only
  omega
set_option maxHeartbeats 1600000 in
theorem productD_any (a b : DfaD) (most : Nat) (v1 v2 : Value) (w : World) (hda : dfaOk a.next a.ends = true) (hdb : dfaOk b.next b.ends = true) (hm0 : 0 < most) (hm1 : most ≤ 100000) (h1 : DfaR 0 w v1 a) (h2 : DfaR 0 w v2 b) :
    Calls Try.prog 89 #[v1, v2, .int .i64 most, .func (.func 129) #[] #[]] w fun e w' => RExp (stepP a b) (endsF (fun x y => x != y) a b) most w.heap.size e w' ∧ Below w.heap.size w w' := by
  obtain ⟨u1, u2, rfl, g1, g2⟩ := h1
  obtain ⟨u3, u4, rfl, g3, g4⟩ := h2
  go_enter Try.func89, Try.ntmps89
  go_wp2_with fail
  obtain ⟨W, hW⟩ : ∃ W, W = ((((w.alloc (.cells #[u1, u2] 26)).alloc (.cells #[u3, u4] 26)).alloc (.cells #[.func (.func 129) #[] #[]] 90)).alloc (.cells #[.slice none 0 0, .slice none 0 0] 26)) := ⟨_, rfl⟩
  have hbW : Below w.heap.size w W := by rw [hW]; exact ((((Below.refl _ _).alloc (Nat.le_refl _) _).alloc (by simp) _).alloc (by simp; omega) _).alloc (by simp; omega) _
  have xA : Bx W w.heap.size #[u1, u2] 26 := by rw [hW]; exact (((Bx.new w _ _).alloc _).alloc _).alloc _
  have xB : Bx W (w.heap.size + 1) #[u3, u4] 26 := by rw [hW]; simpa using ((Bx.new (w.alloc (.cells #[u1, u2] 26)) #[u3, u4] 26).alloc _).alloc _
  have xF : Bx W (w.heap.size + 1 + 1) #[.func (.func 129) #[] #[]] 90 := by rw [hW]; simpa using (Bx.new ((w.alloc (.cells #[u1, u2] 26)).alloc (.cells #[u3, u4] 26)) #[.func (.func 129) #[] #[]] 90).alloc _
  have xR : Bx W (w.heap.size + 1 + 1 + 1) #[.slice none 0 0, .slice none 0 0] 26 := by rw [hW]; simpa using Bx.new (((w.alloc (.cells #[u1, u2] 26)).alloc (.cells #[u3, u4] 26)).alloc (.cells #[.func (.func 129) #[] #[]] 90)) #[.slice none 0 0, .slice none 0 0] 26
  have hA : DfaAt W w.heap.size a := ⟨u1, u2, xA, g1.below hbW, g2.below hbW⟩
  have hB : DfaAt W (w.heap.size + 1) b := ⟨u3, u4, xB, g3.below hbW, g4.below hbW⟩
  have hz := xR.lt
  rw [← hW]
  refine (exploredPair_any (stepP a b) (endsF (fun x y => x != y) a b) (fun x => inPair a b x = true) most (w.heap.size + 1 + 1) w.heap.size (w.heap.size + 1) W (inPair_zero hda hdb) (fun x c hc hx => inPair_step hda hdb hc hx) (fun x hx => inPair_fit hda hdb hx) hm0 hm1
    (fun x c w' hx hc hb => product1_any a b x c _ _ w' hda hdb (hA.below hb) (hB.below hb) hx hc)
    (fun x w' hx hb => product2_differ a b x _ _ _ w' hda hdb (xF.below hb xF.lt) (hA.below hb) (hB.below hb) hx)).mono ?_
  rintro e w2 ⟨hr, hb2⟩
  have yR := xR.below hb2 hz
  have r0 := yR.cell 0
  have r1 := yR.cell 1
  have f0 := yR.fr 0
  have f1 := yR.fr 1
  simp only [List.getElem?_toArray, List.getElem?_cons_zero, List.getElem?_cons_succ] at r0 r1
  unfold RExp at hr
  have hbw2 := hbW.trans (hb2.mono hbW.size)
  have hz0 : w.heap.size ≤ W.heap.size := hbW.size
  have Hhbw2 := Lib.hid hbw2; clear hbw2
  have HyR := Lib.hid yR; clear yR
  clear hA hB xA xB xF xR g1 g2 g3 g4 hda hdb hW hbW hb2
  by_cases hle : (bat (stepP a b) (0, 0) most).met.length ≤ most
  · rw [if_pos hle] at hr
    obtain ⟨an, cn, ae, ce, am, cm, rfl, ⟨q1, q2, hq, hd1, hd2⟩, hp⟩ := hr
    simp only [Value.agg.injEq] at hq
    have e1 := congrArg (fun (l : Array Value) => l[0]?) hq
    have e2 := congrArg (fun (l : Array Value) => l[1]?) hq
    simp at e1 e2
    subst e1
    subst e2
    clear hq
    obtain ⟨F, hF⟩ : ∃ F, F = (bat (stepP a b) (0, 0) most).met := ⟨_, rfl⟩
    rw [← hF] at hd1 hd2 hp hle
    rw [← hF]
    have Hhd1 := Lib.hid hd1; clear hd1
    have Hhd2 := Lib.hid hd2; clear hd2
    have Hhp := Lib.hid hp; clear hp
    have HhF := Lib.hid hF; clear hF
    go_wp2
    have b1 := HyR.out.set 0 (.slice an F.length cn)
    have b2 := b1.set 1 (.slice ae F.length ce)
    have z0 := b2.cell 0
    have z1 := b2.cell 1
    simp only [List.getElem?_toArray, List.getElem?_cons_zero, List.getElem?_cons_succ, List.setIfInBounds_toArray, List.set_cons_zero, List.set_cons_succ] at z0 z1
    have g1 := grown_set w2 (w.heap.size + 1 + 1 + 1) 0 (.slice an F.length cn)
    have g2 := grown_set (w2.setCell ⟨w.heap.size + 1 + 1 + 1, 0, none⟩ (.slice an F.length cn)) (w.heap.size + 1 + 1 + 1) 1 (.slice ae F.length ce)
    refine bodyPost_ret (v := .tuple #[.agg #[.slice an F.length cn, .slice ae F.length ce], .slice am F.length cm, .bool true]) (by simp [results, Try.results89, go_sem, z0, z1]) rfl ⟨?_, ?_⟩
    · unfold RExp
      rw [← HhF.out, if_pos hle]
      have ha : ∀ e, 26 ≠ e → Apart w2 (some (w.heap.size + 1 + 1 + 1)) e := fun e he => HyR.out.apart he
      have ha2 : ∀ e, 26 ≠ e → Apart (w2.setCell ⟨w.heap.size + 1 + 1 + 1, 0, none⟩ (.slice an F.length cn)) (some (w.heap.size + 1 + 1 + 1)) e := fun e he => b1.apart he
      refine ⟨_, _, _, _, _, _, rfl, ⟨_, _, rfl, ?_, ?_⟩, ?_⟩
      · exact ((Hhd1.out.grown g1 (ha _ (by decide)) (ha _ (by decide))).grown g2 (ha2 _ (by decide)) (ha2 _ (by decide))).mono hz0 (by simp)
      · exact Own.mono (Own.grown (Own.grown Hhd2.out g1 (ha _ (by decide))) g2 (ha2 _ (by decide))) hz0 (by simp)
      · exact Own.mono (Own.grown (Own.grown Hhp.out g1 (ha _ (by decide))) g2 (ha2 _ (by decide))) hz0 (by simp)
    · exact (Hhbw2.out.setCell (by simp; omega) _).setCell (by simp; omega) _
  · rw [if_neg hle] at hr
    subst hr
    go_wp2
    have b1 := HyR.out.set 0 (.slice none 0 0)
    have b2 := b1.set 1 (.slice none 0 0)
    have z0 := b2.cell 0
    have z1 := b2.cell 1
    simp only [List.getElem?_toArray, List.getElem?_cons_zero, List.getElem?_cons_succ, List.setIfInBounds_toArray, List.set_cons_zero, List.set_cons_succ] at z0 z1
    refine bodyPost_ret (v := .tuple #[.agg #[.slice none 0 0, .slice none 0 0], .slice none 0 0, .bool false]) (by simp [results, Try.results89, go_sem, z0, z1]) rfl ⟨?_, ?_⟩
    · unfold RExp
      rw [if_neg hle]
    · exact (Hhbw2.out.setCell (by simp; omega) _).setCell (by simp; omega) _
end Go.Proofs.Ythhbjkgchabfmaa
namespace Go.Proofs.Ythhbjkgchabfmaa
open Go.RowKit
def RDs (D : DfaD) (w : World) (e : Ending) (w' : World) : Prop := ∃ a1 c1 a2 c2, e = .returned (.agg #[.slice a1 D.next.length c1, .slice a2 D.ends.length c2]) ∧ DfaR w.heap.size w' (.agg #[.slice a1 D.next.length c1, .slice a2 D.ends.length c2]) D ∧ Below w.heap.size w w'
theorem nil_r (w : World) (B : Nat) : DfaR B w (.agg #[.slice none 0 0, .slice none 0 0]) ⟨[], []⟩ := (zeroD_own w B 0 0 0).r
abbrev wdCells (ws : List (List Nat)) : List Value := ws.map fun l => Value.string (wdB l)
end Go.Proofs.Ythhbjkgchabfmaa
namespace Go.Proofs.Ythhbjkgchabfmaa
open Go.RowKit Go.Maps
def hitK (K : Nat) (a b : DfaD) : Option (List Nat) := firstHit (endsF (fun x y => x != y) a b) (bat (stepP a b) (0, 0) K)
def mostP : Nat := 1600
def hitP (a b : DfaD) : Option (List Nat) := hitK mostP a b
def allP (n m : Nat) : List (Int × Int) := (List.range n).flatMap fun (i : Nat) => (List.range m).map fun (j : Nat) => ((i : Int), (j : Int))
theorem sum_const (m : Nat) : ∀ l : List Nat, (l.map fun _ => m).sum = l.length * m
  | [] => by simp
  | _ :: l => by simp only [List.map_cons, List.sum_cons, sum_const m l, List.length_cons, Nat.succ_mul]; omega
theorem allP_len (n m : Nat) : (allP n m).length = n * m := by
  unfold allP
  rw [List.length_flatMap]
  simp only [List.length_map, List.length_range]
  rw [sum_const, List.length_range]
theorem metP_len {a b : DfaD} (hda : dfaOk a.next a.ends = true) (hdb : dfaOk b.next b.ends = true) (k : Nat) : (metP a b k).length ≤ 1600 := by
  have h := nodup_le (m := allP a.next.length b.next.length) (bat_good (nx := stepP a b) (a := (0, 0)) k).1 fun x hx => by
    obtain ⟨i, j, rfl, hi, hj⟩ := inPair_nat (bat_all (Q := fun x => inPair a b x = true) (inPair_zero hda hdb) (fun x c hc hx => inPair_step hda hdb hc hx) k x hx)
    unfold allP
    rw [List.mem_flatMap]
    exact ⟨i, List.mem_range.2 hi, List.mem_map.2 ⟨j, List.mem_range.2 hj, rfl⟩⟩
  rw [allP_len] at h
  have h1 := dfaOk_len hda
  have h2 := dfaOk_len hdb
  have := Nat.mul_le_mul h1.2.1 h2.2.1
  unfold metP
  omega
set_option maxHeartbeats 1600000 in
theorem firstPairK_any (K : Nat) (hK : K = 1600) (a b : DfaD) (v1 v2 : Value) (w : World) (hda : dfaOk a.next a.ends = true) (hdb : dfaOk b.next b.ends = true) (h1 : DfaR 0 w v1 a) (h2 : DfaR 0 w v2 b) :
    Calls Try.prog 128 #[v1, v2, .func (.func 129) #[] #[]] w fun e w' => e = wordRes (hitK K a b) ∧ Below w.heap.size w w' := by
  obtain ⟨u1, u2, rfl, g1, g2⟩ := h1
  obtain ⟨u3, u4, rfl, g3, g4⟩ := h2
  have hb2 : Below w.heap.size w ((w.alloc (.cells #[u1, u2] 26)).alloc (.cells #[u3, u4] 26)) := ((Below.refl _ _).alloc (Nat.le_refl _) _).alloc (by simp) _
  have H1 : Hid (DfaR 0 ((w.alloc (.cells #[u1, u2] 26)).alloc (.cells #[u3, u4] 26)) (.agg #[u1, u2]) a) := Lib.hid ⟨_, _, rfl, g1.below hb2, g2.below hb2⟩
  have H2 : Hid (DfaR 0 ((w.alloc (.cells #[u1, u2] 26)).alloc (.cells #[u3, u4] 26)) (.agg #[u3, u4]) b) := Lib.hid ⟨_, _, rfl, g3.below hb2, g4.below hb2⟩
  have hm := metP_len hda hdb K
  have hpr := fun w' => productD_any a b K (.agg #[u1, u2]) (.agg #[u3, u4]) w' hda hdb (by omega) (by omega)
  rw [show ((K : Nat) : Int) = 1600 by omega] at hpr
  have hm2 : (metP a b K).length ≤ K := by omega
  have hK2 : K ≤ 100000 := by omega
  have Hhpr := Lib.hid hpr; clear hpr
  have HhK := Lib.hid hK; clear hK
  have Hhda := Lib.hid hda; clear hda
  have Hhdb := Lib.hid hdb; clear hdb
  have Hhb2 := Lib.hid hb2; clear hb2
  clear g1 g2 g3 g4
  go_enter Try.func128, Try.ntmps128
  go_wp2_with fail
  refine (Hhpr.out _ H1.out H2.out).mono ?_
  rintro e w2 ⟨hr, hbw⟩
  unfold RExp at hr
  rw [if_pos hm2] at hr
  obtain ⟨an, cn, ae, ce, am, cm, rfl, hd, -⟩ := hr
  obtain ⟨F, hF⟩ : ∃ F, F = (bat (stepP a b) (0, 0) K).met := ⟨_, rfl⟩
  unfold metP at hm hm2
  rw [← hF] at hd hm hm2
  rw [← hF]
  have hR := Lib.hid (hd.r.mono (Nat.zero_le _))
  have hbb := Hhb2.out.trans (hbw.mono (by simp; omega))
  have HhF := Lib.hid hF; clear hF
  have Hhbb := Lib.hid hbb; clear hbb
  have Hhm2 := Lib.hid hm2; clear hm2
  clear hd hbw hm
  go_wp2_with fail
  refine (firstWord_any (numDfa (stepP a b) (endsF (fun x y => x != y) a b) F) _ _ (by rw [HhF.out]; exact fine_num (by rw [← HhF.out]; exact Hhm2.out) hK2) (hR.out.below ((Below.refl _ _).alloc (Nat.le_refl _) _))).mono ?_
  rintro e w3 ⟨he, hb3⟩
  have hw : wordRes (firstHit (den (numDfa (stepP a b) (endsF (fun x y => x != y) a b) F)) (bat (dnx (numDfa (stepP a b) (endsF (fun x y => x != y) a b) F)) 0 (numDfa (stepP a b) (endsF (fun x y => x != y) a b) F).next.length)) = wordRes (hitK K a b) := by
    unfold hitK
    rw [HhF.out, firstHit_num (by rw [← HhF.out]; exact Hhm2.out)]
  rw [hw] at he
  have hbe := (Hhbb.out.alloc Hhbb.out.size _).trans (hb3.mono (by simp; have := Hhbb.out.size; omega))
  have Hhw := Lib.hid hw; clear hw
  have Hhbe := Lib.hid hbe; clear hbe
  clear hb3
  cases hh : hitK K a b with
  | none =>
    rw [hh] at he
    unfold wordRes at he
    simp only at he
    subst he
    have Hhh := Lib.hid hh; clear hh
    go_wp2
    go_ret2
    exact ⟨by rw [Hhh.out]; rfl, Hhbe.out⟩
  | some l =>
    rw [hh] at he
    unfold wordRes at he
    simp only at he
    subst he
    have Hhh := Lib.hid hh; clear hh
    go_wp2
    go_ret2
    exact ⟨by rw [Hhh.out]; rfl, Hhbe.out⟩
theorem firstPairD_any (a b : DfaD) (v1 v2 : Value) (w : World) (hda : dfaOk a.next a.ends = true) (hdb : dfaOk b.next b.ends = true) (h1 : DfaR 0 w v1 a) (h2 : DfaR 0 w v2 b) :
    Calls Try.prog 128 #[v1, v2, .func (.func 129) #[] #[]] w fun e w' => e = wordRes (hitP a b) ∧ Below w.heap.size w w' := firstPairK_any mostP rfl a b v1 v2 w hda hdb h1 h2
theorem wordRes_cases (o : Option (List Nat)) : ∃ s : ByteArray, wordRes o = .returned (.tuple #[.string s, .bool o.isSome]) := by
  cases o with
  | none => exact ⟨_, rfl⟩
  | some l => exact ⟨_, rfl⟩
set_option maxHeartbeats 1600000 in
theorem differ_any (a b : DfaD) (v1 v2 : Value) (w : World) (hda : dfaOk a.next a.ends = true) (hdb : dfaOk b.next b.ends = true) (h1 : DfaR 0 w v1 a) (h2 : DfaR 0 w v2 b) :
    Calls Try.prog 88 #[v1, v2] w fun e w' => e = wordRes (hitP a b) ∧ Below w.heap.size w w' := by
  obtain ⟨u1, u2, rfl, g1, g2⟩ := h1
  obtain ⟨u3, u4, rfl, g3, g4⟩ := h2
  have hb2 : Below w.heap.size w ((w.alloc (.cells #[u1, u2] 26)).alloc (.cells #[u3, u4] 26)) := ((Below.refl _ _).alloc (Nat.le_refl _) _).alloc (by simp) _
  have H1 : Hid (DfaR 0 ((w.alloc (.cells #[u1, u2] 26)).alloc (.cells #[u3, u4] 26)) (.agg #[u1, u2]) a) := Lib.hid ⟨_, _, rfl, g1.below hb2, g2.below hb2⟩
  have H2 : Hid (DfaR 0 ((w.alloc (.cells #[u1, u2] 26)).alloc (.cells #[u3, u4] 26)) (.agg #[u3, u4]) b) := Lib.hid ⟨_, _, rfl, g3.below hb2, g4.below hb2⟩
  obtain ⟨s, hs⟩ := wordRes_cases (hitP a b)
  have Hhda := Lib.hid hda; clear hda
  have Hhdb := Lib.hid hdb; clear hdb
  have Hhb2 := Lib.hid hb2; clear hb2
  have Hhs := Lib.hid hs; clear hs
  clear g1 g2 g3 g4
  go_enter Try.func88, Try.ntmps88
  go_wp2_with fail
  refine (firstPairD_any a b _ _ _ Hhda.out Hhdb.out H1.out H2.out).mono ?_
  rintro e w2 ⟨he, hbw⟩
  rw [Hhs.out] at he
  subst he
  have hbb := Hhb2.out.trans (hbw.mono (by simp; omega))
  have Hhbb := Lib.hid hbb; clear hbb
  clear hbw
  go_wp2
  go_ret2
  exact ⟨by rw [Hhs.out]; rfl, Hhbb.out⟩
end Go.Proofs.Ythhbjkgchabfmaa
namespace Go.Proofs.Ythhbjkgchabfmaa
open Go.RowKit
section
variable {α β : Type} [DecidableEq α] [DecidableEq β] {nx : α → Nat → α} {nx' : β → Nat → β} {a : α} {f : α → β}
theorem bat_words (k : Nat) : ∀ i, i < (bat nx a k).met.length → ((bat nx a k).words.getD i []).foldl nx a = (bat nx a k).met.getD i a ∧ isW ((bat nx a k).words.getD i []) := by
  have h := bat_ind (nx := nx) (a := a) (fun s => s.words.length = s.met.length ∧ ∀ i, i < s.met.length → (s.words.getD i []).foldl nx a = s.met.getD i a ∧ isW (s.words.getD i [])) ⟨rfl, fun i hi => by
    obtain rfl : i = 0 := by simpa using hi
    exact ⟨rfl, fun c hc => by simp at hc⟩⟩ (fun s k hk t c hc hs ht => by
      unfold bvisit
      split
      · exact ht
      · refine ⟨by simp [ht.1], fun i hi => ?_⟩
        simp only [List.length_append, List.length_singleton] at hi
        by_cases hit : i < t.met.length
        · have h1 := ht.2 i hit
          have e1 : (t.words ++ [s.words.getD k [] ++ [c]]).getD i [] = t.words.getD i [] := by
            simp only [List.getD_eq_getElem?_getD]; rw [List.getElem?_append_left (by rw [ht.1]; exact hit)]
          have e2 : (t.met ++ [nx (s.met.getD k a) c]).getD i a = t.met.getD i a := by
            simp only [List.getD_eq_getElem?_getD]; rw [List.getElem?_append_left hit]
          show ((t.words ++ [s.words.getD k [] ++ [c]]).getD i []).foldl nx a = (t.met ++ [nx (s.met.getD k a) c]).getD i a ∧ isW ((t.words ++ [s.words.getD k [] ++ [c]]).getD i [])
          rw [e1, e2]
          exact h1
        · obtain rfl : i = t.met.length := by omega
          have h2 := hs.2 k hk
          have e1 : (t.words ++ [s.words.getD k [] ++ [c]]).getD t.met.length [] = s.words.getD k [] ++ [c] := by simp [← ht.1]
          have e2 : (t.met ++ [nx (s.met.getD k a) c]).getD t.met.length a = nx (s.met.getD k a) c := by simp
          show ((t.words ++ [s.words.getD k [] ++ [c]]).getD t.met.length []).foldl nx a = (t.met ++ [nx (s.met.getD k a) c]).getD t.met.length a ∧ isW ((t.words ++ [s.words.getD k [] ++ [c]]).getD t.met.length [])
          rw [e1, e2, List.foldl_append, h2.1]
          exact ⟨rfl, isW_append h2.2 (isW_one hc)⟩) k
  exact h.2
end
theorem firstHit_some {α : Type} {en : α → Bool} {s : Bs α} {w : List Nat} {d : α} (hl : s.words.length = s.met.length) (h : firstHit en s = some w) : ∃ i, i < s.met.length ∧ s.words.getD i [] = w ∧ en (s.met.getD i d) = true := by
  unfold firstHit at h
  rw [Option.map_eq_some_iff] at h
  obtain ⟨p, hp, rfl⟩ := h
  obtain ⟨h1, i, hi, hpi, -⟩ := List.find?_eq_some_iff_getElem.1 hp
  rw [List.length_zip] at hi
  have him : i < s.met.length := by omega
  have hiw : i < s.words.length := by omega
  rw [List.getElem_zip] at hpi
  refine ⟨i, him, ?_, ?_⟩
  · rw [getD_at hiw, ← hpi]
  · rw [getD_at him]
    rw [← hpi] at h1
    exact h1
theorem stepP_fold (a b : DfaD) : ∀ (w : List Nat) (s t : Int), w.foldl (stepP a b) (s, t) = (runD a s w, runD b t w)
  | [], _, _ => rfl
  | c :: w, s, t => stepP_fold a b w (dnx a s c) (dnx b t c)
theorem hit_says {K : Nat} {a b : DfaD} {w : List Nat} (h : hitK K a b = some w) : isW w ∧ accD a w ≠ accD b w := by
  have hg := (bat_good (nx := stepP a b) (a := ((0, 0) : Int × Int)) K).2.1
  obtain ⟨i, hi, hw, he⟩ := firstHit_some (d := ((0, 0) : Int × Int)) hg h
  obtain ⟨h1, h2⟩ := bat_words (nx := stepP a b) (a := ((0, 0) : Int × Int)) K i hi
  rw [hw] at h1 h2
  rw [stepP_fold] at h1
  refine ⟨h2, fun e => ?_⟩
  unfold endsF at he
  rw [← h1] at he
  unfold accD den at e
  simp only at he
  rw [e] at he
  simp at he
end Go.Proofs.Ythhbjkgchabfmaa
