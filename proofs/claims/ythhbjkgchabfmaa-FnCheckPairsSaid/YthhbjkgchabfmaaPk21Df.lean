/-
  The walks over impl's firstPair, differ, SameLanguage and MakePairs.
  Conditions: the automata read as such; for the first two they are valid.
-/
import Derived.Test.YthhbjkgchabfmaaPk08Prd
import Derived.Test.YthhbjkgchabfmaaPk20Fw
namespace Go.Proofs.Ythhbjkgchabfmaa
open Go.RowKit Go.Maps
def hitK (K : Nat) (a b : DfaD) : Option (List Nat) := firstHit (endsF (fun x y => x != y) a b) (bat (stepP a b) (0, 0) K)
def mostP : Nat := 1600
def hitP (a b : DfaD) : Option (List Nat) := hitK mostP a b
def sameB (a b : DfaD) : Bool := dfaOk a.next a.ends && dfaOk b.next b.ends && (hitP a b).isNone
def allP (n m : Nat) : List (Int × Int) := (List.range n).flatMap fun (i : Nat) => (List.range m).map fun (j : Nat) => ((i : Int), (j : Int))
theorem sum_const (m : Nat) : ∀ l : List Nat, (l.map fun _ => m).sum = l.length * m
  | [] => by simp
  | _ :: l => by simp only [List.map_cons, List.sum_cons, sum_const m l, List.length_cons, Nat.succ_mul]; omega
theorem allP_len (n m : Nat) : (allP n m).length = n * m := by
  unfold allP
  rw [List.length_flatMap]
  simp only [List.length_map, List.length_range]
  rw [sum_const, List.length_range]
theorem metP_len {a b : DfaD} (hda : dfaOk a.next a.ends = true) (hdb : dfaOk b.next b.ends = true) (k : Nat) : (metP a b k).length ≤ 1600 := by
  have h := nodup_le (m := allP a.next.length b.next.length) (bat_good (nx := stepP a b) (a := (0, 0)) k).1 fun x hx => by
    obtain ⟨i, j, rfl, hi, hj⟩ := inPair_nat (bat_all (Q := fun x => inPair a b x = true) (inPair_zero hda hdb) (fun x c hc hx => inPair_step hda hdb hc hx) k x hx)
    unfold allP
    rw [List.mem_flatMap]
    exact ⟨i, List.mem_range.2 hi, List.mem_map.2 ⟨j, List.mem_range.2 hj, rfl⟩⟩
  rw [allP_len] at h
  have h1 := dfaOk_len hda
  have h2 := dfaOk_len hdb
  have := Nat.mul_le_mul h1.2.1 h2.2.1
  unfold metP
  omega
set_option maxHeartbeats 1600000 in
theorem firstPairK_any (K : Nat) (hK : K = 1600) (a b : DfaD) (v1 v2 : Value) (w : World) (hda : dfaOk a.next a.ends = true) (hdb : dfaOk b.next b.ends = true) (h1 : DfaR 0 w v1 a) (h2 : DfaR 0 w v2 b) :
    Calls Try.prog 128 #[v1, v2, .func (.func 129) #[] #[]] w fun e w' => e = wordRes (hitK K a b) ∧ Below w.heap.size w w' := by
  obtain ⟨u1, u2, rfl, g1, g2⟩ := h1
  obtain ⟨u3, u4, rfl, g3, g4⟩ := h2
  have hb2 : Below w.heap.size w ((w.alloc (.cells #[u1, u2] 26)).alloc (.cells #[u3, u4] 26)) := ((Below.refl _ _).alloc (Nat.le_refl _) _).alloc (by simp) _
  have H1 : Hid (DfaR 0 ((w.alloc (.cells #[u1, u2] 26)).alloc (.cells #[u3, u4] 26)) (.agg #[u1, u2]) a) := Lib.hid ⟨_, _, rfl, g1.below hb2, g2.below hb2⟩
  have H2 : Hid (DfaR 0 ((w.alloc (.cells #[u1, u2] 26)).alloc (.cells #[u3, u4] 26)) (.agg #[u3, u4]) b) := Lib.hid ⟨_, _, rfl, g3.below hb2, g4.below hb2⟩
  have hm := metP_len hda hdb K
  have hpr := fun w' => productD_any a b K (.agg #[u1, u2]) (.agg #[u3, u4]) w' hda hdb (by omega) (by omega)
  rw [show ((K : Nat) : Int) = 1600 by omega] at hpr
  have hm2 : (metP a b K).length ≤ K := by omega
  have hK2 : K ≤ 100000 := by omega
  have Hhpr := Lib.hid hpr; clear hpr
  have HhK := Lib.hid hK; clear hK
  have Hhda := Lib.hid hda; clear hda
  have Hhdb := Lib.hid hdb; clear hdb
  have Hhb2 := Lib.hid hb2; clear hb2
  clear g1 g2 g3 g4
  go_enter Try.func128, Try.ntmps128
  go_wp2_with fail
  refine (Hhpr.out _ H1.out H2.out).mono ?_
  rintro e w2 ⟨hr, hbw⟩
  unfold RExp at hr
  rw [if_pos hm2] at hr
  obtain ⟨an, cn, ae, ce, am, cm, rfl, hd, -⟩ := hr
  obtain ⟨F, hF⟩ : ∃ F, F = (bat (stepP a b) (0, 0) K).met := ⟨_, rfl⟩
  unfold metP at hm hm2
  rw [← hF] at hd hm hm2
  rw [← hF]
  have hR := Lib.hid (hd.r.mono (Nat.zero_le _))
  have hbb := Hhb2.out.trans (hbw.mono (by simp; omega))
  have HhF := Lib.hid hF; clear hF
  have Hhbb := Lib.hid hbb; clear hbb
  have Hhm2 := Lib.hid hm2; clear hm2
  clear hd hbw hm
  go_wp2_with fail
  refine (firstWord_any (numDfa (stepP a b) (endsF (fun x y => x != y) a b) F) _ _ (by rw [HhF.out]; exact fine_num (by rw [← HhF.out]; exact Hhm2.out) hK2) (hR.out.below ((Below.refl _ _).alloc (Nat.le_refl _) _))).mono ?_
  rintro e w3 ⟨he, hb3⟩
  have hw : wordRes (firstHit (den (numDfa (stepP a b) (endsF (fun x y => x != y) a b) F)) (bat (dnx (numDfa (stepP a b) (endsF (fun x y => x != y) a b) F)) 0 (numDfa (stepP a b) (endsF (fun x y => x != y) a b) F).next.length)) = wordRes (hitK K a b) := by
    unfold hitK
    rw [HhF.out, firstHit_num (by rw [← HhF.out]; exact Hhm2.out)]
  rw [hw] at he
  have hbe := (Hhbb.out.alloc Hhbb.out.size _).trans (hb3.mono (by simp; have := Hhbb.out.size; omega))
  have Hhw := Lib.hid hw; clear hw
  have Hhbe := Lib.hid hbe; clear hbe
  clear hb3
  cases hh : hitK K a b with
  | none =>
    rw [hh] at he
    unfold wordRes at he
    simp only at he
    subst he
    have Hhh := Lib.hid hh; clear hh
    go_wp2
    go_ret2
    exact ⟨by rw [Hhh.out]; rfl, Hhbe.out⟩
  | some l =>
    rw [hh] at he
    unfold wordRes at he
    simp only at he
    subst he
    have Hhh := Lib.hid hh; clear hh
    go_wp2
    go_ret2
    exact ⟨by rw [Hhh.out]; rfl, Hhbe.out⟩
theorem firstPairD_any (a b : DfaD) (v1 v2 : Value) (w : World) (hda : dfaOk a.next a.ends = true) (hdb : dfaOk b.next b.ends = true) (h1 : DfaR 0 w v1 a) (h2 : DfaR 0 w v2 b) :
    Calls Try.prog 128 #[v1, v2, .func (.func 129) #[] #[]] w fun e w' => e = wordRes (hitP a b) ∧ Below w.heap.size w w' := firstPairK_any mostP rfl a b v1 v2 w hda hdb h1 h2
theorem wordRes_cases (o : Option (List Nat)) : ∃ s : ByteArray, wordRes o = .returned (.tuple #[.string s, .bool o.isSome]) := by
  cases o with
  | none => exact ⟨_, rfl⟩
  | some l => exact ⟨_, rfl⟩
set_option maxHeartbeats 1600000 in
theorem differ_any (a b : DfaD) (v1 v2 : Value) (w : World) (hda : dfaOk a.next a.ends = true) (hdb : dfaOk b.next b.ends = true) (h1 : DfaR 0 w v1 a) (h2 : DfaR 0 w v2 b) :
    Calls Try.prog 88 #[v1, v2] w fun e w' => e = wordRes (hitP a b) ∧ Below w.heap.size w w' := by
  obtain ⟨u1, u2, rfl, g1, g2⟩ := h1
  obtain ⟨u3, u4, rfl, g3, g4⟩ := h2
  have hb2 : Below w.heap.size w ((w.alloc (.cells #[u1, u2] 26)).alloc (.cells #[u3, u4] 26)) := ((Below.refl _ _).alloc (Nat.le_refl _) _).alloc (by simp) _
  have H1 : Hid (DfaR 0 ((w.alloc (.cells #[u1, u2] 26)).alloc (.cells #[u3, u4] 26)) (.agg #[u1, u2]) a) := Lib.hid ⟨_, _, rfl, g1.below hb2, g2.below hb2⟩
  have H2 : Hid (DfaR 0 ((w.alloc (.cells #[u1, u2] 26)).alloc (.cells #[u3, u4] 26)) (.agg #[u3, u4]) b) := Lib.hid ⟨_, _, rfl, g3.below hb2, g4.below hb2⟩
  obtain ⟨s, hs⟩ := wordRes_cases (hitP a b)
  have Hhda := Lib.hid hda; clear hda
  have Hhdb := Lib.hid hdb; clear hdb
  have Hhb2 := Lib.hid hb2; clear hb2
  have Hhs := Lib.hid hs; clear hs
  clear g1 g2 g3 g4
  go_enter Try.func88, Try.ntmps88
  go_wp2_with fail
  refine (firstPairD_any a b _ _ _ Hhda.out Hhdb.out H1.out H2.out).mono ?_
  rintro e w2 ⟨he, hbw⟩
  rw [Hhs.out] at he
  subst he
  have hbb := Hhb2.out.trans (hbw.mono (by simp; omega))
  have Hhbb := Lib.hid hbb; clear hbb
  clear hbw
  go_wp2
  go_ret2
  exact ⟨by rw [Hhs.out]; rfl, Hhbb.out⟩
set_option maxHeartbeats 1600000 in
theorem implSame_any (a b : DfaD) (v1 v2 : Value) (w : World) (h1 : DfaR 0 w v1 a) (h2 : DfaR 0 w v2 b) (r : Bool) (hr : sameB a b = r) :
    Calls Try.prog 40 #[v1, v2] w fun e w' => e = .returned (.bool r) ∧ Below w.heap.size w w' := by
  obtain ⟨u1, u2, rfl, g1, g2⟩ := h1
  obtain ⟨u3, u4, rfl, g3, g4⟩ := h2
  have hb2 : Below w.heap.size w ((w.alloc (.cells #[u1, u2] 26)).alloc (.cells #[u3, u4] 26)) := ((Below.refl _ _).alloc (Nat.le_refl _) _).alloc (by simp) _
  have H1 : Hid (DfaR 0 ((w.alloc (.cells #[u1, u2] 26)).alloc (.cells #[u3, u4] 26)) (.agg #[u1, u2]) a) := Lib.hid ⟨_, _, rfl, g1.below hb2, g2.below hb2⟩
  have H2 : Hid (DfaR 0 ((w.alloc (.cells #[u1, u2] 26)).alloc (.cells #[u3, u4] 26)) (.agg #[u3, u4]) b) := Lib.hid ⟨_, _, rfl, g3.below hb2, g4.below hb2⟩
  have x0 : Bx ((w.alloc (.cells #[u1, u2] 26)).alloc (.cells #[u3, u4] 26)) w.heap.size #[u1, u2] 26 := (Bx.new w _ _).alloc _
  have x1 : Bx ((w.alloc (.cells #[u1, u2] 26)).alloc (.cells #[u3, u4] 26)) (w.heap.size + 1) #[u3, u4] 26 := by simpa using Bx.new (w.alloc (.cells #[u1, u2] 26)) #[u3, u4] 26
  obtain ⟨s, hs⟩ := wordRes_cases (hitP a b)
  have Hhb2 := Lib.hid hb2; clear hb2
  have Hhs := Lib.hid hs; clear hs
  have Hhr := Lib.hid hr; clear hr
  have Hx0 := Lib.hid x0; clear x0
  have Hx1 := Lib.hid x1; clear x1
  clear g1 g2 g3 g4
  cases hda : dfaOk a.next a.ends
  all_goals
    have Hhda := Lib.hid hda; clear hda
    go_enter Try.func40, Try.ntmps40
    go_wp2_with fail
    refine (implDfaValid_any a _ _ H1.out _ Hhda.out).mono ?_
    rintro e w1 ⟨rfl, hb1⟩
    have y0 := Hx0.out.below hb1 Hx0.out.lt
    have y1 := Hx1.out.below hb1 Hx1.out.lt
    have c0 := y1.cell 0
    have c1 := y1.cell 1
    simp only [List.getElem?_toArray, List.getElem?_cons_zero, List.getElem?_cons_succ] at c0 c1
    have hbw := Hhb2.out.trans (hb1.mono Hhb2.out.size)
    have R1 := Lib.hid (H1.out.below hb1)
    have R2 := Lib.hid (H2.out.below hb1)
    have Hhb1 := Lib.hid hb1; clear hb1
    have Hhbw := Lib.hid hbw; clear hbw
    have Hy0 := Lib.hid y0; clear y0
    have Hy1 := Lib.hid y1; clear y1
  · go_wp2
    go_ret
    exact ⟨by rw [← Hhr.out, sameB, Hhda.out]; rfl, Hhbw.out⟩
  · cases hdb : dfaOk b.next b.ends
    all_goals
      have Hhdb := Lib.hid hdb; clear hdb
      go_wp2_with fail
      refine (implDfaValid_any b _ _ R2.out _ Hhdb.out).mono ?_
      rintro e w2 ⟨rfl, hb2⟩
      have z0 := Hy0.out.below hb2 Hy0.out.lt
      have z1 := Hy1.out.below hb2 Hy1.out.lt
      have hbv := Hhbw.out.trans (hb2.mono Hhbw.out.size)
      have Q1 := Lib.hid (R1.out.below hb2)
      have Q2 := Lib.hid (R2.out.below hb2)
      have e0 := z0.cell 0
      have e1 := z0.cell 1
      have e2 := z1.cell 0
      have e3 := z1.cell 1
      simp only [List.getElem?_toArray, List.getElem?_cons_zero, List.getElem?_cons_succ] at e0 e1 e2 e3
      have Hhb2 := Lib.hid hb2; clear hb2
      have Hhbv := Lib.hid hbv; clear hbv
      have Hz0 := Lib.hid z0; clear z0
      have Hz1 := Lib.hid z1; clear z1
      clear c0 c1
    · go_wp2
      go_ret
      exact ⟨by rw [← Hhr.out, sameB, Hhda.out, Hhdb.out]; rfl, Hhbv.out⟩
    · go_wp2_with fail
      refine (differ_any a b _ _ _ Hhda.out Hhdb.out Q1.out Q2.out).mono ?_
      rintro e w3 ⟨he, hb3⟩
      rw [Hhs.out] at he
      subst he
      have hbx := Hhbv.out.trans (hb3.mono Hhbv.out.size)
      have Hhbx := Lib.hid hbx; clear hbx
      clear hb3
      go_wp2
      go_ret
      refine ⟨?_, Hhbx.out⟩
      rw [← Hhr.out, sameB, Hhda.out, Hhdb.out]
      cases hitP a b <;> rfl
def makeP (a b : DfaD) : Option (List (Int × Int)) := if sameB a b = true then some (metP a b mostP) else none
def RMp (tP B : Nat) (F : Option (List (Int × Int))) (e : Ending) (w' : World) : Prop := match F with
  | none => e = .returned (.tuple #[.slice none 0 0, .bool false])
  | some F => ∃ a cap, e = .returned (.tuple #[.slice a F.length cap, .bool true]) ∧ OPairs tP B w'.heap.size w' (.slice a F.length cap) F
theorem sameB_parts {a b : DfaD} (h : sameB a b = true) : dfaOk a.next a.ends = true ∧ dfaOk b.next b.ends = true := by
  simp only [sameB, Bool.and_eq_true] at h
  exact h.1
set_option maxRecDepth 100000 in
set_option maxHeartbeats 4000000 in
theorem implMakeK_any (K : Nat) (hK : K = 1600) (a b : DfaD) (v1 v2 : Value) (w : World) (h1 : DfaR 0 w v1 a) (h2 : DfaR 0 w v2 b) (o : Option (List (Int × Int))) (ho : (if sameB a b = true then some (metP a b K) else none) = o) :
    Calls Try.prog 41 #[v1, v2] w fun e w' => RMp 56 w.heap.size o e w' ∧ Below w.heap.size w w' := by
  obtain ⟨u1, u2, rfl, g1, g2⟩ := h1
  obtain ⟨u3, u4, rfl, g3, g4⟩ := h2
  have hb2 : Below w.heap.size w ((w.alloc (.cells #[u1, u2] 26)).alloc (.cells #[u3, u4] 26)) := ((Below.refl _ _).alloc (Nat.le_refl _) _).alloc (by simp) _
  have H1 : Hid (DfaR 0 ((w.alloc (.cells #[u1, u2] 26)).alloc (.cells #[u3, u4] 26)) (.agg #[u1, u2]) a) := Lib.hid ⟨_, _, rfl, g1.below hb2, g2.below hb2⟩
  have H2 : Hid (DfaR 0 ((w.alloc (.cells #[u1, u2] 26)).alloc (.cells #[u3, u4] 26)) (.agg #[u3, u4]) b) := Lib.hid ⟨_, _, rfl, g3.below hb2, g4.below hb2⟩
  have x0 : Bx ((w.alloc (.cells #[u1, u2] 26)).alloc (.cells #[u3, u4] 26)) w.heap.size #[u1, u2] 26 := (Bx.new w _ _).alloc _
  have x1 : Bx ((w.alloc (.cells #[u1, u2] 26)).alloc (.cells #[u3, u4] 26)) (w.heap.size + 1) #[u3, u4] 26 := by simpa using Bx.new (w.alloc (.cells #[u1, u2] 26)) #[u3, u4] 26
  obtain ⟨i0, hi, hz0, hz1, hz2⟩ := info_parts Try.infoPair
  have Hhb2 := Lib.hid hb2; clear hb2
  have Hx0 := Lib.hid x0; clear x0
  have Hx1 := Lib.hid x1; clear x1
  have HhK := Lib.hid hK; clear hK
  have Hho := Lib.hid ho; clear ho
  have Hhi := Lib.hid hi; clear hi
  have Hhz0 := Lib.hid hz0; clear hz0
  have Hhz1 := Lib.hid hz1; clear hz1
  have Hhz2 := Lib.hid hz2; clear hz2
  clear g1 g2 g3 g4
  cases hs : sameB a b
  all_goals
    have Hhs := Lib.hid hs; clear hs
    go_enter Try.func41, Try.ntmps41
    go_wp2_with fail
    refine (implSame_any a b _ _ _ H1.out H2.out _ Hhs.out).mono ?_
    rintro e w1 ⟨rfl, hb1⟩
    have y0 := Hx0.out.below hb1 Hx0.out.lt
    have y1 := Hx1.out.below hb1 Hx1.out.lt
    have c0 := y0.cell 0
    have c1 := y0.cell 1
    have c2 := y1.cell 0
    have c3 := y1.cell 1
    simp only [List.getElem?_toArray, List.getElem?_cons_zero, List.getElem?_cons_succ] at c0 c1 c2 c3
    have hbw := Hhb2.out.trans (hb1.mono Hhb2.out.size)
    have R1 := Lib.hid (H1.out.below hb1)
    have R2 := Lib.hid (H2.out.below hb1)
    have Hhb1 := Lib.hid hb1; clear hb1
    have Hhbw := Lib.hid hbw; clear hbw
    have Hy0 := Lib.hid y0; clear y0
    have Hy1 := Lib.hid y1; clear y1
  · go_wp2
    go_ret2
    refine ⟨?_, Hhbw.out⟩
    rw [← Hho.out, Hhs.out]
    exact rfl
  · obtain ⟨hda, hdb⟩ := sameB_parts Hhs.out
    have hm := metP_len hda hdb K
    have hpr := fun w' => productM_any a b K (.agg #[u1, u2]) (.agg #[u3, u4]) w' hda hdb (by rw [HhK.out]; omega) (by rw [HhK.out]; omega)
    rw [show ((K : Nat) : Int) = 1600 by rw [HhK.out]; rfl] at hpr
    have hm2 : (metP a b K).length ≤ K := by rw [HhK.out] at hm ⊢; exact hm
    have Hhpr := Lib.hid hpr; clear hpr
    have Hhda := Lib.hid hda; clear hda
    have Hhdb := Lib.hid hdb; clear hdb
    go_wp2_with fail
    refine (Hhpr.out _ R1.out R2.out).mono ?_
    rintro e w2 ⟨hr, hb2⟩
    unfold RExp at hr
    rw [if_pos hm2] at hr
    obtain ⟨an, cn, ae, ce, am, cm, rfl, -, hp⟩ := hr
    obtain ⟨F, hF⟩ : ∃ F, F = metP a b K := ⟨_, rfl⟩
    unfold metP at hF hm
    rw [← hF] at hp hm
    rw [← hF]
    obtain ⟨a5, c5, hv5, hc5, hm5, hr5⟩ := (OPairs.pairs hp).form
    simp only [Value.slice.injEq, true_and] at hv5
    obtain ⟨rfl, rfl⟩ := hv5
    have hbv := Hhbw.out.trans (hb2.mono Hhbw.out.size)
    have hbx := hbv.alloc hbv.size (.cells #[.slice an F.length cn, .slice ae F.length ce] 26)
    have HhF := Lib.hid hF; clear hF
    have Hhr5 := Lib.hid hr5; clear hr5
    have Hhbv := Lib.hid hbv; clear hbv
    have Hhbx := Lib.hid hbx; clear hbx
    clear hp hb2 hm2 c0 c1 c2 c3
    go_wp2
    obtain ⟨wo, hwo⟩ : ∃ wo, wo = w2.alloc (.cells #[.slice an F.length cn, .slice ae F.length ce] 26) := ⟨_, rfl⟩
    go_loopw [9, 25] (fun v i wr => ∃ k : Nat, k ≤ F.length ∧ i = .int .i64 k ∧ Below w2.heap.size w2 wr ∧ wr.ownsRow w2.heap.size 56 2 v k ((F.take k).flatMap pairCells)) (fun _ i _ => F.length - (intOf i).toNat)
    case atStart => exact ⟨0, Nat.zero_le _, rfl, (Below.refl _ _).alloc (Nat.le_refl _) _, rfl, .inl ⟨rfl, rfl⟩⟩
    case round =>
      obtain ⟨k, hk, rfl, hb, hown⟩ := hrel
      have hsz := hb.size
      have hsw := Hhbv.out.size
      clear hwo
      by_cases hlt : k < F.length
      · have Hhb := Lib.hid hb; clear hb
        have Hhown := Lib.hid hown; clear hown
        obtain ⟨b1, o1, rfl, -, hbl, hcs⟩ := Hhr5.out (by omega)
        obtain ⟨p1, p2⟩ := hcs k hlt
        replace p1 := (bcell Hhb.out b1 _ hbl).trans p1
        replace p2 := (bcell Hhb.out b1 _ hbl).trans p2
        obtain ⟨x, hxx⟩ : ∃ x, x = F.getD k (0, 0) := ⟨_, rfl⟩
        rw [← hxx] at p1 p2
        obtain ⟨x1, x2⟩ := x
        simp only at p1 p2
        have hown2 : ((wr.alloc (.cells #[.int .i64 x1, .int .i64 x2] 92)).alloc (.cells #[.int .i64 x1, .int .i64 x2] 56)).ownsRow w2.heap.size 56 2 _ k ((F.take k).flatMap pairCells) :=
          (Own.below (own_of_row Hhown.out) (((Below.refl _ _).alloc (Nat.le_refl _) _).alloc (by simp) _)).1
        have hkF : (k : Int) < F.length := by omega
        have hn5 : ((wr.alloc (.cells #[.int .i64 x1, .int .i64 x2] 92)).alloc (.cells #[.int .i64 x1, .int .i64 x2] 56)).heap[wr.heap.size + 1]? = some (.cells #[.int .i64 x1, .int .i64 x2] 56 (0, 0)) := by
          have := heap_alloc_new (wr.alloc (.cells #[.int .i64 x1, .int .i64 x2] 92)) (.cells #[.int .i64 x1, .int .i64 x2] 56)
          simpa using this
        have Hhn5 := Lib.hid hn5; clear hn5
        have Hhxx := Lib.hid hxx; clear hxx
        have Hhown2 := Lib.hid hown2; clear hown2
        clear hcs
        go_wp2_with (at_builtin; refine wpList_append_lies _ rfl _ _ _ rfl w2.heap.size 56 i0 (.agg #[.int .i64 0, .int .i64 0]) 2 16 Try.underlying50 Hhi.out Hhz0.out Hhz1.out Hhz2.out rfl (by omega) _ k _ rfl Hhown2.out ⟨wr.heap.size + 1, 0, none⟩ 1 1 [.int .i64 x1, .int .i64 x2] rfl rfl (World.news_of_block Hhn5.out) (by intro u hu; simp at hu; rcases hu with rfl | rfl <;> rfl) (by omega) (by unfold maxLen; omega) (by omega) (by simp; omega) _ rfl ?_; intro g3 c3 w3 hown3 hgrow3 hat3 hlt3; have Hown3 := Lib.hid hown3; have Hgrow3 := Lib.hid (show ((wr.alloc (.cells #[.int .i64 x1, .int .i64 x2] 92)).alloc (.cells #[.int .i64 x1, .int .i64 x2] 56)).grownBy w3 _ from hgrow3); clear hown3 hgrow3 hat3)
        go_roundw
        case rel =>
          refine ⟨k + 1, by omega, by go_num, ?_, ?_⟩
          · exact ((Hhb.out.alloc (by omega) _).alloc (by simp; omega) _).grown Hgrow3.out (by simp; omega) (fun j hj => (Hhown2.out.lt j hj).1)
          · have hf : (F.take (k + 1)).flatMap pairCells = (F.take k).flatMap pairCells ++ [.int .i64 x1, .int .i64 x2] := by
              rw [List.take_succ_eq_append_getElem hlt, flat_snoc, ← getD_at (d := (0, 0)) hlt, ← Hhxx.out]
              rfl
            rw [hf]
            exact Hown3.out
        case measure => simp [intOf]; omega
      · obtain rfl : k = F.length := by omega
        have hFp : 0 < F.length := by rw [HhF.out]; exact bat_pos K
        rw [List.take_length] at hown
        obtain ⟨g9, c9, rfl, -, -⟩ := hown.form hFp
        have Hhown := Lib.hid hown; clear hown
        have Hhb := Lib.hid hb; clear hb
        go_wp2
        go_ret2
        refine ⟨?_, Hhbv.out.trans (Hhb.out.mono Hhbv.out.size)⟩
        rw [← Hho.out, Hhs.out, if_pos rfl, show metP a b K = F from HhF.out.symm]
        exact ⟨_, _, rfl, (own_of_row Hhown.out).mono Hhbv.out.size (Nat.le_refl _)⟩
theorem implMakePairs_any (a b : DfaD) (v1 v2 : Value) (w : World) (h1 : DfaR 0 w v1 a) (h2 : DfaR 0 w v2 b) :
    Calls Try.prog 41 #[v1, v2] w fun e w' => RMp 56 w.heap.size (makeP a b) e w' ∧ Below w.heap.size w w' := implMakeK_any mostP rfl a b v1 v2 w h1 h2 _ rfl
end Go.Proofs.Ythhbjkgchabfmaa
