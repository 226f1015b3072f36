/-
  Small facts about slices in memory: what a slice value reads as, and that it still reads so in a later world.
  No condition: this text speaks of no program.
  What a call made for itself: slices in blocks of numbers from lo on and below hi, that may be written.
  No condition: this text speaks of no program.
  A map that a call makes, as a list of keys and values in the order in which the keys came: looking a key up, and storing.
  Conditions: the keys are encoded data that can be keys of the map's type; no key stands there twice.
  What a call made for itself, where one of its slices grows or one of its variables is written: blocks of different types are different blocks.
  No condition: this text speaks of no program.
  The walks over the functions that copy an argument of a law into new memory.
  Conditions: the argument reads as a list; its length is at most 1048576.
  What lies in memory while states are explored: the states met, their numbers in a map, the automaton that grows.
  Conditions: the things met lie in blocks of a type of their own.
  The walks over the functions of the laws that write numbers into what a call has handed back, and look for them again.
  Conditions: what is written is the call's own; the numbers stay below ten thousand million.
  The walks over the functions that lead two automata side by side.
  Conditions: the automata lie in two variables, read as such and are valid; the states are states of theirs.
  The walk over the program's exploration of pairs of states.
  Conditions: a bound on the number of pairs; contracts for the two functions that are handed in.
  The walks over impl.product with the functions that are handed to it.
  Conditions: the automata read as such and are valid.
  The walks over impl's firstPair, differ, SameLanguage and MakePairs.
  Conditions: the automata read as such; for the first two they are valid.
  Pairs that prove, plain: two automata have the same language exactly if no pair that they meet differs; proofs prove; the pairs that are met are a proof, and all of them are needed.
  No condition: this text speaks of no program.
  The walk over the law FnPairsSmall.
  Condition: the argument reads as bytes.
-/
import Derived.Test.YthhbjkgchabfmaaPk22Sd
import Derived.Test.YthhbjkgchabfmaaPk28L16
import Derived.Test.YthhbjkgchabfmaaPk30Jv
import Derived.Test.YthhbjkgchabfmaaPk37Pa
import Derived.Test.YthhbjkgchabfmaaPk47Ms
import Derived.Test.YthhbjkgchabfmaaPk48De
namespace Go.Proofs.Ythhbjkgchabfmaa
open Go.RowKit
















/-! Slices of structs of ints -/



/-! Comparing lists place by place -/
end Go.Proofs.Ythhbjkgchabfmaa
namespace Go.Proofs.Ythhbjkgchabfmaa
open Go.RowKit







theorem OPairs.pairs {e lo hi : Nat} {w : World} {v : Value} {xs : List (Int × Int)} (h : OPairs e lo hi w v xs) : Pairs lo w v xs := Own.sl h (by omega)


end Go.Proofs.Ythhbjkgchabfmaa
namespace Go.Proofs.Ythhbjkgchabfmaa
open Go.RowKit Go.Maps

section
variable {α : Type} [DecidableEq α]


variable {P : Program} {kt : TypeId} {enc : α → Value} {w : World} {b : Nat} {L : List (α × Value)}




end
end Go.Proofs.Ythhbjkgchabfmaa
namespace Go.Proofs.Ythhbjkgchabfmaa
open Go.RowKit




end Go.Proofs.Ythhbjkgchabfmaa

namespace Go.Proofs.Ythhbjkgchabfmaa
open Go.RowKit









theorem Try.infoPair : (Try.prog.info? 56).map (fun i => (i.zero, i.size, i.bytes)) = some (some (.agg #[.int .i64 0, .int .i64 0]), 2, 16) := by kernel_rfl
end Go.Proofs.Ythhbjkgchabfmaa
namespace Go.Proofs.Ythhbjkgchabfmaa
open Go.RowKit Go.Maps

section
variable {α : Type}

variable {kt sz B B1 B2 B4 hi : Nat} {enc : α → Value} {cel : α → List Value} {w w' : World} {met : List α} {rows : List (List Int)} {ends : List Bool} {vm vn ve : Value}
end
end Go.Proofs.Ythhbjkgchabfmaa
namespace Go.Proofs.Ythhbjkgchabfmaa
open Go.RowKit








end Go.Proofs.Ythhbjkgchabfmaa

namespace Go.Proofs.Ythhbjkgchabfmaa
open Go.RowKit



theorem makePairs1_any (x y r : Bool) (hr : false = r) (w : World) : Calls Try.prog 90 #[.bool x, .bool y] w fun e w' => e = .returned (.bool r) ∧ w = w' := by
  subst hr
  go_enter Try.func90, Try.ntmps90
  go_wp2
  go_ret
  exact ⟨rfl, rfl⟩

set_option maxRecDepth 100000 in
set_option maxHeartbeats 1600000 in
theorem product2_make (a b : DfaD) (x : Int × Int) (bf ba bb : Nat) (w : World) (hda : dfaOk a.next a.ends = true) (hdb : dfaOk b.next b.ends = true) (hf : Bx w bf #[.func (.func 90) #[] #[]] 90) (h1 : DfaAt w ba a) (h2 : DfaAt w bb b) (hx : inPair a b x = true) :
    Calls Try.prog 132 #[.agg #[.int .i64 x.1, .int .i64 x.2], .pointer (some ⟨bf, 0, none⟩), .pointer (some ⟨ba, 0, none⟩), .pointer (some ⟨bb, 0, none⟩)] w fun e w' => e = .returned (.bool (endsF (fun _ _ => false) a b x)) ∧ Below w.heap.size w w' := by
  obtain ⟨i, j, rfl, hi, hj⟩ := inPair_nat hx
  have hla := dfaOk_len hda
  have hlb := dfaOk_len hdb
  obtain ⟨u1, u2, hB1, -, g1⟩ := h1
  obtain ⟨u3, u4, hB2, -, g2⟩ := h2
  obtain ⟨q1, o1, c1, rfl, hc1, hm1, e1, d1⟩ := bool_cell g1 (i := i) (by omega)
  obtain ⟨q2, o2, c2, rfl, hc2, hm2, e2, d2⟩ := bool_cell g2 (i := j) (by omega)
  obtain ⟨ta, hta⟩ : ∃ ta, ta = a.ends.getD i false := ⟨_, rfl⟩
  obtain ⟨tb, htb⟩ : ∃ tb, tb = b.ends.getD j false := ⟨_, rfl⟩
  rw [← hta] at e1
  rw [← htb] at e2
  obtain ⟨r, hr⟩ : ∃ r, false = r := ⟨_, rfl⟩
  have hres : endsF (fun _ _ => false) a b ((i : Int), (j : Int)) = r := by
    rw [← hr]
    rfl
  rw [hres]
  have ca := hB1.cell 1
  have cb := hB2.cell 1
  have cf := hf.cell 0
  simp only [List.getElem?_toArray, List.getElem?_cons_zero, List.getElem?_cons_succ] at ca cb cf
  have d5 := hB1.lt
  have d6 := hB2.lt
  have d7 := hf.lt
  obtain ⟨l1, l2, l3⟩ := hla
  obtain ⟨l4, l5, l6⟩ := hlb
  have hii : (i : Int) < a.ends.length := by omega
  have hjj : (j : Int) < b.ends.length := by omega
  have Hr := Lib.hid hr
  clear g1 g2 hB1 hB2 hta htb hx hda hdb hf hres hr l3 l6
  go_enter Try.func132, Try.ntmps132
  go_wp2
  go_quiet ((go_at_call 90; with_reducible exact quiet_eq (makePairs1_any _ _ _ Hr.out _)))
  go_wp2
  go_ret
  exact ⟨rfl, below_drewN ((Below.refl _ _).alloc (Nat.le_refl _) _) _⟩
end Go.Proofs.Ythhbjkgchabfmaa

namespace Go.Proofs.Ythhbjkgchabfmaa
open Go.RowKit Go.Maps

theorem flat_snoc {α : Type} (f : α → List Value) (l : List α) (x : α) : (l ++ [x]).flatMap f = l.flatMap f ++ f x := by simp



end Go.Proofs.Ythhbjkgchabfmaa

namespace Go.Proofs.Ythhbjkgchabfmaa
open Go.RowKit Go.Maps


set_option maxHeartbeats 1600000 in
theorem productM_any (a b : DfaD) (most : Nat) (v1 v2 : Value) (w : World) (hda : dfaOk a.next a.ends = true) (hdb : dfaOk b.next b.ends = true) (hm0 : 0 < most) (hm1 : most ≤ 100000) (h1 : DfaR 0 w v1 a) (h2 : DfaR 0 w v2 b) :
    Calls Try.prog 89 #[v1, v2, .int .i64 most, .func (.func 90) #[] #[]] w fun e w' => RExp (stepP a b) (endsF (fun _ _ => false) a b) most w.heap.size e w' ∧ Below w.heap.size w w' := by
  obtain ⟨u1, u2, rfl, g1, g2⟩ := h1
  obtain ⟨u3, u4, rfl, g3, g4⟩ := h2
  go_enter Try.func89, Try.ntmps89
  go_wp2_with fail
  obtain ⟨W, hW⟩ : ∃ W, W = ((((w.alloc (.cells #[u1, u2] 26)).alloc (.cells #[u3, u4] 26)).alloc (.cells #[.func (.func 90) #[] #[]] 90)).alloc (.cells #[.slice none 0 0, .slice none 0 0] 26)) := ⟨_, rfl⟩
  have hbW : Below w.heap.size w W := by rw [hW]; exact ((((Below.refl _ _).alloc (Nat.le_refl _) _).alloc (by simp) _).alloc (by simp; omega) _).alloc (by simp; omega) _
  have xA : Bx W w.heap.size #[u1, u2] 26 := by rw [hW]; exact (((Bx.new w _ _).alloc _).alloc _).alloc _
  have xB : Bx W (w.heap.size + 1) #[u3, u4] 26 := by rw [hW]; simpa using ((Bx.new (w.alloc (.cells #[u1, u2] 26)) #[u3, u4] 26).alloc _).alloc _
  have xF : Bx W (w.heap.size + 1 + 1) #[.func (.func 90) #[] #[]] 90 := by rw [hW]; simpa using (Bx.new ((w.alloc (.cells #[u1, u2] 26)).alloc (.cells #[u3, u4] 26)) #[.func (.func 90) #[] #[]] 90).alloc _
  have xR : Bx W (w.heap.size + 1 + 1 + 1) #[.slice none 0 0, .slice none 0 0] 26 := by rw [hW]; simpa using Bx.new (((w.alloc (.cells #[u1, u2] 26)).alloc (.cells #[u3, u4] 26)).alloc (.cells #[.func (.func 90) #[] #[]] 90)) #[.slice none 0 0, .slice none 0 0] 26
  have hA : DfaAt W w.heap.size a := ⟨u1, u2, xA, g1.below hbW, g2.below hbW⟩
  have hB : DfaAt W (w.heap.size + 1) b := ⟨u3, u4, xB, g3.below hbW, g4.below hbW⟩
  have hz := xR.lt
  rw [← hW]
  refine (exploredPair_any (stepP a b) (endsF (fun _ _ => false) a b) (fun x => inPair a b x = true) most (w.heap.size + 1 + 1) w.heap.size (w.heap.size + 1) W (inPair_zero hda hdb) (fun x c hc hx => inPair_step hda hdb hc hx) (fun x hx => inPair_fit hda hdb hx) hm0 hm1
    (fun x c w' hx hc hb => product1_any a b x c _ _ w' hda hdb (hA.below hb) (hB.below hb) hx hc)
    (fun x w' hx hb => product2_make a b x _ _ _ w' hda hdb (xF.below hb xF.lt) (hA.below hb) (hB.below hb) hx)).mono ?_
  rintro e w2 ⟨hr, hb2⟩
  have yR := xR.below hb2 hz
  have r0 := yR.cell 0
  have r1 := yR.cell 1
  have f0 := yR.fr 0
  have f1 := yR.fr 1
  simp only [List.getElem?_toArray, List.getElem?_cons_zero, List.getElem?_cons_succ] at r0 r1
  unfold RExp at hr
  have hbw2 := hbW.trans (hb2.mono hbW.size)
  have hz0 : w.heap.size ≤ W.heap.size := hbW.size
  have Hhbw2 := Lib.hid hbw2; clear hbw2
  have HyR := Lib.hid yR; clear yR
  clear hA hB xA xB xF xR g1 g2 g3 g4 hda hdb hW hbW hb2
  by_cases hle : (bat (stepP a b) (0, 0) most).met.length ≤ most
  · rw [if_pos hle] at hr
    obtain ⟨an, cn, ae, ce, am, cm, rfl, ⟨q1, q2, hq, hd1, hd2⟩, hp⟩ := hr
    simp only [Value.agg.injEq] at hq
    have e1 := congrArg (fun (l : Array Value) => l[0]?) hq
    have e2 := congrArg (fun (l : Array Value) => l[1]?) hq
    simp at e1 e2
    subst e1
    subst e2
    clear hq
    obtain ⟨F, hF⟩ : ∃ F, F = (bat (stepP a b) (0, 0) most).met := ⟨_, rfl⟩
    rw [← hF] at hd1 hd2 hp hle
    rw [← hF]
    have Hhd1 := Lib.hid hd1; clear hd1
    have Hhd2 := Lib.hid hd2; clear hd2
    have Hhp := Lib.hid hp; clear hp
    have HhF := Lib.hid hF; clear hF
    go_wp2
    have b1 := HyR.out.set 0 (.slice an F.length cn)
    have b2 := b1.set 1 (.slice ae F.length ce)
    have z0 := b2.cell 0
    have z1 := b2.cell 1
    simp only [List.getElem?_toArray, List.getElem?_cons_zero, List.getElem?_cons_succ, List.setIfInBounds_toArray, List.set_cons_zero, List.set_cons_succ] at z0 z1
    have g1 := grown_set w2 (w.heap.size + 1 + 1 + 1) 0 (.slice an F.length cn)
    have g2 := grown_set (w2.setCell ⟨w.heap.size + 1 + 1 + 1, 0, none⟩ (.slice an F.length cn)) (w.heap.size + 1 + 1 + 1) 1 (.slice ae F.length ce)
    refine bodyPost_ret (v := .tuple #[.agg #[.slice an F.length cn, .slice ae F.length ce], .slice am F.length cm, .bool true]) (by simp [results, Try.results89, go_sem, z0, z1]) rfl ⟨?_, ?_⟩
    · unfold RExp
      rw [← HhF.out, if_pos hle]
      have ha : ∀ e, 26 ≠ e → Apart w2 (some (w.heap.size + 1 + 1 + 1)) e := fun e he => HyR.out.apart he
      have ha2 : ∀ e, 26 ≠ e → Apart (w2.setCell ⟨w.heap.size + 1 + 1 + 1, 0, none⟩ (.slice an F.length cn)) (some (w.heap.size + 1 + 1 + 1)) e := fun e he => b1.apart he
      refine ⟨_, _, _, _, _, _, rfl, ⟨_, _, rfl, ?_, ?_⟩, ?_⟩
      · exact ((Hhd1.out.grown g1 (ha _ (by decide)) (ha _ (by decide))).grown g2 (ha2 _ (by decide)) (ha2 _ (by decide))).mono hz0 (by simp)
      · exact Own.mono (Own.grown (Own.grown Hhd2.out g1 (ha _ (by decide))) g2 (ha2 _ (by decide))) hz0 (by simp)
      · exact Own.mono (Own.grown (Own.grown Hhp.out g1 (ha _ (by decide))) g2 (ha2 _ (by decide))) hz0 (by simp)
    · exact (Hhbw2.out.setCell (by simp; omega) _).setCell (by simp; omega) _
  · rw [if_neg hle] at hr
    subst hr
    go_wp2
    have b1 := HyR.out.set 0 (.slice none 0 0)
    have b2 := b1.set 1 (.slice none 0 0)
    have z0 := b2.cell 0
    have z1 := b2.cell 1
    simp only [List.getElem?_toArray, List.getElem?_cons_zero, List.getElem?_cons_succ, List.setIfInBounds_toArray, List.set_cons_zero, List.set_cons_succ] at z0 z1
    refine bodyPost_ret (v := .tuple #[.agg #[.slice none 0 0, .slice none 0 0], .slice none 0 0, .bool false]) (by simp [results, Try.results89, go_sem, z0, z1]) rfl ⟨?_, ?_⟩
    · unfold RExp
      rw [if_neg hle]
    · exact (Hhbw2.out.setCell (by simp; omega) _).setCell (by simp; omega) _
end Go.Proofs.Ythhbjkgchabfmaa

namespace Go.Proofs.Ythhbjkgchabfmaa
open Go.RowKit Go.Maps




def makeP (a b : DfaD) : Option (List (Int × Int)) := if sameB a b = true then some (metP a b mostP) else none
def RMp (tP B : Nat) (F : Option (List (Int × Int))) (e : Ending) (w' : World) : Prop := match F with
  | none => e = .returned (.tuple #[.slice none 0 0, .bool false])
  | some F => ∃ a cap, e = .returned (.tuple #[.slice a F.length cap, .bool true]) ∧ OPairs tP B w'.heap.size w' (.slice a F.length cap) F
theorem sameB_parts {a b : DfaD} (h : sameB a b = true) : dfaOk a.next a.ends = true ∧ dfaOk b.next b.ends = true := by
  simp only [sameB, Bool.and_eq_true] at h
  exact h.1
set_option maxRecDepth 100000 in
set_option maxHeartbeats 4000000 in
theorem implMakeK_any (K : Nat) (hK : K = 1600) (a b : DfaD) (v1 v2 : Value) (w : World) (h1 : DfaR 0 w v1 a) (h2 : DfaR 0 w v2 b) (o : Option (List (Int × Int))) (ho : (if sameB a b = true then some (metP a b K) else none) = o) :
    Calls Try.prog 41 #[v1, v2] w fun e w' => RMp 56 w.heap.size o e w' ∧ Below w.heap.size w w' := by
  obtain ⟨u1, u2, rfl, g1, g2⟩ := h1
  obtain ⟨u3, u4, rfl, g3, g4⟩ := h2
  have hb2 : Below w.heap.size w ((w.alloc (.cells #[u1, u2] 26)).alloc (.cells #[u3, u4] 26)) := ((Below.refl _ _).alloc (Nat.le_refl _) _).alloc (by simp) _
  have H1 : Hid (DfaR 0 ((w.alloc (.cells #[u1, u2] 26)).alloc (.cells #[u3, u4] 26)) (.agg #[u1, u2]) a) := Lib.hid ⟨_, _, rfl, g1.below hb2, g2.below hb2⟩
  have H2 : Hid (DfaR 0 ((w.alloc (.cells #[u1, u2] 26)).alloc (.cells #[u3, u4] 26)) (.agg #[u3, u4]) b) := Lib.hid ⟨_, _, rfl, g3.below hb2, g4.below hb2⟩
  have x0 : Bx ((w.alloc (.cells #[u1, u2] 26)).alloc (.cells #[u3, u4] 26)) w.heap.size #[u1, u2] 26 := (Bx.new w _ _).alloc _
  have x1 : Bx ((w.alloc (.cells #[u1, u2] 26)).alloc (.cells #[u3, u4] 26)) (w.heap.size + 1) #[u3, u4] 26 := by simpa using Bx.new (w.alloc (.cells #[u1, u2] 26)) #[u3, u4] 26
  obtain ⟨i0, hi, hz0, hz1, hz2⟩ := info_parts Try.infoPair
  have Hhb2 := Lib.hid hb2; clear hb2
  have Hx0 := Lib.hid x0; clear x0
  have Hx1 := Lib.hid x1; clear x1
  have HhK := Lib.hid hK; clear hK
  have Hho := Lib.hid ho; clear ho
  have Hhi := Lib.hid hi; clear hi
  have Hhz0 := Lib.hid hz0; clear hz0
  have Hhz1 := Lib.hid hz1; clear hz1
  have Hhz2 := Lib.hid hz2; clear hz2
  clear g1 g2 g3 g4
  cases hs : sameB a b
  all_goals
    have Hhs := Lib.hid hs; clear hs
    go_enter Try.func41, Try.ntmps41
    go_wp2_with fail
    refine (implSame_any a b _ _ _ H1.out H2.out _ Hhs.out).mono ?_
    rintro e w1 ⟨rfl, hb1⟩
    have y0 := Hx0.out.below hb1 Hx0.out.lt
    have y1 := Hx1.out.below hb1 Hx1.out.lt
    have c0 := y0.cell 0
    have c1 := y0.cell 1
    have c2 := y1.cell 0
    have c3 := y1.cell 1
    simp only [List.getElem?_toArray, List.getElem?_cons_zero, List.getElem?_cons_succ] at c0 c1 c2 c3
    have hbw := Hhb2.out.trans (hb1.mono Hhb2.out.size)
    have R1 := Lib.hid (H1.out.below hb1)
    have R2 := Lib.hid (H2.out.below hb1)
    have Hhb1 := Lib.hid hb1; clear hb1
    have Hhbw := Lib.hid hbw; clear hbw
    have Hy0 := Lib.hid y0; clear y0
    have Hy1 := Lib.hid y1; clear y1
  · go_wp2
    go_ret2
    refine ⟨?_, Hhbw.out⟩
    rw [← Hho.out, Hhs.out]
    exact rfl
  · obtain ⟨hda, hdb⟩ := sameB_parts Hhs.out
    have hm := metP_len hda hdb K
    have hpr := fun w' => productM_any a b K (.agg #[u1, u2]) (.agg #[u3, u4]) w' hda hdb (by rw [HhK.out]; omega) (by rw [HhK.out]; omega)
    rw [show ((K : Nat) : Int) = 1600 by rw [HhK.out]; rfl] at hpr
    have hm2 : (metP a b K).length ≤ K := by rw [HhK.out] at hm ⊢; exact hm
    have Hhpr := Lib.hid hpr; clear hpr
    have Hhda := Lib.hid hda; clear hda
    have Hhdb := Lib.hid hdb; clear hdb
    go_wp2_with fail
    refine (Hhpr.out _ R1.out R2.out).mono ?_
    rintro e w2 ⟨hr, hb2⟩
    unfold RExp at hr
    rw [if_pos hm2] at hr
    obtain ⟨an, cn, ae, ce, am, cm, rfl, -, hp⟩ := hr
    obtain ⟨F, hF⟩ : ∃ F, F = metP a b K := ⟨_, rfl⟩
    unfold metP at hF hm
    rw [← hF] at hp hm
    rw [← hF]
    obtain ⟨a5, c5, hv5, hc5, hm5, hr5⟩ := (OPairs.pairs hp).form
    simp only [Value.slice.injEq, true_and] at hv5
    obtain ⟨rfl, rfl⟩ := hv5
    have hbv := Hhbw.out.trans (hb2.mono Hhbw.out.size)
    have hbx := hbv.alloc hbv.size (.cells #[.slice an F.length cn, .slice ae F.length ce] 26)
    have HhF := Lib.hid hF; clear hF
    have Hhr5 := Lib.hid hr5; clear hr5
    have Hhbv := Lib.hid hbv; clear hbv
    have Hhbx := Lib.hid hbx; clear hbx
    clear hp hb2 hm2 c0 c1 c2 c3
    go_wp2
    obtain ⟨wo, hwo⟩ : ∃ wo, wo = w2.alloc (.cells #[.slice an F.length cn, .slice ae F.length ce] 26) := ⟨_, rfl⟩
    go_loopw [9, 25] (fun v i wr => ∃ k : Nat, k ≤ F.length ∧ i = .int .i64 k ∧ Below w2.heap.size w2 wr ∧ wr.ownsRow w2.heap.size 56 2 v k ((F.take k).flatMap pairCells)) (fun _ i _ => F.length - (intOf i).toNat)
    case atStart => exact ⟨0, Nat.zero_le _, rfl, (Below.refl _ _).alloc (Nat.le_refl _) _, rfl, .inl ⟨rfl, rfl⟩⟩
    case round =>
      obtain ⟨k, hk, rfl, hb, hown⟩ := hrel
      have hsz := hb.size
      have hsw := Hhbv.out.size
      clear hwo
      by_cases hlt : k < F.length
      · have Hhb := Lib.hid hb; clear hb
        have Hhown := Lib.hid hown; clear hown
        obtain ⟨b1, o1, rfl, -, hbl, hcs⟩ := Hhr5.out (by omega)
        obtain ⟨p1, p2⟩ := hcs k hlt
        replace p1 := (bcell Hhb.out b1 _ hbl).trans p1
        replace p2 := (bcell Hhb.out b1 _ hbl).trans p2
        obtain ⟨x, hxx⟩ : ∃ x, x = F.getD k (0, 0) := ⟨_, rfl⟩
        rw [← hxx] at p1 p2
        obtain ⟨x1, x2⟩ := x
        simp only at p1 p2
        have hown2 : ((wr.alloc (.cells #[.int .i64 x1, .int .i64 x2] 92)).alloc (.cells #[.int .i64 x1, .int .i64 x2] 56)).ownsRow w2.heap.size 56 2 _ k ((F.take k).flatMap pairCells) :=
          (Own.below (own_of_row Hhown.out) (((Below.refl _ _).alloc (Nat.le_refl _) _).alloc (by simp) _)).1
        have hkF : (k : Int) < F.length := by omega
        have hn5 : ((wr.alloc (.cells #[.int .i64 x1, .int .i64 x2] 92)).alloc (.cells #[.int .i64 x1, .int .i64 x2] 56)).heap[wr.heap.size + 1]? = some (.cells #[.int .i64 x1, .int .i64 x2] 56 (0, 0)) := by
          have := heap_alloc_new (wr.alloc (.cells #[.int .i64 x1, .int .i64 x2] 92)) (.cells #[.int .i64 x1, .int .i64 x2] 56)
          simpa using this
        have Hhn5 := Lib.hid hn5; clear hn5
        have Hhxx := Lib.hid hxx; clear hxx
        have Hhown2 := Lib.hid hown2; clear hown2
        clear hcs
        go_wp2_with (at_builtin; refine wpList_append_lies _ rfl _ _ _ rfl w2.heap.size 56 i0 (.agg #[.int .i64 0, .int .i64 0]) 2 16 Try.underlying50 Hhi.out Hhz0.out Hhz1.out Hhz2.out rfl (by omega) _ k _ rfl Hhown2.out ⟨wr.heap.size + 1, 0, none⟩ 1 1 [.int .i64 x1, .int .i64 x2] rfl rfl (World.news_of_block Hhn5.out) (by intro u hu; simp at hu; rcases hu with rfl | rfl <;> rfl) (by omega) (by unfold maxLen; omega) (by omega) (by simp; omega) _ rfl ?_; intro g3 c3 w3 hown3 hgrow3 hat3 hlt3; have Hown3 := Lib.hid hown3; have Hgrow3 := Lib.hid (show ((wr.alloc (.cells #[.int .i64 x1, .int .i64 x2] 92)).alloc (.cells #[.int .i64 x1, .int .i64 x2] 56)).grownBy w3 _ from hgrow3); clear hown3 hgrow3 hat3)
        go_roundw
        case rel =>
          refine ⟨k + 1, by omega, by go_num, ?_, ?_⟩
          · exact ((Hhb.out.alloc (by omega) _).alloc (by simp; omega) _).grown Hgrow3.out (by simp; omega) (fun j hj => (Hhown2.out.lt j hj).1)
          · have hf : (F.take (k + 1)).flatMap pairCells = (F.take k).flatMap pairCells ++ [.int .i64 x1, .int .i64 x2] := by
              rw [List.take_succ_eq_append_getElem hlt, flat_snoc, ← getD_at (d := (0, 0)) hlt, ← Hhxx.out]
              rfl
            rw [hf]
            exact Hown3.out
        case measure => simp [intOf]; omega
      · obtain rfl : k = F.length := by omega
        have hFp : 0 < F.length := by rw [HhF.out]; exact bat_pos K
        rw [List.take_length] at hown
        obtain ⟨g9, c9, rfl, -, -⟩ := hown.form hFp
        have Hhown := Lib.hid hown; clear hown
        have Hhb := Lib.hid hb; clear hb
        go_wp2
        go_ret2
        refine ⟨?_, Hhbv.out.trans (Hhb.out.mono Hhbv.out.size)⟩
        rw [← Hho.out, Hhs.out, if_pos rfl, show metP a b K = F from HhF.out.symm]
        exact ⟨_, _, rfl, (own_of_row Hhown.out).mono Hhbv.out.size (Nat.le_refl _)⟩
theorem implMakePairs_any (a b : DfaD) (v1 v2 : Value) (w : World) (h1 : DfaR 0 w v1 a) (h2 : DfaR 0 w v2 b) :
    Calls Try.prog 41 #[v1, v2] w fun e w' => RMp 56 w.heap.size (makeP a b) e w' ∧ Below w.heap.size w w' := implMakeK_any mostP rfl a b v1 v2 w h1 h2 _ rfl
end Go.Proofs.Ythhbjkgchabfmaa

namespace Go.Proofs.Ythhbjkgchabfmaa
open Go.RowKit

/-- Every state that is reached has one equal state in the smallest automaton. -/
theorem met_small {d : DfaD} (hd : dfaOk d.next d.ends = true) {K : Nat} (hK : d.next.length ≤ K) : (metP d (minD d) K).length = (trimD d).next.length := by
  have hf := fine_of hd
  have hM := metM_facts hf d.next.length
  obtain ⟨M, hMd⟩ : ∃ M, M = (bat (nxM d) ((clD d 0 : Nat) : Int) d.next.length).met := ⟨_, rfl⟩
  have hmin : minD d = numDfa (nxM d) (den d) M := by rw [hMd]; rfl
  have h0 : 0 < d.next.length := hf.1
  let Q : Int × Int → Prop := fun p => ∃ s : Nat, p = ((s : Int), ((placeOf M ((clD d s : Nat) : Int) : Nat) : Int)) ∧ s < d.next.length ∧ ((clD d s : Nat) : Int) ∈ M
  have hq0 : Q (0, 0) := by
    refine ⟨0, ?_, h0, by rw [hMd]; exact bat_mem_first _⟩
    have e := idx_getD (bat_pos (nx := nxM d) (a := ((clD d 0 : Nat) : Int)) d.next.length) (bat_good (nx := nxM d) (a := ((clD d 0 : Nat) : Int)) d.next.length).1 ((clD d 0 : Nat) : Int)
    rw [bat_first, ← hMd] at e
    rw [e]
    rfl
  have hv : ∀ p c, c < 3 → Q p → Q (stepP d (minD d) p c) := by
    rintro p c hc ⟨s, rfl, hs, hm⟩
    obtain ⟨h3, h4⟩ := fine_nx hf hs hc
    have e3 : nxM d ((clD d s : Nat) : Int) c = ((clD d (nxD d s c) : Nat) : Int) := by
      unfold nxM
      rw [Int.toNat_natCast]
      congr 1
      exact clEnd_eq (fun s c hs hc => (fine_nx hf hs hc).1) (clD_lt hs) hs (clD_le s hs).2 c hc
    have hm2 : ((clD d (nxD d s c) : Nat) : Int) ∈ M := by
      rw [← e3, hMd]
      exact bat_closed hM.2 (by rw [← hMd]; exact hm) hc
    refine ⟨nxD d s c, ?_, h3, hm2⟩
    have e1 : stepP d (minD d) ((s : Int), ((placeOf M ((clD d s : Nat) : Int) : Nat) : Int)) c = (dnx d (s : Int) c, dnx (minD d) ((placeOf M ((clD d s : Nat) : Int) : Nat) : Int) c) := rfl
    have hp := placeOf_lt hm
    rw [e1, h4, hmin, dnx_num (a := ((clD d 0 : Nat) : Int)) (by omega) (by omega) hc]
    unfold numNext
    rw [Int.toNat_natCast, placeOf_at hm, e3]
  have hb := bat_mapQ (nx := stepP d (minD d)) (nx' := dnx d) (a := ((0, 0) : Int × Int)) (f := Prod.fst) (Q := Q) hq0 hv (by
    rintro x y ⟨s, rfl, -⟩ ⟨t, rfl, -⟩ h
    have h2 : (s : Int) = (t : Int) := by simpa using h
    have : s = t := by omega
    rw [this]) (fun _ _ _ _ => rfl) K
  have hl := congrArg (fun b => b.met.length) hb
  simp only [List.length_map] at hl
  refine Eq.trans hl.symm ?_
  unfold trimD
  rw [numDfa_len, bat_done (met_facts hf _).2 hK]
end Go.Proofs.Ythhbjkgchabfmaa

namespace Go.Proofs.Ythhbjkgchabfmaa
open Go.RowKit

set_option maxRecDepth 100000 in
theorem run_field0 (x y : Value) (w : World) : Sem.run Try.prog (Instr.field 26 (.agg #[x, y]) 0) w = Result.ok x w := by rfl
theorem min_dfaOk' {d : DfaD} (hd : dfaOk d.next d.ends = true) : dfaOk (minD d).next (minD d).ends = true := by
  rw [← small_min (fine_of hd)]
  exact (trim_ok (fold_ok (trim_ok hd).1)).1
set_option maxRecDepth 100000 in
set_option maxHeartbeats 16000000 in
theorem pairsSmall_walk (bs : List Nat) (v : Value) (w : World) (hb : Bytes 0 w v bs) :
    Calls Try.prog 7 #[v] w fun e w' => e = .returned (.bool true) ∧ Below w.heap.size w w' := by
  have HB := Lib.hid hb
  obtain ⟨av, cv, rfl, hcv1, hcv2, -⟩ := hb.form
  clear hb
  by_cases hlen : 1048576 < bs.length
  · have hl2 : (1048576 : Int) < bs.length := by omega
    go_enter Try.func7, Try.ntmps7
    go_wp2
    go_ret
    exact ⟨rfl, Below.refl _ _⟩
  have hl2 : ¬ (1048576 : Int) < bs.length := by omega
  go_enter Try.func7, Try.ntmps7
  go_wp2_with fail
  refine (drawMinimizeD_any bs _ _ HB.out (by omega)).mono ?_
  rintro e w1 ⟨d, a1, a2, c1, c2, hsm, rfl, hd, hb1⟩
  have HS1 := Lib.hid (((St.start w).call hb1).alloc _ rfl #[.slice a1 d.next.length c1, .slice a2 d.ends.length c2] 26)
  have HR := Lib.hid (hd.below ((Below.refl w1.heap.size w1).alloc (Nat.le_refl _) (.cells #[.slice a1 d.next.length c1, .slice a2 d.ends.length c2] 26)))
  clear hb1 hd
  obtain ⟨M, hM⟩ : ∃ M, minQ d = M := ⟨_, rfl⟩
  cases hok : dfaOk d.next d.ends
  · have hmp : makeP d M = none := by
      unfold makeP
      rw [if_neg (fun h => by have := (sameB_parts h).1; rw [hok] at this; cases this)]
    have Hhmp := Lib.hid hmp; clear hmp
    have HhM := Lib.hid hM; clear hM
    have Hhok := Lib.hid hok; clear hok
    have e0 := HS1.out.cell (v := .slice a1 d.next.length c1) 0 0 rfl rfl
    have e1 := HS1.out.cell (v := .slice a2 d.ends.length c2) 0 1 rfl rfl
    go_wp2_with fail
    refine (implMinimize_any d M HhM.out _ _ HR.out).mono ?_
    rintro e w2 ⟨x1, y1, x2, y2, rfl, hx, hb⟩
    have HS2 := Lib.hid ((HS1.out.call hb).alloc _ rfl #[.slice x1 M.next.length y1, .slice x2 M.ends.length y2] 26)
    have HM := Lib.hid ((hx.mono (Nat.zero_le _)).below ((Below.refl w2.heap.size w2).alloc (Nat.le_refl _) (.cells #[.slice x1 M.next.length y1, .slice x2 M.ends.length y2] 26)))
    have HR2 := Lib.hid ((HR.out.below hb).below ((Below.refl w2.heap.size w2).alloc (Nat.le_refl _) (.cells #[.slice x1 M.next.length y1, .slice x2 M.ends.length y2] 26)))
    clear HR hb hx e0 e1
    have D0 := Lib.hid (HS2.out.cell (v := .slice a1 d.next.length c1) 0 0 rfl rfl)
    have D1 := Lib.hid (HS2.out.cell (v := .slice a2 d.ends.length c2) 0 1 rfl rfl)
    have HltD := Lib.hid (HS2.out.boxlt 0 rfl).2
    have C0 := Lib.hid (HS2.out.cell (v := .slice x1 M.next.length y1) 1 0 rfl rfl)
    have C1 := Lib.hid (HS2.out.cell (v := .slice x2 M.ends.length y2) 1 1 rfl rfl)
    have HltC := Lib.hid (HS2.out.boxlt 1 rfl).2
    go_wp2
    refine wp_region_any (by kernel_rfl) ?_
    refine wpAny_invA (fun A listed a w' => ∃ (l0 l1 l2 l3 l4 : Bool) (ax1 : Option Addr) (cx1 : Nat) (ax2 : Option Addr) (cx2 : Nat) (vb : Nat) (vh : Nat), listed = #[l0, l1, l2, l3, l4] ∧
        a = ⟨(((((A.tmps.setIfInBounds 14 (if l0 = true then .agg #[.slice x1 M.next.length y1, .slice x2 M.ends.length y2] else A.tmps.getD 14 undef)).setIfInBounds 15 (if l1 = true then .agg #[.slice a1 d.next.length c1, .slice a2 d.ends.length c2] else A.tmps.getD 15 undef)).setIfInBounds 16 (if l2 = true then .agg #[.slice ax1 M.next.length cx1, .slice ax2 M.ends.length cx2] else A.tmps.getD 16 undef)).setIfInBounds 17 (if l3 = true then .bool true else A.tmps.getD 17 undef)).setIfInBounds 18 (if l4 = true then .bool false else A.tmps.getD 18 undef)), A.defers⟩ ∧
        St (w2.alloc (.cells #[.slice x1 M.next.length y1, .slice x2 M.ends.length y2] 26)) w' [(if l2 = true then DfaV vb vh (.slice ax1 M.next.length cx1) (.slice ax2 M.ends.length cx2) M else Ent.nil)]) ?_ ?_ ?_
    · rintro listed a w' ⟨l0, l1, l2, l3, l4, ax1, cx1, ax2, cx2, vb, vh, rfl, rfl, hS⟩ i hi
      obtain ⟨hun, o, ho, hall⟩ := mem_ready.1 hi
      have hlt := (Array.getElem?_eq_some_iff.1 ho).1
      refine wpOp_step ho (fun K hK => ?_)
      clear hi
      have HS := Lib.hid hS
      clear hS
      simp only [List.setIfInBounds_toArray, List.set_cons_zero, List.set_cons_succ, Array.getD_eq_getD_getElem?, List.getElem?_toArray, List.getElem?_cons_zero, List.getElem?_cons_succ, Option.getD_some]
      obtain h | h | h | h | h : i = 0 ∨ i = 1 ∨ i = 2 ∨ i = 3 ∨ i = 4 := by simp at hlt; omega
      all_goals subst h
      all_goals simp only [List.getElem?_toArray, List.getElem?_cons_zero, List.getElem?_cons_succ, Option.some.injEq] at ho
      all_goals subst ho
      all_goals simp [Region.binds] at hun hall
      · subst hun
        have e0 := (bcell HS.out.bel (w2.heap.size) 0 HltC.out).trans C0.out
        have e1 := (bcell HS.out.bel (w2.heap.size) 1 HltC.out).trans C1.out
        go_simp
        exact hK _ _ ⟨true, l1, l2, l3, l4, ax1, cx1, ax2, cx2, vb, vh, rfl, (by simp only [↓reduceIte, List.setIfInBounds_toArray, List.set_cons_zero, List.set_cons_succ, Array.getD_eq_getD_getElem?, List.getElem?_toArray, List.getElem?_cons_zero, List.getElem?_cons_succ, Option.getD_some]), HS.out⟩
      · subst hun
        have e0 := (bcell HS.out.bel (w1.heap.size) 0 HltD.out).trans D0.out
        have e1 := (bcell HS.out.bel (w1.heap.size) 1 HltD.out).trans D1.out
        go_simp
        exact hK _ _ ⟨l0, true, l2, l3, l4, ax1, cx1, ax2, cx2, vb, vh, rfl, (by simp only [↓reduceIte, List.setIfInBounds_toArray, List.set_cons_zero, List.set_cons_succ, Array.getD_eq_getD_getElem?, List.getElem?_toArray, List.getElem?_cons_zero, List.getElem?_cons_succ, Option.getD_some]), HS.out⟩
      · obtain rfl := hall
        subst hun
        go_simp
        go_at_call 37
        refine (specMinimize_any d M HhM.out _ _ (HR2.out.below HS.out.bel)).mono ?_
        rintro e u1 ⟨z1, z2, z3, z4, rfl, hr, hb⟩
        have hS2 := (HS.out.dfaV hb hr).pick [1] (by decide)
        have HhS2 := Lib.hid hS2; clear hS2
        go_simp
        exact hK _ _ ⟨l0, true, true, l3, l4, z1, z2, z3, z4, w'.heap.size, u1.heap.size, rfl, (by simp only [↓reduceIte, List.setIfInBounds_toArray, List.set_cons_zero, List.set_cons_succ, Array.getD_eq_getD_getElem?, List.getElem?_toArray, List.getElem?_cons_zero, List.getElem?_cons_succ, Option.getD_some]), HhS2.out⟩
      · obtain ⟨rfl, rfl⟩ := hall
        subst hun
        go_simp
        go_at_call 23
        refine (sameDfa_any M _ _ _ (HM.out.below HS.out.bel) (HS.out.dfaVr 0 rfl)).mono ?_
        rintro e u1 ⟨rfl, hb⟩
        have hS2 := HS.out.call hb
        have HhS2 := Lib.hid hS2; clear hS2
        go_simp
        exact hK _ _ ⟨true, l1, true, true, l4, ax1, cx1, ax2, cx2, vb, vh, rfl, (by simp only [↓reduceIte, List.setIfInBounds_toArray, List.set_cons_zero, List.set_cons_succ, Array.getD_eq_getD_getElem?, List.getElem?_toArray, List.getElem?_cons_zero, List.getElem?_cons_succ, Option.getD_some]), HhS2.out⟩
      · obtain rfl := hall
        subst hun
        go_simp
        exact hK _ _ ⟨l0, l1, l2, true, true, ax1, cx1, ax2, cx2, vb, vh, rfl, (by simp only [↓reduceIte, List.setIfInBounds_toArray, List.set_cons_zero, List.set_cons_succ, Array.getD_eq_getD_getElem?, List.getElem?_toArray, List.getElem?_cons_zero, List.getElem?_cons_succ, Option.getD_some]), HS.out⟩
    · rintro listed a w' ⟨l0, l1, l2, l3, l4, ax1, cx1, ax2, cx2, vb, vh, rfl, rfl, hS⟩ hr
      have hall := ready_nilM (by kernel_rfl) rfl hr
      obtain rfl : l0 = true := by simpa using hall 0 (by simp)
      obtain rfl : l1 = true := by simpa using hall 1 (by simp)
      obtain rfl : l2 = true := by simpa using hall 2 (by simp)
      obtain rfl : l3 = true := by simpa using hall 3 (by simp)
      obtain rfl : l4 = true := by simpa using hall 4 (by simp)
      clear hall hr 
      simp only [↓reduceIte] at hS ⊢
      simp only [List.setIfInBounds_toArray, List.set_cons_zero, List.set_cons_succ]
      have HS4 := Lib.hid (HS2.out.call hS.bel)
      have HM4 := Lib.hid (HM.out.below hS.bel)
      have HR4 := Lib.hid (HR2.out.below hS.bel)
      clear hS D0 D1 C0 C1
      obtain ⟨w4, hw4⟩ : ∃ u : World, u = w' := ⟨_, rfl⟩
      subst hw4
      have e0 := HS4.out.cell (v := .slice a1 d.next.length c1) 0 0 rfl rfl
      have e1 := HS4.out.cell (v := .slice a2 d.ends.length c2) 0 1 rfl rfl
      have f0 := HS4.out.cell (v := .slice x1 M.next.length y1) 1 0 rfl rfl
      have f1 := HS4.out.cell (v := .slice x2 M.ends.length y2) 1 1 rfl rfl
      go_wp2_with fail
      refine (implMakePairs_any d M _ _ _ HR4.out HM4.out).mono ?_
      rintro e w5 ⟨hmp, hb⟩
      rw [Hhmp.out] at hmp
      obtain rfl : e = .returned (.tuple #[.slice none 0 0, .bool false]) := hmp
      have HS5 := Lib.hid (HS4.out.call hb)
      have HR5 := Lib.hid (HR4.out.below hb)
      clear hb e0 e1 f0 f1
      have e0 := HS5.out.cell (v := .slice a1 d.next.length c1) 0 0 rfl rfl
      have e1 := HS5.out.cell (v := .slice a2 d.ends.length c2) 0 1 rfl rfl
      go_wp2_with fail
      refine (specDfaValidD2_any d _ _ HR5.out false Hhok.out).mono ?_
      rintro e w6 ⟨rfl, hb⟩
      have HS6 := Lib.hid (HS5.out.call hb)
      have HR6 := Lib.hid (HR5.out.below hb)
      clear hb e0 e1
      go_wp2_with (go_at_call 20; refine (alive_any _).mono ?_; rintro e w' ⟨rfl, rfl⟩)
      go_ret
      exact ⟨rfl, HS6.out.bel⟩
    · refine ⟨false, false, false, false, false, none, 0, none, 0, 0, 0, rfl, (by simp only [↓reduceIte, Bool.false_eq_true, List.setIfInBounds_toArray, List.set_cons_zero, List.set_cons_succ, Array.getD_eq_getD_getElem?, List.getElem?_toArray, List.getElem?_cons_zero, List.getElem?_cons_succ, Option.getD_some]), ?_⟩
      exact (St.start (w2.alloc (.cells #[.slice x1 M.next.length y1, .slice x2 M.ends.length y2] 26))).drew.pick [0] (by decide)
  · have hM2 : minD d = M := by rw [← hM, minQ, if_pos hok]
    have hmo : dfaOk M.next M.ends = true := by rw [← hM2]; exact min_dfaOk' hok
    have hsame : sameB d M = true := sameB_iff.2 ⟨hok, hmo, fun l hl => by rw [← hM2]; exact (min_acc (fine_of hok) hl).symm⟩
    obtain ⟨F, hF⟩ : ∃ F, metP d M mostP = F := ⟨_, rfl⟩
    have hmp : makeP d M = some F := by rw [← hF]; exact if_pos hsame
    obtain ⟨T, hT⟩ : ∃ T, trimD d = T := ⟨_, rfl⟩
    have hFT : ((F.length : Int) == (T.next.length : Int)) = true := by
      rw [← hF, ← hM2, met_small hok (by have := dfaOk_len hok; have := mostP_ge; omega), hT]
      simp
    have HhM2 := Lib.hid hM2; clear hM2
    have Hhmo := Lib.hid hmo; clear hmo
    have Hhsame := Lib.hid hsame; clear hsame
    have HhF := Lib.hid hF; clear hF
    have HhT := Lib.hid hT; clear hT
    have Hhmp := Lib.hid hmp; clear hmp
    have HhM := Lib.hid hM; clear hM
    have Hhok := Lib.hid hok; clear hok
    have e0 := HS1.out.cell (v := .slice a1 d.next.length c1) 0 0 rfl rfl
    have e1 := HS1.out.cell (v := .slice a2 d.ends.length c2) 0 1 rfl rfl
    go_wp2_with fail
    refine (implMinimize_any d M HhM.out _ _ HR.out).mono ?_
    rintro e w2 ⟨x1, y1, x2, y2, rfl, hx, hb⟩
    have HS2 := Lib.hid ((HS1.out.call hb).alloc _ rfl #[.slice x1 M.next.length y1, .slice x2 M.ends.length y2] 26)
    have HM := Lib.hid ((hx.mono (Nat.zero_le _)).below ((Below.refl w2.heap.size w2).alloc (Nat.le_refl _) (.cells #[.slice x1 M.next.length y1, .slice x2 M.ends.length y2] 26)))
    have HR2 := Lib.hid ((HR.out.below hb).below ((Below.refl w2.heap.size w2).alloc (Nat.le_refl _) (.cells #[.slice x1 M.next.length y1, .slice x2 M.ends.length y2] 26)))
    clear HR hb hx e0 e1
    have D0 := Lib.hid (HS2.out.cell (v := .slice a1 d.next.length c1) 0 0 rfl rfl)
    have D1 := Lib.hid (HS2.out.cell (v := .slice a2 d.ends.length c2) 0 1 rfl rfl)
    have HltD := Lib.hid (HS2.out.boxlt 0 rfl).2
    have C0 := Lib.hid (HS2.out.cell (v := .slice x1 M.next.length y1) 1 0 rfl rfl)
    have C1 := Lib.hid (HS2.out.cell (v := .slice x2 M.ends.length y2) 1 1 rfl rfl)
    have HltC := Lib.hid (HS2.out.boxlt 1 rfl).2
    go_wp2
    refine wp_region_any (by kernel_rfl) ?_
    refine wpAny_invA (fun A listed a w' => ∃ (l0 l1 l2 l3 l4 : Bool) (ax1 : Option Addr) (cx1 : Nat) (ax2 : Option Addr) (cx2 : Nat) (vb : Nat) (vh : Nat), listed = #[l0, l1, l2, l3, l4] ∧
        a = ⟨(((((A.tmps.setIfInBounds 14 (if l0 = true then .agg #[.slice x1 M.next.length y1, .slice x2 M.ends.length y2] else A.tmps.getD 14 undef)).setIfInBounds 15 (if l1 = true then .agg #[.slice a1 d.next.length c1, .slice a2 d.ends.length c2] else A.tmps.getD 15 undef)).setIfInBounds 16 (if l2 = true then .agg #[.slice ax1 M.next.length cx1, .slice ax2 M.ends.length cx2] else A.tmps.getD 16 undef)).setIfInBounds 17 (if l3 = true then .bool true else A.tmps.getD 17 undef)).setIfInBounds 18 (if l4 = true then .bool false else A.tmps.getD 18 undef)), A.defers⟩ ∧
        St (w2.alloc (.cells #[.slice x1 M.next.length y1, .slice x2 M.ends.length y2] 26)) w' [(if l2 = true then DfaV vb vh (.slice ax1 M.next.length cx1) (.slice ax2 M.ends.length cx2) M else Ent.nil)]) ?_ ?_ ?_
    · rintro listed a w' ⟨l0, l1, l2, l3, l4, ax1, cx1, ax2, cx2, vb, vh, rfl, rfl, hS⟩ i hi
      obtain ⟨hun, o, ho, hall⟩ := mem_ready.1 hi
      have hlt := (Array.getElem?_eq_some_iff.1 ho).1
      refine wpOp_step ho (fun K hK => ?_)
      clear hi
      have HS := Lib.hid hS
      clear hS
      simp only [List.setIfInBounds_toArray, List.set_cons_zero, List.set_cons_succ, Array.getD_eq_getD_getElem?, List.getElem?_toArray, List.getElem?_cons_zero, List.getElem?_cons_succ, Option.getD_some]
      obtain h | h | h | h | h : i = 0 ∨ i = 1 ∨ i = 2 ∨ i = 3 ∨ i = 4 := by simp at hlt; omega
      all_goals subst h
      all_goals simp only [List.getElem?_toArray, List.getElem?_cons_zero, List.getElem?_cons_succ, Option.some.injEq] at ho
      all_goals subst ho
      all_goals simp [Region.binds] at hun hall
      · subst hun
        have e0 := (bcell HS.out.bel (w2.heap.size) 0 HltC.out).trans C0.out
        have e1 := (bcell HS.out.bel (w2.heap.size) 1 HltC.out).trans C1.out
        go_simp
        exact hK _ _ ⟨true, l1, l2, l3, l4, ax1, cx1, ax2, cx2, vb, vh, rfl, (by simp only [↓reduceIte, List.setIfInBounds_toArray, List.set_cons_zero, List.set_cons_succ, Array.getD_eq_getD_getElem?, List.getElem?_toArray, List.getElem?_cons_zero, List.getElem?_cons_succ, Option.getD_some]), HS.out⟩
      · subst hun
        have e0 := (bcell HS.out.bel (w1.heap.size) 0 HltD.out).trans D0.out
        have e1 := (bcell HS.out.bel (w1.heap.size) 1 HltD.out).trans D1.out
        go_simp
        exact hK _ _ ⟨l0, true, l2, l3, l4, ax1, cx1, ax2, cx2, vb, vh, rfl, (by simp only [↓reduceIte, List.setIfInBounds_toArray, List.set_cons_zero, List.set_cons_succ, Array.getD_eq_getD_getElem?, List.getElem?_toArray, List.getElem?_cons_zero, List.getElem?_cons_succ, Option.getD_some]), HS.out⟩
      · obtain rfl := hall
        subst hun
        go_simp
        go_at_call 37
        refine (specMinimize_any d M HhM.out _ _ (HR2.out.below HS.out.bel)).mono ?_
        rintro e u1 ⟨z1, z2, z3, z4, rfl, hr, hb⟩
        have hS2 := (HS.out.dfaV hb hr).pick [1] (by decide)
        have HhS2 := Lib.hid hS2; clear hS2
        go_simp
        exact hK _ _ ⟨l0, true, true, l3, l4, z1, z2, z3, z4, w'.heap.size, u1.heap.size, rfl, (by simp only [↓reduceIte, List.setIfInBounds_toArray, List.set_cons_zero, List.set_cons_succ, Array.getD_eq_getD_getElem?, List.getElem?_toArray, List.getElem?_cons_zero, List.getElem?_cons_succ, Option.getD_some]), HhS2.out⟩
      · obtain ⟨rfl, rfl⟩ := hall
        subst hun
        go_simp
        go_at_call 23
        refine (sameDfa_any M _ _ _ (HM.out.below HS.out.bel) (HS.out.dfaVr 0 rfl)).mono ?_
        rintro e u1 ⟨rfl, hb⟩
        have hS2 := HS.out.call hb
        have HhS2 := Lib.hid hS2; clear hS2
        go_simp
        exact hK _ _ ⟨true, l1, true, true, l4, ax1, cx1, ax2, cx2, vb, vh, rfl, (by simp only [↓reduceIte, List.setIfInBounds_toArray, List.set_cons_zero, List.set_cons_succ, Array.getD_eq_getD_getElem?, List.getElem?_toArray, List.getElem?_cons_zero, List.getElem?_cons_succ, Option.getD_some]), HhS2.out⟩
      · obtain rfl := hall
        subst hun
        go_simp
        exact hK _ _ ⟨l0, l1, l2, true, true, ax1, cx1, ax2, cx2, vb, vh, rfl, (by simp only [↓reduceIte, List.setIfInBounds_toArray, List.set_cons_zero, List.set_cons_succ, Array.getD_eq_getD_getElem?, List.getElem?_toArray, List.getElem?_cons_zero, List.getElem?_cons_succ, Option.getD_some]), HS.out⟩
    · rintro listed a w' ⟨l0, l1, l2, l3, l4, ax1, cx1, ax2, cx2, vb, vh, rfl, rfl, hS⟩ hr
      have hall := ready_nilM (by kernel_rfl) rfl hr
      obtain rfl : l0 = true := by simpa using hall 0 (by simp)
      obtain rfl : l1 = true := by simpa using hall 1 (by simp)
      obtain rfl : l2 = true := by simpa using hall 2 (by simp)
      obtain rfl : l3 = true := by simpa using hall 3 (by simp)
      obtain rfl : l4 = true := by simpa using hall 4 (by simp)
      clear hall hr 
      simp only [↓reduceIte] at hS ⊢
      simp only [List.setIfInBounds_toArray, List.set_cons_zero, List.set_cons_succ]
      have HS4 := Lib.hid (HS2.out.call hS.bel)
      have HM4 := Lib.hid (HM.out.below hS.bel)
      have HR4 := Lib.hid (HR2.out.below hS.bel)
      clear hS D0 D1 C0 C1
      obtain ⟨w4, hw4⟩ : ∃ u : World, u = w' := ⟨_, rfl⟩
      subst hw4
      have e0 := HS4.out.cell (v := .slice a1 d.next.length c1) 0 0 rfl rfl
      have e1 := HS4.out.cell (v := .slice a2 d.ends.length c2) 0 1 rfl rfl
      have f0 := HS4.out.cell (v := .slice x1 M.next.length y1) 1 0 rfl rfl
      have f1 := HS4.out.cell (v := .slice x2 M.ends.length y2) 1 1 rfl rfl
      go_wp2_with fail
      refine (implMakePairs_any d M _ _ _ HR4.out HM4.out).mono ?_
      rintro e w5 ⟨hmp, hb⟩
      rw [Hhmp.out] at hmp
      obtain ⟨p1, p2, rfl, -⟩ := hmp
      have HS5 := Lib.hid (HS4.out.call hb)
      have HR5 := Lib.hid (HR4.out.below hb)
      clear hb e0 e1 f0 f1
      have e0 := HS5.out.cell (v := .slice a1 d.next.length c1) 0 0 rfl rfl
      have e1 := HS5.out.cell (v := .slice a2 d.ends.length c2) 0 1 rfl rfl
      go_wp2_with fail
      refine (specDfaValidD2_any d _ _ HR5.out true Hhok.out).mono ?_
      rintro e w6 ⟨rfl, hb⟩
      have HS6 := Lib.hid (HS5.out.call hb)
      have HR6 := Lib.hid (HR5.out.below hb)
      clear hb e0 e1
      have e0 := HS6.out.cell (v := .slice a1 d.next.length c1) 0 0 rfl rfl
      have e1 := HS6.out.cell (v := .slice a2 d.ends.length c2) 0 1 rfl rfl
      go_wp2_with fail
      refine (implDfaTrim_any d _ _ Hhok.out HR6.out T HhT.out).mono ?_
      rintro e w7 ⟨t1, t2, t3, t4, ts, rfl, hb⟩
      have HS7 := Lib.hid ((HS6.out.cat hb).pick [] (by decide))
      have hfd := run_field0 (.slice t1 T.next.length t2) (.slice t3 T.ends.length t4) w7
      clear hb e0 e1
      go_wp2_with (go_at_call 20; refine (alive_any _).mono ?_; rintro e w' ⟨rfl, rfl⟩)
      go_ret
      exact ⟨rfl, HS7.out.bel⟩
    · refine ⟨false, false, false, false, false, none, 0, none, 0, 0, 0, rfl, (by simp only [↓reduceIte, Bool.false_eq_true, List.setIfInBounds_toArray, List.set_cons_zero, List.set_cons_succ, Array.getD_eq_getD_getElem?, List.getElem?_toArray, List.getElem?_cons_zero, List.getElem?_cons_succ, Option.getD_some]), ?_⟩
      exact (St.start (w2.alloc (.cells #[.slice x1 M.next.length y1, .slice x2 M.ends.length y2] 26))).drew.pick [0] (by decide)
end Go.Proofs.Ythhbjkgchabfmaa
