/-
  The walk over the reference's automaton of sets of states: l9Dfa.
  Conditions: there are m states, at most 40; moves, first and last states lie below; the automaton reads as such.
  The walks over Determinize, of the program and of the reference.
  Conditions: the automaton reads as such.
  Automata as automata with choices, turned round; plain: they are valid, and what is determinized is valid.
  No condition: this text speaks of no program.
  append of all of another slice, which may be empty: what it hands back, as a step of the walk.
  Conditions: the first slice is the call's own; the second one reads as such data.
  The walks over the program's Dfa.nfa and Nfa.turn, and over Clone.
  Conditions: the automaton is valid; the arguments read as such data.
  The walk over the reference's l8List.
  Conditions: the flags read as such; at most 40.
  Closing a set of states, plain: the smallest closed set; sets as lists and back.
  No condition: this text speaks of no program.
  The language of an automaton with choices, plain: ways through it, and what joins, repeats, unites and turns languages.
  No condition: this text speaks of no program.
  An automaton without choices meets singletons only, plain.
  No condition: this text speaks of no program.
  The walks over SubsetCount, of the program and of the reference.
  Condition: the automaton is readable.
  Automata with one choice at a time determinized; turned twice and determinized twice (Brzozowski): plain.
  No condition: this text speaks of no program.
-/
import Derived.Test.YthhbjkgchabfmaaPk18Ry
import Derived.Test.YthhbjkgchabfmaaPk33Det
namespace Go.Proofs.Ythhbjkgchabfmaa
open Go.RowKit Go.Maps

end Go.Proofs.Ythhbjkgchabfmaa
namespace Go.Proofs.Ythhbjkgchabfmaa
open Go.RowKit Go.Maps

def detK (K : Nat) (n : NfaD) : Option DfaD := if nfaOk n = true ∧ (metS n K).length ≤ K then some (numDfa (nxS n) (enS n) (metS n K)) else none



end Go.Proofs.Ythhbjkgchabfmaa

namespace Go.Proofs.Ythhbjkgchabfmaa
open Go.RowKit

end Go.Proofs.Ythhbjkgchabfmaa
namespace Go.Proofs.Ythhbjkgchabfmaa
open Go.RowKit

set_option maxHeartbeats 4000000 in
set_option maxRecDepth 100000 in
theorem implNfa_any (d : DfaD) (v : Value) (w : World) (hd : dfaOk d.next d.ends = true) (h : DfaR 0 w v d) :
    Calls Try.prog 63 #[v] w fun e w' => RNfaS (nfaOf d) w e w' := by
  obtain ⟨v1, v2, rfl, q1, q2⟩ := h
  obtain ⟨L, hL⟩ : ∃ L, L = d.next.length := ⟨_, rfl⟩
  obtain ⟨hl1, hl2, hl3⟩ := dfaOk_len hd
  have hrow := fun (i : Nat) (hi : i < d.next.length) => (dfaOk_row hd hi)
  obtain ⟨av, cv, rfl, hc1, hc2, hr1⟩ := q1.formI
  obtain ⟨b1, o1, rfl, -, hb1, hcs1⟩ := hr1 (by omega)
  obtain ⟨a2, c2, rfl, hc3, hc4, hr2⟩ := q2.form
  obtain ⟨b2, o2, rfl, -, hb2, hcs2⟩ := hr2 (by omega)
  rw [hl3] at hcs2 hc3
  rw [← hL] at hl1 hl2 hl3 hrow hc1 hcs1 hcs2 hc3
  rw [hl3, ← hL]
  obtain ⟨i0, hi, hz0, hz1, hz2⟩ := info_parts Try.infoMv
  obtain ⟨j0, hj, hy0, hy1, hy2⟩ := info_parts Try.infoInt
  have hS0 := (((St.start w).alloc _ rfl #[.slice (some ⟨b1, o1, none⟩) L cv, .slice (some ⟨b2, o2, none⟩) L c2] 26).alloc (w.heap.size + 1) (by simp) #[.int .i64 0, .slice none 0 0, .slice none 0 0, .slice none 0 0] 31).alloc (w.heap.size + 1 + 1) (by simp) #[.int .i64 0] 3
  have hS1 := (hS0.boxrow 2 1 1 [.int .i64 0] rfl rfl (by unfold maxLen; omega)).alloc (w.heap.size + 1 + 1 + 1) (by simp) #[.int .i64 L, .slice none 0 0, .slice (some ⟨w.heap.size + 1 + 1, 0, none⟩) 1 1, .slice none 0 0] 31
  have hS2 := (hS1.nilRow 68 3).nilRow 3 1
  have Hrow := Lib.hid hrow
  have Hcs1 := Lib.hid hcs1
  have Hcs2 := Lib.hid hcs2
  have HhS2 := Lib.hid hS2; clear hS2
  have HhL := Lib.hid hL; clear hL
  have Hhi := Lib.hid hi; clear hi
  have Hhz0 := Lib.hid hz0; clear hz0
  have Hhz1 := Lib.hid hz1; clear hz1
  have Hhz2 := Lib.hid hz2; clear hz2
  have Hhj := Lib.hid hj; clear hj
  have Hhy0 := Lib.hid hy0; clear hy0
  have Hhy1 := Lib.hid hy1; clear hy1
  have Hhy2 := Lib.hid hy2; clear hy2
  clear hS0 hS1 hrow hcs1 hcs2 hr1 hr2 q1 q2 hd hl3
  go_enter Try.func63, Try.ntmps63
  go_wp2
  go_loopw [16] (fun i wr => ∃ (s c1 c3 : Nat) (a1 a3 : Option Addr), i = .int .i64 s ∧ s ≤ L ∧ St w wr [Ent.box w.heap.size #[.slice (some ⟨b1, o1, none⟩) L cv, .slice (some ⟨b2, o2, none⟩) L c2] 26, Ent.box (w.heap.size + 1) #[.int .i64 0, .slice none 0 0, .slice none 0 0, .slice none 0 0] 31,
      Ent.row 3 1 (.slice (some ⟨w.heap.size + 1 + 1, 0, none⟩) 1 1) 1 [.int .i64 0], Ent.box (w.heap.size + 1 + 1 + 1) #[.int .i64 L, .slice a1 (mvs d s).length c1, .slice (some ⟨w.heap.size + 1 + 1, 0, none⟩) 1 1, .slice a3 (eds d s).length c3] 31,
      Ent.row 68 3 (.slice a1 (mvs d s).length c1) (mvs d s).length ((mvs d s).flatMap moveCells), Ent.row 3 1 (.slice a3 (eds d s).length c3) (eds d s).length (intCells (eds d s))])
    (fun i _ => L - (intOf i).toNat)
  case atStart => exact ⟨0, 0, 0, none, none, rfl, Nat.zero_le _, HhS2.out⟩
  case round =>
    obtain ⟨s, c1, c3, a1, a3, rfl, hs, hS⟩ := hrel
    obtain ⟨wo, hwo⟩ : ∃ wo : World, wo = wr := ⟨_, rfl⟩
    subst hwo
    by_cases hlt : s < L
    · have hlt2 : (s : Int) < L := by omega
      obtain ⟨ar, cr, hcr, -, -, hIr⟩ := Hcs1.out s hlt
      obtain ⟨hr3, -⟩ := Hrow.out s (by have := HhL.out; omega)
      rw [hr3] at hcr hIr
      obtain ⟨_, _, hform, hrc1, hrc2, hrr⟩ := hIr.form
      rw [hr3] at hform hrr hrc1
      simp only [Value.slice.injEq, true_and] at hform
      obtain ⟨rfl, rfl⟩ := hform
      obtain ⟨b3, o3, rfl, -, hb3, hcs3⟩ := hrr (by omega)
      have k1 := (bcell hS.bel b1 _ hb1).trans hcr
      have hml := mvs_len d s
      obtain ⟨M, hM⟩ : ∃ M, M = mvs d s := ⟨_, rfl⟩
      obtain ⟨E, hE⟩ : ∃ E, E = eds d s := ⟨_, rfl⟩
      have hel := eds_len d s
      rw [← hM] at hS hml
      rw [← hE] at hS hel
      have hmle : M.length ≤ 120 := by omega
      have hele : E.length ≤ 40 := by omega
      have Hcs3 := Lib.hid hcs3
      have Hhml := Lib.hid hml; clear hml
      clear hel
      have HhS := Lib.hid hS; clear hS
      have HhM := Lib.hid hM; clear hM
      have HhE := Lib.hid hE; clear hE
      clear hcs3 hrr hIr hcr hr3
      go_wp2
      go_loopw [23] (fun i wi => ∃ (c c1 : Nat) (a1 : Option Addr), i = .int .i64 c ∧ c ≤ 3 ∧ St w wi [Ent.box w.heap.size #[.slice (some ⟨b1, o1, none⟩) L cv, .slice (some ⟨b2, o2, none⟩) L c2] 26, Ent.box (w.heap.size + 1) #[.int .i64 0, .slice none 0 0, .slice none 0 0, .slice none 0 0] 31,
          Ent.row 3 1 (.slice (some ⟨w.heap.size + 1 + 1, 0, none⟩) 1 1) 1 [.int .i64 0], Ent.box (w.heap.size + 1 + 1 + 1) #[.int .i64 L, .slice a1 (M.length + c) c1, .slice (some ⟨w.heap.size + 1 + 1, 0, none⟩) 1 1, .slice a3 E.length c3] 31,
          Ent.row 68 3 (.slice a1 (M.length + c) c1) (M.length + c) ((M ++ (rowM d s).take c).flatMap moveCells), Ent.row 3 1 (.slice a3 E.length c3) E.length (intCells E)])
        (fun i _ => 3 - (intOf i).toNat)
      case atStart => exact ⟨0, c1, a1, rfl, by omega, by rw [List.take_zero, List.append_nil]; exact HhS.out⟩
      case round =>
        obtain ⟨c, c1, a1, rfl, hc3', hSi⟩ := hrel
        by_cases hc : c < 3
        · have hc4 : (c : Int) < 3 := by omega
          have k2 := (bcell hSi.bel b3 _ hb3).trans (Hcs3.out c hc)
          have htk := rowM_take d s hc
          obtain ⟨x, hx⟩ : ∃ x, x = (d.next.getD s []).getD c 0 := ⟨_, rfl⟩
          rw [← hx] at k2 htk
          have e1 := hSi.cell (v := .slice a1 (M.length + c) c1) 3 1 rfl rfl
          have f1 := hSi.fr 3 1 rfl
          have hSa := hSi.alloc_ (.cells #[.int .i64 s, .int .i64 c, .int .i64 x] 68)
          have hRw := hSa.row 4 rfl
          have HhSi := Lib.hid hSi; clear hSi
          have HhSa := Lib.hid hSa; clear hSa
          have HhRw := Lib.hid hRw; clear hRw
          have Hhx := Lib.hid hx; clear hx
          have Hhtk := Lib.hid htk; clear htk
          go_wp2_with (at_builtin; refine wpList_append_lies _ rfl _ _ _ rfl _ 68 i0 (.agg #[.int .i64 0, .int .i64 0, .int .i64 0]) 3 24 Try.underlying28 Hhi.out Hhz0.out Hhz1.out Hhz2.out rfl (by omega) _ (M.length + c) _ rfl HhRw.out ⟨wr.heap.size, 0, none⟩ 1 1 [.int .i64 s, .int .i64 c, .int .i64 x] rfl rfl (World.news_of_block (heap_alloc_new wr _)) one_mv (by omega) (by unfold maxLen; omega) (by omega) HhSa.out.size _ rfl ?_; intro g6 c6 w6 hown6 hgrow6 hat6 hlt6; have HS6 := Lib.hid (HhSa.out.app 4 rfl hown6 hgrow6 hat6); have y1 := HS6.out.cell (v := .slice a1 (M.length + c) c1) 3 1 rfl rfl; have y2 := HS6.out.fr 3 1 rfl; clear hown6 hgrow6 hat6 hlt6)
          go_roundw
          case rel =>
            refine ⟨c + 1, c6, some ⟨g6, 0, none⟩, by go_num, by omega, ?_⟩
            rw [Hhtk.out, ← List.append_assoc, flatM_snoc]
            exact HS6.out.set 3 rfl 1 (.slice (some ⟨g6, 0, none⟩) (M.length + c + 1) c6)
          case measure => simp [intOf]; omega
        · obtain rfl : c = 3 := by omega
          have hta : (rowM d s).take 3 = rowM d s := List.take_of_length_le (by rw [rowM_len]; exact Nat.le_refl _)
          have hM1 : M ++ rowM d s = mvs d (s + 1) := by rw [HhM.out]; rfl
          have hMl : M.length + 3 = (mvs d (s + 1)).length := by rw [mvs_len, Hhml.out]; omega
          rw [hta, hM1, hMl] at hSi
          have k2 := (bcell hSi.bel b2 _ hb2).trans (Hcs2.out s hlt)
          have e0 := hSi.cell (v := .slice (some ⟨b2, o2, none⟩) L c2) 0 1 rfl rfl
          have HhSi := Lib.hid hSi; clear hSi
          have HhM1 := Lib.hid hM1; clear hM1
          have HhMl := Lib.hid hMl; clear hMl
          clear hta
          cases hz : d.ends.getD s false with
          | false =>
            rw [hz] at k2
            have hE1 : eds d (s + 1) = E := by rw [HhE.out]; show (if d.ends.getD s false = true then _ else _) = _; rw [hz]; rfl
            have HhE1 := Lib.hid hE1; clear hE1
            have Hhz := Lib.hid hz; clear hz
            go_wp2
            go_roundw
            case rel =>
              refine ⟨s + 1, c1, c3, a1, a3, by go_num, by omega, ?_⟩
              rw [HhE1.out]
              exact HhSi.out
            case measure => simp [intOf]; omega
          | true =>
            rw [hz] at k2
            have hE1 : eds d (s + 1) = E ++ [(s : Int)] := by rw [HhE.out]; show (if d.ends.getD s false = true then _ else _) = _; rw [hz]; rfl
            have e1 := HhSi.out.cell (v := .slice a3 E.length c3) 3 3 rfl rfl
            have f1 := HhSi.out.fr 3 3 rfl
            have hSa := HhSi.out.alloc_ (.cells #[.int .i64 s] 3)
            have hRw := hSa.row 5 rfl
            have HhSa := Lib.hid hSa; clear hSa
            have HhRw := Lib.hid hRw; clear hRw
            have HhE1 := Lib.hid hE1; clear hE1
            have Hhz := Lib.hid hz; clear hz
            go_wp2_with (at_builtin; refine wpList_append_lies _ rfl _ _ _ rfl _ 3 j0 (.int .i64 0) 1 8 Try.underlying29 Hhj.out Hhy0.out Hhy1.out Hhy2.out rfl (by omega) _ E.length _ rfl HhRw.out ⟨wr.heap.size, 0, none⟩ 1 1 [.int .i64 s] rfl rfl (World.news_of_block (heap_alloc_new wr _)) on_i (by omega) (by unfold maxLen; omega) (by omega) HhSa.out.size _ rfl ?_; intro g6 c6 w6 hown6 hgrow6 hat6 hlt6; have HS6 := Lib.hid (HhSa.out.app 5 rfl hown6 hgrow6 hat6); have y1 := HS6.out.cell (v := .slice a3 E.length c3) 3 3 rfl rfl; have y2 := HS6.out.fr 3 3 rfl; clear hown6 hgrow6 hat6 hlt6)
            go_roundw
            case rel =>
              refine ⟨s + 1, c1, c6, a1, some ⟨g6, 0, none⟩, by go_num, by omega, ?_⟩
              rw [HhE1.out, List.length_append, List.length_singleton, intC_sn]
              exact HS6.out.set 3 rfl 3 (.slice (some ⟨g6, 0, none⟩) (E.length + 1) c6)
            case measure => simp [intOf]; omega
    · obtain rfl : s = L := by omega
      have hge : (s : Int) ≤ s := Int.le_refl _
      obtain ⟨M, hM⟩ : ∃ M, M = mvs d s := ⟨_, rfl⟩
      obtain ⟨E, hE⟩ : ∃ E, E = eds d s := ⟨_, rfl⟩
      rw [← hM, ← hE] at hS
      have f0 := hS.fr 1 0 rfl
      have f1 := hS.fr 1 1 rfl
      have f2 := hS.fr 1 2 rfl
      have f3 := hS.fr 1 3 rfl
      have k0 := hS.cell (v := .int .i64 0) 1 0 rfl rfl
      have k1 := hS.cell (v := .slice none 0 0) 1 1 rfl rfl
      have k2 := hS.cell (v := .slice none 0 0) 1 2 rfl rfl
      have k3 := hS.cell (v := .slice none 0 0) 1 3 rfl rfl
      have d0 := hS.cell (v := .int .i64 s) 3 0 rfl rfl
      have d1 := hS.cell (v := .slice a1 M.length c1) 3 1 rfl rfl
      have d2 := hS.cell (v := .slice (some ⟨w.heap.size + 1 + 1, 0, none⟩) 1 1) 3 2 rfl rfl
      have d3 := hS.cell (v := .slice a3 E.length c3) 3 3 rfl rfl
      have HhS := Lib.hid hS; clear hS
      have HhM := Lib.hid hM; clear hM
      have HhE := Lib.hid hE; clear hE
      go_wp2
      have hq := (((HhS.out.set 1 rfl 0 (.int .i64 s)).set 1 rfl 1 (.slice a1 M.length c1)).set 1 rfl 2 (.slice (some ⟨w.heap.size + 1 + 1, 0, none⟩) 1 1)).set 1 rfl 3 (.slice a3 E.length c3)
      have q0 := hq.cell (v := .int .i64 s) 1 0 rfl rfl
      have q1 := hq.cell (v := .slice a1 M.length c1) 1 1 rfl rfl
      have q2 := hq.cell (v := .slice (some ⟨w.heap.size + 1 + 1, 0, none⟩) 1 1) 1 2 rfl rfl
      have q3 := hq.cell (v := .slice a3 E.length c3) 1 3 rfl rfl
      refine bodyPost_ret (v := .agg #[.int .i64 s, .slice a1 M.length c1, .slice (some ⟨w.heap.size + 1 + 1, 0, none⟩) 1 1, .slice a3 E.length c3]) (by simp [results, Try.results63, go_sem, q0, q1, q2, q3]) rfl ?_
      have hr : RNfaS ⟨(s : Int), M, [0], E⟩ w (.returned (.agg #[.int .i64 s, .slice a1 M.length c1, .slice (some ⟨w.heap.size + 1 + 1, 0, none⟩) 1 1, .slice a3 E.length c3])) _ := ⟨a1, c1, _, 1, a3, c3, rfl, hq.pick [4, 2, 5] (by decide)⟩
      have hn : nfaOf d = ⟨(s : Int), M, [0], E⟩ := by unfold nfaOf; rw [← HhL.out, HhM.out, HhE.out]
      rw [hn]
      exact hr
end Go.Proofs.Ythhbjkgchabfmaa

namespace Go.Proofs.Ythhbjkgchabfmaa
open Go.RowKit


end Go.Proofs.Ythhbjkgchabfmaa
namespace Go.Proofs.Ythhbjkgchabfmaa
open Go.RowKit

def subV (v u : Nat) : Prop := ∀ s, v.testBit s = true → u.testBit s = true
theorem subV_refl (v : Nat) : subV v v := fun _ h => h
theorem subV_trans {a b c : Nat} (h : subV a b) (h' : subV b c) : subV a c := fun s hs => h' s (h s hs)
theorem subV_eq {a b : Nat} (h : subV a b) (h' : subV b a) : a = b := by
  apply Nat.eq_of_testBit_eq
  intro i
  have h1 := h i
  have h2 := h' i
  cases ha : a.testBit i <;> cases hb : b.testBit i <;> simp_all
theorem subV_adj (v s : Nat) : subV v (adj v s) := fun t ht => by rw [has_adj, ht]; rfl
theorem clMove_sub (v : Nat) (m : Int × Int × Int) : subV v (clMove v m) := by
  unfold clMove
  split
  · exact subV_adj _ _
  · exact subV_refl _
theorem clFold_sub : ∀ (ms : List (Int × Int × Int)) (v : Nat), subV v (ms.foldl clMove v)
  | [], v => subV_refl v
  | m :: ms, v => subV_trans (clMove_sub v m) (clFold_sub ms _)
theorem clIt_sub (ms : List (Int × Int × Int)) (v : Nat) : ∀ k, subV v (clIt ms v k)
  | 0 => subV_refl v
  | k + 1 => subV_trans (clIt_sub ms v k) (clFold_sub ms _)
/-- A set out of which no move without a letter leads. -/
def closedV (ms : List (Int × Int × Int)) (u : Nat) : Prop := ∀ m ∈ ms, m.2.1 = -1 → u.testBit m.1.toNat = true → u.testBit m.2.2.toNat = true
theorem clMove_in {ms : List (Int × Int × Int)} {u v : Nat} (hu : closedV ms u) (h : subV v u) {m : Int × Int × Int} (hm : m ∈ ms) : subV (clMove v m) u := by
  unfold clMove
  split
  · rename_i hc
    simp only [Bool.and_eq_true, decide_eq_true_eq] at hc
    intro s hs
    rw [has_adj, Bool.or_eq_true] at hs
    rcases hs with hs | hs
    · exact h s hs
    · rw [← of_decide_eq_true hs]
      exact hu m hm hc.1.1 (h _ hc.1.2)
  · exact h
theorem clFold_in {ms : List (Int × Int × Int)} {u : Nat} (hu : closedV ms u) : ∀ (l : List (Int × Int × Int)) (v : Nat), (∀ m ∈ l, m ∈ ms) → subV v u → subV (l.foldl clMove v) u
  | [], _, _, h => h
  | m :: l, v, hl, h => clFold_in hu l _ (fun x hx => hl x (by simp [hx])) (clMove_in hu h (hl m (by simp)))
theorem clIt_in {ms : List (Int × Int × Int)} {u v : Nat} (hu : closedV ms u) (h : subV v u) : ∀ k, subV (clIt ms v k) u
  | 0 => h
  | k + 1 => clFold_in hu ms _ (fun _ hx => hx) (clIt_in hu h k)
theorem clV_sub (n : Nat) (ms : List (Int × Int × Int)) (v : Nat) : subV v (clV n ms v) := clIt_sub ms v n
theorem clV_in {n : Nat} {ms : List (Int × Int × Int)} {u v : Nat} (hu : closedV ms u) (h : subV v u) : subV (clV n ms v) u := clIt_in hu h n
theorem clV_idem {n : Nat} {ms : List (Int × Int × Int)} {u : Nat} (hu : closedV ms u) : clV n ms u = u := subV_eq (clV_in hu (subV_refl u)) (clV_sub n ms u)

end Go.Proofs.Ythhbjkgchabfmaa

namespace Go.Proofs.Ythhbjkgchabfmaa
open Go.RowKit







theorem stFold_bit {c : Int} {v : Nat} : ∀ (l : List (Int × Int × Int)) (u t : Nat), (l.foldl (stMove v c) u).testBit t = true ↔ u.testBit t = true ∨ ∃ m ∈ l, m.2.1 = c ∧ v.testBit m.1.toNat = true ∧ m.2.2.toNat = t
  | [], u, t => by simp
  | m :: l, u, t => by
    rw [List.foldl_cons, stFold_bit l, stMove]
    split
    · rename_i h
      rw [Bool.and_eq_true, decide_eq_true_eq] at h
      rw [has_adj, Bool.or_eq_true, decide_eq_true_eq]
      constructor
      · rintro ((h1 | h1) | ⟨x, hx, h1⟩)
        · exact .inl h1
        · exact .inr ⟨m, by simp, h.1, h.2, h1⟩
        · exact .inr ⟨x, by simp [hx], h1⟩
      · rintro (h1 | ⟨x, hx, h1⟩)
        · exact .inl (.inl h1)
        · rcases List.mem_cons.1 hx with rfl | hx
          · exact .inl (.inr h1.2.2)
          · exact .inr ⟨x, hx, h1⟩
    · rename_i h
      rw [Bool.and_eq_true, decide_eq_true_eq] at h
      constructor
      · rintro (h1 | ⟨x, hx, h1⟩)
        · exact .inl h1
        · exact .inr ⟨x, by simp [hx], h1⟩
      · rintro (h1 | ⟨x, hx, h1⟩)
        · exact .inl h1
        · rcases List.mem_cons.1 hx with rfl | hx
          · exact absurd ⟨h1.1, h1.2.1⟩ h
          · exact .inr ⟨x, hx, h1⟩



/-- The first letter of a way. -/
theorem Pth.split {ms : List (Int × Int × Int)} {s u : Int} {x : List Nat} (h : Pth ms s x u) : ∀ {c : Nat} {w : List Nat}, x = c :: w → ∃ m, m ∈ ms ∧ m.2.1 = (c : Int) ∧ Pth ms s [] m.1 ∧ Pth ms m.2.2 w u := by
  induction h with
  | here s => intro c w h; cases h
  | eps hm _ ih =>
    intro c w h
    obtain ⟨m, h1, h2, h3, h4⟩ := ih h
    exact ⟨m, h1, h2, .eps hm h3, h4⟩
  | step hm hp ih =>
    intro c w h
    injection h with h1 h2
    subst h1
    subst h2
    exact ⟨_, hm, rfl, .here _, hp⟩









end Go.Proofs.Ythhbjkgchabfmaa

namespace Go.Proofs.Ythhbjkgchabfmaa
open Go.RowKit

theorem stOk_ofP {l : List Int} {m : Int} (h : ∀ j, j < l.length → (0 ≤ l.getD j 0 ∧ l.getD j 0 ≤ m - 1) ∧ (0 < j → l.getD (j - 1) 0 < l.getD j 0)) : stOk l m = true := by
  unfold stOk
  rw [List.all_eq_true]
  intro j hj
  obtain ⟨h1, h2⟩ := h j (List.mem_range.1 hj)
  unfold okAt
  rw [Bool.and_eq_true, Bool.or_eq_true]
  refine ⟨by simp only [inB, Bool.and_eq_true, decide_eq_true_eq]; exact h1, ?_⟩
  by_cases h0 : j = 0
  · exact .inl (decide_eq_true h0)
  · exact .inr (decide_eq_true (h2 (by omega)))
theorem bit_two {s t : Nat} : (2 ^ s).testBit t = decide (s = t) := by
  rw [Nat.testBit_two_pow]
theorem mvs_mem {d : DfaD} : ∀ {k : Nat} {m : Int × Int × Int}, m ∈ mvs d k ↔ ∃ s c : Nat, s < k ∧ c < 3 ∧ m = ((s : Int), (c : Int), (d.next.getD s []).getD c 0)
  | 0, m => by simp [mvs]
  | k + 1, m => by
    rw [show mvs d (k + 1) = mvs d k ++ rowM d k from rfl, List.mem_append, mvs_mem]
    constructor
    · rintro (⟨s, c, h1, h2, h3⟩ | h)
      · exact ⟨s, c, by omega, h2, h3⟩
      · obtain ⟨c, hc, rfl⟩ := List.mem_map.1 h
        exact ⟨k, c, by omega, List.mem_range.1 hc, rfl⟩
    · rintro ⟨s, c, h1, h2, h3⟩
      by_cases h : s = k
      · subst h
        exact .inr (List.mem_map.2 ⟨c, List.mem_range.2 h2, h3.symm⟩)
      · exact .inl ⟨s, c, by omega, h2, h3⟩
theorem nfaOf_closed {d : DfaD} (k u : Nat) : closedV (mvs d k) u := by
  intro m hm he
  obtain ⟨s, c, -, -, rfl⟩ := mvs_mem.1 hm
  simp only at he
  omega
theorem bit_ext {a b : Nat} (h : ∀ t, a.testBit t = true ↔ b.testBit t = true) : a = b := by
  apply Nat.eq_of_testBit_eq
  intro t
  rw [Bool.eq_iff_iff]
  exact h t
theorem stV_one {d : DfaD} (hd : dfaOk d.next d.ends = true) {s c : Nat} (hs : s < d.next.length) (hc : c < 3) : ∃ q : Nat, q < d.next.length ∧ stV 40 (mvs d d.next.length) (2 ^ s) (c : Int) = 2 ^ q := by
  have hr := (dfaOk_row hd hs).2 c hc
  obtain ⟨q, hq⟩ := Int.eq_ofNat_of_zero_le hr.1
  refine ⟨q, by omega, ?_⟩
  unfold stV
  rw [clV_idem (nfaOf_closed _ _)]
  apply bit_ext
  intro t
  rw [stFold_bit, bit_two, decide_eq_true_eq]
  constructor
  · rintro (h | ⟨m, hm, h1, h2, h3⟩)
    · simp at h
    · obtain ⟨s', c', h4, h5, rfl⟩ := mvs_mem.1 hm
      rw [bit_two, decide_eq_true_eq] at h2
      simp only [Int.toNat_natCast] at h2
      subst h2
      have : c' = c := by simp only at h1; omega
      subst this
      simp only [hq] at h3
      omega
  · rintro rfl
    right
    refine ⟨_, mvs_mem.2 ⟨s, c, hs, hc, rfl⟩, rfl, ?_, ?_⟩
    · rw [bit_two]
      simp
    · simp only [hq]
      omega
theorem met_one {d : DfaD} (hd : dfaOk d.next d.ends = true) (K : Nat) : (metS (nfaOf d) K).length ≤ d.next.length := by
  have hl := dfaOk_len hd
  have hf : fstV (nfaOf d) = 2 ^ 0 := by
    unfold fstV
    rw [show (nfaOf d).moves = mvs d d.next.length from rfl, clV_idem (nfaOf_closed _ _)]
    rfl
  have hall : ∀ x ∈ metS (nfaOf d) K, ∃ s : Nat, s < d.next.length ∧ x = (((2 ^ s : Nat) : Int), 0) := by
    refine bat_all (Q := fun x => ∃ s : Nat, s < d.next.length ∧ x = (((2 ^ s : Nat) : Int), 0)) ⟨0, by omega, by rw [hf]⟩ ?_ K
    rintro x c hc ⟨s, hs, rfl⟩
    obtain ⟨q, hq, h⟩ := stV_one hd hs hc
    refine ⟨q, hq, ?_⟩
    unfold nxS
    rw [show (nfaOf d).moves = mvs d d.next.length from rfl]
    simp only [Int.toNat_natCast]
    rw [h]
  have := nodup_le (bat_good (nx := nxS (nfaOf d)) (a := (((fstV (nfaOf d) : Nat) : Int), 0)) K).1 (m := (List.range d.next.length).map fun s => (((2 ^ s : Nat) : Int), (0 : Int))) fun x hx => by
    obtain ⟨s, hs, rfl⟩ := hall x hx
    exact List.mem_map.2 ⟨s, List.mem_range.2 hs, rfl⟩
  simpa using this
theorem eds_pair (d : DfaD) : ∀ k, (eds d k).Pairwise (· < ·)
  | 0 => List.Pairwise.nil
  | k + 1 => by
    unfold eds
    split
    · rw [List.pairwise_append]
      refine ⟨eds_pair d k, List.pairwise_singleton _ _, fun x hx y hy => ?_⟩
      rw [List.mem_singleton.1 hy]
      exact (eds_in d k x hx).2
    · exact eds_pair d k
theorem nfaOf_ok {d : DfaD} (hd : dfaOk d.next d.ends = true) : nfaOk (nfaOf d) = true := by
  have hl := dfaOk_len hd
  unfold nfaOk
  simp only [Bool.and_eq_true, decide_eq_true_eq]
  refine ⟨⟨⟨⟨?_, ?_⟩, ?_⟩, ?_⟩, ?_⟩
  · show inB (d.next.length : Int) 0 40 = true
    simp only [inB, Bool.and_eq_true, decide_eq_true_eq]
    exact ⟨by omega, by omega⟩
  · show (mvs d d.next.length).length ≤ 400
    rw [mvs_len]
    omega
  · refine stOk_ofP fun j hj => ?_
    have hj : j < 1 := hj
    obtain rfl : j = 0 := by omega
    refine ⟨?_, fun h => by omega⟩
    simp only [nfaOf, List.getD_cons_zero]
    omega
  · refine stOk_ofP fun j hj => ?_
    have hj : j < (eds d d.next.length).length := hj
    have h1 := eds_in d _ _ (memD (d := (0 : Int)) hj)
    refine ⟨?_, fun h => ?_⟩
    · show 0 ≤ (eds d d.next.length).getD j 0 ∧ (eds d d.next.length).getD j 0 ≤ (d.next.length : Int) - 1
      omega
    · have := List.pairwise_iff_getElem.1 (eds_pair d d.next.length) (j - 1) j (by omega) hj (by omega)
      show (eds d d.next.length).getD (j - 1) 0 < (eds d d.next.length).getD j 0
      rw [getD_at (by omega), getD_at hj]
      exact this
  · rw [List.all_eq_true]
    intro m hm
    obtain ⟨s, c, h1, h2, rfl⟩ := mvs_mem.1 (show m ∈ mvs d d.next.length from hm)
    have hr := (dfaOk_row hd h1).2 c h2
    show mvOk (d.next.length : Int) _ = true
    simp only [mvOk, inB, Bool.and_eq_true, decide_eq_true_eq]
    exact ⟨⟨⟨by omega, by omega⟩, by omega, by omega⟩, by omega, by omega⟩
end Go.Proofs.Ythhbjkgchabfmaa
namespace Go.Proofs.Ythhbjkgchabfmaa
open Go.RowKit


end Go.Proofs.Ythhbjkgchabfmaa

namespace Go.Proofs.Ythhbjkgchabfmaa
open Go.RowKit

theorem stV_nx {d : DfaD} (hd : dfaOk d.next d.ends = true) {s c : Nat} (hs : s < d.next.length) (hc : c < 3) : stV 40 (mvs d d.next.length) (2 ^ s) (c : Int) = 2 ^ nxD d s c := by
  have hr := (dfaOk_row hd hs).2 c hc
  unfold stV
  rw [clV_idem (nfaOf_closed _ _)]
  apply bit_ext
  intro t
  rw [stFold_bit, bit_two, decide_eq_true_eq]
  constructor
  · rintro (h | ⟨m, hm, h1, h2, h3⟩)
    · simp at h
    · obtain ⟨s', c', h4, h5, rfl⟩ := mvs_mem.1 hm
      rw [bit_two, decide_eq_true_eq] at h2
      simp only [Int.toNat_natCast] at h2
      subst h2
      have : c' = c := by simp only at h1; omega
      subst this
      exact h3
  · rintro rfl
    right
    refine ⟨_, mvs_mem.2 ⟨s, c, hs, hc, rfl⟩, rfl, ?_, rfl⟩
    rw [bit_two]
    simp
theorem fst_nfaOf (d : DfaD) : fstV (nfaOf d) = 2 ^ 0 := by
  unfold fstV
  rw [show (nfaOf d).moves = mvs d d.next.length from rfl, clV_idem (nfaOf_closed _ _)]
  rfl
theorem eds_mem {d : DfaD} : ∀ {k : Nat} {x : Int}, x ∈ eds d k ↔ ∃ s : Nat, x = (s : Int) ∧ s < k ∧ enD d s = true
  | 0, x => by simp [eds]
  | k + 1, x => by
    have ih := eds_mem (d := d) (k := k) (x := x)
    unfold eds
    by_cases h : d.ends.getD k false = true
    · rw [if_pos h, List.mem_append, ih, List.mem_singleton]
      constructor
      · rintro (⟨s, h1, h2, h3⟩ | rfl)
        · exact ⟨s, h1, by omega, h3⟩
        · exact ⟨k, rfl, by omega, h⟩
      · rintro ⟨s, h1, h2, h3⟩
        by_cases hk : s = k
        · subst hk; exact .inr h1
        · exact .inl ⟨s, h1, by omega, h3⟩
    · rw [if_neg h, ih]
      constructor
      · rintro ⟨s, h1, h2, h3⟩
        exact ⟨s, h1, by omega, h3⟩
      · rintro ⟨s, h1, h2, h3⟩
        by_cases hk : s = k
        · subst hk; exact absurd h3 h
        · exact ⟨s, h1, by omega, h3⟩
/-- Determinizing an automaton with one choice at a time trims it. -/
theorem det_nfaOf {d : DfaD} (hd : dfaOk d.next d.ends = true) {K : Nat} (hK : d.next.length ≤ K) : detK K (nfaOf d) = some (trimD d) := by
  have hl := dfaOk_len hd
  have hf := fine_of hd
  unfold detK
  rw [if_pos ⟨nfaOf_ok hd, Nat.le_trans (met_one hd K) hK⟩]
  congr 1
  let f : Int → Int × Int := fun x => (((2 ^ x.toNat : Nat) : Int), 0)
  let Q : Int → Prop := fun x => ∃ s : Nat, x = (s : Int) ∧ s < d.next.length
  have hm := numDfa_mapQ (nx := dnx d) (nx' := nxS (nfaOf d)) (a := (0 : Int)) (f := f) (Q := Q) (en := den d) (en' := enS (nfaOf d)) (K := K) ⟨0, rfl, by omega⟩ (by
    rintro x c hc ⟨s, rfl, hs⟩
    obtain ⟨h3, h4⟩ := fine_nx hf hs hc
    exact ⟨_, h4, h3⟩) (by
    rintro x y ⟨s, rfl, hs⟩ ⟨t, rfl, ht⟩ h
    have h1 : ((2 ^ s : Nat) : Int) = ((2 ^ t : Nat) : Int) := congrArg Prod.fst h
    have : s = t := (Nat.pow_right_inj (show 1 < 2 by omega)).1 (Int.ofNat_inj.1 h1)
    rw [this]) (by
    rintro x c hc ⟨s, rfl, hs⟩
    obtain ⟨h3, h4⟩ := fine_nx hf hs hc
    simp only [f, h4, nxS, Int.toNat_natCast]
    rw [show (nfaOf d).moves = mvs d d.next.length from rfl, stV_nx hd hs hc]) (by
    rintro x ⟨s, rfl, hs⟩
    rw [den_nat]
    simp only [f, enS, Int.toNat_natCast]
    unfold endV
    rw [show (nfaOf d).ends = eds d d.next.length from rfl, Bool.eq_iff_iff, List.any_eq_true]
    constructor
    · rintro ⟨x, hx, hb⟩
      obtain ⟨t, rfl, ht, he⟩ := eds_mem.1 hx
      rw [bit_two, decide_eq_true_eq] at hb
      simp only [Int.toNat_natCast] at hb
      rw [hb]
      exact he
    · intro he
      refine ⟨(s : Int), eds_mem.2 ⟨s, rfl, hs, he⟩, ?_⟩
      rw [bit_two]
      simp)
  have h0 : f 0 = ((((fstV (nfaOf d) : Nat) : Int), 0) : Int × Int) := by rw [fst_nfaOf]; rfl
  rw [h0] at hm
  refine hm.trans ?_
  unfold trimD
  rw [bat_done (met_facts hf _).2 hK]
end Go.Proofs.Ythhbjkgchabfmaa
