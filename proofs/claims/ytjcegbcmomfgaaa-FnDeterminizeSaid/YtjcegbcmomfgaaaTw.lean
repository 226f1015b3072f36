/-
  Automata as automata with choices, turned round; plain: they are valid, and what is determinized is valid.
  No condition: this text speaks of no program.
  append of all of another slice, which may be empty: what it hands back, as a step of the walk.
  Conditions: the first slice is the call's own; the second one reads as such data.
  The walks over the program's Dfa.nfa and Nfa.turn, and over Clone.
  Conditions: the automaton is valid; the arguments read as such data.
-/
import Derived.Test.YtjcegbcmomfgaaaDm
import Derived.Test.YtjcegbcmomfgaaaNk
import Derived.Test.YtjcegbcmomfgaaaLr
import Derived.Test.YtjcegbcmomfgaaaCtx
import Derived.Deep.AppendLies
import Derived.Deep.Upon
import Derived.ProofKit
import Derived.OpenShut
namespace Go.Proofs.Ytjcegbcmomfgaaa
open Go.RowKit

def rowM (d : DfaD) (s : Nat) : List (Int × Int × Int) := (List.range 3).map fun (c : Nat) => ((s : Int), (c : Int), (d.next.getD s []).getD c 0)
def mvs (d : DfaD) : Nat → List (Int × Int × Int)
  | 0 => []
  | s + 1 => mvs d s ++ rowM d s
def nfaOf (d : DfaD) : NfaD := ⟨d.next.length, mvs d d.next.length, [0], eds d d.next.length⟩
theorem rowM_len (d : DfaD) (s : Nat) : (rowM d s).length = 3 := by simp [rowM]
theorem rowM_take (d : DfaD) (s : Nat) {c : Nat} (hc : c < 3) : (rowM d s).take (c + 1) = (rowM d s).take c ++ [((s : Int), (c : Int), (d.next.getD s []).getD c 0)] := by
  rw [List.take_succ_eq_append_getElem (by rw [rowM_len]; exact hc)]
  simp [rowM]
theorem mvs_len (d : DfaD) : ∀ s, (mvs d s).length = 3 * s
  | 0 => rfl
  | s + 1 => by
    show (mvs d s ++ rowM d s).length = _
    rw [List.length_append, mvs_len d s, rowM_len]
    omega
theorem eds_in (d : DfaD) : ∀ s, ∀ x ∈ eds d s, 0 ≤ x ∧ x < (s : Int)
  | 0, x, hx => by simp [eds] at hx
  | s + 1, x, hx => by
    have ih := eds_in d s
    unfold eds at hx
    split at hx
    · rcases List.mem_append.1 hx with hx | hx
      · have := ih x hx; omega
      · simp only [List.mem_singleton] at hx
        omega
    · have := ih x hx; omega
theorem mvs_in {d : DfaD} (hd : dfaOk d.next d.ends = true) : ∀ s, s ≤ d.next.length → mvIn d.next.length (mvs d s)
  | 0, _, x, hx => by simp [mvs] at hx
  | s + 1, hs, x, hx => by
    have hx : x ∈ mvs d s ++ rowM d s := hx
    rcases List.mem_append.1 hx with hx | hx
    · exact mvs_in hd s (by omega) x hx
    · obtain ⟨c, hc, rfl⟩ := List.mem_map.1 hx
      have := (dfaOk_row hd (show s < d.next.length by omega)).2 c (List.mem_range.1 hc)
      simp only
      omega
/-- What the walks over determinize ask. -/
structure DetOk (n : NfaD) (m : Nat) : Prop where
  st : n.states = (m : Int)
  m40 : m ≤ 40
  mv : mvIn m n.moves
  ml : n.moves.length ≤ 1000
  f : inN m n.firsts
  fl : n.firsts.length ≤ 1000
  e : inN m n.ends
  el : n.ends.length ≤ 1000
theorem nfaOf_det {d : DfaD} (hd : dfaOk d.next d.ends = true) : DetOk (nfaOf d) d.next.length := by
  have hl := dfaOk_len hd
  refine ⟨rfl, hl.2.1, mvs_in hd _ (Nat.le_refl _), ?_, fun x hx => ?_, by simp [nfaOf], eds_in d _, ?_⟩
  · show (mvs d d.next.length).length ≤ _
    rw [mvs_len]; omega
  · simp only [nfaOf, List.mem_singleton] at hx
    omega
  · show (eds d d.next.length).length ≤ _
    have := eds_len d d.next.length
    omega
theorem turnN_det {n : NfaD} {m : Nat} (h : DetOk n m) : DetOk (turnN n) m := by
  refine ⟨h.st, h.m40, fun x hx => ?_, by simpa [turnN] using h.ml, h.e, h.el, h.f, h.fl⟩
  obtain ⟨y, hy, rfl⟩ := List.mem_map.1 hx
  have := h.mv y hy
  exact ⟨this.2, this.1⟩
def detQK (K : Nat) (n : NfaD) : Option DfaD := if (metS n K).length ≤ K then some (numDfa (nxS n) (enS n) (metS n K)) else none
theorem detQK_ok {K : Nat} (hK : K = 40) {n : NfaD} {d : DfaD} (h : detQK K n = some d) : dfaOk d.next d.ends = true := by
  unfold detQK at h
  split at h
  · rename_i hle
    simp only [Option.some.injEq] at h
    subst h
    obtain ⟨h1, h2, h3, h4⟩ := fine_num (en := enS n) (nx := nxS n) (a := (((fstV n : Nat) : Int), 0)) hle (by omega)
    refine dfaOk_of h1 (by rw [numDfa_len]; omega) h3 fun i hi => ?_
    exact h4 i hi
  · cases h
/-- An automaton turned and determinized, once; twice. -/
def tdK (K : Nat) (d : DfaD) : Option DfaD := detQK K (turnN (nfaOf d))
def ttK (K : Nat) (d : DfaD) : Option DfaD := if dfaOk d.next d.ends = true then (tdK K d).bind (tdK K) else none
end Go.Proofs.Ytjcegbcmomfgaaa
namespace Go.Proofs.Ytjcegbcmomfgaaa
open Go.RowKit

set_option maxHeartbeats 4000000 in
set_option maxRecDepth 100000 in
theorem implNfa_any (d : DfaD) (v : Value) (w : World) (hd : dfaOk d.next d.ends = true) (h : DfaR 0 w v d) :
    Calls Try.prog 38 #[v] w fun e w' => RNfaS (nfaOf d) w e w' := by
  obtain ⟨v1, v2, rfl, q1, q2⟩ := h
  obtain ⟨L, hL⟩ : ∃ L, L = d.next.length := ⟨_, rfl⟩
  obtain ⟨hl1, hl2, hl3⟩ := dfaOk_len hd
  have hrow := fun (i : Nat) (hi : i < d.next.length) => (dfaOk_row hd hi)
  obtain ⟨av, cv, rfl, hc1, hc2, hr1⟩ := q1.formI
  obtain ⟨b1, o1, rfl, -, hb1, hcs1⟩ := hr1 (by omega)
  obtain ⟨a2, c2, rfl, hc3, hc4, hr2⟩ := q2.form
  obtain ⟨b2, o2, rfl, -, hb2, hcs2⟩ := hr2 (by omega)
  rw [hl3] at hcs2 hc3
  rw [← hL] at hl1 hl2 hl3 hrow hc1 hcs1 hcs2 hc3
  rw [hl3, ← hL]
  obtain ⟨i0, hi, hz0, hz1, hz2⟩ := info_parts Try.infoMv
  obtain ⟨j0, hj, hy0, hy1, hy2⟩ := info_parts Try.infoInt
  have hS0 := (((St.start w).alloc _ rfl #[.slice (some ⟨b1, o1, none⟩) L cv, .slice (some ⟨b2, o2, none⟩) L c2] 33).alloc (w.heap.size + 1) (by simp) #[.int .i64 0, .slice none 0 0, .slice none 0 0, .slice none 0 0] 26).alloc (w.heap.size + 1 + 1) (by simp) #[.int .i64 0] 3
  have hS1 := (hS0.boxrow 2 1 1 [.int .i64 0] rfl rfl (by unfold maxLen; omega)).alloc (w.heap.size + 1 + 1 + 1) (by simp) #[.int .i64 L, .slice none 0 0, .slice (some ⟨w.heap.size + 1 + 1, 0, none⟩) 1 1, .slice none 0 0] 26
  have hS2 := (hS1.nilRow 76 3).nilRow 3 1
  have Hrow := Lib.hid hrow
  have Hcs1 := Lib.hid hcs1
  have Hcs2 := Lib.hid hcs2
  have HhS2 := Lib.hid hS2; clear hS2
  have HhL := Lib.hid hL; clear hL
  have Hhi := Lib.hid hi; clear hi
  have Hhz0 := Lib.hid hz0; clear hz0
  have Hhz1 := Lib.hid hz1; clear hz1
  have Hhz2 := Lib.hid hz2; clear hz2
  have Hhj := Lib.hid hj; clear hj
  have Hhy0 := Lib.hid hy0; clear hy0
  have Hhy1 := Lib.hid hy1; clear hy1
  have Hhy2 := Lib.hid hy2; clear hy2
  clear hS0 hS1 hrow hcs1 hcs2 hr1 hr2 q1 q2 hd hl3
  go_enter Try.func38, Try.ntmps38
  go_wp2
  go_loopw [16] (fun i wr => ∃ (s c1 c3 : Nat) (a1 a3 : Option Addr), i = .int .i64 s ∧ s ≤ L ∧ St w wr [Ent.box w.heap.size #[.slice (some ⟨b1, o1, none⟩) L cv, .slice (some ⟨b2, o2, none⟩) L c2] 33, Ent.box (w.heap.size + 1) #[.int .i64 0, .slice none 0 0, .slice none 0 0, .slice none 0 0] 26,
      Ent.row 3 1 (.slice (some ⟨w.heap.size + 1 + 1, 0, none⟩) 1 1) 1 [.int .i64 0], Ent.box (w.heap.size + 1 + 1 + 1) #[.int .i64 L, .slice a1 (mvs d s).length c1, .slice (some ⟨w.heap.size + 1 + 1, 0, none⟩) 1 1, .slice a3 (eds d s).length c3] 26,
      Ent.row 76 3 (.slice a1 (mvs d s).length c1) (mvs d s).length ((mvs d s).flatMap moveCells), Ent.row 3 1 (.slice a3 (eds d s).length c3) (eds d s).length (intCells (eds d s))])
    (fun i _ => L - (intOf i).toNat)
  case atStart => exact ⟨0, 0, 0, none, none, rfl, Nat.zero_le _, HhS2.out⟩
  case round =>
    obtain ⟨s, c1, c3, a1, a3, rfl, hs, hS⟩ := hrel
    obtain ⟨wo, hwo⟩ : ∃ wo : World, wo = wr := ⟨_, rfl⟩
    subst hwo
    by_cases hlt : s < L
    · have hlt2 : (s : Int) < L := by omega
      obtain ⟨ar, cr, hcr, -, -, hIr⟩ := Hcs1.out s hlt
      obtain ⟨hr3, -⟩ := Hrow.out s (by have := HhL.out; omega)
      rw [hr3] at hcr hIr
      obtain ⟨_, _, hform, hrc1, hrc2, hrr⟩ := hIr.form
      rw [hr3] at hform hrr hrc1
      simp only [Value.slice.injEq, true_and] at hform
      obtain ⟨rfl, rfl⟩ := hform
      obtain ⟨b3, o3, rfl, -, hb3, hcs3⟩ := hrr (by omega)
      have k1 := (bcell hS.bel b1 _ hb1).trans hcr
      have hml := mvs_len d s
      obtain ⟨M, hM⟩ : ∃ M, M = mvs d s := ⟨_, rfl⟩
      obtain ⟨E, hE⟩ : ∃ E, E = eds d s := ⟨_, rfl⟩
      have hel := eds_len d s
      rw [← hM] at hS hml
      rw [← hE] at hS hel
      have hmle : M.length ≤ 120 := by omega
      have hele : E.length ≤ 40 := by omega
      have Hcs3 := Lib.hid hcs3
      have Hhml := Lib.hid hml; clear hml
      clear hel
      have HhS := Lib.hid hS; clear hS
      have HhM := Lib.hid hM; clear hM
      have HhE := Lib.hid hE; clear hE
      clear hcs3 hrr hIr hcr hr3
      go_wp2
      go_loopw [23] (fun i wi => ∃ (c c1 : Nat) (a1 : Option Addr), i = .int .i64 c ∧ c ≤ 3 ∧ St w wi [Ent.box w.heap.size #[.slice (some ⟨b1, o1, none⟩) L cv, .slice (some ⟨b2, o2, none⟩) L c2] 33, Ent.box (w.heap.size + 1) #[.int .i64 0, .slice none 0 0, .slice none 0 0, .slice none 0 0] 26,
          Ent.row 3 1 (.slice (some ⟨w.heap.size + 1 + 1, 0, none⟩) 1 1) 1 [.int .i64 0], Ent.box (w.heap.size + 1 + 1 + 1) #[.int .i64 L, .slice a1 (M.length + c) c1, .slice (some ⟨w.heap.size + 1 + 1, 0, none⟩) 1 1, .slice a3 E.length c3] 26,
          Ent.row 76 3 (.slice a1 (M.length + c) c1) (M.length + c) ((M ++ (rowM d s).take c).flatMap moveCells), Ent.row 3 1 (.slice a3 E.length c3) E.length (intCells E)])
        (fun i _ => 3 - (intOf i).toNat)
      case atStart => exact ⟨0, c1, a1, rfl, by omega, by rw [List.take_zero, List.append_nil]; exact HhS.out⟩
      case round =>
        obtain ⟨c, c1, a1, rfl, hc3', hSi⟩ := hrel
        by_cases hc : c < 3
        · have hc4 : (c : Int) < 3 := by omega
          have k2 := (bcell hSi.bel b3 _ hb3).trans (Hcs3.out c hc)
          have htk := rowM_take d s hc
          obtain ⟨x, hx⟩ : ∃ x, x = (d.next.getD s []).getD c 0 := ⟨_, rfl⟩
          rw [← hx] at k2 htk
          have e1 := hSi.cell (v := .slice a1 (M.length + c) c1) 3 1 rfl rfl
          have f1 := hSi.fr 3 1 rfl
          have hSa := hSi.alloc_ (.cells #[.int .i64 s, .int .i64 c, .int .i64 x] 76)
          have hRw := hSa.row 4 rfl
          have HhSi := Lib.hid hSi; clear hSi
          have HhSa := Lib.hid hSa; clear hSa
          have HhRw := Lib.hid hRw; clear hRw
          have Hhx := Lib.hid hx; clear hx
          have Hhtk := Lib.hid htk; clear htk
          go_wp2_with (at_builtin; refine wpList_append_lies _ rfl _ _ _ rfl _ 76 i0 (.agg #[.int .i64 0, .int .i64 0, .int .i64 0]) 3 24 Try.underlying23 Hhi.out Hhz0.out Hhz1.out Hhz2.out rfl (by omega) _ (M.length + c) _ rfl HhRw.out ⟨wr.heap.size, 0, none⟩ 1 1 [.int .i64 s, .int .i64 c, .int .i64 x] rfl rfl (World.news_of_block (heap_alloc_new wr _)) one_mv (by omega) (by unfold maxLen; omega) (by omega) HhSa.out.size _ rfl ?_; intro g6 c6 w6 hown6 hgrow6 hat6 hlt6; have HS6 := Lib.hid (HhSa.out.app 4 rfl hown6 hgrow6 hat6); have y1 := HS6.out.cell (v := .slice a1 (M.length + c) c1) 3 1 rfl rfl; have y2 := HS6.out.fr 3 1 rfl; clear hown6 hgrow6 hat6 hlt6)
          go_roundw
          case rel =>
            refine ⟨c + 1, c6, some ⟨g6, 0, none⟩, by go_num, by omega, ?_⟩
            rw [Hhtk.out, ← List.append_assoc, flatM_snoc]
            exact HS6.out.set 3 rfl 1 (.slice (some ⟨g6, 0, none⟩) (M.length + c + 1) c6)
          case measure => simp [intOf]; omega
        · obtain rfl : c = 3 := by omega
          have hta : (rowM d s).take 3 = rowM d s := List.take_of_length_le (by rw [rowM_len]; exact Nat.le_refl _)
          have hM1 : M ++ rowM d s = mvs d (s + 1) := by rw [HhM.out]; rfl
          have hMl : M.length + 3 = (mvs d (s + 1)).length := by rw [mvs_len, Hhml.out]; omega
          rw [hta, hM1, hMl] at hSi
          have k2 := (bcell hSi.bel b2 _ hb2).trans (Hcs2.out s hlt)
          have e0 := hSi.cell (v := .slice (some ⟨b2, o2, none⟩) L c2) 0 1 rfl rfl
          have HhSi := Lib.hid hSi; clear hSi
          have HhM1 := Lib.hid hM1; clear hM1
          have HhMl := Lib.hid hMl; clear hMl
          clear hta
          cases hz : d.ends.getD s false with
          | false =>
            rw [hz] at k2
            have hE1 : eds d (s + 1) = E := by rw [HhE.out]; show (if d.ends.getD s false = true then _ else _) = _; rw [hz]; rfl
            have HhE1 := Lib.hid hE1; clear hE1
            have Hhz := Lib.hid hz; clear hz
            go_wp2
            go_roundw
            case rel =>
              refine ⟨s + 1, c1, c3, a1, a3, by go_num, by omega, ?_⟩
              rw [HhE1.out]
              exact HhSi.out
            case measure => simp [intOf]; omega
          | true =>
            rw [hz] at k2
            have hE1 : eds d (s + 1) = E ++ [(s : Int)] := by rw [HhE.out]; show (if d.ends.getD s false = true then _ else _) = _; rw [hz]; rfl
            have e1 := HhSi.out.cell (v := .slice a3 E.length c3) 3 3 rfl rfl
            have f1 := HhSi.out.fr 3 3 rfl
            have hSa := HhSi.out.alloc_ (.cells #[.int .i64 s] 3)
            have hRw := hSa.row 5 rfl
            have HhSa := Lib.hid hSa; clear hSa
            have HhRw := Lib.hid hRw; clear hRw
            have HhE1 := Lib.hid hE1; clear hE1
            have Hhz := Lib.hid hz; clear hz
            go_wp2_with (at_builtin; refine wpList_append_lies _ rfl _ _ _ rfl _ 3 j0 (.int .i64 0) 1 8 Try.underlying24 Hhj.out Hhy0.out Hhy1.out Hhy2.out rfl (by omega) _ E.length _ rfl HhRw.out ⟨wr.heap.size, 0, none⟩ 1 1 [.int .i64 s] rfl rfl (World.news_of_block (heap_alloc_new wr _)) on_i (by omega) (by unfold maxLen; omega) (by omega) HhSa.out.size _ rfl ?_; intro g6 c6 w6 hown6 hgrow6 hat6 hlt6; have HS6 := Lib.hid (HhSa.out.app 5 rfl hown6 hgrow6 hat6); have y1 := HS6.out.cell (v := .slice a3 E.length c3) 3 3 rfl rfl; have y2 := HS6.out.fr 3 3 rfl; clear hown6 hgrow6 hat6 hlt6)
            go_roundw
            case rel =>
              refine ⟨s + 1, c1, c6, a1, some ⟨g6, 0, none⟩, by go_num, by omega, ?_⟩
              rw [HhE1.out, List.length_append, List.length_singleton, intC_sn]
              exact HS6.out.set 3 rfl 3 (.slice (some ⟨g6, 0, none⟩) (E.length + 1) c6)
            case measure => simp [intOf]; omega
    · obtain rfl : s = L := by omega
      have hge : (s : Int) ≤ s := Int.le_refl _
      obtain ⟨M, hM⟩ : ∃ M, M = mvs d s := ⟨_, rfl⟩
      obtain ⟨E, hE⟩ : ∃ E, E = eds d s := ⟨_, rfl⟩
      rw [← hM, ← hE] at hS
      have f0 := hS.fr 1 0 rfl
      have f1 := hS.fr 1 1 rfl
      have f2 := hS.fr 1 2 rfl
      have f3 := hS.fr 1 3 rfl
      have k0 := hS.cell (v := .int .i64 0) 1 0 rfl rfl
      have k1 := hS.cell (v := .slice none 0 0) 1 1 rfl rfl
      have k2 := hS.cell (v := .slice none 0 0) 1 2 rfl rfl
      have k3 := hS.cell (v := .slice none 0 0) 1 3 rfl rfl
      have d0 := hS.cell (v := .int .i64 s) 3 0 rfl rfl
      have d1 := hS.cell (v := .slice a1 M.length c1) 3 1 rfl rfl
      have d2 := hS.cell (v := .slice (some ⟨w.heap.size + 1 + 1, 0, none⟩) 1 1) 3 2 rfl rfl
      have d3 := hS.cell (v := .slice a3 E.length c3) 3 3 rfl rfl
      have HhS := Lib.hid hS; clear hS
      have HhM := Lib.hid hM; clear hM
      have HhE := Lib.hid hE; clear hE
      go_wp2
      have hq := (((HhS.out.set 1 rfl 0 (.int .i64 s)).set 1 rfl 1 (.slice a1 M.length c1)).set 1 rfl 2 (.slice (some ⟨w.heap.size + 1 + 1, 0, none⟩) 1 1)).set 1 rfl 3 (.slice a3 E.length c3)
      have q0 := hq.cell (v := .int .i64 s) 1 0 rfl rfl
      have q1 := hq.cell (v := .slice a1 M.length c1) 1 1 rfl rfl
      have q2 := hq.cell (v := .slice (some ⟨w.heap.size + 1 + 1, 0, none⟩) 1 1) 1 2 rfl rfl
      have q3 := hq.cell (v := .slice a3 E.length c3) 1 3 rfl rfl
      refine bodyPost_ret (v := .agg #[.int .i64 s, .slice a1 M.length c1, .slice (some ⟨w.heap.size + 1 + 1, 0, none⟩) 1 1, .slice a3 E.length c3]) (by simp [results, Try.results38, go_sem, q0, q1, q2, q3]) rfl ?_
      have hr : RNfaS ⟨(s : Int), M, [0], E⟩ w (.returned (.agg #[.int .i64 s, .slice a1 M.length c1, .slice (some ⟨w.heap.size + 1 + 1, 0, none⟩) 1 1, .slice a3 E.length c3])) _ := ⟨a1, c1, _, 1, a3, c3, rfl, hq.pick [4, 2, 5] (by decide)⟩
      have hn : nfaOf d = ⟨(s : Int), M, [0], E⟩ := by unfold nfaOf; rw [← HhL.out, HhM.out, HhE.out]
      rw [hn]
      exact hr
end Go.Proofs.Ytjcegbcmomfgaaa
