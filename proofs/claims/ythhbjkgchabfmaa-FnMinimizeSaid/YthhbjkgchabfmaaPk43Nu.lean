/-
  The walk over the reference's automaton of sets of states: l9Dfa.
  Conditions: there are m states, at most 40; moves, first and last states lie below; the automaton reads as such.
  The walks over Determinize, of the program and of the reference.
  Conditions: the automaton reads as such.
-/
import Derived.Test.YthhbjkgchabfmaaPk21Ry
import Derived.Test.YthhbjkgchabfmaaPk42Det
namespace Go.Proofs.Ythhbjkgchabfmaa
open Go.RowKit Go.Maps
end Go.Proofs.Ythhbjkgchabfmaa
namespace Go.Proofs.Ythhbjkgchabfmaa
open Go.RowKit Go.Maps
def detK (K : Nat) (n : NfaD) : Option DfaD := if nfaOk n = true ∧ (metS n K).length ≤ K then some (numDfa (nxS n) (enS n) (metS n K)) else none
end Go.Proofs.Ythhbjkgchabfmaa
namespace Go.Proofs.Ythhbjkgchabfmaa
open Go.RowKit
structure DetOk (n : NfaD) (m : Nat) : Prop where
  st : n.states = (m : Int)
  m40 : m ≤ 40
  mv : mvIn m n.moves
  ml : n.moves.length ≤ 1000
  f : inN m n.firsts
  fl : n.firsts.length ≤ 1000
  e : inN m n.ends
  el : n.ends.length ≤ 1000
theorem nfaOf_det {d : DfaD} (hd : dfaOk d.next d.ends = true) : DetOk (nfaOf d) d.next.length := by
  have hl := dfaOk_len hd
  refine ⟨rfl, hl.2.1, mvs_in hd _ (Nat.le_refl _), ?_, fun x hx => ?_, by simp [nfaOf], eds_in d _, ?_⟩
  · show (mvs d d.next.length).length ≤ _
    rw [mvs_len]; omega
  · simp only [nfaOf, List.mem_singleton] at hx
    omega
  · show (eds d d.next.length).length ≤ _
    have := eds_len d d.next.length
    omega
def detQK (K : Nat) (n : NfaD) : Option DfaD := if (metS n K).length ≤ K then some (numDfa (nxS n) (enS n) (metS n K)) else none
theorem detQK_ok {K : Nat} (hK : K = 40) {n : NfaD} {d : DfaD} (h : detQK K n = some d) : dfaOk d.next d.ends = true := by
  unfold detQK at h
  split at h
  · rename_i hle
    simp only [Option.some.injEq] at h
    subst h
    obtain ⟨h1, h2, h3, h4⟩ := fine_num (en := enS n) (nx := nxS n) (a := (((fstV n : Nat) : Int), 0)) hle (by omega)
    refine dfaOk_of h1 (by rw [numDfa_len]; omega) h3 fun i hi => ?_
    exact h4 i hi
  · cases h
end Go.Proofs.Ythhbjkgchabfmaa
namespace Go.Proofs.Ythhbjkgchabfmaa
open Go.RowKit
set_option maxHeartbeats 4000000 in
set_option maxRecDepth 100000 in
theorem implNfa_any (d : DfaD) (v : Value) (w : World) (hd : dfaOk d.next d.ends = true) (h : DfaR 0 w v d) :
    Calls Try.prog 63 #[v] w fun e w' => RNfaS (nfaOf d) w e w' := by
  obtain ⟨v1, v2, rfl, q1, q2⟩ := h
  obtain ⟨L, hL⟩ : ∃ L, L = d.next.length := ⟨_, rfl⟩
  obtain ⟨hl1, hl2, hl3⟩ := dfaOk_len hd
  have hrow := fun (i : Nat) (hi : i < d.next.length) => (dfaOk_row hd hi)
  obtain ⟨av, cv, rfl, hc1, hc2, hr1⟩ := q1.formI
  obtain ⟨b1, o1, rfl, -, hb1, hcs1⟩ := hr1 (by omega)
  obtain ⟨a2, c2, rfl, hc3, hc4, hr2⟩ := q2.form
  obtain ⟨b2, o2, rfl, -, hb2, hcs2⟩ := hr2 (by omega)
  rw [hl3] at hcs2 hc3
  rw [← hL] at hl1 hl2 hl3 hrow hc1 hcs1 hcs2 hc3
  rw [hl3, ← hL]
  obtain ⟨i0, hi, hz0, hz1, hz2⟩ := info_parts Try.infoMv
  obtain ⟨j0, hj, hy0, hy1, hy2⟩ := info_parts Try.infoInt
  have hS0 := (((St.start w).alloc _ rfl #[.slice (some ⟨b1, o1, none⟩) L cv, .slice (some ⟨b2, o2, none⟩) L c2] 26).alloc (w.heap.size + 1) (by simp) #[.int .i64 0, .slice none 0 0, .slice none 0 0, .slice none 0 0] 31).alloc (w.heap.size + 1 + 1) (by simp) #[.int .i64 0] 3
  have hS1 := (hS0.boxrow 2 1 1 [.int .i64 0] rfl rfl (by unfold maxLen; omega)).alloc (w.heap.size + 1 + 1 + 1) (by simp) #[.int .i64 L, .slice none 0 0, .slice (some ⟨w.heap.size + 1 + 1, 0, none⟩) 1 1, .slice none 0 0] 31
  have hS2 := (hS1.nilRow 68 3).nilRow 3 1
  have Hrow := Lib.hid hrow
  have Hcs1 := Lib.hid hcs1
  have Hcs2 := Lib.hid hcs2
  have HhS2 := Lib.hid hS2; clear hS2
  have HhL := Lib.hid hL; clear hL
  have Hhi := Lib.hid hi; clear hi
  have Hhz0 := Lib.hid hz0; clear hz0
  have Hhz1 := Lib.hid hz1; clear hz1
  have Hhz2 := Lib.hid hz2; clear hz2
  have Hhj := Lib.hid hj; clear hj
  have Hhy0 := Lib.hid hy0; clear hy0
  have Hhy1 := Lib.hid hy1; clear hy1
  have Hhy2 := Lib.hid hy2; clear hy2
  clear hS0 hS1 hrow hcs1 hcs2 hr1 hr2 q1 q2 hd hl3
  go_enter Try.func63, Try.ntmps63
  go_wp2
  go_loopw [16] (fun i wr => ∃ (s c1 c3 : Nat) (a1 a3 : Option Addr), i = .int .i64 s ∧ s ≤ L ∧ St w wr [Ent.box w.heap.size #[.slice (some ⟨b1, o1, none⟩) L cv, .slice (some ⟨b2, o2, none⟩) L c2] 26, Ent.box (w.heap.size + 1) #[.int .i64 0, .slice none 0 0, .slice none 0 0, .slice none 0 0] 31,
      Ent.row 3 1 (.slice (some ⟨w.heap.size + 1 + 1, 0, none⟩) 1 1) 1 [.int .i64 0], Ent.box (w.heap.size + 1 + 1 + 1) #[.int .i64 L, .slice a1 (mvs d s).length c1, .slice (some ⟨w.heap.size + 1 + 1, 0, none⟩) 1 1, .slice a3 (eds d s).length c3] 31,
      Ent.row 68 3 (.slice a1 (mvs d s).length c1) (mvs d s).length ((mvs d s).flatMap moveCells), Ent.row 3 1 (.slice a3 (eds d s).length c3) (eds d s).length (intCells (eds d s))])
    (fun i _ => L - (intOf i).toNat)
  case atStart => exact ⟨0, 0, 0, none, none, rfl, Nat.zero_le _, HhS2.out⟩
  case round =>
    obtain ⟨s, c1, c3, a1, a3, rfl, hs, hS⟩ := hrel
    obtain ⟨wo, hwo⟩ : ∃ wo : World, wo = wr := ⟨_, rfl⟩
    subst hwo
    by_cases hlt : s < L
    · have hlt2 : (s : Int) < L := by omega
      obtain ⟨ar, cr, hcr, -, -, hIr⟩ := Hcs1.out s hlt
      obtain ⟨hr3, -⟩ := Hrow.out s (by have := HhL.out; omega)
      rw [hr3] at hcr hIr
      obtain ⟨_, _, hform, hrc1, hrc2, hrr⟩ := hIr.form
      rw [hr3] at hform hrr hrc1
      simp only [Value.slice.injEq, true_and] at hform
      obtain ⟨rfl, rfl⟩ := hform
      obtain ⟨b3, o3, rfl, -, hb3, hcs3⟩ := hrr (by omega)
      have k1 := (bcell hS.bel b1 _ hb1).trans hcr
      have hml := mvs_len d s
      obtain ⟨M, hM⟩ : ∃ M, M = mvs d s := ⟨_, rfl⟩
      obtain ⟨E, hE⟩ : ∃ E, E = eds d s := ⟨_, rfl⟩
      have hel := eds_len d s
      rw [← hM] at hS hml
      rw [← hE] at hS hel
      have hmle : M.length ≤ 120 := by omega
      have hele : E.length ≤ 40 := by omega
      have Hcs3 := Lib.hid hcs3
      have Hhml := Lib.hid hml; clear hml
      clear hel
      have HhS := Lib.hid hS; clear hS
      have HhM := Lib.hid hM; clear hM
      have HhE := Lib.hid hE; clear hE
      clear hcs3 hrr hIr hcr hr3
      go_wp2
      go_loopw [23] (fun i wi => ∃ (c c1 : Nat) (a1 : Option Addr), i = .int .i64 c ∧ c ≤ 3 ∧ St w wi [Ent.box w.heap.size #[.slice (some ⟨b1, o1, none⟩) L cv, .slice (some ⟨b2, o2, none⟩) L c2] 26, Ent.box (w.heap.size + 1) #[.int .i64 0, .slice none 0 0, .slice none 0 0, .slice none 0 0] 31,
          Ent.row 3 1 (.slice (some ⟨w.heap.size + 1 + 1, 0, none⟩) 1 1) 1 [.int .i64 0], Ent.box (w.heap.size + 1 + 1 + 1) #[.int .i64 L, .slice a1 (M.length + c) c1, .slice (some ⟨w.heap.size + 1 + 1, 0, none⟩) 1 1, .slice a3 E.length c3] 31,
          Ent.row 68 3 (.slice a1 (M.length + c) c1) (M.length + c) ((M ++ (rowM d s).take c).flatMap moveCells), Ent.row 3 1 (.slice a3 E.length c3) E.length (intCells E)])
        (fun i _ => 3 - (intOf i).toNat)
      case atStart => exact ⟨0, c1, a1, rfl, by omega, by rw [List.take_zero, List.append_nil]; exact HhS.out⟩
      case round =>
        obtain ⟨c, c1, a1, rfl, hc3', hSi⟩ := hrel
        by_cases hc : c < 3
        · have hc4 : (c : Int) < 3 := by omega
          have k2 := (bcell hSi.bel b3 _ hb3).trans (Hcs3.out c hc)
          have htk := rowM_take d s hc
          obtain ⟨x, hx⟩ : ∃ x, x = (d.next.getD s []).getD c 0 := ⟨_, rfl⟩
          rw [← hx] at k2 htk
          have e1 := hSi.cell (v := .slice a1 (M.length + c) c1) 3 1 rfl rfl
          have f1 := hSi.fr 3 1 rfl
          have hSa := hSi.alloc_ (.cells #[.int .i64 s, .int .i64 c, .int .i64 x] 68)
          have hRw := hSa.row 4 rfl
          have HhSi := Lib.hid hSi; clear hSi
          have HhSa := Lib.hid hSa; clear hSa
          have HhRw := Lib.hid hRw; clear hRw
          have Hhx := Lib.hid hx; clear hx
          have Hhtk := Lib.hid htk; clear htk
          go_wp2_with (at_builtin; refine wpList_append_lies _ rfl _ _ _ rfl _ 68 i0 (.agg #[.int .i64 0, .int .i64 0, .int .i64 0]) 3 24 Try.underlying28 Hhi.out Hhz0.out Hhz1.out Hhz2.out rfl (by omega) _ (M.length + c) _ rfl HhRw.out ⟨wr.heap.size, 0, none⟩ 1 1 [.int .i64 s, .int .i64 c, .int .i64 x] rfl rfl (World.news_of_block (heap_alloc_new wr _)) one_mv (by omega) (by unfold maxLen; omega) (by omega) HhSa.out.size _ rfl ?_; intro g6 c6 w6 hown6 hgrow6 hat6 hlt6; have HS6 := Lib.hid (HhSa.out.app 4 rfl hown6 hgrow6 hat6); have y1 := HS6.out.cell (v := .slice a1 (M.length + c) c1) 3 1 rfl rfl; have y2 := HS6.out.fr 3 1 rfl; clear hown6 hgrow6 hat6 hlt6)
          go_roundw
          case rel =>
            refine ⟨c + 1, c6, some ⟨g6, 0, none⟩, by go_num, by omega, ?_⟩
            rw [Hhtk.out, ← List.append_assoc, flatM_snoc]
            exact HS6.out.set 3 rfl 1 (.slice (some ⟨g6, 0, none⟩) (M.length + c + 1) c6)
          case measure => simp [intOf]; omega
        · obtain rfl : c = 3 := by omega
          have hta : (rowM d s).take 3 = rowM d s := List.take_of_length_le (by rw [rowM_len]; exact Nat.le_refl _)
          have hM1 : M ++ rowM d s = mvs d (s + 1) := by rw [HhM.out]; rfl
          have hMl : M.length + 3 = (mvs d (s + 1)).length := by rw [mvs_len, Hhml.out]; omega
          rw [hta, hM1, hMl] at hSi
          have k2 := (bcell hSi.bel b2 _ hb2).trans (Hcs2.out s hlt)
          have e0 := hSi.cell (v := .slice (some ⟨b2, o2, none⟩) L c2) 0 1 rfl rfl
          have HhSi := Lib.hid hSi; clear hSi
          have HhM1 := Lib.hid hM1; clear hM1
          have HhMl := Lib.hid hMl; clear hMl
          clear hta
          cases hz : d.ends.getD s false with
          | false =>
            rw [hz] at k2
            have hE1 : eds d (s + 1) = E := by rw [HhE.out]; show (if d.ends.getD s false = true then _ else _) = _; rw [hz]; rfl
            have HhE1 := Lib.hid hE1; clear hE1
            have Hhz := Lib.hid hz; clear hz
            go_wp2
            go_roundw
            case rel =>
              refine ⟨s + 1, c1, c3, a1, a3, by go_num, by omega, ?_⟩
              rw [HhE1.out]
              exact HhSi.out
            case measure => simp [intOf]; omega
          | true =>
            rw [hz] at k2
            have hE1 : eds d (s + 1) = E ++ [(s : Int)] := by rw [HhE.out]; show (if d.ends.getD s false = true then _ else _) = _; rw [hz]; rfl
            have e1 := HhSi.out.cell (v := .slice a3 E.length c3) 3 3 rfl rfl
            have f1 := HhSi.out.fr 3 3 rfl
            have hSa := HhSi.out.alloc_ (.cells #[.int .i64 s] 3)
            have hRw := hSa.row 5 rfl
            have HhSa := Lib.hid hSa; clear hSa
            have HhRw := Lib.hid hRw; clear hRw
            have HhE1 := Lib.hid hE1; clear hE1
            have Hhz := Lib.hid hz; clear hz
            go_wp2_with (at_builtin; refine wpList_append_lies _ rfl _ _ _ rfl _ 3 j0 (.int .i64 0) 1 8 Try.underlying29 Hhj.out Hhy0.out Hhy1.out Hhy2.out rfl (by omega) _ E.length _ rfl HhRw.out ⟨wr.heap.size, 0, none⟩ 1 1 [.int .i64 s] rfl rfl (World.news_of_block (heap_alloc_new wr _)) on_i (by omega) (by unfold maxLen; omega) (by omega) HhSa.out.size _ rfl ?_; intro g6 c6 w6 hown6 hgrow6 hat6 hlt6; have HS6 := Lib.hid (HhSa.out.app 5 rfl hown6 hgrow6 hat6); have y1 := HS6.out.cell (v := .slice a3 E.length c3) 3 3 rfl rfl; have y2 := HS6.out.fr 3 3 rfl; clear hown6 hgrow6 hat6 hlt6)
            go_roundw
            case rel =>
              refine ⟨s + 1, c1, c6, a1, some ⟨g6, 0, none⟩, by go_num, by omega, ?_⟩
              rw [HhE1.out, List.length_append, List.length_singleton, intC_sn]
              exact HS6.out.set 3 rfl 3 (.slice (some ⟨g6, 0, none⟩) (E.length + 1) c6)
            case measure => simp [intOf]; omega
    · obtain rfl : s = L := by omega
      have hge : (s : Int) ≤ s := Int.le_refl _
      obtain ⟨M, hM⟩ : ∃ M, M = mvs d s := ⟨_, rfl⟩
      obtain ⟨E, hE⟩ : ∃ E, E = eds d s := ⟨_, rfl⟩
      rw [← hM, ← hE] at hS
      have f0 := hS.fr 1 0 rfl
      have f1 := hS.fr 1 1 rfl
      have f2 := hS.fr 1 2 rfl
      have f3 := hS.fr 1 3 rfl
      have k0 := hS.cell (v := .int .i64 0) 1 0 rfl rfl
      have k1 := hS.cell (v := .slice none 0 0) 1 1 rfl rfl
      have k2 := hS.cell (v := .slice none 0 0) 1 2 rfl rfl
      have k3 := hS.cell (v := .slice none 0 0) 1 3 rfl rfl
      have d0 := hS.cell (v := .int .i64 s) 3 0 rfl rfl
      have d1 := hS.cell (v := .slice a1 M.length c1) 3 1 rfl rfl
      have d2 := hS.cell (v := .slice (some ⟨w.heap.size + 1 + 1, 0, none⟩) 1 1) 3 2 rfl rfl
      have d3 := hS.cell (v := .slice a3 E.length c3) 3 3 rfl rfl
      have HhS := Lib.hid hS; clear hS
      have HhM := Lib.hid hM; clear hM
      have HhE := Lib.hid hE; clear hE
      go_wp2
      have hq := (((HhS.out.set 1 rfl 0 (.int .i64 s)).set 1 rfl 1 (.slice a1 M.length c1)).set 1 rfl 2 (.slice (some ⟨w.heap.size + 1 + 1, 0, none⟩) 1 1)).set 1 rfl 3 (.slice a3 E.length c3)
      have q0 := hq.cell (v := .int .i64 s) 1 0 rfl rfl
      have q1 := hq.cell (v := .slice a1 M.length c1) 1 1 rfl rfl
      have q2 := hq.cell (v := .slice (some ⟨w.heap.size + 1 + 1, 0, none⟩) 1 1) 1 2 rfl rfl
      have q3 := hq.cell (v := .slice a3 E.length c3) 1 3 rfl rfl
      refine bodyPost_ret (v := .agg #[.int .i64 s, .slice a1 M.length c1, .slice (some ⟨w.heap.size + 1 + 1, 0, none⟩) 1 1, .slice a3 E.length c3]) (by simp [results, Try.results63, go_sem, q0, q1, q2, q3]) rfl ?_
      have hr : RNfaS ⟨(s : Int), M, [0], E⟩ w (.returned (.agg #[.int .i64 s, .slice a1 M.length c1, .slice (some ⟨w.heap.size + 1 + 1, 0, none⟩) 1 1, .slice a3 E.length c3])) _ := ⟨a1, c1, _, 1, a3, c3, rfl, hq.pick [4, 2, 5] (by decide)⟩
      have hn : nfaOf d = ⟨(s : Int), M, [0], E⟩ := by unfold nfaOf; rw [← HhL.out, HhM.out, HhE.out]
      rw [hn]
      exact hr
def zeD : DfaD := ⟨[], []⟩
theorem zeD_own (w : World) (B tS tI tB : Nat) : DfaO tS tI tB B w.heap.size w (.agg #[.slice none 0 0, .slice none 0 0]) zeD :=
  ⟨_, _, rfl, ⟨[], own_of_row ⟨by simp [zeD], Or.inl ⟨rfl, rfl⟩⟩, fun i hi => absurd hi (by simp [zeD]), fun i j k _ hj => absurd hj (by simp [zeD])⟩, own_of_row ⟨by simp [zeD], Or.inl ⟨rfl, rfl⟩⟩⟩
def RTt (D : DfaD) (fb : Bool) (B : Nat) (e : Ending) (w' : World) : Prop := ∃ a1 c1 a2 c2, e = .returned (.tuple #[.agg #[.slice a1 D.next.length c1, .slice a2 D.ends.length c2], .bool fb]) ∧ DfaO 29 3 4 B w'.heap.size w' (.agg #[.slice a1 D.next.length c1, .slice a2 D.ends.length c2]) D
def forty' : Nat := 40
theorem trim_acc {d : DfaD} (hd : fine d) {w : List Nat} (hw : isW w) : accD (trimD d) w = accD d w := by
  unfold trimD
  rw [accD_num (met_facts hd _).2 hw]
  rfl
end Go.Proofs.Ythhbjkgchabfmaa
namespace Go.Proofs.Ythhbjkgchabfmaa
open Go.RowKit
def subV (v u : Nat) : Prop := ∀ s, v.testBit s = true → u.testBit s = true
theorem subV_refl (v : Nat) : subV v v := fun _ h => h
theorem subV_trans {a b c : Nat} (h : subV a b) (h' : subV b c) : subV a c := fun s hs => h' s (h s hs)
theorem subV_eq {a b : Nat} (h : subV a b) (h' : subV b a) : a = b := by
  apply Nat.eq_of_testBit_eq
  intro i
  have h1 := h i
  have h2 := h' i
  cases ha : a.testBit i <;> cases hb : b.testBit i <;> simp_all
theorem subV_adj (v s : Nat) : subV v (adj v s) := fun t ht => by rw [has_adj, ht]; rfl
theorem clMove_sub (v : Nat) (m : Int × Int × Int) : subV v (clMove v m) := by
  unfold clMove
  split
  · exact subV_adj _ _
  · exact subV_refl _
theorem clFold_sub : ∀ (ms : List (Int × Int × Int)) (v : Nat), subV v (ms.foldl clMove v)
  | [], v => subV_refl v
  | m :: ms, v => subV_trans (clMove_sub v m) (clFold_sub ms _)
theorem clIt_sub (ms : List (Int × Int × Int)) (v : Nat) : ∀ k, subV v (clIt ms v k)
  | 0 => subV_refl v
  | k + 1 => subV_trans (clIt_sub ms v k) (clFold_sub ms _)
def closedV (ms : List (Int × Int × Int)) (u : Nat) : Prop := ∀ m ∈ ms, m.2.1 = -1 → u.testBit m.1.toNat = true → u.testBit m.2.2.toNat = true
theorem clMove_in {ms : List (Int × Int × Int)} {u v : Nat} (hu : closedV ms u) (h : subV v u) {m : Int × Int × Int} (hm : m ∈ ms) : subV (clMove v m) u := by
  unfold clMove
  split
  · rename_i hc
    simp only [Bool.and_eq_true, decide_eq_true_eq] at hc
    intro s hs
    rw [has_adj, Bool.or_eq_true] at hs
    rcases hs with hs | hs
    · exact h s hs
    · rw [← of_decide_eq_true hs]
      exact hu m hm hc.1.1 (h _ hc.1.2)
  · exact h
theorem clFold_in {ms : List (Int × Int × Int)} {u : Nat} (hu : closedV ms u) : ∀ (l : List (Int × Int × Int)) (v : Nat), (∀ m ∈ l, m ∈ ms) → subV v u → subV (l.foldl clMove v) u
  | [], _, _, h => h
  | m :: l, v, hl, h => clFold_in hu l _ (fun x hx => hl x (by simp [hx])) (clMove_in hu h (hl m (by simp)))
theorem clIt_in {ms : List (Int × Int × Int)} {u v : Nat} (hu : closedV ms u) (h : subV v u) : ∀ k, subV (clIt ms v k) u
  | 0 => h
  | k + 1 => clFold_in hu ms _ (fun _ hx => hx) (clIt_in hu h k)
theorem clV_fix {n : Nat} {ms : List (Int × Int × Int)} (h : mvIn n ms) (v : Nat) : clPass ms (clV n ms v) = clV n ms v := by
  rcases clIt_drop h v n with h1 | h1
  · exact h1
  · have := clr_le n v
    omega
theorem fold_fix : ∀ {l : List (Int × Int × Int)} {v : Nat}, l.foldl clMove v = v → ∀ m ∈ l, clMove v m = v
  | [], _, _, _, hm => by cases hm
  | m :: l, v, h, x, hx => by
    have h1 : clMove v m = v := subV_eq (by have := clFold_sub l (clMove v m); rw [List.foldl_cons] at h; rw [h] at this; exact this) (clMove_sub v m)
    rw [List.foldl_cons, h1] at h
    rcases List.mem_cons.1 hx with rfl | hx
    · exact h1
    · exact fold_fix h x hx
theorem clV_closed {n : Nat} {ms : List (Int × Int × Int)} (h : mvIn n ms) (v : Nat) : closedV ms (clV n ms v) := by
  intro m hm hl hf
  have h1 := fold_fix (clV_fix h v) m hm
  cases ht : (clV n ms v).testBit m.2.2.toNat with
  | true => rfl
  | false =>
    exfalso
    unfold clMove at h1
    rw [if_pos (by simp [hl, hf, ht])] at h1
    have := has_adj (clV n ms v) m.2.2.toNat m.2.2.toNat
    rw [h1, ht] at this
    simp at this
theorem clV_sub (n : Nat) (ms : List (Int × Int × Int)) (v : Nat) : subV v (clV n ms v) := clIt_sub ms v n
theorem clV_in {n : Nat} {ms : List (Int × Int × Int)} {u v : Nat} (hu : closedV ms u) (h : subV v u) : subV (clV n ms v) u := clIt_in hu h n
theorem setV_has : ∀ (l : List Int) (v t : Nat), (l.foldl (fun v s => adj v s.toNat) v).testBit t = (v.testBit t || l.any fun s => decide (s.toNat = t))
  | [], v, t => by simp
  | s :: l, v, t => by
    rw [List.foldl_cons, setV_has l, has_adj, List.any_cons, Bool.or_assoc]
theorem setV_bit (l : List Int) (t : Nat) : (setV l).testBit t = l.any fun s => decide (s.toNat = t) := by
  unfold setV
  rw [setV_has]
  simp
theorem setV_mem {l : List Int} {x : Int} (hx : x ∈ l) : (setV l).testBit x.toNat = true := by
  rw [setV_bit, List.any_eq_true]
  exact ⟨x, hx, by simp⟩
inductive Pth (ms : List (Int × Int × Int)) : Int → List Nat → Int → Prop
  | here (s : Int) : Pth ms s [] s
  | eps {s t u : Int} {w : List Nat} : (s, -1, t) ∈ ms → Pth ms t w u → Pth ms s w u
  | step {s t u : Int} {c : Nat} {w : List Nat} : (s, (c : Int), t) ∈ ms → Pth ms t w u → Pth ms s (c :: w) u
theorem Pth.append {ms : List (Int × Int × Int)} {s t u : Int} {x y : List Nat} (h : Pth ms s x t) (h' : Pth ms t y u) : Pth ms s (x ++ y) u := by
  induction h with
  | here s => exact h'
  | eps hm _ ih => exact .eps hm (ih h')
  | step hm _ ih => exact .step hm (ih h')
theorem Pth.mono {ms ns : List (Int × Int × Int)} (hs : ∀ m ∈ ms, m ∈ ns) {s t : Int} {x : List Nat} (h : Pth ms s x t) : Pth ns s x t := by
  induction h with
  | here s => exact .here s
  | eps hm _ ih => exact .eps (hs _ hm) ih
  | step hm _ ih => exact .step (hs _ hm) ih
theorem Pth.map {ms ns : List (Int × Int × Int)} (f : Int → Int) (hs : ∀ m ∈ ms, (f m.1, m.2.1, f m.2.2) ∈ ns ∨ (m.2.1 = -1 ∧ f m.1 = f m.2.2)) {s t : Int} {x : List Nat} (h : Pth ms s x t) : Pth ns (f s) x (f t) := by
  induction h with
  | here s => exact .here _
  | eps hm _ ih =>
    rcases hs _ hm with h | ⟨_, h⟩
    · exact .eps h ih
    · exact h ▸ ih
  | step hm _ ih =>
    rcases hs _ hm with h | ⟨h, _⟩
    · exact .step h ih
    · simp only at h; omega
theorem Pth.in {ms : List (Int × Int × Int)} {n : Nat} (hm : mvIn n ms) {s t : Int} {x : List Nat} (h : Pth ms s x t) (hs : 0 ≤ s ∧ s < (n : Int)) : 0 ≤ t ∧ t < (n : Int) := by
  induction h with
  | here s => exact hs
  | eps h _ ih => exact ih (hm _ h).2
  | step h _ ih => exact ih (hm _ h).2
def runS (n : NfaD) (cs : List Nat) : Nat := cs.foldl (fun v (c : Nat) => stV 40 n.moves v (c : Int)) (clV 40 n.moves (setV n.firsts))
def accS (n : NfaD) (cs : List Nat) : Bool := n.ends.any fun s => (runS n cs).testBit s.toNat
theorem nat_of (P : Nat → Prop) : ∀ n : Nat, ∃ u : Nat, ∀ t, u.testBit t = true ↔ t < n ∧ P t
  | 0 => ⟨0, fun t => by simp⟩
  | n + 1 => by
    obtain ⟨u, hu⟩ := nat_of P n
    by_cases hp : P n
    · refine ⟨adj u n, fun t => ?_⟩
      rw [has_adj, Bool.or_eq_true, hu, decide_eq_true_eq]
      constructor
      · rintro (⟨h1, h2⟩ | rfl)
        · exact ⟨by omega, h2⟩
        · exact ⟨by omega, hp⟩
      · rintro ⟨h1, h2⟩
        by_cases h : n = t
        · exact .inr h
        · exact .inl ⟨by omega, h2⟩
    · refine ⟨u, fun t => ?_⟩
      rw [hu]
      constructor
      · rintro ⟨h1, h2⟩
        exact ⟨by omega, h2⟩
      · rintro ⟨h1, h2⟩
        by_cases h : t = n
        · subst h; exact absurd h2 hp
        · exact ⟨by omega, h2⟩
theorem Pth.closed {ms : List (Int × Int × Int)} {u : Nat} (hu : closedV ms u) {s t : Int} {x : List Nat} (h : Pth ms s x t) (hx : x = []) (hs : u.testBit s.toNat = true) : u.testBit t.toNat = true := by
  induction h with
  | here s => exact hs
  | eps hm _ ih => exact ih hx (hu _ hm rfl hs)
  | step hm _ ih => cases hx
theorem clV_pth {ms : List (Int × Int × Int)} (hm : mvIn 40 ms) {v t : Nat} (hv : v < 2 ^ 40) : (clV 40 ms v).testBit t = true ↔ ∃ s : Nat, s < 40 ∧ v.testBit s = true ∧ Pth ms s [] t := by
  constructor
  · intro h
    obtain ⟨u, hu⟩ := nat_of (fun t => ∃ s : Nat, s < 40 ∧ v.testBit s = true ∧ Pth ms s [] t) 40
    have hc : closedV ms u := by
      intro m hmm he hf
      obtain ⟨h1, s, hs, hvs, hp⟩ := (hu _).1 hf
      have h2 := hm m hmm
      refine (hu _).2 ⟨by omega, s, hs, hvs, ?_⟩
      have e1 : ((m.1.toNat : Nat) : Int) = m.1 := by omega
      have e2 : ((m.2.2.toNat : Nat) : Int) = m.2.2 := by omega
      rw [e1] at hp
      rw [e2]
      refine hp.append (y := []) (.eps ?_ (.here _))
      rw [← he]
      exact hmm
    have hsub : subV v u := by
      intro s hs
      have : s < 40 := by
        by_cases h : s < 40
        · exact h
        · rw [Nat.testBit_lt_two_pow (Nat.lt_of_lt_of_le hv (Nat.pow_le_pow_right (by omega) (by omega)))] at hs
          cases hs
      exact (hu s).2 ⟨this, s, this, hs, .here _⟩
    exact ((hu t).1 (clV_in hc hsub t h)).2
  · rintro ⟨s, hs, hvs, hp⟩
    have := hp.closed (clV_closed hm v) rfl (by rw [Int.toNat_natCast]; exact clV_sub 40 ms v s hvs)
    rwa [Int.toNat_natCast] at this
theorem stFold_bit {c : Int} {v : Nat} : ∀ (l : List (Int × Int × Int)) (u t : Nat), (l.foldl (stMove v c) u).testBit t = true ↔ u.testBit t = true ∨ ∃ m ∈ l, m.2.1 = c ∧ v.testBit m.1.toNat = true ∧ m.2.2.toNat = t
  | [], u, t => by simp
  | m :: l, u, t => by
    rw [List.foldl_cons, stFold_bit l, stMove]
    split
    · rename_i h
      rw [Bool.and_eq_true, decide_eq_true_eq] at h
      rw [has_adj, Bool.or_eq_true, decide_eq_true_eq]
      constructor
      · rintro ((h1 | h1) | ⟨x, hx, h1⟩)
        · exact .inl h1
        · exact .inr ⟨m, by simp, h.1, h.2, h1⟩
        · exact .inr ⟨x, by simp [hx], h1⟩
      · rintro (h1 | ⟨x, hx, h1⟩)
        · exact .inl (.inl h1)
        · rcases List.mem_cons.1 hx with rfl | hx
          · exact .inl (.inr h1.2.2)
          · exact .inr ⟨x, hx, h1⟩
    · rename_i h
      rw [Bool.and_eq_true, decide_eq_true_eq] at h
      constructor
      · rintro (h1 | ⟨x, hx, h1⟩)
        · exact .inl h1
        · exact .inr ⟨x, by simp [hx], h1⟩
      · rintro (h1 | ⟨x, hx, h1⟩)
        · exact .inl h1
        · rcases List.mem_cons.1 hx with rfl | hx
          · exact absurd ⟨h1.1, h1.2.1⟩ h
          · exact .inr ⟨x, hx, h1⟩
theorem lt_of_bit {v s n : Nat} (hv : v < 2 ^ n) (hs : v.testBit s = true) : s < n := by
  by_cases h : s < n
  · exact h
  · rw [Nat.testBit_lt_two_pow (Nat.lt_of_lt_of_le hv (Nat.pow_le_pow_right (by omega) (by omega)))] at hs
    cases hs
theorem stV_pth {ms : List (Int × Int × Int)} (hm : mvIn 40 ms) {v t : Nat} (c : Nat) : (stV 40 ms v (c : Int)).testBit t = true ↔ ∃ x, x ∈ ms ∧ x.2.1 = (c : Int) ∧ v.testBit x.1.toNat = true ∧ Pth ms x.2.2 [] t := by
  have hlt : ms.foldl (stMove v c) 0 < 2 ^ 40 := foldl_inv _ (fun u => u < 2 ^ 40) (fun _ _ hx hu => stMove_lt hm hx hu) (by decide)
  unfold stV
  rw [clV_pth hm hlt]
  constructor
  · rintro ⟨s, hs, hb, hp⟩
    rw [stFold_bit] at hb
    rcases hb with hb | ⟨m, hmm, h1, h2, h3⟩
    · simp at hb
    · refine ⟨m, hmm, h1, h2, ?_⟩
      have e : m.2.2 = (s : Int) := by have := (hm m hmm).2; omega
      rw [e]
      exact hp
  · rintro ⟨x, hx, h1, h2, hp⟩
    have h4 := (hm x hx).2
    refine ⟨x.2.2.toNat, by omega, ?_, ?_⟩
    · rw [stFold_bit]
      exact .inr ⟨x, hx, h1, h2, rfl⟩
    · have e : ((x.2.2.toNat : Nat) : Int) = x.2.2 := by omega
      rw [e]
      exact hp
theorem Pth.split {ms : List (Int × Int × Int)} {s u : Int} {x : List Nat} (h : Pth ms s x u) : ∀ {c : Nat} {w : List Nat}, x = c :: w → ∃ m, m ∈ ms ∧ m.2.1 = (c : Int) ∧ Pth ms s [] m.1 ∧ Pth ms m.2.2 w u := by
  induction h with
  | here s => intro c w h; cases h
  | eps hm _ ih =>
    intro c w h
    obtain ⟨m, h1, h2, h3, h4⟩ := ih h
    exact ⟨m, h1, h2, .eps hm h3, h4⟩
  | step hm hp ih =>
    intro c w h
    injection h with h1 h2
    subst h1
    subst h2
    exact ⟨_, hm, rfl, .here _, hp⟩
theorem stV_closed {ms : List (Int × Int × Int)} (hm : mvIn 40 ms) (v : Nat) (c : Int) : closedV ms (stV 40 ms v c) := clV_closed hm _
theorem foldl_pth {ms : List (Int × Int × Int)} (hm : mvIn 40 ms) : ∀ (cs : List Nat) (V : Nat), V < 2 ^ 40 → closedV ms V → ∀ t, (cs.foldl (fun v (c : Nat) => stV 40 ms v (c : Int)) V).testBit t = true ↔ ∃ s : Nat, s < 40 ∧ V.testBit s = true ∧ Pth ms s cs t
  | [], V, hV, hc, t => by
    rw [List.foldl_nil]
    constructor
    · intro h
      exact ⟨t, lt_of_bit hV h, h, .here _⟩
    · rintro ⟨s, hs, h1, h2⟩
      have := h2.closed hc rfl (by rwa [Int.toNat_natCast])
      rwa [Int.toNat_natCast] at this
  | c :: cs, V, hV, hc, t => by
    rw [List.foldl_cons, foldl_pth hm cs _ (stV_lt hm V c) (stV_closed hm V c)]
    constructor
    · rintro ⟨s, hs, h1, h2⟩
      rw [stV_pth hm] at h1
      obtain ⟨x, hx, h3, h4, h5⟩ := h1
      have h6 := (hm x hx).1
      refine ⟨x.1.toNat, by omega, h4, ?_⟩
      have e : ((x.1.toNat : Nat) : Int) = x.1 := by omega
      rw [e]
      refine .step (t := x.2.2) ?_ (h5.append h2)
      rw [← h3]
      exact hx
    · rintro ⟨s, hs, h1, h2⟩
      obtain ⟨m, h3, h4, h5, h6⟩ := h2.split rfl
      have h7 := (hm m h3).2
      refine ⟨m.2.2.toNat, by omega, ?_, ?_⟩
      · rw [stV_pth hm]
        have := h5.closed hc rfl (by rwa [Int.toNat_natCast])
        refine ⟨m, h3, h4, this, ?_⟩
        have e : ((m.2.2.toNat : Nat) : Int) = m.2.2 := by omega
        rw [e]
        exact .here _
      · have e : ((m.2.2.toNat : Nat) : Int) = m.2.2 := by omega
        rw [e]
        exact h6
theorem accS_pth {n : NfaD} (hn : nfaOk n = true) (cs : List Nat) : accS n cs = true ↔ ∃ f ∈ n.firsts, ∃ e ∈ n.ends, Pth n.moves f cs e := by
  obtain ⟨m, hm, hm40, hmv, -, hf, -, he, -⟩ := nfaOk_facts hn
  have hm4 := mvIn_40 hmv hm40
  have hfi : inN 40 n.firsts := fun s hs => by have := hf s hs; omega
  have hlt : clV 40 n.moves (setV n.firsts) < 2 ^ 40 := clIt_lt hm4 (setV_lt hfi) 40
  have hrun := foldl_pth hm4 cs _ hlt (clV_closed hm4 (setV n.firsts))
  unfold accS runS
  rw [List.any_eq_true]
  constructor
  · rintro ⟨e, hee, hb⟩
    obtain ⟨s, hs, h1, h2⟩ := (hrun _).1 hb
    rw [clV_pth hm4 (setV_lt hfi)] at h1
    obtain ⟨r, hr, h3, h4⟩ := h1
    rw [setV_bit, List.any_eq_true] at h3
    obtain ⟨f, hff, h5⟩ := h3
    have h5 := of_decide_eq_true h5
    have h6 := hf f hff
    have h7 := he e hee
    refine ⟨f, hff, e, hee, ?_⟩
    have e1 : (r : Int) = f := by omega
    have e2 : ((e.toNat : Nat) : Int) = e := by omega
    rw [e1] at h4
    rw [e2] at h2
    exact h4.append h2
  · rintro ⟨f, hff, e, hee, hp⟩
    have h6 := hf f hff
    have h7 := he e hee
    refine ⟨e, hee, (hrun _).2 ⟨f.toNat, by omega, ?_, ?_⟩⟩
    · exact clV_sub 40 n.moves _ _ (setV_mem hff)
    · have e1 : ((f.toNat : Nat) : Int) = f := by omega
      have e2 : ((e.toNat : Nat) : Int) = e := by omega
      rw [e1, e2]
      exact hp
end Go.Proofs.Ythhbjkgchabfmaa
namespace Go.Proofs.Ythhbjkgchabfmaa
open Go.RowKit
theorem det_okK {K : Nat} {n : NfaD} {D : DfaD} (h : detK K n = some D) : nfaOk n = true ∧ (metS n K).length ≤ K ∧ D = numDfa (nxS n) (enS n) (metS n K) := by
  unfold detK at h
  split at h
  · rename_i h1
    exact ⟨h1.1, h1.2, (Option.some.inj h).symm⟩
  · cases h
theorem foldl_nxS {n : NfaD} : ∀ (w : List Nat) (v : Nat), w.foldl (nxS n) (((v : Nat) : Int), 0) = (((w.foldl (fun v (c : Nat) => stV 40 n.moves v (c : Int)) v : Nat) : Int), 0)
  | [], _ => rfl
  | c :: w, v => by
    rw [List.foldl_cons, List.foldl_cons, ← foldl_nxS w]
    rfl
theorem det_accK {K : Nat} {n : NfaD} {D : DfaD} (h : detK K n = some D) {w : List Nat} (hw : isW w) : accD D w = accS n w := by
  obtain ⟨-, h2, rfl⟩ := det_okK h
  rw [accD_num h2 hw, foldl_nxS]
  rfl
end Go.Proofs.Ythhbjkgchabfmaa
namespace Go.Proofs.Ythhbjkgchabfmaa
open Go.RowKit
theorem stOk_ofP {l : List Int} {m : Int} (h : ∀ j, j < l.length → (0 ≤ l.getD j 0 ∧ l.getD j 0 ≤ m - 1) ∧ (0 < j → l.getD (j - 1) 0 < l.getD j 0)) : stOk l m = true := by
  unfold stOk
  rw [List.all_eq_true]
  intro j hj
  obtain ⟨h1, h2⟩ := h j (List.mem_range.1 hj)
  unfold okAt
  rw [Bool.and_eq_true, Bool.or_eq_true]
  refine ⟨by simp only [inB, Bool.and_eq_true, decide_eq_true_eq]; exact h1, ?_⟩
  by_cases h0 : j = 0
  · exact .inl (decide_eq_true h0)
  · exact .inr (decide_eq_true (h2 (by omega)))
theorem mvs_mem {d : DfaD} : ∀ {k : Nat} {m : Int × Int × Int}, m ∈ mvs d k ↔ ∃ s c : Nat, s < k ∧ c < 3 ∧ m = ((s : Int), (c : Int), (d.next.getD s []).getD c 0)
  | 0, m => by simp [mvs]
  | k + 1, m => by
    rw [show mvs d (k + 1) = mvs d k ++ rowM d k from rfl, List.mem_append, mvs_mem]
    constructor
    · rintro (⟨s, c, h1, h2, h3⟩ | h)
      · exact ⟨s, c, by omega, h2, h3⟩
      · obtain ⟨c, hc, rfl⟩ := List.mem_map.1 h
        exact ⟨k, c, by omega, List.mem_range.1 hc, rfl⟩
    · rintro ⟨s, c, h1, h2, h3⟩
      by_cases h : s = k
      · subst h
        exact .inr (List.mem_map.2 ⟨c, List.mem_range.2 h2, h3.symm⟩)
      · exact .inl ⟨s, c, by omega, h2, h3⟩
theorem eds_pair (d : DfaD) : ∀ k, (eds d k).Pairwise (· < ·)
  | 0 => List.Pairwise.nil
  | k + 1 => by
    unfold eds
    split
    · rw [List.pairwise_append]
      refine ⟨eds_pair d k, List.pairwise_singleton _ _, fun x hx y hy => ?_⟩
      rw [List.mem_singleton.1 hy]
      exact (eds_in d k x hx).2
    · exact eds_pair d k
theorem nfaOf_ok {d : DfaD} (hd : dfaOk d.next d.ends = true) : nfaOk (nfaOf d) = true := by
  have hl := dfaOk_len hd
  unfold nfaOk
  simp only [Bool.and_eq_true, decide_eq_true_eq]
  refine ⟨⟨⟨⟨?_, ?_⟩, ?_⟩, ?_⟩, ?_⟩
  · show inB (d.next.length : Int) 0 40 = true
    simp only [inB, Bool.and_eq_true, decide_eq_true_eq]
    exact ⟨by omega, by omega⟩
  · show (mvs d d.next.length).length ≤ 400
    rw [mvs_len]
    omega
  · refine stOk_ofP fun j hj => ?_
    have hj : j < 1 := hj
    obtain rfl : j = 0 := by omega
    refine ⟨?_, fun h => by omega⟩
    simp only [nfaOf, List.getD_cons_zero]
    omega
  · refine stOk_ofP fun j hj => ?_
    have hj : j < (eds d d.next.length).length := hj
    have h1 := eds_in d _ _ (memD (d := (0 : Int)) hj)
    refine ⟨?_, fun h => ?_⟩
    · show 0 ≤ (eds d d.next.length).getD j 0 ∧ (eds d d.next.length).getD j 0 ≤ (d.next.length : Int) - 1
      omega
    · have := List.pairwise_iff_getElem.1 (eds_pair d d.next.length) (j - 1) j (by omega) hj (by omega)
      show (eds d d.next.length).getD (j - 1) 0 < (eds d d.next.length).getD j 0
      rw [getD_at (by omega), getD_at hj]
      exact this
  · rw [List.all_eq_true]
    intro m hm
    obtain ⟨s, c, h1, h2, rfl⟩ := mvs_mem.1 (show m ∈ mvs d d.next.length from hm)
    have hr := (dfaOk_row hd h1).2 c h2
    show mvOk (d.next.length : Int) _ = true
    simp only [mvOk, inB, Bool.and_eq_true, decide_eq_true_eq]
    exact ⟨⟨⟨by omega, by omega⟩, by omega, by omega⟩, by omega, by omega⟩
end Go.Proofs.Ythhbjkgchabfmaa
namespace Go.Proofs.Ythhbjkgchabfmaa
open Go.RowKit
theorem eds_mem {d : DfaD} : ∀ {k : Nat} {x : Int}, x ∈ eds d k ↔ ∃ s : Nat, x = (s : Int) ∧ s < k ∧ enD d s = true
  | 0, x => by simp [eds]
  | k + 1, x => by
    have ih := eds_mem (d := d) (k := k) (x := x)
    unfold eds
    by_cases h : d.ends.getD k false = true
    · rw [if_pos h, List.mem_append, ih, List.mem_singleton]
      constructor
      · rintro (⟨s, h1, h2, h3⟩ | rfl)
        · exact ⟨s, h1, by omega, h3⟩
        · exact ⟨k, rfl, by omega, h⟩
      · rintro ⟨s, h1, h2, h3⟩
        by_cases hk : s = k
        · subst hk; exact .inr h1
        · exact .inl ⟨s, h1, by omega, h3⟩
    · rw [if_neg h, ih]
      constructor
      · rintro ⟨s, h1, h2, h3⟩
        exact ⟨s, h1, by omega, h3⟩
      · rintro ⟨s, h1, h2, h3⟩
        by_cases hk : s = k
        · subst hk; exact absurd h3 h
        · exact ⟨s, h1, by omega, h3⟩
theorem pth_run {y : DfaD} (hy : dfaOk y.next y.ends = true) : ∀ (w : List Nat) {s : Nat} {t : Int}, s < y.next.length → (Pth (mvs y y.next.length) (s : Int) w t → isW w → runD y (s : Int) w = t)
  | [], s, t, hs, h, _ => by
    cases h with
    | here => rfl
    | eps hm _ =>
      obtain ⟨s', c', -, -, he⟩ := mvs_mem.1 hm
      simp only [Prod.mk.injEq] at he
      omega
  | c :: w, s, t, hs, h, hw => by
    obtain ⟨h1, h2⟩ := isW_cons hw
    cases h with
    | eps hm _ =>
      obtain ⟨s', c', -, -, he⟩ := mvs_mem.1 hm
      simp only [Prod.mk.injEq] at he
      omega
    | step hm hp =>
      obtain ⟨s', c', h5, h6, he⟩ := mvs_mem.1 hm
      simp only [Prod.mk.injEq] at he
      obtain ⟨e1, e2, rfl⟩ := he
      obtain rfl : s = s' := by omega
      obtain rfl : c = c' := by omega
      obtain ⟨h3, h4⟩ := fine_nx (fine_of hy) hs h1
      rw [runD_cons, h4]
      have e : (y.next.getD s []).getD c 0 = ((nxD y s c : Nat) : Int) := by rw [← h4]; rfl
      rw [e] at hp
      exact pth_run hy w h3 hp h2
theorem run_pth {y : DfaD} (hy : dfaOk y.next y.ends = true) : ∀ (w : List Nat) {s : Nat}, s < y.next.length → isW w → Pth (mvs y y.next.length) (s : Int) w (runD y (s : Int) w)
  | [], s, hs, _ => .here _
  | c :: w, s, hs, hw => by
    obtain ⟨h1, h2⟩ := isW_cons hw
    obtain ⟨h3, h4⟩ := fine_nx (fine_of hy) hs h1
    rw [runD_cons, h4]
    refine .step (mvs_mem.2 ⟨s, c, hs, h1, rfl⟩) ?_
    have e : (y.next.getD s []).getD c 0 = ((nxD y s c : Nat) : Int) := by rw [← h4]; rfl
    rw [e]
    exact run_pth hy w h3 h2
end Go.Proofs.Ythhbjkgchabfmaa
