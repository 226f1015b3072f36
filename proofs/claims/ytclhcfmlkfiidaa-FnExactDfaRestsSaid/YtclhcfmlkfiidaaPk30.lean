/-
  The walks over the program's Dfa.nfa and Nfa.turn, and over Clone.
  Conditions: the automaton is valid; the arguments read as such data.
  A region that draws its order, by an invariant: one step for each operation in the place of one way for each order.
  No condition: this text speaks of no program.
-/
import Derived.Test.YtclhcfmlkfiidaaPk29
import Derived.Test.YtclhcfmlkfiidaaNs
import Derived.RegionTactic
import Derived.Deep.RegionLaw
namespace Go.Proofs.Ytclhcfmlkfiidaa
open Go.RowKit

/-- An automaton with choices that a call has made. -/
def RNfaS (n : NfaD) (w : World) (e : Ending) (w' : World) : Prop := ∃ a1 c1 a2 c2 a3 c3, e = .returned (.agg #[.int .i64 n.states, .slice a1 n.moves.length c1, .slice a2 n.firsts.length c2, .slice a3 n.ends.length c3]) ∧
  St w w' [Ent.row 90 3 (.slice a1 n.moves.length c1) n.moves.length (n.moves.flatMap moveCells), Ent.row 3 1 (.slice a2 n.firsts.length c2) n.firsts.length (intCells n.firsts), Ent.row 3 1 (.slice a3 n.ends.length c3) n.ends.length (intCells n.ends)]
theorem moves_of_row {w : World} {B e : Nat} {v : Value} {xs : List (Int × Int × Int)} (hr : w.ownsRow B e 3 v xs.length (xs.flatMap moveCells)) : Moves 0 w v xs :=
  ((own_of_row hr).sl (by omega)).mono (Nat.zero_le _)
theorem ints_of_row' {w : World} {B e : Nat} {v : Value} {xs : List Int} (hr : w.ownsRow B e 1 v xs.length (intCells xs)) : Ints 0 w v xs :=
  ((own_of_row hr).sl (by omega)).mono (Nat.zero_le _)
theorem St.moves {w0 w : World} {L : List Ent} (h : St w0 w L) (i : Nat) {e : Nat} {v : Value} {xs : List (Int × Int × Int)} (hx : L[i]? = some (Ent.row e 3 v xs.length (xs.flatMap moveCells))) : Moves 0 w v xs := moves_of_row (h.row i hx)
theorem Try.infoMv : (Try.prog.info? 90).map (fun i => (i.zero, i.size, i.bytes)) = some (some (.agg #[.int .i64 0, .int .i64 0, .int .i64 0]), 3, 24) := by kernel_rfl
theorem one_mv {s c x : Int} : ∀ u ∈ [Value.int .i64 s, Value.int .i64 c, Value.int .i64 x], u.oneCell' = true := by
  intro u hu
  simp at hu
  rcases hu with rfl | rfl | rfl <;> rfl
theorem flatM_snoc (xs : List (Int × Int × Int)) (s c x : Int) : (xs ++ [(s, c, x)]).flatMap moveCells = xs.flatMap moveCells ++ [.int .i64 s, .int .i64 c, .int .i64 x] := by simp [moveCells]

set_option maxRecDepth 100000 in
set_option maxHeartbeats 4000000 in
theorem implNfa_any (d : DfaD) (v : Value) (w : World) (hd : dfaOk d.next d.ends = true) (h : DfaR 0 w v d) :
    Calls Try.prog 55 #[v] w fun e w' => RNfaS (nfaOf d) w e w' := by
  obtain ⟨v1, v2, rfl, q1, q2⟩ := h
  obtain ⟨L, hL⟩ : ∃ L, L = d.next.length := ⟨_, rfl⟩
  obtain ⟨hl1, hl2, hl3⟩ := dfaOk_len hd
  have hrow := fun (i : Nat) (hi : i < d.next.length) => (dfaOk_row hd hi)
  obtain ⟨av, cv, rfl, hc1, hc2, hr1⟩ := q1.formI
  obtain ⟨b1, o1, rfl, -, hb1, hcs1⟩ := hr1 (by omega)
  obtain ⟨a2, c2, rfl, hc3, hc4, hr2⟩ := q2.form
  obtain ⟨b2, o2, rfl, -, hb2, hcs2⟩ := hr2 (by omega)
  rw [hl3] at hcs2 hc3
  rw [← hL] at hl1 hl2 hl3 hrow hc1 hcs1 hcs2 hc3
  rw [hl3, ← hL]
  obtain ⟨i0, hi, hz0, hz1, hz2⟩ := info_parts Try.infoMv
  obtain ⟨j0, hj, hy0, hy1, hy2⟩ := info_parts Try.infoInt
  have hS0 := (((St.start w).alloc _ rfl #[.slice (some ⟨b1, o1, none⟩) L cv, .slice (some ⟨b2, o2, none⟩) L c2] 32).alloc (w.heap.size + 1) (by simp) #[.int .i64 0, .slice none 0 0, .slice none 0 0, .slice none 0 0] 67).alloc (w.heap.size + 1 + 1) (by simp) #[.int .i64 0] 3
  have hS1 := (hS0.boxrow 2 1 1 [.int .i64 0] rfl rfl (by unfold maxLen; omega)).alloc (w.heap.size + 1 + 1 + 1) (by simp) #[.int .i64 L, .slice none 0 0, .slice (some ⟨w.heap.size + 1 + 1, 0, none⟩) 1 1, .slice none 0 0] 67
  have hS2 := (hS1.nilRow 90 3).nilRow 3 1
  have Hrow := Lib.hid hrow
  have Hcs1 := Lib.hid hcs1
  have Hcs2 := Lib.hid hcs2
  have HhS2 := Lib.hid hS2; clear hS2
  have HhL := Lib.hid hL; clear hL
  have Hhi := Lib.hid hi; clear hi
  have Hhz0 := Lib.hid hz0; clear hz0
  have Hhz1 := Lib.hid hz1; clear hz1
  have Hhz2 := Lib.hid hz2; clear hz2
  have Hhj := Lib.hid hj; clear hj
  have Hhy0 := Lib.hid hy0; clear hy0
  have Hhy1 := Lib.hid hy1; clear hy1
  have Hhy2 := Lib.hid hy2; clear hy2
  clear hS0 hS1 hrow hcs1 hcs2 hr1 hr2 q1 q2 hd hl3
  go_enter Try.func55, Try.ntmps55
  go_wp2
  go_loopw [16] (fun i wr => ∃ (s c1 c3 : Nat) (a1 a3 : Option Addr), i = .int .i64 s ∧ s ≤ L ∧ St w wr [Ent.box w.heap.size #[.slice (some ⟨b1, o1, none⟩) L cv, .slice (some ⟨b2, o2, none⟩) L c2] 32, Ent.box (w.heap.size + 1) #[.int .i64 0, .slice none 0 0, .slice none 0 0, .slice none 0 0] 67,
      Ent.row 3 1 (.slice (some ⟨w.heap.size + 1 + 1, 0, none⟩) 1 1) 1 [.int .i64 0], Ent.box (w.heap.size + 1 + 1 + 1) #[.int .i64 L, .slice a1 (mvs d s).length c1, .slice (some ⟨w.heap.size + 1 + 1, 0, none⟩) 1 1, .slice a3 (eds d s).length c3] 67,
      Ent.row 90 3 (.slice a1 (mvs d s).length c1) (mvs d s).length ((mvs d s).flatMap moveCells), Ent.row 3 1 (.slice a3 (eds d s).length c3) (eds d s).length (intCells (eds d s))])
    (fun i _ => L - (intOf i).toNat)
  case atStart => exact ⟨0, 0, 0, none, none, rfl, Nat.zero_le _, HhS2.out⟩
  case round =>
    obtain ⟨s, c1, c3, a1, a3, rfl, hs, hS⟩ := hrel
    obtain ⟨wo, hwo⟩ : ∃ wo : World, wo = wr := ⟨_, rfl⟩
    subst hwo
    by_cases hlt : s < L
    · have hlt2 : (s : Int) < L := by omega
      obtain ⟨ar, cr, hcr, -, -, hIr⟩ := Hcs1.out s hlt
      obtain ⟨hr3, -⟩ := Hrow.out s (by have := HhL.out; omega)
      rw [hr3] at hcr hIr
      obtain ⟨_, _, hform, hrc1, hrc2, hrr⟩ := hIr.form
      rw [hr3] at hform hrr hrc1
      simp only [Value.slice.injEq, true_and] at hform
      obtain ⟨rfl, rfl⟩ := hform
      obtain ⟨b3, o3, rfl, -, hb3, hcs3⟩ := hrr (by omega)
      have k1 := (bcell hS.bel b1 _ hb1).trans hcr
      have hml := mvs_len d s
      obtain ⟨M, hM⟩ : ∃ M, M = mvs d s := ⟨_, rfl⟩
      obtain ⟨E, hE⟩ : ∃ E, E = eds d s := ⟨_, rfl⟩
      have hel := eds_len d s
      rw [← hM] at hS hml
      rw [← hE] at hS hel
      have hmle : M.length ≤ 120 := by omega
      have hele : E.length ≤ 40 := by omega
      have Hcs3 := Lib.hid hcs3
      have Hhml := Lib.hid hml; clear hml
      clear hel
      have HhS := Lib.hid hS; clear hS
      have HhM := Lib.hid hM; clear hM
      have HhE := Lib.hid hE; clear hE
      clear hcs3 hrr hIr hcr hr3
      go_wp2
      go_loopw [23] (fun i wi => ∃ (c c1 : Nat) (a1 : Option Addr), i = .int .i64 c ∧ c ≤ 3 ∧ St w wi [Ent.box w.heap.size #[.slice (some ⟨b1, o1, none⟩) L cv, .slice (some ⟨b2, o2, none⟩) L c2] 32, Ent.box (w.heap.size + 1) #[.int .i64 0, .slice none 0 0, .slice none 0 0, .slice none 0 0] 67,
          Ent.row 3 1 (.slice (some ⟨w.heap.size + 1 + 1, 0, none⟩) 1 1) 1 [.int .i64 0], Ent.box (w.heap.size + 1 + 1 + 1) #[.int .i64 L, .slice a1 (M.length + c) c1, .slice (some ⟨w.heap.size + 1 + 1, 0, none⟩) 1 1, .slice a3 E.length c3] 67,
          Ent.row 90 3 (.slice a1 (M.length + c) c1) (M.length + c) ((M ++ (rowM d s).take c).flatMap moveCells), Ent.row 3 1 (.slice a3 E.length c3) E.length (intCells E)])
        (fun i _ => 3 - (intOf i).toNat)
      case atStart => exact ⟨0, c1, a1, rfl, by omega, by rw [List.take_zero, List.append_nil]; exact HhS.out⟩
      case round =>
        obtain ⟨c, c1, a1, rfl, hc3', hSi⟩ := hrel
        by_cases hc : c < 3
        · have hc4 : (c : Int) < 3 := by omega
          have k2 := (bcell hSi.bel b3 _ hb3).trans (Hcs3.out c hc)
          have htk := rowM_take d s hc
          obtain ⟨x, hx⟩ : ∃ x, x = (d.next.getD s []).getD c 0 := ⟨_, rfl⟩
          rw [← hx] at k2 htk
          have e1 := hSi.cell (v := .slice a1 (M.length + c) c1) 3 1 rfl rfl
          have f1 := hSi.fr 3 1 rfl
          have hSa := hSi.alloc_ (.cells #[.int .i64 s, .int .i64 c, .int .i64 x] 90)
          have hRw := hSa.row 4 rfl
          have HhSi := Lib.hid hSi; clear hSi
          have HhSa := Lib.hid hSa; clear hSa
          have HhRw := Lib.hid hRw; clear hRw
          have Hhx := Lib.hid hx; clear hx
          have Hhtk := Lib.hid htk; clear htk
          go_wp2_with (at_builtin; refine wpList_append_lies _ rfl _ _ _ rfl _ 90 i0 (.agg #[.int .i64 0, .int .i64 0, .int .i64 0]) 3 24 Try.underlying65 Hhi.out Hhz0.out Hhz1.out Hhz2.out rfl (by omega) _ (M.length + c) _ rfl HhRw.out ⟨wr.heap.size, 0, none⟩ 1 1 [.int .i64 s, .int .i64 c, .int .i64 x] rfl rfl (World.news_of_block (heap_alloc_new wr _)) one_mv (by omega) (by unfold maxLen; omega) (by omega) HhSa.out.size _ rfl ?_; intro g6 c6 w6 hown6 hgrow6 hat6 hlt6; have HS6 := Lib.hid (HhSa.out.app 4 rfl hown6 hgrow6 hat6); have y1 := HS6.out.cell (v := .slice a1 (M.length + c) c1) 3 1 rfl rfl; have y2 := HS6.out.fr 3 1 rfl; clear hown6 hgrow6 hat6 hlt6)
          go_roundw
          case rel =>
            refine ⟨c + 1, c6, some ⟨g6, 0, none⟩, by go_num, by omega, ?_⟩
            rw [Hhtk.out, ← List.append_assoc, flatM_snoc]
            exact HS6.out.set 3 rfl 1 (.slice (some ⟨g6, 0, none⟩) (M.length + c + 1) c6)
          case measure => simp [intOf]; omega
        · obtain rfl : c = 3 := by omega
          have hta : (rowM d s).take 3 = rowM d s := List.take_of_length_le (by rw [rowM_len]; exact Nat.le_refl _)
          have hM1 : M ++ rowM d s = mvs d (s + 1) := by rw [HhM.out]; rfl
          have hMl : M.length + 3 = (mvs d (s + 1)).length := by rw [mvs_len, Hhml.out]; omega
          rw [hta, hM1, hMl] at hSi
          have k2 := (bcell hSi.bel b2 _ hb2).trans (Hcs2.out s hlt)
          have e0 := hSi.cell (v := .slice (some ⟨b2, o2, none⟩) L c2) 0 1 rfl rfl
          have HhSi := Lib.hid hSi; clear hSi
          have HhM1 := Lib.hid hM1; clear hM1
          have HhMl := Lib.hid hMl; clear hMl
          clear hta
          cases hz : d.ends.getD s false with
          | false =>
            rw [hz] at k2
            have hE1 : eds d (s + 1) = E := by rw [HhE.out]; show (if d.ends.getD s false = true then _ else _) = _; rw [hz]; rfl
            have HhE1 := Lib.hid hE1; clear hE1
            have Hhz := Lib.hid hz; clear hz
            go_wp2
            go_roundw
            case rel =>
              refine ⟨s + 1, c1, c3, a1, a3, by go_num, by omega, ?_⟩
              rw [HhE1.out]
              exact HhSi.out
            case measure => simp [intOf]; omega
          | true =>
            rw [hz] at k2
            have hE1 : eds d (s + 1) = E ++ [(s : Int)] := by rw [HhE.out]; show (if d.ends.getD s false = true then _ else _) = _; rw [hz]; rfl
            have e1 := HhSi.out.cell (v := .slice a3 E.length c3) 3 3 rfl rfl
            have f1 := HhSi.out.fr 3 3 rfl
            have hSa := HhSi.out.alloc_ (.cells #[.int .i64 s] 3)
            have hRw := hSa.row 5 rfl
            have HhSa := Lib.hid hSa; clear hSa
            have HhRw := Lib.hid hRw; clear hRw
            have HhE1 := Lib.hid hE1; clear hE1
            have Hhz := Lib.hid hz; clear hz
            go_wp2_with (at_builtin; refine wpList_append_lies _ rfl _ _ _ rfl _ 3 j0 (.int .i64 0) 1 8 Try.underlying44 Hhj.out Hhy0.out Hhy1.out Hhy2.out rfl (by omega) _ E.length _ rfl HhRw.out ⟨wr.heap.size, 0, none⟩ 1 1 [.int .i64 s] rfl rfl (World.news_of_block (heap_alloc_new wr _)) on_i (by omega) (by unfold maxLen; omega) (by omega) HhSa.out.size _ rfl ?_; intro g6 c6 w6 hown6 hgrow6 hat6 hlt6; have HS6 := Lib.hid (HhSa.out.app 5 rfl hown6 hgrow6 hat6); have y1 := HS6.out.cell (v := .slice a3 E.length c3) 3 3 rfl rfl; have y2 := HS6.out.fr 3 3 rfl; clear hown6 hgrow6 hat6 hlt6)
            go_roundw
            case rel =>
              refine ⟨s + 1, c1, c6, a1, some ⟨g6, 0, none⟩, by go_num, by omega, ?_⟩
              rw [HhE1.out, List.length_append, List.length_singleton, intC_sn]
              exact HS6.out.set 3 rfl 3 (.slice (some ⟨g6, 0, none⟩) (E.length + 1) c6)
            case measure => simp [intOf]; omega
    · obtain rfl : s = L := by omega
      have hge : (s : Int) ≤ s := Int.le_refl _
      obtain ⟨M, hM⟩ : ∃ M, M = mvs d s := ⟨_, rfl⟩
      obtain ⟨E, hE⟩ : ∃ E, E = eds d s := ⟨_, rfl⟩
      rw [← hM, ← hE] at hS
      have f0 := hS.fr 1 0 rfl
      have f1 := hS.fr 1 1 rfl
      have f2 := hS.fr 1 2 rfl
      have f3 := hS.fr 1 3 rfl
      have k0 := hS.cell (v := .int .i64 0) 1 0 rfl rfl
      have k1 := hS.cell (v := .slice none 0 0) 1 1 rfl rfl
      have k2 := hS.cell (v := .slice none 0 0) 1 2 rfl rfl
      have k3 := hS.cell (v := .slice none 0 0) 1 3 rfl rfl
      have d0 := hS.cell (v := .int .i64 s) 3 0 rfl rfl
      have d1 := hS.cell (v := .slice a1 M.length c1) 3 1 rfl rfl
      have d2 := hS.cell (v := .slice (some ⟨w.heap.size + 1 + 1, 0, none⟩) 1 1) 3 2 rfl rfl
      have d3 := hS.cell (v := .slice a3 E.length c3) 3 3 rfl rfl
      have HhS := Lib.hid hS; clear hS
      have HhM := Lib.hid hM; clear hM
      have HhE := Lib.hid hE; clear hE
      go_wp2
      have hq := (((HhS.out.set 1 rfl 0 (.int .i64 s)).set 1 rfl 1 (.slice a1 M.length c1)).set 1 rfl 2 (.slice (some ⟨w.heap.size + 1 + 1, 0, none⟩) 1 1)).set 1 rfl 3 (.slice a3 E.length c3)
      have q0 := hq.cell (v := .int .i64 s) 1 0 rfl rfl
      have q1 := hq.cell (v := .slice a1 M.length c1) 1 1 rfl rfl
      have q2 := hq.cell (v := .slice (some ⟨w.heap.size + 1 + 1, 0, none⟩) 1 1) 1 2 rfl rfl
      have q3 := hq.cell (v := .slice a3 E.length c3) 1 3 rfl rfl
      refine bodyPost_ret (v := .agg #[.int .i64 s, .slice a1 M.length c1, .slice (some ⟨w.heap.size + 1 + 1, 0, none⟩) 1 1, .slice a3 E.length c3]) (by simp [results, Try.results55, go_sem, q0, q1, q2, q3]) rfl ?_
      have hr : RNfaS ⟨(s : Int), M, [0], E⟩ w (.returned (.agg #[.int .i64 s, .slice a1 M.length c1, .slice (some ⟨w.heap.size + 1 + 1, 0, none⟩) 1 1, .slice a3 E.length c3])) _ := ⟨a1, c1, _, 1, a3, c3, rfl, hq.pick [4, 2, 5] (by decide)⟩
      have hn : nfaOf d = ⟨(s : Int), M, [0], E⟩ := by unfold nfaOf; rw [← HhL.out, HhM.out, HhE.out]
      rw [hn]
      exact hr
end Go.Proofs.Ytclhcfmlkfiidaa
namespace Go.Proofs.Ytclhcfmlkfiidaa
open Go.RowKit

theorem offL {x p q : Bool} (h : x = true → p = true ∧ q = true) (hp : p = false) : x = false := by
  cases x with
  | false => rfl
  | true => rw [hp] at h; exact absurd (h rfl).1 (by decide)
theorem offR {x p q : Bool} (h : x = true → p = true ∧ q = true) (hq : q = false) : x = false := by
  cases x with
  | false => rfl
  | true => rw [hq] at h; exact absurd (h rfl).2 (by decide)

section
variable {P : Program} {ops : Array Oper} {Q : Exit → Act → World → Prop} {md : Region.Mode}
/-- How many operations have not come up. -/
def unl (n : Nat) (listed : Array Bool) : Nat := ((List.range n).filter fun i => !listed.getD i true).length
theorem unl_le (n : Nat) (listed : Array Bool) : unl n listed ≤ n := by
  unfold unl
  have := List.length_filter_le (fun i => !listed.getD i true) (List.range n)
  simpa using this
theorem unl_set {n i : Nat} {listed : Array Bool} (hi : i < n) (h : listed.getD i true = false) : unl n (listed.setIfInBounds i true) < unl n listed := by
  refine filter_lt (a := i) ?_ (by simp only [h]; rfl) (List.mem_range.2 hi) fun x _ hx => ?_
  · simp only [Bool.not_eq_false']
    rcases Nat.lt_or_ge i listed.size with h1 | h1
    · simp [h1]
    · simp [Array.getElem?_eq_none h1] at h
  · by_cases hxi : i = x
    · subst hxi
      simp only [h]
      rfl
    · simpa [hxi] using hx
theorem wpAny_inv (Inv : Array Bool → Act → World → Prop) (hstep : ∀ listed a w, Inv listed a w → ∀ i ∈ Region.ready md ops listed, wpOp P ops Q i (Inv (listed.setIfInBounds i true)) a w)
    (hdone : ∀ listed a w, Inv listed a w → Region.ready md ops listed = [] → Q .normal a w) : ∀ (fuel : Nat) (listed : Array Bool) (a : Act) (w : World), unl ops.size listed ≤ fuel → Inv listed a w → wpAny P md ops Q fuel listed a w
  | 0, listed, a, w, hf, h => by
    have hr : Region.ready md ops listed = [] := by
      refine List.eq_nil_iff_forall_not_mem.2 fun i hi => ?_
      obtain ⟨hun, o, ho, -⟩ := mem_ready.1 hi
      have := unl_set (n := ops.size) (Array.getElem?_eq_some_iff.1 ho).1 hun
      omega
    exact ⟨hr, hdone _ _ _ h hr⟩
  | fuel + 1, listed, a, w, hf, h => ⟨fun h0 => hdone _ _ _ h h0, fun i hi => wpOp_mono (fun a' w' h' => wpAny_inv Inv hstep hdone fuel _ a' w' (by
      obtain ⟨hun, o, ho, -⟩ := mem_ready.1 hi
      have := unl_set (n := ops.size) (Array.getElem?_eq_some_iff.1 ho).1 hun
      omega) h') (hstep _ _ _ h i hi)⟩
/-- The same, where the invariant speaks of the frame as it was at the start. -/
theorem wpAny_invA (Inv : Act → Array Bool → Act → World → Prop) {a : Act} {w : World} (hstep : ∀ listed b w, Inv a listed b w → ∀ i ∈ Region.ready md ops listed, wpOp P ops Q i (Inv a (listed.setIfInBounds i true)) b w)
    (hdone : ∀ listed b w, Inv a listed b w → Region.ready md ops listed = [] → Q .normal b w) (h0 : Inv a (Array.replicate ops.size false) a w) : wpAny P md ops Q ops.size (Array.replicate ops.size false) a w :=
  wpAny_inv (Inv a) hstep hdone _ _ _ _ (unl_le _ _) h0
/-- Every operation waits for earlier ones alone. -/
def depsDown (ops : Array Oper) : Bool := (List.range ops.size).all fun i => match ops[i]? with
  | some o => o.after.all fun e => decide (e.on < i)
  | none => true
theorem ready_nil {listed : Array Bool} (hd : depsDown ops = true) (hs : listed.size = ops.size) (hr : Region.ready md ops listed = []) : ∀ i, i < ops.size → listed.getD i true = true := by
  intro i
  induction i using Nat.strongRecOn with
  | ind i ih =>
    intro hi
    cases h : listed.getD i true with
    | true => rfl
    | false =>
      exfalso
      have hmem : i ∈ Region.ready md ops listed := by
        refine mem_ready.2 ⟨h, ops[i], by simp [hi], fun e he _ => ?_⟩
        simp only [depsDown, List.all_eq_true, List.mem_range] at hd
        have h1 := hd i hi
        simp only [Array.getElem?_eq_getElem hi] at h1
        have h2 : e.on < i := by
          have := (Array.all_eq_true_iff_forall_mem.1 h1) e he
          simpa using this
        have h3 := ih e.on h2 (by omega)
        have h4 : e.on < listed.size := by omega
        simpa [h4] using h3
      rw [hr] at hmem
      cases hmem
end
end Go.Proofs.Ytclhcfmlkfiidaa
