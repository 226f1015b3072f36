/-
  The walks over the reference's l13Limit and NfaStar.
  Conditions: the arguments read as such.
-/
import Derived.Test.YtjcegbcmomfgaaaSh
import Derived.Test.YtjcegbcmomfgaaaNvs
namespace Go.Proofs.Ytjcegbcmomfgaaa
open Go.RowKit

def zeN : NfaD := ⟨0, [], [], []⟩
theorem nfaR_of {w : World} {n : NfaD} {v1 v2 v3 : Value} (h1 : Moves 0 w v1 n.moves) (h2 : Ints 0 w v2 n.firsts) (h3 : Ints 0 w v3 n.ends) (hs0 : -9223372036854775808 ≤ n.states) (hs1 : n.states ≤ 9223372036854775807) : NfaR 0 w (.agg #[.int .i64 n.states, v1, v2, v3]) n := ⟨v1, v2, v3, rfl, h1, h2, h3, hs0, hs1⟩
/-- An automaton and a truth value, made by the call. -/
def RNt (n : NfaD) (b : Bool) (w : World) (e : Ending) (w' : World) : Prop := ∃ a1 c1 a2 c2 a3 c3, e = .returned (.tuple #[.agg #[.int .i64 n.states, .slice a1 n.moves.length c1, .slice a2 n.firsts.length c2, .slice a3 n.ends.length c3], .bool b]) ∧
  St w w' [Ent.row 76 3 (.slice a1 n.moves.length c1) n.moves.length (n.moves.flatMap moveCells), Ent.row 3 1 (.slice a2 n.firsts.length c2) n.firsts.length (intCells n.firsts), Ent.row 3 1 (.slice a3 n.ends.length c3) n.ends.length (intCells n.ends)]
theorem rnt_zero {w w' : World} (h : Below w.heap.size w w') : RNt zeN false w (.returned (.tuple #[.agg #[.int .i64 0, .slice none 0 0, .slice none 0 0, .slice none 0 0], .bool false])) w' :=
  ⟨none, 0, none, 0, none, 0, rfl, (((((St.start w).call h).nilRow 76 3).nilRow 3 1).nilRow 3 1)⟩
def limN (n : NfaD) : NfaD × Bool := if nfaOk n = true then (n, true) else (zeN, false)
set_option maxRecDepth 100000 in
set_option maxHeartbeats 4000000 in
theorem limit_any (n : NfaD) (v1 v2 v3 : Value) (w : World) (r : Bool) (hr : nfaOk n = r) (h : NfaR 0 w (.agg #[.int .i64 n.states, v1, v2, v3]) n) :
    Calls Try.prog 86 #[.agg #[.int .i64 n.states, v1, v2, v3]] w fun e w' => e = .returned (.tuple #[(if r = true then .agg #[.int .i64 n.states, v1, v2, v3] else .agg #[.int .i64 0, .slice none 0 0, .slice none 0 0, .slice none 0 0]), .bool r]) ∧ Below w.heap.size w w' := by
  have hf : (∃ x l c, v1 = .slice x l c) ∧ (∃ x l c, v2 = .slice x l c) ∧ ∃ x l c, v3 = .slice x l c := by
    obtain ⟨u1, u2, u3, hv, g1, g2, g3, -, -⟩ := h
    simp only [Value.agg.injEq, Array.mk.injEq, List.cons.injEq, true_and, and_true] at hv
    obtain ⟨rfl, rfl, rfl⟩ := hv
    obtain ⟨a1, c1, e1, -⟩ := g1.form
    obtain ⟨a2, c2, e2, -⟩ := g2.form
    obtain ⟨a3, c3, e3, -⟩ := g3.form
    exact ⟨⟨_, _, _, e1⟩, ⟨_, _, _, e2⟩, ⟨_, _, _, e3⟩⟩
  obtain ⟨⟨x1, l1, c1, rfl⟩, ⟨x2, l2, c2, rfl⟩, ⟨x3, l3, c3, rfl⟩⟩ := hf
  have hS0 := ((St.start w).alloc _ rfl #[.int .i64 n.states, .slice x1 l1 c1, .slice x2 l2 c2, .slice x3 l3 c3] 26).alloc (w.heap.size + 1) (by simp) #[.int .i64 0, .slice none 0 0, .slice none 0 0, .slice none 0 0] 26
  have H := Lib.hid h
  have Hr := Lib.hid hr
  have e0 := hS0.cell (v := .int .i64 n.states) 0 0 rfl rfl
  have e1 := hS0.cell (v := .slice x1 l1 c1) 0 1 rfl rfl
  have e2 := hS0.cell (v := .slice x2 l2 c2) 0 2 rfl rfl
  have e3 := hS0.cell (v := .slice x3 l3 c3) 0 3 rfl rfl
  have HhS0 := Lib.hid hS0; clear hS0
  clear h hr
  go_enter Try.func86, Try.ntmps86
  go_wp2_with fail
  refine (specNfaValid_any n _ _ (H.out.below HhS0.out.bel) r Hr.out).mono ?_
  rintro e w1 ⟨rfl, hb1⟩
  have hS1 := HhS0.out.call hb1
  have d0 := hS1.cell (v := .int .i64 n.states) 0 0 rfl rfl
  have d1 := hS1.cell (v := .slice x1 l1 c1) 0 1 rfl rfl
  have d2 := hS1.cell (v := .slice x2 l2 c2) 0 2 rfl rfl
  have d3 := hS1.cell (v := .slice x3 l3 c3) 0 3 rfl rfl
  have f0 := hS1.fr 1 0 rfl
  have f1 := hS1.fr 1 1 rfl
  have f2 := hS1.fr 1 2 rfl
  have f3 := hS1.fr 1 3 rfl
  have k0 := hS1.cell (v := .int .i64 0) 1 0 rfl rfl
  have k1 := hS1.cell (v := .slice none 0 0) 1 1 rfl rfl
  have k2 := hS1.cell (v := .slice none 0 0) 1 2 rfl rfl
  have k3 := hS1.cell (v := .slice none 0 0) 1 3 rfl rfl
  have HS1 := Lib.hid hS1
  clear hS1 hb1 e0 e1 e2 e3
  cases r
  · go_wp2
    have hq := (((HS1.out.set 1 rfl 0 (.int .i64 0)).set 1 rfl 1 (.slice none 0 0)).set 1 rfl 2 (.slice none 0 0)).set 1 rfl 3 (.slice none 0 0)
    have q0 := hq.cell (v := .int .i64 0) 1 0 rfl rfl
    have q1 := hq.cell (v := .slice none 0 0) 1 1 rfl rfl
    have q2 := hq.cell (v := .slice none 0 0) 1 2 rfl rfl
    have q3 := hq.cell (v := .slice none 0 0) 1 3 rfl rfl
    refine bodyPost_ret (v := .tuple #[.agg #[.int .i64 0, .slice none 0 0, .slice none 0 0, .slice none 0 0], .bool false]) (by simp [results, Try.results86, go_sem, q0, q1, q2, q3]) rfl ?_
    exact ⟨rfl, hq.bel⟩
  · go_wp2
    have hq := (((HS1.out.set 1 rfl 0 (.int .i64 n.states)).set 1 rfl 1 (.slice x1 l1 c1)).set 1 rfl 2 (.slice x2 l2 c2)).set 1 rfl 3 (.slice x3 l3 c3)
    have q0 := hq.cell (v := .int .i64 n.states) 1 0 rfl rfl
    have q1 := hq.cell (v := .slice x1 l1 c1) 1 1 rfl rfl
    have q2 := hq.cell (v := .slice x2 l2 c2) 1 2 rfl rfl
    have q3 := hq.cell (v := .slice x3 l3 c3) 1 3 rfl rfl
    refine bodyPost_ret (v := .tuple #[.agg #[.int .i64 n.states, .slice x1 l1 c1, .slice x2 l2 c2, .slice x3 l3 c3], .bool true]) (by simp [results, Try.results86, go_sem, q0, q1, q2, q3]) rfl ?_
    exact ⟨rfl, hq.bel⟩

def starN (n : NfaD) : NfaD := ⟨n.states + 1, n.moves ++ (n.firsts.map fun t => (n.states, -1, t)) ++ (n.ends.map fun s => (s, -1, n.states)), [n.states], [n.states]⟩
def starL (n : NfaD) : NfaD × Bool := if nfaOk n = true then limN (starN n) else (zeN, false)
set_option maxRecDepth 100000 in
set_option maxHeartbeats 16000000 in
theorem star_any (n : NfaD) (v1 v2 v3 : Value) (w : World) (h1 : Moves 0 w v1 n.moves) (h2 : Ints 0 w v2 n.firsts) (h3 : Ints 0 w v3 n.ends) (hs0 : -9223372036854775808 ≤ n.states) (hs1 : n.states ≤ 9223372036854775807) :
    Calls Try.prog 80 #[.agg #[.int .i64 n.states, v1, v2, v3]] w fun e w' => RNt (starL n).1 (starL n).2 w e w' := by
  have H := Lib.hid (nfaR_of h1 h2 h3 hs0 hs1)
  have hS0 := ((St.start w).alloc _ rfl #[.int .i64 n.states, v1, v2, v3] 26).alloc (w.heap.size + 1) (by simp) #[.int .i64 0, .slice none 0 0, .slice none 0 0, .slice none 0 0] 26
  have e0 := hS0.cell (v := .int .i64 n.states) 0 0 rfl rfl
  have e1 := hS0.cell (v := v1) 0 1 rfl rfl
  have e2 := hS0.cell (v := v2) 0 2 rfl rfl
  have e3 := hS0.cell (v := v3) 0 3 rfl rfl
  cases hok : nfaOk n
  · have hst : starL n = (zeN, false) := if_neg (by rw [hok]; simp)
    rw [hst]
    have Hhok := Lib.hid hok; clear hok
    have HhS0 := Lib.hid hS0; clear hS0
    clear h1 h2 h3 hst
    go_enter Try.func80, Try.ntmps80
    go_wp2_with fail
    refine (specNfaValid_any n _ _ (H.out.below HhS0.out.bel) false Hhok.out).mono ?_
    rintro e w1 ⟨rfl, hb1⟩
    have hS1 := HhS0.out.call hb1
    have f0 := hS1.fr 1 0 rfl
    have f1 := hS1.fr 1 1 rfl
    have f2 := hS1.fr 1 2 rfl
    have f3 := hS1.fr 1 3 rfl
    have k0 := hS1.cell (v := .int .i64 0) 1 0 rfl rfl
    have k1 := hS1.cell (v := .slice none 0 0) 1 1 rfl rfl
    have k2 := hS1.cell (v := .slice none 0 0) 1 2 rfl rfl
    have k3 := hS1.cell (v := .slice none 0 0) 1 3 rfl rfl
    have HS1 := Lib.hid hS1
    clear hS1 hb1 e0 e1 e2 e3
    go_wp2
    have hq := (((HS1.out.set 1 rfl 0 (.int .i64 0)).set 1 rfl 1 (.slice none 0 0)).set 1 rfl 2 (.slice none 0 0)).set 1 rfl 3 (.slice none 0 0)
    have q0 := hq.cell (v := .int .i64 0) 1 0 rfl rfl
    have q1 := hq.cell (v := .slice none 0 0) 1 1 rfl rfl
    have q2 := hq.cell (v := .slice none 0 0) 1 2 rfl rfl
    have q3 := hq.cell (v := .slice none 0 0) 1 3 rfl rfl
    refine bodyPost_ret (v := .tuple #[.agg #[.int .i64 0, .slice none 0 0, .slice none 0 0, .slice none 0 0], .bool false]) (by simp [results, Try.results80, go_sem, q0, q1, q2, q3]) rfl ?_
    exact rnt_zero hq.bel
  · have hst : starL n = limN (starN n) := if_pos hok
    rw [hst]
    obtain ⟨N, hN⟩ : ∃ N, N = starN n := ⟨_, rfl⟩
    rw [← hN]
    obtain ⟨m, hstm, hm40, hmv, hml, hf, hfl, he, hel⟩ := nfaOk_facts hok
    have hval := specNfaValid_any n (.agg #[.int .i64 n.states, v1, v2, v3])
    obtain ⟨av, cv, rfl, hc1, hm1, hr1⟩ := h1.form
    obtain ⟨af, cf, rfl, hc2, hm2, hr2⟩ := h2.form
    obtain ⟨ae, ce, rfl, hc3, hm3, hr3⟩ := h3.form
    obtain ⟨i0, hi, hz0, hz1, hz2⟩ := info_parts Try.infoMv
    have hM := fun (w' : World) (hb : Below w.heap.size w w') => h1.below hb
    obtain ⟨L1, hL1⟩ : ∃ L, L = n.moves.length := ⟨_, rfl⟩
    obtain ⟨L2, hL2⟩ : ∃ L, L = n.firsts.length := ⟨_, rfl⟩
    obtain ⟨L3, hL3⟩ : ∃ L, L = n.ends.length := ⟨_, rfl⟩
    have hsN : starN n = ⟨(m : Int) + 1, n.moves ++ (n.firsts.map fun t => ((m : Int), -1, t)) ++ (n.ends.map fun s => (s, -1, (m : Int))), [(m : Int)], [(m : Int)]⟩ := by unfold starN; rw [hstm]
    rw [hsN] at hN
    have hNs : N.states = (m : Int) + 1 := by rw [hN]
    have hNm : N.moves = n.moves ++ (n.firsts.map fun t => ((m : Int), -1, t)) ++ (n.ends.map fun s => (s, -1, (m : Int))) := by rw [hN]
    have hNf : N.firsts = [(m : Int)] := by rw [hN]
    have hNe : N.ends = [(m : Int)] := by rw [hN]
    unfold Moves at hM
    rw [hstm, ← hL1, ← hL2, ← hL3] at hval hS0 H e0
    rw [hstm, ← hL1, ← hL2, ← hL3]
    rw [← hL1] at hml hc1 hr1 hM e1
    rw [← hL2] at hfl hc2 hr2 e2
    rw [← hL3] at hel hc3 hr3 e3
    have Hval := Lib.hid hval
    have Hmv := Lib.hid hmv
    have Hf := Lib.hid hf
    have He := Lib.hid he
    have Hr1 := Lib.hid hr1
    have Hr2 := Lib.hid hr2
    have Hr3 := Lib.hid hr3
    have HM := Lib.hid hM
    have Hhok := Lib.hid hok; clear hok
    have HhS0 := Lib.hid hS0; clear hS0
    have HhL1 := Lib.hid hL1; clear hL1
    have HhL2 := Lib.hid hL2; clear hL2
    have HhL3 := Lib.hid hL3; clear hL3
    have Hhstm := Lib.hid hstm; clear hstm
    have HhsN := Lib.hid hsN; clear hsN
    have HhN := Lib.hid hN; clear hN
    have HhNs := Lib.hid hNs; clear hNs
    have HhNm := Lib.hid hNm; clear hNm
    have HhNf := Lib.hid hNf; clear hNf
    have HhNe := Lib.hid hNe; clear hNe
    have Hhi := Lib.hid hi; clear hi
    have Hhz0 := Lib.hid hz0; clear hz0
    have Hhz1 := Lib.hid hz1; clear hz1
    have Hhz2 := Lib.hid hz2; clear hz2
    clear h1 h2 h3 hmv hf he hr1 hr2 hr3 hval hM hst
    go_enter Try.func80, Try.ntmps80
    go_wp2_with fail
    refine (Hval.out _ (H.out.below HhS0.out.bel) true Hhok.out).mono ?_
    rintro e w1 ⟨rfl, hb1⟩
    have hS1 := HhS0.out.call hb1
    have d0 := hS1.cell (v := .int .i64 (m : Int)) 0 0 rfl rfl
    have d1 := hS1.cell (v := .slice av L1 cv) 0 1 rfl rfl
    have hSe := (hS1.alloc _ rfl #[] 76).boxrow 2 0 3 [] rfl rfl (Nat.zero_le _)
    have d1' := hSe.cell (v := .slice av L1 cv) 0 1 rfl rfl
    have HRe := Lib.hid (hSe.row 2 rfl)
    have HSe := Lib.hid hSe
    clear hS1 hb1 hSe e0 e1 e2 e3
    go_wp2_with (at_builtin; refine wpList_append_sl _ rfl _ _ _ rfl _ 76 i0 (.agg #[.int .i64 0, .int .i64 0, .int .i64 0]) 3 24 Try.underlying23 Hhi.out Hhz0.out Hhz1.out Hhz2.out rfl (by omega) (.slice (some ⟨w1.heap.size, 0, none⟩) 0 0) 0 [] rfl HRe.out (.slice av L1 cv) L1 (n.moves.flatMap moveCells) rfl (HM.out _ HSe.out.bel) on_mvs (by unfold maxLen; omega) (by omega) HSe.out.size ?_; intro a6 c6 w6 hown6 hgrow6 hat6; have hS6 := HSe.out.appS 2 rfl hown6 hgrow6 hat6; rw [Nat.zero_add] at hS6; rw [Nat.zero_add]; have HS6 := Lib.hid hS6; clear hown6 hgrow6 hat6 hS6)
    have hS7 := ((((HS6.out.alloc _ rfl #[.int .i64 (m : Int)] 3).boxrow 3 1 1 [.int .i64 (m : Int)] rfl rfl (by unfold maxLen; omega)).alloc (w6.heap.size + 1) (by simp) #[.int .i64 (m : Int)] 3).boxrow 4 1 1 [.int .i64 (m : Int)] rfl rfl (by unfold maxLen; omega)).alloc (w6.heap.size + 1 + 1) (by simp) #[.int .i64 ((m : Int) + 1), .slice a6 L1 c6, .slice (some ⟨w6.heap.size, 0, none⟩) 1 1, .slice (some ⟨w6.heap.size + 1, 0, none⟩) 1 1] 26
    have HS7 := Lib.hid (hS7.pick [0, 1, 5, 2, 3, 4] (by decide))
    clear hS7 d0 d1 d1'
    go_loopw [6] (fun i wr => ∃ (k : Nat) (a1 : Option Addr) (c1 : Nat), i = .int .i64 k ∧ k ≤ L2 ∧ St w wr [Ent.box w.heap.size #[.int .i64 (m : Int), .slice av L1 cv, .slice af L2 cf, .slice ae L3 ce] 26, Ent.box (w.heap.size + 1) #[.int .i64 0, .slice none 0 0, .slice none 0 0, .slice none 0 0] 26, Ent.box (w6.heap.size + 1 + 1) #[.int .i64 ((m : Int) + 1), .slice a1 (L1 + k) c1, .slice (some ⟨w6.heap.size, 0, none⟩) 1 1, .slice (some ⟨w6.heap.size + 1, 0, none⟩) 1 1] 26,
        Ent.row 76 3 (.slice a1 (L1 + k) c1) (L1 + k) ((n.moves ++ (n.firsts.take k).map fun t => ((m : Int), (-1 : Int), t)).flatMap moveCells), Ent.row 3 1 (.slice (some ⟨w6.heap.size, 0, none⟩) 1 1) 1 [.int .i64 (m : Int)], Ent.row 3 1 (.slice (some ⟨w6.heap.size + 1, 0, none⟩) 1 1) 1 [.int .i64 (m : Int)]]) (fun i _ => L2 - (intOf i).toNat)
    case atStart =>
      refine ⟨0, a6, c6, rfl, Nat.zero_le _, ?_⟩
      have h := HS7.out
      rw [List.take_zero, List.map_nil, List.append_nil]
      exact h
    case round =>
      obtain ⟨k, a1, c1, rfl, hk, hS⟩ := hrel
      have e9 := hS.cell (v := .slice af L2 cf) 0 2 rfl rfl
      by_cases hlt : k < L2
      · have hlt2 : (k : Int) < L2 := by omega
        have hkn : k < n.firsts.length := by have := HhL2.out; omega
        obtain ⟨b1, o1, rfl, -, hb1, hcs⟩ := Hr2.out (by omega)
        have m0 := hcs k hlt
        have hsn := take_map_snoc (fun t => ((m : Int), (-1 : Int), t)) (d := 0) hkn rfl
        obtain ⟨p0, hp⟩ : ∃ p, p = n.firsts.getD k 0 := ⟨_, rfl⟩
        rw [← hp] at m0 hsn
        have M0 := Lib.hid m0
        have HSq := Lib.hid hS
        have Hhp := Lib.hid hp; clear hp
        have Hhsn := Lib.hid hsn; clear hsn
        clear hS hcs m0
        go_wp2
        refine wp_region_any (by kernel_rfl) ?_
        refine wpAny_invA (fun A listed a w' => ∃ (l0 l1 l2 l3 l4 l5 l6 l7 l8 l9 l10 l11 l12 : Bool) (g7 : Nat) (c7 : Nat) (bn : Nat), listed = #[l0, l1, l2, l3, l4, l5, l6, l7, l8, l9, l10, l11, l12] ∧ (l10 = true → l1 = true ∧ l9 = true) ∧ (l12 = true → l10 = true ∧ l1 = true) ∧
            a = ⟨((((((((((((A.tmps.setIfInBounds 32 (if l0 = true then .pointer (some ⟨w6.heap.size + 1 + 1, 1, none⟩) else A.tmps.getD 32 undef)).setIfInBounds 33 (if l1 = true then .slice a1 (L1 + k) c1 else A.tmps.getD 33 undef)).setIfInBounds 34 (if l2 = true then .int .i64 (m : Int) else A.tmps.getD 34 undef)).setIfInBounds 35 (if l3 = true then .pointer (some ⟨w.heap.size, 2, none⟩) else A.tmps.getD 35 undef)).setIfInBounds 36 (if l4 = true then .slice (some ⟨b1, o1, none⟩) L2 cf else A.tmps.getD 36 undef)).setIfInBounds 37 (if l5 = true then .int .i64 (k : Int) else A.tmps.getD 37 undef)).setIfInBounds 38 (if l6 = true then .pointer (some ⟨b1, o1 + k, none⟩) else A.tmps.getD 38 undef)).setIfInBounds 39 (if l7 = true then .int .i64 p0 else A.tmps.getD 39 undef)).setIfInBounds 40 (if l8 = true then .agg #[.int .i64 (m : Int), .int .i64 (-1), .int .i64 p0] else A.tmps.getD 40 undef)).setIfInBounds 41 (if l9 = true then .slice (some ⟨bn, 0, none⟩) 1 1 else A.tmps.getD 41 undef)).setIfInBounds 42 (if l10 = true then .slice (some ⟨g7, 0, none⟩) ((L1 + k) + 1) c7 else A.tmps.getD 42 undef)).setIfInBounds 43 (if l11 = true then .pointer (some ⟨w6.heap.size + 1 + 1, 1, none⟩) else A.tmps.getD 43 undef)), A.defers⟩ ∧
            St w w' [Ent.box w.heap.size #[.int .i64 (m : Int), .slice av L1 cv, .slice (some ⟨b1, o1, none⟩) L2 cf, .slice ae L3 ce] 26, Ent.box (w.heap.size + 1) #[.int .i64 0, .slice none 0 0, .slice none 0 0, .slice none 0 0] 26, Ent.box (w6.heap.size + 1 + 1) #[.int .i64 ((m : Int) + 1), (if l12 = true then .slice (some ⟨g7, 0, none⟩) ((L1 + k) + 1) c7 else .slice a1 (L1 + k) c1), .slice (some ⟨w6.heap.size, 0, none⟩) 1 1, .slice (some ⟨w6.heap.size + 1, 0, none⟩) 1 1] 26, (if l10 = true then Ent.row 76 3 (.slice (some ⟨g7, 0, none⟩) ((L1 + k) + 1) c7) ((L1 + k) + 1) (((n.moves ++ (n.firsts.take k).map fun t => ((m : Int), (-1 : Int), t)).flatMap moveCells) ++ [.int .i64 (m : Int), .int .i64 (-1), .int .i64 p0]) else Ent.row 76 3 (.slice a1 (L1 + k) c1) (L1 + k) ((n.moves ++ (n.firsts.take k).map fun t => ((m : Int), (-1 : Int), t)).flatMap moveCells)), Ent.row 3 1 (.slice (some ⟨w6.heap.size, 0, none⟩) 1 1) 1 [.int .i64 (m : Int)], Ent.row 3 1 (.slice (some ⟨w6.heap.size + 1, 0, none⟩) 1 1) 1 [.int .i64 (m : Int)], (if l9 = true then Ent.box bn #[.int .i64 (m : Int), .int .i64 (-1), .int .i64 p0] 76 else Ent.nil)]) ?_ ?_ ?_
        · rintro listed a w' ⟨l0, l1, l2, l3, l4, l5, l6, l7, l8, l9, l10, l11, l12, g7, c7, bn, rfl, hd10, hd12, rfl, hS⟩ i hi
          obtain ⟨hun, o, ho, hall⟩ := mem_ready.1 hi
          have hlt := (Array.getElem?_eq_some_iff.1 ho).1
          refine wpOp_step ho (fun K hK => ?_)
          clear hi
          have HS := Lib.hid hS
          clear hS
          simp only [List.setIfInBounds_toArray, List.set_cons_zero, List.set_cons_succ, Array.getD_eq_getD_getElem?, List.getElem?_toArray, List.getElem?_cons_zero, List.getElem?_cons_succ, Option.getD_some]
          obtain h | h | h | h | h | h | h | h | h | h | h | h | h : i = 0 ∨ i = 1 ∨ i = 2 ∨ i = 3 ∨ i = 4 ∨ i = 5 ∨ i = 6 ∨ i = 7 ∨ i = 8 ∨ i = 9 ∨ i = 10 ∨ i = 11 ∨ i = 12 := by simp at hlt; omega
          all_goals subst h
          all_goals simp only [List.getElem?_toArray, List.getElem?_cons_zero, List.getElem?_cons_succ, Option.some.injEq] at ho
          all_goals subst ho
          all_goals simp [Region.binds] at hun hall
          · subst hun
            go_simp
            exact hK _ _ ⟨true, l1, l2, l3, l4, l5, l6, l7, l8, l9, l10, l11, l12, g7, c7, bn, rfl, hd10, hd12, (by simp only [↓reduceIte, List.setIfInBounds_toArray, List.set_cons_zero, List.set_cons_succ, Array.getD_eq_getD_getElem?, List.getElem?_toArray, List.getElem?_cons_zero, List.getElem?_cons_succ, Option.getD_some]), HS.out⟩
          · obtain rfl := hall
            subst hun
            obtain rfl : l10 = false := offL hd10 rfl
            obtain rfl : l12 = false := offL hd12 rfl
            have e0 := HS.out.cell (v := .slice a1 (L1 + k) c1) 2 1 rfl rfl
            go_simp
            exact hK _ _ ⟨true, true, l2, l3, l4, l5, l6, l7, l8, l9, false, l11, false, g7, c7, bn, rfl, by simp, by simp, (by simp only [↓reduceIte, Bool.false_eq_true, List.setIfInBounds_toArray, List.set_cons_zero, List.set_cons_succ, Array.getD_eq_getD_getElem?, List.getElem?_toArray, List.getElem?_cons_zero, List.getElem?_cons_succ, Option.getD_some]), HS.out⟩
          · subst hun
            go_simp
            exact hK _ _ ⟨l0, l1, true, l3, l4, l5, l6, l7, l8, l9, l10, l11, l12, g7, c7, bn, rfl, hd10, hd12, (by simp only [↓reduceIte, List.setIfInBounds_toArray, List.set_cons_zero, List.set_cons_succ, Array.getD_eq_getD_getElem?, List.getElem?_toArray, List.getElem?_cons_zero, List.getElem?_cons_succ, Option.getD_some]), HS.out⟩
          · subst hun
            go_simp
            exact hK _ _ ⟨l0, l1, l2, true, l4, l5, l6, l7, l8, l9, l10, l11, l12, g7, c7, bn, rfl, hd10, hd12, (by simp only [↓reduceIte, List.setIfInBounds_toArray, List.set_cons_zero, List.set_cons_succ, Array.getD_eq_getD_getElem?, List.getElem?_toArray, List.getElem?_cons_zero, List.getElem?_cons_succ, Option.getD_some]), HS.out⟩
          · obtain rfl := hall
            subst hun
            have e0 := HS.out.cell (v := .slice (some ⟨b1, o1, none⟩) L2 cf) 0 2 rfl rfl
            go_simp
            exact hK _ _ ⟨l0, l1, l2, true, true, l5, l6, l7, l8, l9, l10, l11, l12, g7, c7, bn, rfl, hd10, hd12, (by simp only [↓reduceIte, List.setIfInBounds_toArray, List.set_cons_zero, List.set_cons_succ, Array.getD_eq_getD_getElem?, List.getElem?_toArray, List.getElem?_cons_zero, List.getElem?_cons_succ, Option.getD_some]), HS.out⟩
          · subst hun
            go_simp
            exact hK _ _ ⟨l0, l1, l2, l3, l4, true, l6, l7, l8, l9, l10, l11, l12, g7, c7, bn, rfl, hd10, hd12, (by simp only [↓reduceIte, List.setIfInBounds_toArray, List.set_cons_zero, List.set_cons_succ, Array.getD_eq_getD_getElem?, List.getElem?_toArray, List.getElem?_cons_zero, List.getElem?_cons_succ, Option.getD_some]), HS.out⟩
          · obtain ⟨rfl, rfl⟩ := hall
            subst hun
            go_simp
            exact hK _ _ ⟨l0, l1, l2, l3, true, true, true, l7, l8, l9, l10, l11, l12, g7, c7, bn, rfl, hd10, hd12, (by simp only [↓reduceIte, List.setIfInBounds_toArray, List.set_cons_zero, List.set_cons_succ, Array.getD_eq_getD_getElem?, List.getElem?_toArray, List.getElem?_cons_zero, List.getElem?_cons_succ, Option.getD_some]), HS.out⟩
          · obtain rfl := hall
            subst hun
            have e0 := (bcell HS.out.bel b1 _ hb1).trans M0.out
            go_simp
            exact hK _ _ ⟨l0, l1, l2, l3, l4, l5, true, true, l8, l9, l10, l11, l12, g7, c7, bn, rfl, hd10, hd12, (by simp only [↓reduceIte, List.setIfInBounds_toArray, List.set_cons_zero, List.set_cons_succ, Array.getD_eq_getD_getElem?, List.getElem?_toArray, List.getElem?_cons_zero, List.getElem?_cons_succ, Option.getD_some]), HS.out⟩
          · obtain ⟨rfl, rfl⟩ := hall
            subst hun
            go_simp
            exact hK _ _ ⟨l0, l1, true, l3, l4, l5, l6, true, true, l9, l10, l11, l12, g7, c7, bn, rfl, hd10, hd12, (by simp only [↓reduceIte, List.setIfInBounds_toArray, List.set_cons_zero, List.set_cons_succ, Array.getD_eq_getD_getElem?, List.getElem?_toArray, List.getElem?_cons_zero, List.getElem?_cons_succ, Option.getD_some]), HS.out⟩
          · obtain rfl := hall
            subst hun
            obtain rfl : l10 = false := offR hd10 rfl
            obtain rfl : l12 = false := offL hd12 rfl
            have hS2 := (HS.out.alloc _ rfl #[.int .i64 (m : Int), .int .i64 (-1), .int .i64 p0] 76).pick [0, 1, 2, 3, 4, 5, 7] (by decide)
            have HhS2 := Lib.hid hS2; clear hS2
            go_simp
            exact hK _ _ ⟨l0, l1, l2, l3, l4, l5, l6, l7, true, true, false, l11, false, g7, c7, _, rfl, by simp, by simp, (by simp only [↓reduceIte, Bool.false_eq_true, List.setIfInBounds_toArray, List.set_cons_zero, List.set_cons_succ, Array.getD_eq_getD_getElem?, List.getElem?_toArray, List.getElem?_cons_zero, List.getElem?_cons_succ, Option.getD_some]), HhS2.out⟩
          · obtain ⟨rfl, rfl⟩ := hall
            subst hun
            obtain rfl : l12 = false := offL hd12 rfl
            refine step_append_lies (a := ⟨_, _⟩) _ (by rfl) _ _ _ (by rfl) w.heap.size 76 i0 (.agg #[.int .i64 0, .int .i64 0, .int .i64 0]) 3 24 Try.underlying23 Hhi.out Hhz0.out Hhz1.out Hhz2.out (by rfl) (by omega) (.slice a1 (L1 + k) c1) (L1 + k) ((n.moves ++ (n.firsts.take k).map fun t => ((m : Int), (-1 : Int), t)).flatMap moveCells) (by rfl) (HS.out.row 3 rfl) ⟨bn, 0, none⟩ 1 1 [.int .i64 (m : Int), .int .i64 (-1), .int .i64 p0] (by rfl) (by rfl) (World.news_of_block (HS.out.box 6 rfl)) one_mv (by omega) (by unfold maxLen; omega) (by omega) HS.out.size _ rfl ?_
            intro g8 c8 w8 hown8 hgrow8 hat8 hlt8
            have HS8 := Lib.hid (HS.out.app 3 rfl hown8 hgrow8 hat8)
            clear hown8 hgrow8 hat8
            go_simp
            exact hK _ _ ⟨l0, true, l2, l3, l4, l5, l6, l7, l8, true, true, l11, false, g8, c8, bn, rfl, by simp, by simp, (by simp only [↓reduceIte, List.setIfInBounds_toArray, List.set_cons_zero, List.set_cons_succ, Array.getD_eq_getD_getElem?, List.getElem?_toArray, List.getElem?_cons_zero, List.getElem?_cons_succ, Option.getD_some]), HS8.out⟩
          · obtain ⟨rfl, rfl, rfl, rfl, rfl, rfl, rfl, rfl, rfl, rfl, rfl⟩ := hall
            subst hun
            go_simp
            exact hK _ _ ⟨true, true, true, true, true, true, true, true, true, true, true, true, l12, g7, c7, bn, rfl, by simp, hd12, (by simp only [↓reduceIte, List.setIfInBounds_toArray, List.set_cons_zero, List.set_cons_succ]), HS.out⟩
          · obtain ⟨rfl, rfl, rfl, rfl, rfl, rfl, rfl, rfl, rfl, rfl, rfl, rfl, -⟩ := hall
            subst hun
            have f0 := HS.out.fr 2 1 rfl
            have k0 := HS.out.cell (v := .slice a1 (L1 + k) c1) 2 1 rfl rfl
            go_simp
            exact hK _ _ ⟨true, true, true, true, true, true, true, true, true, true, true, true, true, g7, c7, bn, rfl, by simp, by simp, (by simp only [↓reduceIte, List.setIfInBounds_toArray, List.set_cons_zero, List.set_cons_succ]), (HS.out.set 2 rfl 1 (.slice (some ⟨g7, 0, none⟩) ((L1 + k) + 1) c7))⟩
        · rintro listed a w' ⟨l0, l1, l2, l3, l4, l5, l6, l7, l8, l9, l10, l11, l12, g7, c7, bn, rfl, hd10, hd12, rfl, hS⟩ hr
          have hall := ready_nil (by kernel_rfl) rfl hr
          obtain rfl : l0 = true := by simpa using hall 0 (by simp)
          obtain rfl : l1 = true := by simpa using hall 1 (by simp)
          obtain rfl : l2 = true := by simpa using hall 2 (by simp)
          obtain rfl : l3 = true := by simpa using hall 3 (by simp)
          obtain rfl : l4 = true := by simpa using hall 4 (by simp)
          obtain rfl : l5 = true := by simpa using hall 5 (by simp)
          obtain rfl : l6 = true := by simpa using hall 6 (by simp)
          obtain rfl : l7 = true := by simpa using hall 7 (by simp)
          obtain rfl : l8 = true := by simpa using hall 8 (by simp)
          obtain rfl : l9 = true := by simpa using hall 9 (by simp)
          obtain rfl : l10 = true := by simpa using hall 10 (by simp)
          obtain rfl : l11 = true := by simpa using hall 11 (by simp)
          obtain rfl : l12 = true := by simpa using hall 12 (by simp)
          clear hall hr hd10 hd12
          simp only [↓reduceIte] at hS ⊢
          simp only [List.setIfInBounds_toArray, List.set_cons_zero, List.set_cons_succ]
          have hS9 := hS.pick [0, 1, 2, 3, 4, 5] (by decide)
          have HhS9 := Lib.hid hS9; clear hS9
          clear hS
          go_wp2
          go_roundw
          case rel =>
            refine ⟨k + 1, some ⟨g7, 0, none⟩, c7, by go_num, by omega, ?_⟩
            rw [Hhsn.out, ← List.append_assoc, List.flatMap_append (xs := _ ++ _)]
            exact HhS9.out
          case measure => simp [intOf]; omega
        · refine ⟨false, false, false, false, false, false, false, false, false, false, false, false, false, 0, 0, 0, rfl, by simp, by simp, (by simp only [↓reduceIte, Bool.false_eq_true, List.setIfInBounds_toArray, List.set_cons_zero, List.set_cons_succ, Array.getD_eq_getD_getElem?, List.getElem?_toArray, List.getElem?_cons_zero, List.getElem?_cons_succ, Option.getD_some]), ?_⟩
          exact HSq.out.drew.pick [0, 1, 2, 3, 4, 5, 6] (by decide)
      · obtain rfl : L2 = k := by omega
        rw [show (n.firsts.take L2) = n.firsts from List.take_of_length_le (by have := HhL2.out; omega)] at hS
        have HS2 := Lib.hid hS
        clear hS
        go_wp2
        go_loopw [7] (fun i wr => ∃ (k : Nat) (a1 : Option Addr) (c1 : Nat), i = .int .i64 k ∧ k ≤ L3 ∧ St w wr [Ent.box w.heap.size #[.int .i64 (m : Int), .slice av L1 cv, .slice af L2 cf, .slice ae L3 ce] 26, Ent.box (w.heap.size + 1) #[.int .i64 0, .slice none 0 0, .slice none 0 0, .slice none 0 0] 26, Ent.box (w6.heap.size + 1 + 1) #[.int .i64 ((m : Int) + 1), .slice a1 (L1 + L2 + k) c1, .slice (some ⟨w6.heap.size, 0, none⟩) 1 1, .slice (some ⟨w6.heap.size + 1, 0, none⟩) 1 1] 26,
            Ent.row 76 3 (.slice a1 (L1 + L2 + k) c1) (L1 + L2 + k) ((n.moves ++ (n.firsts.map fun t => ((m : Int), (-1 : Int), t)) ++ (n.ends.take k).map fun s => (s, (-1 : Int), (m : Int))).flatMap moveCells), Ent.row 3 1 (.slice (some ⟨w6.heap.size, 0, none⟩) 1 1) 1 [.int .i64 (m : Int)], Ent.row 3 1 (.slice (some ⟨w6.heap.size + 1, 0, none⟩) 1 1) 1 [.int .i64 (m : Int)]]) (fun i _ => L3 - (intOf i).toNat)
        case atStart =>
          refine ⟨0, a1, c1, rfl, Nat.zero_le _, ?_⟩
          have h := HS2.out
          rw [List.take_zero, List.map_nil, List.append_nil]
          exact h
        case round =>
          obtain ⟨k, a1, c1, rfl, hk, hS⟩ := hrel
          have e9 := hS.cell (v := .slice ae L3 ce) 0 3 rfl rfl
          by_cases hlt : k < L3
          · have hlt2 : (k : Int) < L3 := by omega
            have hkn : k < n.ends.length := by have := HhL3.out; omega
            obtain ⟨b1, o1, rfl, -, hb1, hcs⟩ := Hr3.out (by omega)
            have m0 := hcs k hlt
            have hsn := take_map_snoc (fun s => (s, (-1 : Int), (m : Int))) (d := 0) hkn rfl
            obtain ⟨p0, hp⟩ : ∃ p, p = n.ends.getD k 0 := ⟨_, rfl⟩
            rw [← hp] at m0 hsn
            have M0 := Lib.hid m0
            have HSq := Lib.hid hS
            have Hhp := Lib.hid hp; clear hp
            have Hhsn := Lib.hid hsn; clear hsn
            clear hS hcs m0
            go_wp2
            refine wp_region_any (by kernel_rfl) ?_
            refine wpAny_invA (fun A listed a w' => ∃ (l0 l1 l2 l3 l4 l5 l6 l7 l8 l9 l10 l11 l12 : Bool) (g7 : Nat) (c7 : Nat) (bn : Nat), listed = #[l0, l1, l2, l3, l4, l5, l6, l7, l8, l9, l10, l11, l12] ∧ (l10 = true → l1 = true ∧ l9 = true) ∧ (l12 = true → l10 = true ∧ l1 = true) ∧
                a = ⟨((((((((((((A.tmps.setIfInBounds 51 (if l0 = true then .pointer (some ⟨w6.heap.size + 1 + 1, 1, none⟩) else A.tmps.getD 51 undef)).setIfInBounds 52 (if l1 = true then .slice a1 (L1 + L2 + k) c1 else A.tmps.getD 52 undef)).setIfInBounds 53 (if l2 = true then .pointer (some ⟨w.heap.size, 3, none⟩) else A.tmps.getD 53 undef)).setIfInBounds 54 (if l3 = true then .slice (some ⟨b1, o1, none⟩) L3 ce else A.tmps.getD 54 undef)).setIfInBounds 55 (if l4 = true then .int .i64 (k : Int) else A.tmps.getD 55 undef)).setIfInBounds 56 (if l5 = true then .pointer (some ⟨b1, o1 + k, none⟩) else A.tmps.getD 56 undef)).setIfInBounds 57 (if l6 = true then .int .i64 p0 else A.tmps.getD 57 undef)).setIfInBounds 58 (if l7 = true then .int .i64 (m : Int) else A.tmps.getD 58 undef)).setIfInBounds 59 (if l8 = true then .agg #[.int .i64 p0, .int .i64 (-1), .int .i64 (m : Int)] else A.tmps.getD 59 undef)).setIfInBounds 60 (if l9 = true then .slice (some ⟨bn, 0, none⟩) 1 1 else A.tmps.getD 60 undef)).setIfInBounds 61 (if l10 = true then .slice (some ⟨g7, 0, none⟩) ((L1 + L2 + k) + 1) c7 else A.tmps.getD 61 undef)).setIfInBounds 62 (if l11 = true then .pointer (some ⟨w6.heap.size + 1 + 1, 1, none⟩) else A.tmps.getD 62 undef)), A.defers⟩ ∧
                St w w' [Ent.box w.heap.size #[.int .i64 (m : Int), .slice av L1 cv, .slice af L2 cf, .slice (some ⟨b1, o1, none⟩) L3 ce] 26, Ent.box (w.heap.size + 1) #[.int .i64 0, .slice none 0 0, .slice none 0 0, .slice none 0 0] 26, Ent.box (w6.heap.size + 1 + 1) #[.int .i64 ((m : Int) + 1), (if l12 = true then .slice (some ⟨g7, 0, none⟩) ((L1 + L2 + k) + 1) c7 else .slice a1 (L1 + L2 + k) c1), .slice (some ⟨w6.heap.size, 0, none⟩) 1 1, .slice (some ⟨w6.heap.size + 1, 0, none⟩) 1 1] 26, (if l10 = true then Ent.row 76 3 (.slice (some ⟨g7, 0, none⟩) ((L1 + L2 + k) + 1) c7) ((L1 + L2 + k) + 1) (((n.moves ++ (n.firsts.map fun t => ((m : Int), (-1 : Int), t)) ++ (n.ends.take k).map fun s => (s, (-1 : Int), (m : Int))).flatMap moveCells) ++ [.int .i64 p0, .int .i64 (-1), .int .i64 (m : Int)]) else Ent.row 76 3 (.slice a1 (L1 + L2 + k) c1) (L1 + L2 + k) ((n.moves ++ (n.firsts.map fun t => ((m : Int), (-1 : Int), t)) ++ (n.ends.take k).map fun s => (s, (-1 : Int), (m : Int))).flatMap moveCells)), Ent.row 3 1 (.slice (some ⟨w6.heap.size, 0, none⟩) 1 1) 1 [.int .i64 (m : Int)], Ent.row 3 1 (.slice (some ⟨w6.heap.size + 1, 0, none⟩) 1 1) 1 [.int .i64 (m : Int)], (if l9 = true then Ent.box bn #[.int .i64 p0, .int .i64 (-1), .int .i64 (m : Int)] 76 else Ent.nil)]) ?_ ?_ ?_
            · rintro listed a w' ⟨l0, l1, l2, l3, l4, l5, l6, l7, l8, l9, l10, l11, l12, g7, c7, bn, rfl, hd10, hd12, rfl, hS⟩ i hi
              obtain ⟨hun, o, ho, hall⟩ := mem_ready.1 hi
              have hlt := (Array.getElem?_eq_some_iff.1 ho).1
              refine wpOp_step ho (fun K hK => ?_)
              clear hi
              have HS := Lib.hid hS
              clear hS
              simp only [List.setIfInBounds_toArray, List.set_cons_zero, List.set_cons_succ, Array.getD_eq_getD_getElem?, List.getElem?_toArray, List.getElem?_cons_zero, List.getElem?_cons_succ, Option.getD_some]
              obtain h | h | h | h | h | h | h | h | h | h | h | h | h : i = 0 ∨ i = 1 ∨ i = 2 ∨ i = 3 ∨ i = 4 ∨ i = 5 ∨ i = 6 ∨ i = 7 ∨ i = 8 ∨ i = 9 ∨ i = 10 ∨ i = 11 ∨ i = 12 := by simp at hlt; omega
              all_goals subst h
              all_goals simp only [List.getElem?_toArray, List.getElem?_cons_zero, List.getElem?_cons_succ, Option.some.injEq] at ho
              all_goals subst ho
              all_goals simp [Region.binds] at hun hall
              · subst hun
                go_simp
                exact hK _ _ ⟨true, l1, l2, l3, l4, l5, l6, l7, l8, l9, l10, l11, l12, g7, c7, bn, rfl, hd10, hd12, (by simp only [↓reduceIte, List.setIfInBounds_toArray, List.set_cons_zero, List.set_cons_succ, Array.getD_eq_getD_getElem?, List.getElem?_toArray, List.getElem?_cons_zero, List.getElem?_cons_succ, Option.getD_some]), HS.out⟩
              · obtain rfl := hall
                subst hun
                obtain rfl : l10 = false := offL hd10 rfl
                obtain rfl : l12 = false := offL hd12 rfl
                have e0 := HS.out.cell (v := .slice a1 (L1 + L2 + k) c1) 2 1 rfl rfl
                go_simp
                exact hK _ _ ⟨true, true, l2, l3, l4, l5, l6, l7, l8, l9, false, l11, false, g7, c7, bn, rfl, by simp, by simp, (by simp only [↓reduceIte, Bool.false_eq_true, List.setIfInBounds_toArray, List.set_cons_zero, List.set_cons_succ, Array.getD_eq_getD_getElem?, List.getElem?_toArray, List.getElem?_cons_zero, List.getElem?_cons_succ, Option.getD_some]), HS.out⟩
              · subst hun
                go_simp
                exact hK _ _ ⟨l0, l1, true, l3, l4, l5, l6, l7, l8, l9, l10, l11, l12, g7, c7, bn, rfl, hd10, hd12, (by simp only [↓reduceIte, List.setIfInBounds_toArray, List.set_cons_zero, List.set_cons_succ, Array.getD_eq_getD_getElem?, List.getElem?_toArray, List.getElem?_cons_zero, List.getElem?_cons_succ, Option.getD_some]), HS.out⟩
              · obtain rfl := hall
                subst hun
                have e0 := HS.out.cell (v := .slice (some ⟨b1, o1, none⟩) L3 ce) 0 3 rfl rfl
                go_simp
                exact hK _ _ ⟨l0, l1, true, true, l4, l5, l6, l7, l8, l9, l10, l11, l12, g7, c7, bn, rfl, hd10, hd12, (by simp only [↓reduceIte, List.setIfInBounds_toArray, List.set_cons_zero, List.set_cons_succ, Array.getD_eq_getD_getElem?, List.getElem?_toArray, List.getElem?_cons_zero, List.getElem?_cons_succ, Option.getD_some]), HS.out⟩
              · subst hun
                go_simp
                exact hK _ _ ⟨l0, l1, l2, l3, true, l5, l6, l7, l8, l9, l10, l11, l12, g7, c7, bn, rfl, hd10, hd12, (by simp only [↓reduceIte, List.setIfInBounds_toArray, List.set_cons_zero, List.set_cons_succ, Array.getD_eq_getD_getElem?, List.getElem?_toArray, List.getElem?_cons_zero, List.getElem?_cons_succ, Option.getD_some]), HS.out⟩
              · obtain ⟨rfl, rfl⟩ := hall
                subst hun
                go_simp
                exact hK _ _ ⟨l0, l1, l2, true, true, true, l6, l7, l8, l9, l10, l11, l12, g7, c7, bn, rfl, hd10, hd12, (by simp only [↓reduceIte, List.setIfInBounds_toArray, List.set_cons_zero, List.set_cons_succ, Array.getD_eq_getD_getElem?, List.getElem?_toArray, List.getElem?_cons_zero, List.getElem?_cons_succ, Option.getD_some]), HS.out⟩
              · obtain rfl := hall
                subst hun
                have e0 := (bcell HS.out.bel b1 _ hb1).trans M0.out
                go_simp
                exact hK _ _ ⟨l0, l1, l2, l3, l4, true, true, l7, l8, l9, l10, l11, l12, g7, c7, bn, rfl, hd10, hd12, (by simp only [↓reduceIte, List.setIfInBounds_toArray, List.set_cons_zero, List.set_cons_succ, Array.getD_eq_getD_getElem?, List.getElem?_toArray, List.getElem?_cons_zero, List.getElem?_cons_succ, Option.getD_some]), HS.out⟩
              · subst hun
                go_simp
                exact hK _ _ ⟨l0, l1, l2, l3, l4, l5, l6, true, l8, l9, l10, l11, l12, g7, c7, bn, rfl, hd10, hd12, (by simp only [↓reduceIte, List.setIfInBounds_toArray, List.set_cons_zero, List.set_cons_succ, Array.getD_eq_getD_getElem?, List.getElem?_toArray, List.getElem?_cons_zero, List.getElem?_cons_succ, Option.getD_some]), HS.out⟩
              · obtain ⟨rfl, rfl⟩ := hall
                subst hun
                go_simp
                exact hK _ _ ⟨l0, l1, l2, l3, l4, l5, true, true, true, l9, l10, l11, l12, g7, c7, bn, rfl, hd10, hd12, (by simp only [↓reduceIte, List.setIfInBounds_toArray, List.set_cons_zero, List.set_cons_succ, Array.getD_eq_getD_getElem?, List.getElem?_toArray, List.getElem?_cons_zero, List.getElem?_cons_succ, Option.getD_some]), HS.out⟩
              · obtain rfl := hall
                subst hun
                obtain rfl : l10 = false := offR hd10 rfl
                obtain rfl : l12 = false := offL hd12 rfl
                have hS2 := (HS.out.alloc _ rfl #[.int .i64 p0, .int .i64 (-1), .int .i64 (m : Int)] 76).pick [0, 1, 2, 3, 4, 5, 7] (by decide)
                have HhS2 := Lib.hid hS2; clear hS2
                go_simp
                exact hK _ _ ⟨l0, l1, l2, l3, l4, l5, l6, l7, true, true, false, l11, false, g7, c7, _, rfl, by simp, by simp, (by simp only [↓reduceIte, Bool.false_eq_true, List.setIfInBounds_toArray, List.set_cons_zero, List.set_cons_succ, Array.getD_eq_getD_getElem?, List.getElem?_toArray, List.getElem?_cons_zero, List.getElem?_cons_succ, Option.getD_some]), HhS2.out⟩
              · obtain ⟨rfl, rfl⟩ := hall
                subst hun
                obtain rfl : l12 = false := offL hd12 rfl
                refine step_append_lies (a := ⟨_, _⟩) _ (by rfl) _ _ _ (by rfl) w.heap.size 76 i0 (.agg #[.int .i64 0, .int .i64 0, .int .i64 0]) 3 24 Try.underlying23 Hhi.out Hhz0.out Hhz1.out Hhz2.out (by rfl) (by omega) (.slice a1 (L1 + L2 + k) c1) (L1 + L2 + k) ((n.moves ++ (n.firsts.map fun t => ((m : Int), (-1 : Int), t)) ++ (n.ends.take k).map fun s => (s, (-1 : Int), (m : Int))).flatMap moveCells) (by rfl) (HS.out.row 3 rfl) ⟨bn, 0, none⟩ 1 1 [.int .i64 p0, .int .i64 (-1), .int .i64 (m : Int)] (by rfl) (by rfl) (World.news_of_block (HS.out.box 6 rfl)) one_mv (by omega) (by unfold maxLen; omega) (by omega) HS.out.size _ rfl ?_
                intro g8 c8 w8 hown8 hgrow8 hat8 hlt8
                have HS8 := Lib.hid (HS.out.app 3 rfl hown8 hgrow8 hat8)
                clear hown8 hgrow8 hat8
                go_simp
                exact hK _ _ ⟨l0, true, l2, l3, l4, l5, l6, l7, l8, true, true, l11, false, g8, c8, bn, rfl, by simp, by simp, (by simp only [↓reduceIte, List.setIfInBounds_toArray, List.set_cons_zero, List.set_cons_succ, Array.getD_eq_getD_getElem?, List.getElem?_toArray, List.getElem?_cons_zero, List.getElem?_cons_succ, Option.getD_some]), HS8.out⟩
              · obtain ⟨rfl, rfl, rfl, rfl, rfl, rfl, rfl, rfl, rfl, rfl, rfl⟩ := hall
                subst hun
                go_simp
                exact hK _ _ ⟨true, true, true, true, true, true, true, true, true, true, true, true, l12, g7, c7, bn, rfl, by simp, hd12, (by simp only [↓reduceIte, List.setIfInBounds_toArray, List.set_cons_zero, List.set_cons_succ]), HS.out⟩
              · obtain ⟨rfl, rfl, rfl, rfl, rfl, rfl, rfl, rfl, rfl, rfl, rfl, rfl, -⟩ := hall
                subst hun
                have f0 := HS.out.fr 2 1 rfl
                have k0 := HS.out.cell (v := .slice a1 (L1 + L2 + k) c1) 2 1 rfl rfl
                go_simp
                exact hK _ _ ⟨true, true, true, true, true, true, true, true, true, true, true, true, true, g7, c7, bn, rfl, by simp, by simp, (by simp only [↓reduceIte, List.setIfInBounds_toArray, List.set_cons_zero, List.set_cons_succ]), (HS.out.set 2 rfl 1 (.slice (some ⟨g7, 0, none⟩) ((L1 + L2 + k) + 1) c7))⟩
            · rintro listed a w' ⟨l0, l1, l2, l3, l4, l5, l6, l7, l8, l9, l10, l11, l12, g7, c7, bn, rfl, hd10, hd12, rfl, hS⟩ hr
              have hall := ready_nil (by kernel_rfl) rfl hr
              obtain rfl : l0 = true := by simpa using hall 0 (by simp)
              obtain rfl : l1 = true := by simpa using hall 1 (by simp)
              obtain rfl : l2 = true := by simpa using hall 2 (by simp)
              obtain rfl : l3 = true := by simpa using hall 3 (by simp)
              obtain rfl : l4 = true := by simpa using hall 4 (by simp)
              obtain rfl : l5 = true := by simpa using hall 5 (by simp)
              obtain rfl : l6 = true := by simpa using hall 6 (by simp)
              obtain rfl : l7 = true := by simpa using hall 7 (by simp)
              obtain rfl : l8 = true := by simpa using hall 8 (by simp)
              obtain rfl : l9 = true := by simpa using hall 9 (by simp)
              obtain rfl : l10 = true := by simpa using hall 10 (by simp)
              obtain rfl : l11 = true := by simpa using hall 11 (by simp)
              obtain rfl : l12 = true := by simpa using hall 12 (by simp)
              clear hall hr hd10 hd12
              simp only [↓reduceIte] at hS ⊢
              simp only [List.setIfInBounds_toArray, List.set_cons_zero, List.set_cons_succ]
              have hS9 := hS.pick [0, 1, 2, 3, 4, 5] (by decide)
              have HhS9 := Lib.hid hS9; clear hS9
              clear hS
              go_wp2
              go_roundw
              case rel =>
                refine ⟨k + 1, some ⟨g7, 0, none⟩, c7, by go_num, by omega, ?_⟩
                rw [Hhsn.out, ← List.append_assoc, List.flatMap_append (xs := _ ++ _)]
                exact HhS9.out
              case measure => simp [intOf]; omega
            · refine ⟨false, false, false, false, false, false, false, false, false, false, false, false, false, 0, 0, 0, rfl, by simp, by simp, (by simp only [↓reduceIte, Bool.false_eq_true, List.setIfInBounds_toArray, List.set_cons_zero, List.set_cons_succ, Array.getD_eq_getD_getElem?, List.getElem?_toArray, List.getElem?_cons_zero, List.getElem?_cons_succ, Option.getD_some]), ?_⟩
              exact HSq.out.drew.pick [0, 1, 2, 3, 4, 5, 6] (by decide)
          · obtain rfl : L3 = k := by omega
            rw [show (n.ends.take L3) = n.ends from List.take_of_length_le (by have := HhL3.out; omega)] at hS
            have r0 := hS.cell (v := .int .i64 ((m : Int) + 1)) 2 0 rfl rfl
            have r1 := hS.cell (v := .slice a1 (L1 + L2 + L3) c1) 2 1 rfl rfl
            have r2 := hS.cell (v := .slice (some ⟨w6.heap.size, 0, none⟩) 1 1) 2 2 rfl rfl
            have r3 := hS.cell (v := .slice (some ⟨w6.heap.size + 1, 0, none⟩) 1 1) 2 3 rfl rfl
            have HS4 := Lib.hid hS
            have hNl : N.moves.length = L1 + L2 + L3 := by rw [HhNm.out, List.length_append, List.length_append, List.length_map, List.length_map, HhL1.out, HhL2.out, HhL3.out]
            have hr3 := hS.row 3 rfl
            rw [← HhNm.out, ← hNl] at hr3
            have hMv := moves_of_row hr3
            have hI5 : Ints 0 wr (.slice (some ⟨w6.heap.size, 0, none⟩) 1 1) N.firsts := by rw [HhNf.out]; exact hS.intsR (xs := [(m : Int)]) 4 rfl
            have hI6 : Ints 0 wr (.slice (some ⟨w6.heap.size + 1, 0, none⟩) 1 1) N.ends := by rw [HhNe.out]; exact hS.intsR (xs := [(m : Int)]) 5 rfl
            have hlim := fun (r : Bool) (hr : nfaOk N = r) => limit_any N _ _ _ wr r hr (nfaR_of hMv hI5 hI6 (by rw [HhNs.out]; omega) (by rw [HhNs.out]; omega))
            rw [HhNs.out, hNl] at hlim
            have HhNl := Lib.hid hNl; clear hNl
            clear hS hr3 hMv hI5 hI6
            cases hr : nfaOk N
            · have hl := hlim false hr
              simp only [Bool.false_eq_true, ↓reduceIte] at hl
              have hlm : limN N = (zeN, false) := if_neg (by rw [hr]; simp)
              have Hl := Lib.hid hl
              have Hlm := Lib.hid hlm
              have Hhr := Lib.hid hr; clear hr
              clear hl hlm hlim
              go_wp2_with fail
              refine Hl.out.mono ?_
              rintro e w9 ⟨rfl, hb9⟩
              have hS9 := HS4.out.call hb9
              have f0 := hS9.fr 1 0 rfl
              have f1 := hS9.fr 1 1 rfl
              have f2 := hS9.fr 1 2 rfl
              have f3 := hS9.fr 1 3 rfl
              have k0 := hS9.cell (v := .int .i64 0) 1 0 rfl rfl
              have k1 := hS9.cell (v := .slice none 0 0) 1 1 rfl rfl
              have k2 := hS9.cell (v := .slice none 0 0) 1 2 rfl rfl
              have k3 := hS9.cell (v := .slice none 0 0) 1 3 rfl rfl
              have HS9 := Lib.hid hS9
              clear hS9 hb9 r0 r1 r2 r3 e9
              go_wp2
              have hq := (((HS9.out.set 1 rfl 0 (.int .i64 0)).set 1 rfl 1 (.slice none 0 0)).set 1 rfl 2 (.slice none 0 0)).set 1 rfl 3 (.slice none 0 0)
              have q0 := hq.cell (v := .int .i64 0) 1 0 rfl rfl
              have q1 := hq.cell (v := .slice none 0 0) 1 1 rfl rfl
              have q2 := hq.cell (v := .slice none 0 0) 1 2 rfl rfl
              have q3 := hq.cell (v := .slice none 0 0) 1 3 rfl rfl
              refine bodyPost_ret (v := .tuple #[.agg #[.int .i64 0, .slice none 0 0, .slice none 0 0, .slice none 0 0], .bool false]) (by simp [results, Try.results80, go_sem, q0, q1, q2, q3]) rfl ?_
              rw [Hlm.out]
              exact rnt_zero hq.bel
            · have hl := hlim true hr
              simp only [↓reduceIte] at hl
              have hlm : limN N = (N, true) := if_pos hr
              have Hl := Lib.hid hl
              have Hlm := Lib.hid hlm
              have Hhr := Lib.hid hr; clear hr
              clear hl hlm hlim
              go_wp2_with fail
              refine Hl.out.mono ?_
              rintro e w9 ⟨rfl, hb9⟩
              have hS9 := HS4.out.call hb9
              have f0 := hS9.fr 1 0 rfl
              have f1 := hS9.fr 1 1 rfl
              have f2 := hS9.fr 1 2 rfl
              have f3 := hS9.fr 1 3 rfl
              have k0 := hS9.cell (v := .int .i64 0) 1 0 rfl rfl
              have k1 := hS9.cell (v := .slice none 0 0) 1 1 rfl rfl
              have k2 := hS9.cell (v := .slice none 0 0) 1 2 rfl rfl
              have k3 := hS9.cell (v := .slice none 0 0) 1 3 rfl rfl
              have HS9 := Lib.hid hS9
              clear hS9 hb9 r0 r1 r2 r3 e9
              go_wp2
              have hq := (((HS9.out.set 1 rfl 0 (.int .i64 ((m : Int) + 1))).set 1 rfl 1 (.slice a1 (L1 + L2 + L3) c1)).set 1 rfl 2 (.slice (some ⟨w6.heap.size, 0, none⟩) 1 1)).set 1 rfl 3 (.slice (some ⟨w6.heap.size + 1, 0, none⟩) 1 1)
              have q0 := hq.cell (v := .int .i64 ((m : Int) + 1)) 1 0 rfl rfl
              have q1 := hq.cell (v := .slice a1 (L1 + L2 + L3) c1) 1 1 rfl rfl
              have q2 := hq.cell (v := .slice (some ⟨w6.heap.size, 0, none⟩) 1 1) 1 2 rfl rfl
              have q3 := hq.cell (v := .slice (some ⟨w6.heap.size + 1, 0, none⟩) 1 1) 1 3 rfl rfl
              refine bodyPost_ret (v := .tuple #[.agg #[.int .i64 ((m : Int) + 1), .slice a1 (L1 + L2 + L3) c1, .slice (some ⟨w6.heap.size, 0, none⟩) 1 1, .slice (some ⟨w6.heap.size + 1, 0, none⟩) 1 1], .bool true]) (by simp [results, Try.results80, go_sem, q0, q1, q2, q3]) rfl ?_
              rw [Hlm.out]
              unfold RNt
              simp only
              rw [HhNl.out, HhNs.out, HhNm.out, HhNf.out, HhNe.out]
              exact ⟨_, _, _, _, _, _, rfl, hq.pick [3, 4, 5] (by decide)⟩
end Go.Proofs.Ytjcegbcmomfgaaa
