/-
  The walks over the reference's l20Part and l20Expr: drawn expressions, in order or not.
  Conditions: the reader's bytes read as such, and are at most two thousand.
-/
import Derived.Test.YtfgpkadhegdffaaPk11Lm
namespace Go.Proofs.Ytfgpkadhegdffaa
open Go.RowKit
set_option maxRecDepth 100000 in
set_option maxHeartbeats 16000000 in
theorem part_any (bs : List Nat) (vb : Value) (b p n : Nat) (w0 w : World) (X : Ent) (hb : Bytes 0 w0 vb bs) (hlen : bs.length ≤ 2000) (hp : p ≤ 900000) (hn1 : n ≤ 10000) (hS : St w0 w [RdE b vb p, X]) :
    Calls Try.prog 63 #[.pointer (some ⟨b, 0, none⟩), .int .i64 ((n : Nat) : Int)] w fun e w' => ∃ (k l : Int) (p' : Nat), (-10 ≤ k ∧ k ≤ 10 ∧ -10 ≤ l ∧ l ≤ 10) ∧ p' ≤ p + 10 ∧ e = .returned (.agg #[.int .i64 k, .int .i64 l]) ∧ St w0 w' [RdE b vb p', X] := by
  have Hb := Lib.hid hb
  have hS0 : St w0 _ ([RdE b vb p] ++ [X, Ent.box w.heap.size #[.int .i64 0, .int .i64 0] 39]) := hS.alloc _ rfl #[.int .i64 0, .int .i64 0] 39
  have HS0 := Lib.hid hS0
  clear hb hS hS0
  go_enter Try.func63, Try.ntmps63
  go_wp2_with fail
  refine (pick_any bs vb b p 8 w0 _ _ Hb.out hlen (by omega) (by omega) (by omega) (St.pack (A := [RdE b vb p]) (R := [X, Ent.box w.heap.size #[.int .i64 0, .int .i64 0] 39]) HS0.out)).mono ?_
  rintro e w1 ⟨k8, hk8, rfl, hSp⟩
  have hS1 := St.unpack (A := [RdE b vb p]) (A' := [RdE b vb (p + 1)]) (R := [X, Ent.box w.heap.size #[.int .i64 0, .int .i64 0] 39]) HS0.out hSp
  obtain ⟨kk, hkk⟩ : ∃ kk : Nat, (1 : Int) + (k8 : Int) = ((kk : Nat) : Int) := ⟨k8 + 1, by omega⟩
  have hkb : kk ≤ 8 := by omega
  have hkw : IntKind.i64.wrap (kk : Int) = (kk : Int) := IntWalk.i64_in _ (by omega)
  have hS2 := hS1.alloc _ rfl #[.int .i64 ((kk : Nat) : Int), .int .i64 0] 39
  have e0 := hS2.cell (v := .int .i64 ((kk : Nat) : Int)) 3 0 rfl rfl
  have HS2 := Lib.hid hS2
  clear hSp hS1 hS2
  go_upto_if 12 with fail
  go_cut [] from 10 (fun wc => ∃ (l : Int) (po : Nat), 0 ≤ l ∧ l ≤ 2 ∧ po ≤ p + 2 ∧ St w0 wc ([RdE b vb po] ++ [X, Ent.box w.heap.size #[.int .i64 0, .int .i64 0] 39, Ent.box w1.heap.size #[.int .i64 ((kk : Nat) : Int), .int .i64 l] 39]))
  case first =>
    by_cases h3 : (kk : Int) = 3
    · obtain ⟨x1, x2, x3⟩ := yes_eqI h3
      have Hh3 := Lib.hid h3; clear h3
      go_wp2_with fail
      refine (pick_any bs vb b (p + 1) 3 w0 _ _ Hb.out hlen (by omega) (by omega) (by omega) (St.pack (A := [RdE b vb (p + 1)]) (R := [X, Ent.box w.heap.size #[.int .i64 0, .int .i64 0] 39, Ent.box w1.heap.size #[.int .i64 ((kk : Nat) : Int), .int .i64 0] 39]) HS2.out)).mono ?_
      rintro e w3 ⟨l3, hl3, rfl, hSp⟩
      have hS3 := St.unpack (A := [RdE b vb (p + 1)]) (A' := [RdE b vb (p + 1 + 1)]) (R := [X, Ent.box w.heap.size #[.int .i64 0, .int .i64 0] 39, Ent.box w1.heap.size #[.int .i64 ((kk : Nat) : Int), .int .i64 0] 39]) HS2.out hSp
      have f1 := hS3.fr 3 1 rfl
      have k1 := hS3.cell (v := .int .i64 0) 3 1 rfl rfl
      have HS3 := Lib.hid hS3
      clear hSp hS3
      go_wp2
      go_meet
      exact ⟨((l3 : Nat) : Int), p + 1 + 1, by omega, by omega, by omega, HS3.out.set 3 rfl 1 (.int .i64 ((l3 : Nat) : Int))⟩
    · obtain ⟨x1, x2, x3, x4⟩ := not_eqI h3
      have Hh3 := Lib.hid h3; clear h3
      go_wp2
      go_meet
      exact ⟨0, p + 1, by omega, by omega, by omega, HS2.out⟩
  case rest =>
    obtain ⟨l, po, hl0, hl2, hpo, hSc⟩ := hcut
    have HSc := Lib.hid hSc
    clear hSc HS2 HS0 e0
    go_wp2_with fail
    refine (odd_any bs vb b po n w0 _ _ Hb.out hlen (by omega) hn1 (St.pack (A := [RdE b vb po]) (R := [X, Ent.box w.heap.size #[.int .i64 0, .int .i64 0] 39, Ent.box w1.heap.size #[.int .i64 ((kk : Nat) : Int), .int .i64 l] 39]) HSc.out)).mono ?_
    rintro e w3 ⟨q, pq, hpq, rfl, hSp⟩
    have HS3 : Hid (St w0 w3 ([RdE b vb pq] ++ [X, Ent.box w.heap.size #[.int .i64 0, .int .i64 0] 39, Ent.box w1.heap.size #[.int .i64 ((kk : Nat) : Int), .int .i64 l] 39])) := Lib.hid (St.unpack (A := [RdE b vb po]) (A' := [RdE b vb pq]) (R := [X, Ent.box w.heap.size #[.int .i64 0, .int .i64 0] 39, Ent.box w1.heap.size #[.int .i64 ((kk : Nat) : Int), .int .i64 l] 39]) HSc.out hSp)
    clear hSp HSc
    cases q
    · have r0 := HS3.out.cell (v := .int .i64 ((kk : Nat) : Int)) 3 0 rfl rfl
      have r1 := HS3.out.cell (v := .int .i64 l) 3 1 rfl rfl
      have f0 := HS3.out.fr 2 0 rfl
      have f1 := HS3.out.fr 2 1 rfl
      have k0 := HS3.out.cell (v := .int .i64 0) 2 0 rfl rfl
      have k1 := HS3.out.cell (v := .int .i64 0) 2 1 rfl rfl
      go_wp2
      have hq := (HS3.out.set 2 rfl 0 (.int .i64 ((kk : Nat) : Int))).set 2 rfl 1 (.int .i64 l)
      have q0 := hq.cell (v := .int .i64 ((kk : Nat) : Int)) 2 0 rfl rfl
      have q1 := hq.cell (v := .int .i64 l) 2 1 rfl rfl
      refine bodyPost_ret (v := .agg #[.int .i64 ((kk : Nat) : Int), .int .i64 l]) (by simp [results, Try.results63, go_sem, q0, q1]) rfl ?_
      exact ⟨_, _, pq, ⟨by omega, by omega, by omega, by omega⟩, by omega, rfl, hq.pick [0, 1] (by decide)⟩
    · go_wp2_with fail
      refine (pick_any bs vb b pq 2 w0 _ _ Hb.out hlen (by omega) (by omega) (by omega) (St.pack (A := [RdE b vb pq]) (R := [X, Ent.box w.heap.size #[.int .i64 0, .int .i64 0] 39, Ent.box w1.heap.size #[.int .i64 ((kk : Nat) : Int), .int .i64 l] 39]) HS3.out)).mono ?_
      rintro e w4 ⟨z, hz, rfl, hSp⟩
      have HS4 : Hid (St w0 w4 ([RdE b vb (pq + 1)] ++ [X, Ent.box w.heap.size #[.int .i64 0, .int .i64 0] 39, Ent.box w1.heap.size #[.int .i64 ((kk : Nat) : Int), .int .i64 l] 39])) := Lib.hid (St.unpack (A := [RdE b vb pq]) (A' := [RdE b vb (pq + 1)]) (R := [X, Ent.box w.heap.size #[.int .i64 0, .int .i64 0] 39, Ent.box w1.heap.size #[.int .i64 ((kk : Nat) : Int), .int .i64 l] 39]) HS3.out hSp)
      clear hSp HS3
      by_cases hz0 : (z : Int) = 0
      · obtain ⟨x1, x2, x3⟩ := yes_eqI hz0
        have Hhz0 := Lib.hid hz0; clear hz0
        have hS5 : St w0 _ ([RdE b vb (pq + 1)] ++ [X, Ent.box w.heap.size #[.int .i64 0, .int .i64 0] 39, Ent.box w1.heap.size #[.int .i64 ((kk : Nat) : Int), .int .i64 l] 39, Ent.box w4.heap.size #[.int .i64 0, .int .i64 9] 3]) := HS4.out.alloc _ rfl #[.int .i64 0, .int .i64 9] 3
        have HS5 := Lib.hid hS5
        clear hS5
        go_wp2_with fail
        refine (pick_any bs vb b (pq + 1) 2 w0 _ _ Hb.out hlen (by omega) (by omega) (by omega) (St.pack (A := [RdE b vb (pq + 1)]) (R := [X, Ent.box w.heap.size #[.int .i64 0, .int .i64 0] 39, Ent.box w1.heap.size #[.int .i64 ((kk : Nat) : Int), .int .i64 l] 39, Ent.box w4.heap.size #[.int .i64 0, .int .i64 9] 3]) HS5.out)).mono ?_
        rintro e w6 ⟨k2, hk2, rfl, hSp⟩
        have hS6 : St w0 w6 ([RdE b vb (pq + 1 + 1)] ++ [X, Ent.box w.heap.size #[.int .i64 0, .int .i64 0] 39, Ent.box w1.heap.size #[.int .i64 ((kk : Nat) : Int), .int .i64 l] 39, Ent.box w4.heap.size #[.int .i64 0, .int .i64 9] 3]) := St.unpack (A := [RdE b vb (pq + 1)]) (A' := [RdE b vb (pq + 1 + 1)]) (R := [X, Ent.box w.heap.size #[.int .i64 0, .int .i64 0] 39, Ent.box w1.heap.size #[.int .i64 ((kk : Nat) : Int), .int .i64 l] 39, Ent.box w4.heap.size #[.int .i64 0, .int .i64 9] 3]) HS5.out hSp
        obtain ⟨kv, hkv, hk10, hk11⟩ : ∃ kv : Int, (#[.int .i64 0, .int .i64 9] : Array Value)[k2]? = some (.int .i64 kv) ∧ -10 ≤ kv ∧ kv ≤ 10 := by
          obtain rfl | rfl : k2 = 0 ∨ k2 = 1 := by omega
          all_goals exact ⟨_, rfl, by omega, by omega⟩
        have e5 := hS6.cell (v := .int .i64 kv) 4 k2 rfl hkv
        have hk2I : (k2 : Int) < 2 := by omega
        have f5 := hS6.fr 3 0 rfl
        have k5 := hS6.cell (v := .int .i64 ((kk : Nat) : Int)) 3 0 rfl rfl
        have HS7 := Lib.hid (hS6.set 3 rfl 0 (.int .i64 kv))
        clear hSp hS6 hkv HS5 HS4
        have r0 := HS7.out.cell (v := .int .i64 kv) 3 0 rfl rfl
        have r1 := HS7.out.cell (v := .int .i64 l) 3 1 rfl rfl
        have f0 := HS7.out.fr 2 0 rfl
        have f1 := HS7.out.fr 2 1 rfl
        have k0 := HS7.out.cell (v := .int .i64 0) 2 0 rfl rfl
        have k1 := HS7.out.cell (v := .int .i64 0) 2 1 rfl rfl
        go_wp2
        have hq := (HS7.out.set 2 rfl 0 (.int .i64 kv)).set 2 rfl 1 (.int .i64 l)
        have q0 := hq.cell (v := .int .i64 kv) 2 0 rfl rfl
        have q1 := hq.cell (v := .int .i64 l) 2 1 rfl rfl
        refine bodyPost_ret (v := .agg #[.int .i64 kv, .int .i64 l]) (by simp [results, Try.results63, go_sem, q0, q1]) rfl ?_
        exact ⟨_, _, pq + 1 + 1, ⟨by omega, by omega, by omega, by omega⟩, by omega, rfl, hq.pick [0, 1] (by decide)⟩
      · obtain ⟨x1, x2, x3, x4⟩ := not_eqI hz0
        have Hhz0 := Lib.hid hz0; clear hz0
        have hS5 : St w0 _ ([RdE b vb (pq + 1)] ++ [X, Ent.box w.heap.size #[.int .i64 0, .int .i64 0] 39, Ent.box w1.heap.size #[.int .i64 ((kk : Nat) : Int), .int .i64 l] 39, Ent.box w4.heap.size #[.int .i64 (-1), .int .i64 3, .int .i64 1] 3]) := HS4.out.alloc _ rfl #[.int .i64 (-1), .int .i64 3, .int .i64 1] 3
        have HS5 := Lib.hid hS5
        clear hS5
        go_wp2_with fail
        refine (pick_any bs vb b (pq + 1) 3 w0 _ _ Hb.out hlen (by omega) (by omega) (by omega) (St.pack (A := [RdE b vb (pq + 1)]) (R := [X, Ent.box w.heap.size #[.int .i64 0, .int .i64 0] 39, Ent.box w1.heap.size #[.int .i64 ((kk : Nat) : Int), .int .i64 l] 39, Ent.box w4.heap.size #[.int .i64 (-1), .int .i64 3, .int .i64 1] 3]) HS5.out)).mono ?_
        rintro e w6 ⟨k2, hk2, rfl, hSp⟩
        have hS6 : St w0 w6 ([RdE b vb (pq + 1 + 1)] ++ [X, Ent.box w.heap.size #[.int .i64 0, .int .i64 0] 39, Ent.box w1.heap.size #[.int .i64 ((kk : Nat) : Int), .int .i64 l] 39, Ent.box w4.heap.size #[.int .i64 (-1), .int .i64 3, .int .i64 1] 3]) := St.unpack (A := [RdE b vb (pq + 1)]) (A' := [RdE b vb (pq + 1 + 1)]) (R := [X, Ent.box w.heap.size #[.int .i64 0, .int .i64 0] 39, Ent.box w1.heap.size #[.int .i64 ((kk : Nat) : Int), .int .i64 l] 39, Ent.box w4.heap.size #[.int .i64 (-1), .int .i64 3, .int .i64 1] 3]) HS5.out hSp
        obtain ⟨kv, hkv, hk10, hk11⟩ : ∃ kv : Int, (#[.int .i64 (-1), .int .i64 3, .int .i64 1] : Array Value)[k2]? = some (.int .i64 kv) ∧ -10 ≤ kv ∧ kv ≤ 10 := by
          obtain rfl | rfl | rfl : k2 = 0 ∨ k2 = 1 ∨ k2 = 2 := by omega
          all_goals exact ⟨_, rfl, by omega, by omega⟩
        have e5 := hS6.cell (v := .int .i64 kv) 4 k2 rfl hkv
        have hk2I : (k2 : Int) < 3 := by omega
        have f5 := hS6.fr 3 1 rfl
        have k5 := hS6.cell (v := .int .i64 l) 3 1 rfl rfl
        have HS7 := Lib.hid (hS6.set 3 rfl 1 (.int .i64 kv))
        clear hSp hS6 hkv HS5 HS4
        have r0 := HS7.out.cell (v := .int .i64 ((kk : Nat) : Int)) 3 0 rfl rfl
        have r1 := HS7.out.cell (v := .int .i64 kv) 3 1 rfl rfl
        have f0 := HS7.out.fr 2 0 rfl
        have f1 := HS7.out.fr 2 1 rfl
        have k0 := HS7.out.cell (v := .int .i64 0) 2 0 rfl rfl
        have k1 := HS7.out.cell (v := .int .i64 0) 2 1 rfl rfl
        go_wp2
        have hq := (HS7.out.set 2 rfl 0 (.int .i64 ((kk : Nat) : Int))).set 2 rfl 1 (.int .i64 kv)
        have q0 := hq.cell (v := .int .i64 ((kk : Nat) : Int)) 2 0 rfl rfl
        have q1 := hq.cell (v := .int .i64 kv) 2 1 rfl rfl
        refine bodyPost_ret (v := .agg #[.int .i64 ((kk : Nat) : Int), .int .i64 kv]) (by simp [results, Try.results63, go_sem, q0, q1]) rfl ?_
        exact ⟨_, _, pq + 1 + 1, ⟨by omega, by omega, by omega, by omega⟩, by omega, rfl, hq.pick [0, 1] (by decide)⟩
def PtH (E : Ent) (v : Value) (es : List (Int × Int)) : Prop := ∀ w, E.holds w → (∀ k, E.foot k → k < w.heap.size) → Pairs 0 w v es
theorem PtH.r {w0 w : World} {L : List Ent} {E : Ent} {v : Value} {es : List (Int × Int)} (h : PtH E v es) (hS : St w0 w L) (i : Nat) (hx : L[i]? = some E) : Pairs 0 w v es :=
  h w (hS.has i _ hx).1 fun k hk => ((hS.has i _ hx).2 k hk).2
theorem ptH_row (a : Option Addr) (c : Nat) (es : List (Int × Int)) : PtH (PartE a c es) (.slice a es.length c) es := fun w h _ => ((own_of_row h).sl (by omega)).mono (Nat.zero_le _)
theorem ptH_tail {g c : Nat} {p : Int × Int} {es : List (Int × Int)} (v : Value) (hv : v = .slice (some ⟨g, 2, none⟩) es.length (c - 1) ∨ (c = 1 ∧ v = .slice (some ⟨g, 0, none⟩) es.length 0)) : PtH (PartE (some ⟨g, 0, none⟩) c (p :: es)) v es := fun w h _ => by
  have h1 : Pairs 0 w (.slice (some ⟨g, 0, none⟩) (p :: es).length c) (p :: es) := ((own_of_row h).sl (by omega)).mono (Nat.zero_le _)
  obtain ⟨hl, a', c', e, g1, g2, g3⟩ := h1
  simp only [Value.slice.injEq, true_and] at e
  obtain ⟨rfl, rfl⟩ := e
  have hl2 : (es.flatMap pairCells).length = es.length * 2 := by
    simp only [List.flatMap_cons, List.length_append, List.length_cons] at hl
    have : (pairCells p).length = 2 := rfl
    omega
  simp only [List.length_cons] at g1
  rcases hv with rfl | ⟨rfl, rfl⟩
  · refine ⟨hl2, _, _, rfl, by omega, by omega, fun hn => ?_⟩
    obtain ⟨b, off, hb, q1, q2, q3⟩ := g3 (by simp)
    simp only [Option.some.injEq, Addr.mk.injEq, and_true] at hb
    obtain ⟨rfl, rfl⟩ := hb
    refine ⟨g, 2, rfl, q1, q2, fun j hj => ?_⟩
    have := q3 (j + 2) (by simp only [List.length_cons]; omega)
    rw [show 2 + j = 0 + (j + 2) by omega, this]
    rfl
  · have : es = [] := List.length_eq_zero_iff.1 (by omega)
    subst this
    exact ⟨rfl, _, _, rfl, Nat.le_refl _, Nat.zero_le _, fun hn => absurd hn (by simp)⟩
set_option maxRecDepth 100000 in
set_option maxHeartbeats 16000000 in
theorem expr_any (bs : List Nat) (vb : Value) (b p n : Nat) (w0 w : World) (X : Ent) (hb : Bytes 0 w0 vb bs) (hlen : bs.length ≤ 2000) (hp : p ≤ 800000) (hn1 : n ≤ 10000) (hS : St w0 w [RdE b vb p, X]) :
    Calls Try.prog 30 #[.pointer (some ⟨b, 0, none⟩), .int .i64 ((n : Nat) : Int)] w fun e w' => ∃ (v : Value) (es : List (Int × Int)) (E : Ent) (p' : Nat), es.length ≤ 100 ∧ p' ≤ p + 100 ∧ PtH E v es ∧ e = .returned v ∧ St w0 w' [RdE b vb p', X, E] := by
  have Hb := Lib.hid hb
  obtain ⟨i0, hi, hz0, hz1, hz2⟩ := info_parts Try.infoPt
  have Hhi := Lib.hid hi; clear hi
  have Hhz0 := Lib.hid hz0; clear hz0
  have Hhz1 := Lib.hid hz1; clear hz1
  have Hhz2 := Lib.hid hz2; clear hz2
  have HS0 := Lib.hid hS
  clear hb hS
  go_enter Try.func30, Try.ntmps30
  go_wp2_with fail
  refine (pick_any bs vb b p 3 w0 _ X Hb.out hlen (by omega) (by omega) (by omega) HS0.out).mono ?_
  rintro e w1 ⟨k3, hk3, rfl, hS1⟩
  obtain ⟨d, hd⟩ : ∃ d : Nat, (1 : Int) + (k3 : Int) = ((d : Nat) : Int) := ⟨k3 + 1, by omega⟩
  have hd3 : d ≤ 3 := by omega
  have hdw : IntKind.i64.wrap (d : Int) = (d : Int) := IntWalk.i64_in _ (by omega)
  have hsm := FL_small hd3
  have HS1 := Lib.hid hS1
  clear hS1
  go_wp2_with fail
  refine (make_any bs vb b w0 Hb.out hlen d hd3 false (p + 1) _ X (by omega) HS1.out).mono ?_
  rintro e w2 ⟨a, c, es, p2, he1, hel, hp2, rfl, hS2⟩
  have HS2 := Lib.hid hS2
  clear hS2 HS1 HS0
  go_wp2_with fail
  refine (odd_any bs vb b p2 n w0 _ _ Hb.out hlen (by omega) hn1 (St.pack (A := [RdE b vb p2]) (R := [X, PartE a c es]) HS2.out)).mono ?_
  rintro e w3 ⟨q, p3, hp3, rfl, hSp⟩
  have HS3 : Hid (St w0 w3 [RdE b vb p3, X, PartE a c es]) := Lib.hid (St.unpack (A := [RdE b vb p2]) (A' := [RdE b vb p3]) (R := [X, PartE a c es]) HS2.out hSp)
  clear hSp HS2
  cases q
  · go_wp2
    go_ret
    exact ⟨_, es, _, p3, by omega, by omega, ptH_row a c es, rfl, HS3.out⟩
  · go_wp2_with fail
    refine (pick_any bs vb b p3 4 w0 _ _ Hb.out hlen (by omega) (by omega) (by omega) (St.pack (A := [RdE b vb p3]) (R := [X, PartE a c es]) HS3.out)).mono ?_
    rintro e w4 ⟨z, hz, rfl, hSp⟩
    have HS4 : Hid (St w0 w4 [RdE b vb (p3 + 1), X, PartE a c es]) := Lib.hid (St.unpack (A := [RdE b vb p3]) (A' := [RdE b vb (p3 + 1)]) (R := [X, PartE a c es]) HS3.out hSp)
    clear hSp HS3
    obtain ⟨g, c', hv⟩ := HS4.out.rowform 2 rfl he1
    simp only [Value.slice.injEq, true_and] at hv
    obtain ⟨rfl, rfl⟩ := hv
    obtain ⟨hcc, hcm⟩ := HS4.out.rowcap 2 rfl
    obtain ⟨m, hm⟩ : ∃ m, m = es.length := ⟨_, rfl⟩
    have HE : Hid (St w0 w4 [RdE b vb (p3 + 1), X, Ent.row 39 2 (.slice (some ⟨g, 0, none⟩) m c) m (es.flatMap pairCells)]) := Lib.hid (by rw [hm]; exact HS4.out)
    rw [← hm] at he1 hel hcc
    rw [← hm]
    have Hhm := Lib.hid hm; clear hm
    have hel2 : m ≤ 15 := by omega
    clear hel
    by_cases hy0 : (z : Int) = 0
    · obtain ⟨x1, x2, x3⟩ := yes_eqI hy0
      have Hhy0 := Lib.hid hy0; clear hy0
      obtain ⟨pp, et, het⟩ : ∃ pp et, es = pp :: et := by
        cases es with
        | nil => have := Hhm.out; simp at this; omega
        | cons pp et => exact ⟨pp, et, rfl⟩
      obtain ⟨m1, hm1⟩ : ∃ m1, m - 1 = m1 := ⟨_, rfl⟩
      have hmt : m1 = et.length := by
        have := Hhm.out
        rw [het, List.length_cons] at this
        omega
      by_cases hc1 : c = 1
      · subst hc1
        have hq : m1 = 0 := by omega
        have hm0 : m = 1 := by omega
        subst hm0
        clear HE
        go_wp2
        go_ret
        rw [het] at HS4
        exact ⟨_, et, _, p3 + 1, by omega, by omega, ptH_tail (g := g) (c := 1) (p := pp) _ (.inr ⟨rfl, by rw [← hmt, hq]; rfl⟩), rfl, HS4.out⟩
      · have y1 : (c = 1) = False := by simp [hc1]
        have y2 : (1 = c) = False := by simp; omega
        have Hhc1 := Lib.hid hc1; clear hc1
        have Hhmt := Lib.hid hmt; clear hmt
        have Hhet := Lib.hid het; clear het
        clear HE
        go_wp2
        go_ret
        have hx := HS4.out
        rw [Hhet.out] at hx
        exact ⟨_, et, _, p3 + 1, by have := Hhmt.out; omega, by omega, ptH_tail (g := g) (c := c) (p := pp) _ (.inl (by rw [← Hhmt.out, ← hm1]; rfl)), rfl, hx⟩
    · obtain ⟨x1, x2, x3, x4⟩ := not_eqI hy0
      have Hhy0 := Lib.hid hy0; clear hy0
      by_cases hy1' : (z : Int) = 1
      · obtain ⟨y1, y2, y3⟩ := yes_eqI hy1'
        have Hhy1' := Lib.hid hy1'; clear hy1'
        go_wp2_with fail
        refine (part_any bs vb b (p3 + 1) 1 w0 _ _ Hb.out hlen (by omega) (by omega) (St.pack (A := [RdE b vb (p3 + 1)]) (R := [X, Ent.row 39 2 (.slice (some ⟨g, 0, none⟩) m c) m (es.flatMap pairCells)]) HE.out)).mono ?_
        rintro e w5 ⟨k, l, p5, hkl, hp5, rfl, hSp⟩
        have HS5 : Hid (St w0 w5 [RdE b vb p5, X, Ent.row 39 2 (.slice (some ⟨g, 0, none⟩) m c) m (es.flatMap pairCells)]) := Lib.hid (St.unpack (A := [RdE b vb (p3 + 1)]) (A' := [RdE b vb p5]) (R := [X, Ent.row 39 2 (.slice (some ⟨g, 0, none⟩) m c) m (es.flatMap pairCells)]) HE.out hSp)
        clear hSp HE HS4
        have HSa := Lib.hid (HS5.out.alloc_ (.cells #[.int .i64 k, .int .i64 l] 39))
        have HRw := Lib.hid (HSa.out.row 2 rfl)
        obtain ⟨hc5, hc6⟩ := HSa.out.rowcap 2 rfl
        go_wp2_with (at_builtin; refine wpList_append_lies _ rfl _ _ _ rfl _ 39 i0 (.agg #[.int .i64 0, .int .i64 0]) 2 16 Try.underlying23 Hhi.out Hhz0.out Hhz1.out Hhz2.out rfl (by omega) _ m _ rfl HRw.out ⟨w5.heap.size, 0, none⟩ 1 1 [.int .i64 k, .int .i64 l] rfl rfl (World.news_of_block (heap_alloc_new w5 _)) one_two (by omega) (by unfold maxLen; omega) (by omega) HSa.out.size _ rfl ?_; intro g6 c6 w6 hown6 hgrow6 hat6 hlt6; have HS6 := Lib.hid (HSa.out.app 2 rfl hown6 hgrow6 hat6); clear hown6 hgrow6 hat6 hlt6)
        go_ret
        have hl : (es ++ [(k, l)]).length = m + 1 := by rw [List.length_append, ← Hhm.out]; rfl
        refine ⟨_, es ++ [(k, l)], PartE (some ⟨g6, 0, none⟩) c6 (es ++ [(k, l)]), p5, by omega, by omega, by rw [← hl]; exact ptH_row _ _ _, rfl, ?_⟩
        unfold PartE
        rw [hl, List.flatMap_append]
        exact HS6.out
      · obtain ⟨y1, y2, y3, y4⟩ := not_eqI hy1'
        have Hhy1' := Lib.hid hy1'; clear hy1'
        by_cases hy2' : (z : Int) = 2
        · obtain ⟨v1, v2, v3⟩ := yes_eqI hy2'
          have Hhy2' := Lib.hid hy2'; clear hy2'
          obtain ⟨p5, hp5⟩ : ∃ p5, p3 + 1 = p5 := ⟨_, rfl⟩
          rw [hp5] at HE HS4
          have hp5' : p5 ≤ p + 50 := by omega
          have Hhp5 := Lib.hid hp5; clear hp5
          clear HS4
          have HSa := Lib.hid (HE.out.alloc_ (.cells #[.int .i64 2, .int .i64 0] 39))
          have HRw := Lib.hid (HSa.out.row 2 rfl)
          obtain ⟨hc5, hc6⟩ := HSa.out.rowcap 2 rfl
          go_wp2_with (at_builtin; refine wpList_append_lies _ rfl _ _ _ rfl _ 39 i0 (.agg #[.int .i64 0, .int .i64 0]) 2 16 Try.underlying23 Hhi.out Hhz0.out Hhz1.out Hhz2.out rfl (by omega) _ m _ rfl HRw.out ⟨w4.heap.size, 0, none⟩ 1 1 [.int .i64 2, .int .i64 0] rfl rfl (World.news_of_block (heap_alloc_new w4 _)) one_two (by omega) (by unfold maxLen; omega) (by omega) HSa.out.size _ rfl ?_; intro g6 c6 w6 hown6 hgrow6 hat6 hlt6; have HS6 := Lib.hid (HSa.out.app 2 rfl hown6 hgrow6 hat6); clear hown6 hgrow6 hat6 hlt6)
          go_ret
          have hl : (es ++ [(2, 0)]).length = m + 1 := by rw [List.length_append, ← Hhm.out]; rfl
          refine ⟨_, es ++ [(2, 0)], PartE (some ⟨g6, 0, none⟩) c6 (es ++ [(2, 0)]), p5, by omega, by omega, by rw [← hl]; exact ptH_row _ _ _, rfl, ?_⟩
          unfold PartE
          rw [hl, List.flatMap_append]
          exact HS6.out
        · obtain ⟨v1, v2, v3, v4⟩ := not_eqI hy2'
          have Hhy2' := Lib.hid hy2'; clear hy2'
          clear HS4
          obtain ⟨p5, hp5⟩ : ∃ p5, p3 + 1 = p5 := ⟨_, rfl⟩
          rw [hp5] at HE
          have hp5' : p5 ≤ p + 50 := by omega
          have Hhp5 := Lib.hid hp5; clear hp5
          obtain ⟨wE, hwE⟩ : ∃ z, z = w4 := ⟨_, rfl⟩
          go_wp2
          go_loopg [5] (61 - m) (fun gg sv wr => ∃ (j g c : Nat) (F : List (Int × Int)), gg + j = 61 ∧ sv = .slice (some ⟨g, 0, none⟩) j c ∧ F.length = j ∧ St w0 wr [RdE b vb p5, X, Ent.row 39 2 (.slice (some ⟨g, 0, none⟩) j c) j (F.flatMap pairCells)])
          case atStart => exact ⟨m, g, c, es, by omega, rfl, Hhm.out.symm, HE.out⟩
          case round =>
            obtain ⟨j, gj, cj, F, hgj, rfl, hF, hSj⟩ := hrel
            have HSj := Lib.hid hSj
            have HhF := Lib.hid hF; clear hF
            clear hSj
            by_cases hj60 : j ≤ 60
            · have q1 : (j : Int) ≤ 60 := by omega
              clear hj60
              have HSa := Lib.hid (HSj.out.alloc_ (.cells #[.int .i64 8, .int .i64 0] 39))
              have HRw := Lib.hid (HSa.out.row 2 rfl)
              obtain ⟨hc5, hc6⟩ := HSa.out.rowcap 2 rfl
              go_wp2_with (at_builtin; refine wpList_append_lies _ rfl _ _ _ rfl _ 39 i0 (.agg #[.int .i64 0, .int .i64 0]) 2 16 Try.underlying23 Hhi.out Hhz0.out Hhz1.out Hhz2.out rfl (by omega) _ j _ rfl HRw.out ⟨wr.heap.size, 0, none⟩ 1 1 [.int .i64 8, .int .i64 0] rfl rfl (World.news_of_block (heap_alloc_new wr _)) one_two (by omega) (by unfold maxLen; omega) (by omega) HSa.out.size _ rfl ?_; intro g6 c6 w6 hown6 hgrow6 hat6 hlt6; have HS6 := Lib.hid (HSa.out.app 2 rfl hown6 hgrow6 hat6); clear hown6 hgrow6 hat6 hlt6)
              go_roundg (61 - (j + 1))
              case measure => omega
              case rel => exact ⟨j + 1, g6, c6, F ++ [(8, 0)], by omega, rfl, by rw [List.length_append, HhF.out]; rfl, by rw [List.flatMap_append]; exact HS6.out⟩
            · have q1 : ((j : Int) ≤ 60) = False := by simp; omega
              have hj1 : j ≤ 61 := by omega
              clear hj60
              go_wp2
              go_ret
              exact ⟨_, F, PartE (some ⟨gj, 0, none⟩) cj F, p5, by have := HhF.out; omega, by omega, by rw [← HhF.out]; exact ptH_row _ _ _, rfl, by unfold PartE; rw [HhF.out]; exact HSj.out⟩
end Go.Proofs.Ytfgpkadhegdffaa
