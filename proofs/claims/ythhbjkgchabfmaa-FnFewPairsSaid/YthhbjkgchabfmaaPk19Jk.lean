/-
  An automaton that a call hands back, as one thing in memory; the walks over Minimize, of the program and of the reference.
  Condition: the automaton is valid and reads as such.
-/
import Derived.Test.YthhbjkgchabfmaaPk18Jg
namespace Go.Proofs.Ythhbjkgchabfmaa
open Go.RowKit
def DfaV (B H : Nat) (v1 v2 : Value) (D : DfaD) : Ent := ⟨fun k => B ≤ k ∧ k < H, fun u => ∃ w : World, w.heap.size = H ∧ DfaR B w (.agg #[v1, v2]) D ∧ ∀ k, B ≤ k → k < H → u.heap[k]? = w.heap[k]?,
  fun _ _ ⟨w, h1, h2, h3⟩ hk => ⟨w, h1, h2, fun k p q => (hk k ⟨p, q⟩).trans (h3 k p q)⟩⟩
theorem St.dfaV {w0 w w' : World} {L : List Ent} (h : St w0 w L) (hb : Below w.heap.size w w') {v1 v2 : Value} {D : DfaD} (hr : DfaR w.heap.size w' (.agg #[v1, v2]) D) : St w0 w' (L ++ [DfaV w.heap.size w'.heap.size v1 v2 D]) :=
  h.add hb _ ⟨w', rfl, hr, fun _ _ _ => rfl⟩ fun _ hk => hk
def RDs (D : DfaD) (w : World) (e : Ending) (w' : World) : Prop := ∃ a1 c1 a2 c2, e = .returned (.agg #[.slice a1 D.next.length c1, .slice a2 D.ends.length c2]) ∧ DfaR w.heap.size w' (.agg #[.slice a1 D.next.length c1, .slice a2 D.ends.length c2]) D ∧ Below w.heap.size w w'
def minQ (d : DfaD) : DfaD := if dfaOk d.next d.ends = true then minD d else ⟨[], []⟩
theorem nil_r (w : World) (B : Nat) : DfaR B w (.agg #[.slice none 0 0, .slice none 0 0]) ⟨[], []⟩ := (zeroD_own w B 0 0 0).r
set_option maxRecDepth 100000 in
set_option maxHeartbeats 4000000 in
theorem specMinimize_any (d : DfaD) (D : DfaD) (hD : minQ d = D) (v : Value) (w : World) (h : DfaR 0 w v d) :
    Calls Try.prog 37 #[v] w fun e w' => RDs D w e w' := by
  have H := Lib.hid h
  obtain ⟨v1, v2, rfl, g1, g2⟩ := h
  have hS0 := ((St.start w).alloc _ rfl #[v1, v2] 26).alloc (w.heap.size + 1) (by simp) #[.slice none 0 0, .slice none 0 0] 26
  have e0 := hS0.cell (v := v1) 0 0 rfl rfl
  have e1 := hS0.cell (v := v2) 0 1 rfl rfl
  have HhS0 := Lib.hid hS0; clear hS0
  clear g1 g2
  cases hok : dfaOk d.next d.ends
  · have hz : D = ⟨[], []⟩ := by rw [← hD]; unfold minQ; rw [if_neg (by rw [hok]; simp)]
    subst hz
    have Hhok := Lib.hid hok; clear hok
    clear hD
    go_enter Try.func37, Try.ntmps37
    go_wp2_with fail
    refine (specDfaValidD2_any d _ _ (H.out.below HhS0.out.bel) _ Hhok.out).mono ?_
    rintro e w1 ⟨rfl, hb1⟩
    have HS1 := Lib.hid (HhS0.out.call hb1)
    clear hb1 e0 e1
    have f0 := HS1.out.fr 1 0 rfl
    have f1 := HS1.out.fr 1 1 rfl
    have k0 := HS1.out.cell (v := .slice none 0 0) 1 0 rfl rfl
    have k1 := HS1.out.cell (v := .slice none 0 0) 1 1 rfl rfl
    go_wp2
    have hq := (HS1.out.set 1 rfl 0 (.slice none 0 0)).set 1 rfl 1 (.slice none 0 0)
    have q0 := hq.cell (v := .slice none 0 0) 1 0 rfl rfl
    have q1 := hq.cell (v := .slice none 0 0) 1 1 rfl rfl
    refine bodyPost_ret (v := .agg #[.slice none 0 0, .slice none 0 0]) (by simp [results, Try.results37, go_sem, q0, q1]) rfl ?_
    exact ⟨none, 0, none, 0, rfl, nil_r _ _, hq.bel⟩
  · have hz : smallD d = D := by rw [← hD]; unfold minQ; rw [if_pos hok]; exact small_min (fine_of hok)
    have Hhok := Lib.hid hok; clear hok
    have Hz := Lib.hid hz
    clear hD hz
    go_enter Try.func37, Try.ntmps37
    go_wp2_with fail
    refine (specDfaValidD2_any d _ _ (H.out.below HhS0.out.bel) _ Hhok.out).mono ?_
    rintro e w1 ⟨rfl, hb1⟩
    have HS1 := Lib.hid (HhS0.out.call hb1)
    clear hb1 e0 e1
    have e0 := HS1.out.cell (v := v1) 0 0 rfl rfl
    have e1 := HS1.out.cell (v := v2) 0 1 rfl rfl
    go_wp2_with fail
    refine (l10Small_any d _ _ Hhok.out (H.out.below HS1.out.bel)).mono ?_
    rintro e w2 ⟨a1, c1, a2, c2, rfl, hdo, hb2⟩
    rw [Hz.out] at hdo
    rw [Hz.out]
    have HS2 := Lib.hid (HS1.out.call hb2)
    have HDr := Lib.hid hdo
    have hB1 := (HS1.out.boxlt 1 rfl).2
    have hsz := HS1.out.size
    clear hb2 hdo e0 e1
    have f0 := HS2.out.fr 1 0 rfl
    have f1 := HS2.out.fr 1 1 rfl
    have k0 := HS2.out.cell (v := .slice none 0 0) 1 0 rfl rfl
    have k1 := HS2.out.cell (v := .slice none 0 0) 1 1 rfl rfl
    go_wp2
    have hq := (HS2.out.set 1 rfl 0 (.slice a1 D.next.length c1)).set 1 rfl 1 (.slice a2 D.ends.length c2)
    have q0 := hq.cell (v := .slice a1 D.next.length c1) 1 0 rfl rfl
    have q1 := hq.cell (v := .slice a2 D.ends.length c2) 1 1 rfl rfl
    refine bodyPost_ret (v := .agg #[.slice a1 D.next.length c1, .slice a2 D.ends.length c2]) (by simp [results, Try.results37, go_sem, q0, q1]) rfl ?_
    exact ⟨a1, c1, a2, c2, rfl, ((HDr.out.far hB1 0 _).far hB1 1 _).mono hsz, hq.bel⟩
structure DfaQ (E : Ent) (v1 v2 : Value) (D : DfaD) : Prop where
  rd : ∀ w, E.holds w → (∀ k, E.foot k → k < w.heap.size) → DfaR 0 w (.agg #[v1, v2]) D
theorem DfaQ.r {w0 w : World} {L : List Ent} {E : Ent} {v1 v2 : Value} {D : DfaD} (h : DfaQ E v1 v2 D) (hS : St w0 w L) (i : Nat) (hx : L[i]? = some E) : DfaR 0 w (.agg #[v1, v2]) D :=
  h.rd w (hS.has i _ hx).1 fun k hk => ((hS.has i _ hx).2 k hk).2
theorem DfaH.q {E : Ent} {v1 v2 : Value} {vs : List Value} {D : DfaD} (h : DfaH E v1 v2 vs D) : DfaQ E v1 v2 D := ⟨fun w h1 h2 => by
  obtain ⟨p1, p2, p3⟩ := h.rd w h1 h2
  exact ⟨v1, v2, rfl, ⟨vs, p1, p2⟩, p3⟩⟩
theorem DfaQ.all {E : Ent} {v1 v2 : Value} {D : DfaD} (h : DfaQ E v1 v2 D) {R : List Ent} (hm : E ∈ R) : DfaQ (Ent.all R) v1 v2 D :=
  ⟨fun w h1 h2 => h.rd w (h1 _ hm) fun k hk => h2 k ⟨E, hm, hk⟩⟩
theorem dfaQ_V (B H : Nat) (v1 v2 : Value) (D : DfaD) : DfaQ (DfaV B H v1 v2 D) v1 v2 D := ⟨fun u hE hl => by
  obtain ⟨w', h1, ⟨x1, x2, hv, ⟨vs, h2, h3⟩, h4⟩, h5⟩ := hE
  simp only [Value.agg.injEq, Array.mk.injEq, List.cons.injEq, and_true] at hv
  obtain ⟨rfl, rfl⟩ := hv
  by_cases hlt : B < H
  · have hs : w'.heap.size ≤ u.heap.size := by
      have : H - 1 < u.heap.size := hl (H - 1) (show B ≤ H - 1 ∧ H - 1 < H by omega)
      omega
    have hk : ∀ k, B ≤ k → k < w'.heap.size → u.heap[k]? = w'.heap[k]? := fun k p q => h5 k p (by omega)
    exact ⟨_, _, rfl, ⟨vs, h2.keptJ (Nat.zero_le _) hs hk, fun i hi => Sl.keptJ (h3 i hi) (Nat.zero_le _) hs hk⟩, Sl.keptJ h4 (Nat.zero_le _) hs hk⟩
  · have hno : ∀ {v : Value} {n size : Nat} {cs : List Value}, Sl B w' v n size cs → 0 < size → Sl 0 u v n size cs := fun {v n size cs} hs hz => by
      obtain ⟨g1, a, cap, g2, g3, g4, g5⟩ := hs
      refine ⟨g1, a, cap, g2, g3, g4, fun hn => ?_⟩
      obtain ⟨b, off, -, p, q, -⟩ := g5 hn
      omega
    exact ⟨_, _, rfl, ⟨vs, hno h2 (by omega), fun i hi => hno (h3 i hi) (by omega)⟩, hno h4 (by omega)⟩⟩
theorem dfaQ_nil : DfaQ Ent.nil (.slice none 0 0) (.slice none 0 0) ⟨[], []⟩ := dfaH_zero.q
theorem small_nil : SmallD ⟨[], []⟩ := ⟨by simp, by simp, fun x hx => by cases hx⟩
theorem DfaQ.ends {E : Ent} {v1 v2 : Value} {D : DfaD} (h : DfaQ E v1 v2 D) {e m : Nat} {v : Value} {xs : List Bool} (hm : m = xs.length) : DfaQ (Ent.all [E, Ent.row e 1 v m (boolCells xs)]) v1 v ⟨D.next, xs⟩ := by
  subst hm
  refine ⟨fun w h1 h2 => ?_⟩
  have g1 : E.holds w := h1 _ (by simp)
  have g2 : (Ent.row e 1 v xs.length (boolCells xs)).holds w := h1 _ (by simp)
  obtain ⟨u1, u2, he, q1, q2⟩ := h.rd w g1 fun k hk => h2 k ⟨E, by simp, hk⟩
  simp only [Value.agg.injEq, Array.mk.injEq, List.cons.injEq, and_true] at he
  obtain ⟨rfl, rfl⟩ := he
  exact ⟨_, _, rfl, q1, Sl.mono ((own_of_row g2).sl (by omega)) (Nat.zero_le _)⟩
theorem DfaQ.sl {w0 w : World} {L : List Ent} {E : Ent} {v1 v2 : Value} {D : DfaD} (h : DfaQ E v1 v2 D) (hS : St w0 w L) (i : Nat) (hx : L[i]? = some E) : Sl 0 w v2 D.ends.length 1 (boolCells D.ends) := by
  obtain ⟨u1, u2, he, q1, q2⟩ := h.r hS i hx
  simp only [Value.agg.injEq, Array.mk.injEq, List.cons.injEq, and_true] at he
  obtain ⟨rfl, rfl⟩ := he
  exact q2
theorem on_bsT {l : List Bool} : ∀ u ∈ boolCells l, u.oneCell' = true := fun u hu => by
  obtain ⟨x, -, rfl⟩ := List.mem_map.1 hu
  rfl
theorem store_bool {w0 w : World} {L : List Ent} (h : St w0 w L) (i : Nat) {e g n cap : Nat} {xs : List Bool} (hx : L[i]? = some (Ent.row e 1 (.slice (some ⟨g, 0, none⟩) n cap) n (boolCells xs))) (j : Nat) (y : Bool) :
    St w0 (w.setCell ⟨g, j, none⟩ (.bool y)) (L.set i (Ent.row e 1 (.slice (some ⟨g, 0, none⟩) n cap) n (boolCells (xs.set j y)))) := by
  have h2 := h.store i hx j (.bool y)
  have e2 : (boolCells xs).set j (.bool y) = boolCells (xs.set j y) := by simp [boolCells, List.map_set]
  rw [e2] at h2
  exact h2
theorem small_minQ {G : DfaD} : SmallD (minQ G) := by
  unfold minQ
  by_cases h : dfaOk G.next G.ends = true
  · rw [if_pos h]
    refine small_dfa ?_
    rw [← small_min (fine_of h)]
    exact (trim_ok (fold_ok (trim_ok h).1)).1
  · rw [if_neg h]
    exact small_nil
set_option maxRecDepth 100000 in
set_option maxHeartbeats 16000000 in
theorem l20Two_any (bs : List Nat) (vb : Value) (b p : Nat) (w0 w : World) (X : Ent) (hb : Bytes 0 w0 vb bs) (hlen : bs.length ≤ 2000) (hp : p ≤ 1000) (hS : St w0 w [RdE b vb p, X]) :
    Calls Try.prog 91 #[.pointer (some ⟨b, 0, none⟩)] w fun e w' => ∃ (G B : DfaD) (p' : Nat) (a1 a2 b1 b2 : Option Addr) (c1 c2 d1 d2 : Nat) (E : Ent), p' ≤ p + 3000 ∧ SmallD G ∧ SmallD B ∧
      e = .returned (.tuple #[.agg #[.slice a1 G.next.length c1, .slice a2 G.ends.length c2], .agg #[.slice b1 B.next.length d1, .slice b2 B.ends.length d2]]) ∧
      DfaQ E (.slice a1 G.next.length c1) (.slice a2 G.ends.length c2) G ∧ DfaQ E (.slice b1 B.next.length d1) (.slice b2 B.ends.length d2) B ∧ St w0 w' [RdE b vb p', X, E] := by
  have Hb := Lib.hid hb
  have HS1 := Lib.hid ((hS.alloc w.heap.size rfl #[.slice none 0 0, .slice none 0 0] 26).alloc (w.heap.size + 1) (by simp) #[.slice none 0 0, .slice none 0 0] 26)
  obtain ⟨kb0, hk, hx0, hx1, hx2⟩ := info_parts Try.infoBool
  have Hhk := Lib.hid hk; clear hk
  have Hhx0 := Lib.hid hx0; clear hx0
  have Hhx1 := Lib.hid hx1; clear hx1
  have Hhx2 := Lib.hid hx2; clear hx2
  clear hb hS
  go_enter Try.func91, Try.ntmps91
  go_wp2_with fail
  refine (l20Dfa_any bs vb b p 16 w0 _ _ Hb.out hlen (by omega) (by omega) (St.pack (A := [RdE b vb p]) (R := [X, Ent.box (w.heap.size) #[.slice none 0 0, .slice none 0 0] 26, Ent.box (w.heap.size + 1) #[.slice none 0 0, .slice none 0 0] 26]) HS1.out)).mono ?_
  rintro e wa ⟨G, pa, a1, a2, c1, c2, vsA, E, hpa, hsm, rfl, hh, hSp⟩
  have HS2 := Lib.hid (St.unpack (A := [RdE b vb p]) (A' := [RdE b vb pa, E]) (R := [X, Ent.box (w.heap.size) #[.slice none 0 0, .slice none 0 0] 26, Ent.box (w.heap.size + 1) #[.slice none 0 0, .slice none 0 0] 26]) HS1.out (hSp.pick [0, 2, 1] (by decide)))
  have hSa : St w0 _ [RdE b vb pa, X, Ent.box (w.heap.size) #[.slice none 0 0, .slice none 0 0] 26, Ent.box (w.heap.size + 1) #[.slice none 0 0, .slice none 0 0] 26, E, Ent.box (wa.heap.size) #[.slice a1 G.next.length c1, .slice a2 G.ends.length c2] 26] := (HS2.out.alloc wa.heap.size rfl #[.slice a1 G.next.length c1, .slice a2 G.ends.length c2] 26).pick [0, 2, 3, 4, 1, 5] (by decide)
  have HSa := Lib.hid hSa
  have HSm := Lib.hid hsm
  have HA := Lib.hid hh.q
  clear hSp hSa hsm hh
  go_wp2_with fail
  refine (pick_any bs vb b pa 4 w0 _ _ Hb.out hlen (by omega) (by omega) (by omega) (St.pack (A := [RdE b vb pa]) (R := [X, Ent.box (w.heap.size) #[.slice none 0 0, .slice none 0 0] 26, Ent.box (w.heap.size + 1) #[.slice none 0 0, .slice none 0 0] 26, E, Ent.box (wa.heap.size) #[.slice a1 G.next.length c1, .slice a2 G.ends.length c2] 26]) HSa.out)).mono ?_
  rintro e wk ⟨k4, hk4, rfl, hSp⟩
  obtain ⟨pr, hpr⟩ : ∃ z, z = pa + 1 := ⟨_, rfl⟩
  have hprb : pr ≤ p + 1001 := by omega
  have hSk : St w0 wk [RdE b vb pr, X, Ent.box (w.heap.size) #[.slice none 0 0, .slice none 0 0] 26, Ent.box (w.heap.size + 1) #[.slice none 0 0, .slice none 0 0] 26, E, Ent.box (wa.heap.size) #[.slice a1 G.next.length c1, .slice a2 G.ends.length c2] 26] := by
    rw [hpr]
    exact St.unpack (A := [RdE b vb pa]) (A' := [RdE b vb (pa + 1)]) (R := [X, Ent.box (w.heap.size) #[.slice none 0 0, .slice none 0 0] 26, Ent.box (w.heap.size + 1) #[.slice none 0 0, .slice none 0 0] 26, E, Ent.box (wa.heap.size) #[.slice a1 G.next.length c1, .slice a2 G.ends.length c2] 26]) HSa.out hSp
  have HSk := Lib.hid hSk
  clear hSk hSp
  have Hhpr := Lib.hid hpr; clear hpr
  obtain h40 | h41 | h42 : (k4 : Int) = 0 ∨ (k4 : Int) = 1 ∨ 2 ≤ (k4 : Int) := by omega
  · obtain ⟨z0a, z0b, z0c⟩ := yes_eqI h40
    obtain ⟨z1a, z1b, z1c, z1d⟩ := not_eqI (show (k4 : Int) ≠ 1 by omega)
    clear h40
    obtain ⟨M, hM⟩ : ∃ M, minQ G = M := ⟨_, rfl⟩
    have HSm2 := Lib.hid (show SmallD M by rw [← hM]; exact small_minQ)
    have HhM := Lib.hid hM; clear hM
    go_wp2
    refine wp_region_any (by kernel_rfl) ?_
    refine wpAny_invA (fun A listed a w' => ∃ (l0 l1 l2 l3 l4 : Bool) (x1 : Option Addr) (y1 : Nat) (x2 : Option Addr) (y2 : Nat) (vv : Nat) (vh : Nat), listed = #[l0, l1, l2, l3, l4] ∧ (l3 = true → l2 = true) ∧ (l4 = true → l2 = true) ∧
        a = ⟨(((A.tmps.setIfInBounds 13 (if l0 = true then .agg #[.slice a1 G.next.length c1, .slice a2 G.ends.length c2] else A.tmps.getD 13 undef)).setIfInBounds 14 (if l1 = true then .agg #[.slice a1 G.next.length c1, .slice a2 G.ends.length c2] else A.tmps.getD 14 undef)).setIfInBounds 15 (if l2 = true then .agg #[.slice x1 M.next.length y1, .slice x2 M.ends.length y2] else A.tmps.getD 15 undef)), A.defers⟩ ∧
        St w0 w' [RdE b vb pr, X, Ent.box (w.heap.size) #[(if l3 = true then .slice a1 G.next.length c1 else .slice none 0 0), (if l3 = true then .slice a2 G.ends.length c2 else .slice none 0 0)] 26, Ent.box (w.heap.size + 1) #[(if l4 = true then .slice x1 M.next.length y1 else .slice none 0 0), (if l4 = true then .slice x2 M.ends.length y2 else .slice none 0 0)] 26, E, Ent.box (wa.heap.size) #[.slice a1 G.next.length c1, .slice a2 G.ends.length c2] 26, (if l2 = true then DfaV vv vh (.slice x1 M.next.length y1) (.slice x2 M.ends.length y2) M else Ent.nil)]) ?_ ?_ ?_
    · rintro listed a w' ⟨l0, l1, l2, l3, l4, x1, y1, x2, y2, vv, vh, rfl, hd3, hd4, rfl, hS⟩ i hi
      obtain ⟨hun, o, ho, hall⟩ := mem_ready.1 hi
      have hlt := (Array.getElem?_eq_some_iff.1 ho).1
      refine wpOp_step ho (fun K hK => ?_)
      clear hi
      have HS := Lib.hid hS
      clear hS
      simp only [List.setIfInBounds_toArray, List.set_cons_zero, List.set_cons_succ, Array.getD_eq_getD_getElem?, List.getElem?_toArray, List.getElem?_cons_zero, List.getElem?_cons_succ, Option.getD_some]
      obtain h | h | h | h | h : i = 0 ∨ i = 1 ∨ i = 2 ∨ i = 3 ∨ i = 4 := by simp at hlt; omega
      all_goals subst h
      all_goals simp only [List.getElem?_toArray, List.getElem?_cons_zero, List.getElem?_cons_succ, Option.some.injEq] at ho
      all_goals subst ho
      all_goals simp [Region.binds] at hun hall
      · subst hun
        have e0 := HS.out.cell (v := .slice a1 G.next.length c1) 5 0 rfl rfl
        have e1 := HS.out.cell (v := .slice a2 G.ends.length c2) 5 1 rfl rfl
        go_simp
        exact hK _ _ ⟨true, l1, l2, l3, l4, x1, y1, x2, y2, vv, vh, rfl, hd3, hd4, (by simp), HS.out⟩
      · subst hun
        have e0 := HS.out.cell (v := .slice a1 G.next.length c1) 5 0 rfl rfl
        have e1 := HS.out.cell (v := .slice a2 G.ends.length c2) 5 1 rfl rfl
        go_simp
        exact hK _ _ ⟨l0, true, l2, l3, l4, x1, y1, x2, y2, vv, vh, rfl, hd3, hd4, (by simp), HS.out⟩
      · obtain rfl := hall
        subst hun
        obtain rfl : l3 = false := by cases l3 with | false => rfl | true => simpa using hd3 rfl
        obtain rfl : l4 = false := by cases l4 with | false => rfl | true => simpa using hd4 rfl
        go_simp
        go_at_call 37
        refine (specMinimize_any G M HhM.out _ _ (HA.out.r HS.out 4 rfl)).mono ?_
        rintro e u1 ⟨z1, z2, z3, z4, rfl, hr, hb⟩
        have hS2 := (HS.out.dfaV hb hr).pick [0, 1, 2, 3, 4, 5, 7] (by decide)
        have HhS2 := Lib.hid hS2; clear hS2
        go_simp
        exact hK _ _ ⟨l0, true, true, false, false, z1, z2, z3, z4, w'.heap.size, u1.heap.size, rfl, by simp, by simp, (by simp), HhS2.out⟩
      · obtain ⟨rfl, rfl, -⟩ := hall
        subst hun
        have f0 := HS.out.fr 2 0 rfl
        have k0 := HS.out.cell (v := .slice none 0 0) 2 0 rfl rfl
        have f1 := HS.out.fr 2 1 rfl
        have k1 := HS.out.cell (v := .slice none 0 0) 2 1 rfl rfl
        go_simp
        exact hK _ _ ⟨true, l1, true, true, l4, x1, y1, x2, y2, vv, vh, rfl, by simp, hd4, (by simp), ((HS.out.set 2 rfl 0 (.slice a1 G.next.length c1)).set 2 rfl 1 (.slice a2 G.ends.length c2))⟩
      · obtain ⟨rfl, rfl, rfl, rfl, -⟩ := hall
        subst hun
        have f0 := HS.out.fr 3 0 rfl
        have k0 := HS.out.cell (v := .slice none 0 0) 3 0 rfl rfl
        have f1 := HS.out.fr 3 1 rfl
        have k1 := HS.out.cell (v := .slice none 0 0) 3 1 rfl rfl
        go_simp
        exact hK _ _ ⟨true, true, true, true, true, x1, y1, x2, y2, vv, vh, rfl, by simp, by simp, (by simp), ((HS.out.set 3 rfl 0 (.slice x1 M.next.length y1)).set 3 rfl 1 (.slice x2 M.ends.length y2))⟩
    · rintro listed a w' ⟨l0, l1, l2, l3, l4, x1, y1, x2, y2, vv, vh, rfl, hd3, hd4, rfl, hS⟩ hr
      have hall := ready_nilM (by kernel_rfl) rfl hr
      obtain rfl : l0 = true := by simpa using hall 0 (by simp)
      obtain rfl : l1 = true := by simpa using hall 1 (by simp)
      obtain rfl : l2 = true := by simpa using hall 2 (by simp)
      obtain rfl : l3 = true := by simpa using hall 3 (by simp)
      obtain rfl : l4 = true := by simpa using hall 4 (by simp)
      clear hall hr hd3 hd4
      simp only [↓reduceIte] at hS ⊢
      simp only [List.setIfInBounds_toArray, List.set_cons_zero, List.set_cons_succ]
      have HSf := Lib.hid hS
      clear hS
      go_wp2
      have q0 := HSf.out.cell (v := .slice a1 G.next.length c1) 2 0 rfl rfl
      have q1 := HSf.out.cell (v := .slice a2 G.ends.length c2) 2 1 rfl rfl
      have q2 := HSf.out.cell (v := .slice x1 M.next.length y1) 3 0 rfl rfl
      have q3 := HSf.out.cell (v := .slice x2 M.ends.length y2) 3 1 rfl rfl
      refine bodyPost_ret (v := .tuple #[.agg #[.slice a1 G.next.length c1, .slice a2 G.ends.length c2], .agg #[.slice x1 M.next.length y1, .slice x2 M.ends.length y2]]) (by simp [results, Try.results91, go_sem, q0, q1, q2, q3]) rfl ?_
      exact ⟨G, M, pr, a1, a2, x1, x2, c1, c2, y1, y2, _, by omega, HSm.out, HSm2.out, rfl, HA.out.all (by simp), (dfaQ_V vv vh (.slice x1 M.next.length y1) (.slice x2 M.ends.length y2) M).all (by simp), St.pack (A := [RdE b vb pr, X]) (R := [E, DfaV vv vh (.slice x1 M.next.length y1) (.slice x2 M.ends.length y2) M]) (HSf.out.pick [0, 1, 4, 6] (by decide))⟩
    · refine ⟨false, false, false, false, false, none, 0, none, 0, 0, 0, rfl, by simp, by simp, (by simp), ?_⟩
      exact HSk.out.drew.pick [0, 1, 2, 3, 4, 5, 6] (by decide)
  · obtain ⟨z1a, z1b, z1c⟩ := yes_eqI h41
    obtain ⟨z0a, z0b, z0c, z0d⟩ := not_eqI (show (k4 : Int) ≠ 0 by omega)
    clear h41
    go_wp2
    refine wp_region_any (by kernel_rfl) ?_
    refine wpAny_invA (fun A listed a w' => ∃ (l0 l1 l2 l3 l4 l5 l6 l7 l8 : Bool) (b5 : Nat) (ag : Option Addr) (cg : Nat) (bb : Nat), listed = #[l0, l1, l2, l3, l4, l5, l6, l7, l8] ∧ (l5 = true → l2 = true) ∧ (l6 = true → l5 = true) ∧ (l8 = true → l5 = true ∧ l7 = true) ∧
        a = ⟨((((((((A.tmps.setIfInBounds 18 (if l0 = true then .pointer (some ⟨wa.heap.size, 0, none⟩) else A.tmps.getD 18 undef)).setIfInBounds 19 (if l1 = true then .slice a1 G.next.length c1 else A.tmps.getD 19 undef)).setIfInBounds 20 (if l2 = true then .slice (some ⟨b5, 0, none⟩) 0 0 else A.tmps.getD 20 undef)).setIfInBounds 21 (if l3 = true then .pointer (some ⟨wa.heap.size, 1, none⟩) else A.tmps.getD 21 undef)).setIfInBounds 22 (if l4 = true then .slice a2 G.ends.length c2 else A.tmps.getD 22 undef)).setIfInBounds 23 (if l5 = true then .slice ag G.ends.length cg else A.tmps.getD 23 undef)).setIfInBounds 24 (if l6 = true then .agg #[.slice a1 G.next.length c1, .slice ag G.ends.length cg] else A.tmps.getD 24 undef)).setIfInBounds 5 (if l7 = true then .pointer (some ⟨bb, 0, none⟩) else A.tmps.getD 5 undef)), A.defers⟩ ∧
        St w0 w' [RdE b vb pr, X, Ent.box (w.heap.size) #[.slice none 0 0, .slice none 0 0] 26, Ent.box (w.heap.size + 1) #[.slice none 0 0, .slice none 0 0] 26, E, Ent.box (wa.heap.size) #[.slice a1 G.next.length c1, .slice a2 G.ends.length c2] 26, (if l2 = true then (if l5 = true then Ent.row 4 1 (.slice ag G.ends.length cg) G.ends.length (boolCells (G.ends)) else Ent.row 4 1 (.slice (some ⟨b5, 0, none⟩) 0 0) 0 []) else Ent.nil), (if l7 = true then Ent.box (bb) #[(if l8 = true then .slice a1 G.next.length c1 else .slice none 0 0), (if l8 = true then .slice ag G.ends.length cg else .slice none 0 0)] 26 else Ent.nil)]) ?_ ?_ ?_
    · rintro listed a w' ⟨l0, l1, l2, l3, l4, l5, l6, l7, l8, b5, ag, cg, bb, rfl, hd5, hd6, hd8, rfl, hS⟩ i hi
      obtain ⟨hun, o, ho, hall⟩ := mem_ready.1 hi
      have hlt := (Array.getElem?_eq_some_iff.1 ho).1
      refine wpOp_step ho (fun K hK => ?_)
      clear hi
      have HS := Lib.hid hS
      clear hS
      simp only [List.setIfInBounds_toArray, List.set_cons_zero, List.set_cons_succ, Array.getD_eq_getD_getElem?, List.getElem?_toArray, List.getElem?_cons_zero, List.getElem?_cons_succ, Option.getD_some]
      obtain h | h | h | h | h | h | h | h | h : i = 0 ∨ i = 1 ∨ i = 2 ∨ i = 3 ∨ i = 4 ∨ i = 5 ∨ i = 6 ∨ i = 7 ∨ i = 8 := by simp at hlt; omega
      all_goals subst h
      all_goals simp only [List.getElem?_toArray, List.getElem?_cons_zero, List.getElem?_cons_succ, Option.some.injEq] at ho
      all_goals subst ho
      all_goals simp [Region.binds] at hun hall
      · subst hun
        go_simp
        exact hK _ _ ⟨true, l1, l2, l3, l4, l5, l6, l7, l8, b5, ag, cg, bb, rfl, hd5, hd6, hd8, (by simp), HS.out⟩
      · obtain rfl := hall
        subst hun
        have e0 := HS.out.cell (v := .slice a1 G.next.length c1) 5 0 rfl rfl
        go_simp
        exact hK _ _ ⟨true, true, l2, l3, l4, l5, l6, l7, l8, b5, ag, cg, bb, rfl, hd5, hd6, hd8, (by simp), HS.out⟩
      · subst hun
        obtain rfl : l5 = false := by cases l5 with | false => rfl | true => simpa using hd5 rfl
        obtain rfl : l6 = false := by cases l6 with | false => rfl | true => simpa using hd6 rfl
        obtain rfl : l8 = false := offL hd8 rfl
        have hS2 := (((HS.out.alloc _ rfl #[] 4).boxrow 8 0 1 [] rfl rfl (Nat.zero_le _)).pick [0, 1, 2, 3, 4, 5, 8, 7] (by decide))
        have HhS2 := Lib.hid hS2; clear hS2
        go_simp
        exact hK _ _ ⟨l0, l1, true, l3, l4, false, false, l7, false, _, ag, cg, bb, rfl, by simp, by simp, by simp, (by simp), HhS2.out⟩
      · subst hun
        go_simp
        exact hK _ _ ⟨l0, l1, l2, true, l4, l5, l6, l7, l8, b5, ag, cg, bb, rfl, hd5, hd6, hd8, (by simp), HS.out⟩
      · obtain rfl := hall
        subst hun
        have e1 := HS.out.cell (v := .slice a2 G.ends.length c2) 5 1 rfl rfl
        go_simp
        exact hK _ _ ⟨l0, l1, l2, true, true, l5, l6, l7, l8, b5, ag, cg, bb, rfl, hd5, hd6, hd8, (by simp), HS.out⟩
      · obtain ⟨rfl, rfl⟩ := hall
        subst hun
        obtain rfl : l6 = false := by cases l6 with | false => rfl | true => simpa using hd6 rfl
        obtain rfl : l8 = false := offL hd8 rfl
        refine step_append_sl (a := ⟨_, _⟩) _ (by rfl) _ _ _ (by rfl) w0.heap.size 4 kb0 (.bool false) 1 1 Try.underlying24 Hhk.out Hhx0.out Hhx1.out Hhx2.out (by rfl) (by omega) _ 0 [] (by rfl) (HS.out.row 6 rfl) _ G.ends.length (boolCells G.ends) (by rfl) (HA.out.sl HS.out 4 rfl) on_bsT (by have := HSm.out.e; unfold maxLen; omega) (by have := HSm.out.e; omega) HS.out.size ?_
        intro a7 c7 w6 hown6 hgrow6 hat6
        have hS6 := HS.out.appS 6 rfl hown6 hgrow6 hat6
        rw [Nat.zero_add] at hS6
        rw [Nat.zero_add]
        have HS6 := Lib.hid hS6
        clear hown6 hgrow6 hat6 hS6
        go_simp
        exact hK _ _ ⟨l0, l1, true, l3, true, true, false, l7, false, b5, a7, c7, bb, rfl, by simp, by simp, by simp, (by simp), HS6.out⟩
      · obtain ⟨rfl, rfl⟩ := hall
        subst hun
        obtain rfl := hd5 rfl
        go_simp
        exact hK _ _ ⟨l0, true, true, l3, l4, true, true, l7, l8, b5, ag, cg, bb, rfl, by simp, by simp, hd8, (by simp), HS.out⟩
      · subst hun
        obtain rfl : l8 = false := offR hd8 rfl
        have hS2 := (HS.out.alloc _ rfl #[.slice none 0 0, .slice none 0 0] 26).pick [0, 1, 2, 3, 4, 5, 6, 8] (by decide)
        have HhS2 := Lib.hid hS2; clear hS2
        go_simp
        exact hK _ _ ⟨l0, l1, l2, l3, l4, l5, l6, true, false, b5, ag, cg, _, rfl, hd5, hd6, by simp, (by simp), HhS2.out⟩
      · obtain ⟨rfl, rfl, rfl, rfl, rfl, rfl, rfl, rfl, -⟩ := hall
        subst hun
        have f0 := HS.out.fr 7 0 rfl
        have k0 := HS.out.cell (v := .slice none 0 0) 7 0 rfl rfl
        have f1 := HS.out.fr 7 1 rfl
        have k1 := HS.out.cell (v := .slice none 0 0) 7 1 rfl rfl
        go_simp
        exact hK _ _ ⟨true, true, true, true, true, true, true, true, true, b5, ag, cg, bb, rfl, by simp, by simp, by simp, (by simp), ((HS.out.set 7 rfl 0 (.slice a1 G.next.length c1)).set 7 rfl 1 (.slice ag G.ends.length cg))⟩
    · rintro listed a w' ⟨l0, l1, l2, l3, l4, l5, l6, l7, l8, b5, ag, cg, bb, rfl, hd5, hd6, hd8, rfl, hS⟩ hr
      have hall := ready_nilM (by kernel_rfl) rfl hr
      obtain rfl : l0 = true := by simpa using hall 0 (by simp)
      obtain rfl : l1 = true := by simpa using hall 1 (by simp)
      obtain rfl : l2 = true := by simpa using hall 2 (by simp)
      obtain rfl : l3 = true := by simpa using hall 3 (by simp)
      obtain rfl : l4 = true := by simpa using hall 4 (by simp)
      obtain rfl : l5 = true := by simpa using hall 5 (by simp)
      obtain rfl : l6 = true := by simpa using hall 6 (by simp)
      obtain rfl : l7 = true := by simpa using hall 7 (by simp)
      obtain rfl : l8 = true := by simpa using hall 8 (by simp)
      clear hall hr hd5 hd6 hd8
      simp only [↓reduceIte] at hS ⊢
      simp only [List.setIfInBounds_toArray, List.set_cons_zero, List.set_cons_succ]
      have HS6 := Lib.hid hS
      clear hS
      obtain ⟨w6, hw6⟩ : ∃ u : World, u = w' := ⟨_, rfl⟩
      subst hw6
      have g0 := HS6.out.cell (v := .slice a1 G.next.length c1) 7 0 rfl rfl
      have g1 := HS6.out.cell (v := .slice ag G.ends.length cg) 7 1 rfl rfl
      by_cases hm : G.ends.length = 0
      · have hm0 : decide (0 < G.ends.length) = false := by simp [hm]
        have hm0I : decide ((0 : Int) < (G.ends.length : Int)) = false := by simp [hm]
        have HSm0 := Lib.hid hm
        clear hm
        go_wp2
        clear g0 g1
        refine wp_region_any (by kernel_rfl) ?_
        refine wpAny_invA (fun A listed a w' => ∃ (l0 l1 l2 l3 : Bool) , listed = #[l0, l1, l2, l3] ∧
            a = ⟨((A.tmps.setIfInBounds 44 (if l0 = true then .agg #[.slice a1 G.next.length c1, .slice a2 G.ends.length c2] else A.tmps.getD 44 undef)).setIfInBounds 45 (if l1 = true then .agg #[.slice a1 G.next.length c1, .slice ag G.ends.length cg] else A.tmps.getD 45 undef)), A.defers⟩ ∧
            St w0 w' [RdE b vb (pr), X, Ent.box (w.heap.size) #[(if l2 = true then .slice a1 G.next.length c1 else .slice none 0 0), (if l2 = true then .slice a2 G.ends.length c2 else .slice none 0 0)] 26, Ent.box (w.heap.size + 1) #[(if l3 = true then .slice a1 G.next.length c1 else .slice none 0 0), (if l3 = true then .slice ag G.ends.length cg else .slice none 0 0)] 26, E, Ent.box (wa.heap.size) #[.slice a1 G.next.length c1, .slice a2 G.ends.length c2] 26, Ent.row 4 1 (.slice ag G.ends.length cg) G.ends.length (boolCells (G.ends)), Ent.box (bb) #[.slice a1 G.next.length c1, .slice ag G.ends.length cg] 26]) ?_ ?_ ?_
        · rintro listed a w' ⟨l0, l1, l2, l3, rfl, rfl, hS⟩ i hi
          obtain ⟨hun, o, ho, hall⟩ := mem_ready.1 hi
          have hlt := (Array.getElem?_eq_some_iff.1 ho).1
          refine wpOp_step ho (fun K hK => ?_)
          clear hi
          have HS := Lib.hid hS
          clear hS
          simp only [List.setIfInBounds_toArray, List.set_cons_zero, List.set_cons_succ, Array.getD_eq_getD_getElem?, List.getElem?_toArray, List.getElem?_cons_zero, List.getElem?_cons_succ, Option.getD_some]
          obtain h | h | h | h : i = 0 ∨ i = 1 ∨ i = 2 ∨ i = 3 := by simp at hlt; omega
          all_goals subst h
          all_goals simp only [List.getElem?_toArray, List.getElem?_cons_zero, List.getElem?_cons_succ, Option.some.injEq] at ho
          all_goals subst ho
          all_goals simp [Region.binds] at hun hall
          · subst hun
            have e0 := HS.out.cell (v := .slice a1 G.next.length c1) 5 0 rfl rfl
            have e1 := HS.out.cell (v := .slice a2 G.ends.length c2) 5 1 rfl rfl
            go_simp
            exact hK _ _ ⟨true, l1, l2, l3, rfl, (by simp), HS.out⟩
          · subst hun
            have e0 := HS.out.cell (v := .slice a1 G.next.length c1) 7 0 rfl rfl
            have e1 := HS.out.cell (v := .slice ag G.ends.length cg) 7 1 rfl rfl
            go_simp
            exact hK _ _ ⟨l0, true, l2, l3, rfl, (by simp), HS.out⟩
          · obtain rfl := hall
            subst hun
            have f0 := HS.out.fr 2 0 rfl
            have k0 := HS.out.cell (v := .slice none 0 0) 2 0 rfl rfl
            have f1 := HS.out.fr 2 1 rfl
            have k1 := HS.out.cell (v := .slice none 0 0) 2 1 rfl rfl
            go_simp
            exact hK _ _ ⟨true, l1, true, l3, rfl, (by simp), ((HS.out.set 2 rfl 0 (.slice a1 G.next.length c1)).set 2 rfl 1 (.slice a2 G.ends.length c2))⟩
          · obtain ⟨rfl, rfl, rfl, -⟩ := hall
            subst hun
            have f0 := HS.out.fr 3 0 rfl
            have k0 := HS.out.cell (v := .slice none 0 0) 3 0 rfl rfl
            have f1 := HS.out.fr 3 1 rfl
            have k1 := HS.out.cell (v := .slice none 0 0) 3 1 rfl rfl
            go_simp
            exact hK _ _ ⟨true, true, true, true, rfl, (by simp), ((HS.out.set 3 rfl 0 (.slice a1 G.next.length c1)).set 3 rfl 1 (.slice ag G.ends.length cg))⟩
        · rintro listed a w' ⟨l0, l1, l2, l3, rfl, rfl, hS⟩ hr
          have hall := ready_nilM (by kernel_rfl) rfl hr
          obtain rfl : l0 = true := by simpa using hall 0 (by simp)
          obtain rfl : l1 = true := by simpa using hall 1 (by simp)
          obtain rfl : l2 = true := by simpa using hall 2 (by simp)
          obtain rfl : l3 = true := by simpa using hall 3 (by simp)
          clear hall hr 
          simp only [↓reduceIte] at hS ⊢
          simp only [List.setIfInBounds_toArray, List.set_cons_zero, List.set_cons_succ]
          have HSf := Lib.hid hS
          clear hS
          go_wp2
          have q0 := HSf.out.cell (v := .slice a1 G.next.length c1) 2 0 rfl rfl
          have q1 := HSf.out.cell (v := .slice a2 G.ends.length c2) 2 1 rfl rfl
          have q2 := HSf.out.cell (v := .slice a1 G.next.length c1) 3 0 rfl rfl
          have q3 := HSf.out.cell (v := .slice ag G.ends.length cg) 3 1 rfl rfl
          refine bodyPost_ret (v := .tuple #[.agg #[.slice a1 G.next.length c1, .slice a2 G.ends.length c2], .agg #[.slice a1 G.next.length c1, .slice ag G.ends.length cg]]) (by simp [results, Try.results91, go_sem, q0, q1, q2, q3]) rfl ?_
          exact ⟨G, ⟨G.next, G.ends⟩, pr, a1, a2, a1, ag, c1, c2, c1, cg, Ent.all [E, Ent.row 4 1 (.slice ag G.ends.length cg) G.ends.length (boolCells (G.ends))], by omega, HSm.out, ⟨HSm.out.n, by exact HSm.out.e, HSm.out.r⟩, rfl, HA.out.all (by simp), HA.out.ends rfl, St.pack (A := [RdE b vb (pr), X]) (R := [E, Ent.row 4 1 (.slice ag G.ends.length cg) G.ends.length (boolCells (G.ends))]) (HSf.out.pick [0, 1, 4, 6] (by decide))⟩
        · refine ⟨false, false, false, false, rfl, (by simp), ?_⟩
          exact HS6.out.drew.pick [0, 1, 2, 3, 4, 5, 6, 7] (by decide)
      · have hm0 : decide (0 < G.ends.length) = true := decide_eq_true (by omega)
        have hm0I : decide ((0 : Int) < (G.ends.length : Int)) = true := decide_eq_true (by omega)
        have hm1 : 1 ≤ G.ends.length := by omega
        have hm40 := HSm.out.e
        have Hhm := Lib.hid hm; clear hm
        go_wp2_with fail
        refine (pick_any bs vb b pr G.ends.length w0 _ _ Hb.out hlen (by omega) hm1 (by omega) (St.pack (A := [RdE b vb pr]) (R := [X, Ent.box (w.heap.size) #[.slice none 0 0, .slice none 0 0] 26, Ent.box (w.heap.size + 1) #[.slice none 0 0, .slice none 0 0] 26, E, Ent.box (wa.heap.size) #[.slice a1 G.next.length c1, .slice a2 G.ends.length c2] 26, Ent.row 4 1 (.slice ag G.ends.length cg) G.ends.length (boolCells (G.ends)), Ent.box (bb) #[.slice a1 G.next.length c1, .slice ag G.ends.length cg] 26]) HS6.out)).mono ?_
        rintro e w7 ⟨k5, hk5, rfl, hSp⟩
        have HS7 := Lib.hid (St.unpack (A := [RdE b vb pr]) (A' := [RdE b vb (pr + 1)]) (R := [X, Ent.box (w.heap.size) #[.slice none 0 0, .slice none 0 0] 26, Ent.box (w.heap.size + 1) #[.slice none 0 0, .slice none 0 0] 26, E, Ent.box (wa.heap.size) #[.slice a1 G.next.length c1, .slice a2 G.ends.length c2] 26, Ent.row 4 1 (.slice ag G.ends.length cg) G.ends.length (boolCells (G.ends)), Ent.box (bb) #[.slice a1 G.next.length c1, .slice ag G.ends.length cg] 26]) HS6.out hSp)
        clear hSp g0 g1
        obtain ⟨gx, cgx, hgx⟩ := HS7.out.rowform 6 rfl (by omega)
        injection hgx with hgx1 hgx2 hgx3
        subst hgx1
        subst hgx3
        obtain ⟨x, hx⟩ : ∃ x, G.ends.getD k5 false = x := ⟨_, rfl⟩
        obtain ⟨y, hy⟩ : ∃ y, (!x) = y := ⟨_, rfl⟩
        have hk5I : (k5 : Int) < (G.ends.length : Int) := by omega
        have Hhx := Lib.hid hx; clear hx
        go_wp2
        refine wp_region_any (by kernel_rfl) ?_
        refine wpAny_invA (fun A listed a w' => ∃ (l0 l1 l2 l3 l4 l5 l6 l7 l8 l9 l10 : Bool) , listed = #[l0, l1, l2, l3, l4, l5, l6, l7, l8, l9, l10] ∧ (l10 = true → l7 = true) ∧
            a = ⟨((((((((((A.tmps.setIfInBounds 34 (if l0 = true then .pointer (some ⟨bb, 1, none⟩) else A.tmps.getD 34 undef)).setIfInBounds 35 (if l1 = true then .slice (some ⟨gx, 0, none⟩) G.ends.length cg else A.tmps.getD 35 undef)).setIfInBounds 36 (if l2 = true then .int .i64 (k5 : Int) else A.tmps.getD 36 undef)).setIfInBounds 37 (if l3 = true then .pointer (some ⟨bb, 1, none⟩) else A.tmps.getD 37 undef)).setIfInBounds 38 (if l4 = true then .slice (some ⟨gx, 0, none⟩) G.ends.length cg else A.tmps.getD 38 undef)).setIfInBounds 39 (if l5 = true then .int .i64 (k5 : Int) else A.tmps.getD 39 undef)).setIfInBounds 40 (if l6 = true then .pointer (some ⟨gx, k5, none⟩) else A.tmps.getD 40 undef)).setIfInBounds 41 (if l7 = true then .bool x else A.tmps.getD 41 undef)).setIfInBounds 42 (if l8 = true then .bool y else A.tmps.getD 42 undef)).setIfInBounds 43 (if l9 = true then .pointer (some ⟨gx, k5, none⟩) else A.tmps.getD 43 undef)), A.defers⟩ ∧
            St w0 w' [RdE b vb (pr + 1), X, Ent.box (w.heap.size) #[.slice none 0 0, .slice none 0 0] 26, Ent.box (w.heap.size + 1) #[.slice none 0 0, .slice none 0 0] 26, E, Ent.box (wa.heap.size) #[.slice a1 G.next.length c1, .slice a2 G.ends.length c2] 26, Ent.row 4 1 (.slice (some ⟨gx, 0, none⟩) G.ends.length cg) G.ends.length (if l10 = true then boolCells (G.ends.set k5 y) else boolCells G.ends), Ent.box (bb) #[.slice a1 G.next.length c1, .slice (some ⟨gx, 0, none⟩) G.ends.length cg] 26]) ?_ ?_ ?_
        · rintro listed a w' ⟨l0, l1, l2, l3, l4, l5, l6, l7, l8, l9, l10, rfl, hd10, rfl, hS⟩ i hi
          obtain ⟨hun, o, ho, hall⟩ := mem_ready.1 hi
          have hlt := (Array.getElem?_eq_some_iff.1 ho).1
          refine wpOp_step ho (fun K hK => ?_)
          clear hi
          have HS := Lib.hid hS
          clear hS
          simp only [List.setIfInBounds_toArray, List.set_cons_zero, List.set_cons_succ, Array.getD_eq_getD_getElem?, List.getElem?_toArray, List.getElem?_cons_zero, List.getElem?_cons_succ, Option.getD_some]
          obtain h | h | h | h | h | h | h | h | h | h | h : i = 0 ∨ i = 1 ∨ i = 2 ∨ i = 3 ∨ i = 4 ∨ i = 5 ∨ i = 6 ∨ i = 7 ∨ i = 8 ∨ i = 9 ∨ i = 10 := by simp at hlt; omega
          all_goals subst h
          all_goals simp only [List.getElem?_toArray, List.getElem?_cons_zero, List.getElem?_cons_succ, Option.some.injEq] at ho
          all_goals subst ho
          all_goals simp [Region.binds] at hun hall
          · subst hun
            go_simp
            exact hK _ _ ⟨true, l1, l2, l3, l4, l5, l6, l7, l8, l9, l10, rfl, hd10, (by simp), HS.out⟩
          · obtain rfl := hall
            subst hun
            have e0 := HS.out.cell (v := .slice (some ⟨gx, 0, none⟩) G.ends.length cg) 7 1 rfl rfl
            go_simp
            exact hK _ _ ⟨true, true, l2, l3, l4, l5, l6, l7, l8, l9, l10, rfl, hd10, (by simp), HS.out⟩
          · subst hun
            go_simp
            exact hK _ _ ⟨l0, l1, true, l3, l4, l5, l6, l7, l8, l9, l10, rfl, hd10, (by simp), HS.out⟩
          · subst hun
            go_simp
            exact hK _ _ ⟨l0, l1, l2, true, l4, l5, l6, l7, l8, l9, l10, rfl, hd10, (by simp), HS.out⟩
          · obtain rfl := hall
            subst hun
            have e0 := HS.out.cell (v := .slice (some ⟨gx, 0, none⟩) G.ends.length cg) 7 1 rfl rfl
            go_simp
            exact hK _ _ ⟨l0, l1, l2, true, true, l5, l6, l7, l8, l9, l10, rfl, hd10, (by simp), HS.out⟩
          · subst hun
            go_simp
            exact hK _ _ ⟨l0, l1, l2, l3, l4, true, l6, l7, l8, l9, l10, rfl, hd10, (by simp), HS.out⟩
          · obtain ⟨rfl, rfl⟩ := hall
            subst hun
            go_simp
            exact hK _ _ ⟨l0, l1, l2, l3, true, true, true, l7, l8, l9, l10, rfl, hd10, (by simp), HS.out⟩
          · obtain rfl := hall
            subst hun
            obtain rfl : l10 = false := by cases l10 with | false => rfl | true => simpa using hd10 rfl
            have e0 := HS.out.rcell 6 k5 rfl (by omega) (show (boolCells G.ends)[k5]? = some (.bool x) by rw [← Hhx.out]; simp [boolCells, hk5])
            go_simp
            exact hK _ _ ⟨l0, l1, l2, l3, l4, l5, true, true, l8, l9, false, rfl, by simp, (by simp), HS.out⟩
          · obtain rfl := hall
            subst hun
            go_simp
            exact hK _ _ ⟨l0, l1, l2, l3, l4, l5, l6, true, true, l9, l10, rfl, hd10, (by simp), HS.out⟩
          · obtain ⟨rfl, rfl, rfl, -, -, rfl, rfl, rfl, rfl, rfl, rfl⟩ := hall
            subst hun
            go_simp
            exact hK _ _ ⟨true, true, true, true, true, true, true, true, true, true, l10, rfl, hd10, (by simp), HS.out⟩
          · obtain ⟨rfl, rfl, rfl, rfl, rfl, rfl, rfl, rfl, rfl, rfl, -⟩ := hall
            subst hun
            have f0 := HS.out.rfr 6 k5 rfl
            have e0 := HS.out.rcell 6 k5 rfl (by omega) (show (boolCells G.ends)[k5]? = some (.bool x) by rw [← Hhx.out]; simp [boolCells, hk5])
            go_simp
            exact hK _ _ ⟨true, true, true, true, true, true, true, true, true, true, true, rfl, by simp, (by simp), (store_bool HS.out 6 rfl k5 y)⟩
        · rintro listed a w' ⟨l0, l1, l2, l3, l4, l5, l6, l7, l8, l9, l10, rfl, hd10, rfl, hS⟩ hr
          have hall := ready_nilM (by kernel_rfl) rfl hr
          obtain rfl : l0 = true := by simpa using hall 0 (by simp)
          obtain rfl : l1 = true := by simpa using hall 1 (by simp)
          obtain rfl : l2 = true := by simpa using hall 2 (by simp)
          obtain rfl : l3 = true := by simpa using hall 3 (by simp)
          obtain rfl : l4 = true := by simpa using hall 4 (by simp)
          obtain rfl : l5 = true := by simpa using hall 5 (by simp)
          obtain rfl : l6 = true := by simpa using hall 6 (by simp)
          obtain rfl : l7 = true := by simpa using hall 7 (by simp)
          obtain rfl : l8 = true := by simpa using hall 8 (by simp)
          obtain rfl : l9 = true := by simpa using hall 9 (by simp)
          obtain rfl : l10 = true := by simpa using hall 10 (by simp)
          clear hall hr hd10
          simp only [↓reduceIte] at hS ⊢
          simp only [List.setIfInBounds_toArray, List.set_cons_zero, List.set_cons_succ]
          have HS9 := Lib.hid hS
          clear hS
          obtain ⟨w9, hw9⟩ : ∃ u : World, u = w' := ⟨_, rfl⟩
          subst hw9
          go_wp2
          refine wp_region_any (by kernel_rfl) ?_
          refine wpAny_invA (fun A listed a w' => ∃ (l0 l1 l2 l3 : Bool) , listed = #[l0, l1, l2, l3] ∧
              a = ⟨((A.tmps.setIfInBounds 44 (if l0 = true then .agg #[.slice a1 G.next.length c1, .slice a2 G.ends.length c2] else A.tmps.getD 44 undef)).setIfInBounds 45 (if l1 = true then .agg #[.slice a1 G.next.length c1, .slice (some ⟨gx, 0, none⟩) G.ends.length cg] else A.tmps.getD 45 undef)), A.defers⟩ ∧
              St w0 w' [RdE b vb (pr + 1), X, Ent.box (w.heap.size) #[(if l2 = true then .slice a1 G.next.length c1 else .slice none 0 0), (if l2 = true then .slice a2 G.ends.length c2 else .slice none 0 0)] 26, Ent.box (w.heap.size + 1) #[(if l3 = true then .slice a1 G.next.length c1 else .slice none 0 0), (if l3 = true then .slice (some ⟨gx, 0, none⟩) G.ends.length cg else .slice none 0 0)] 26, E, Ent.box (wa.heap.size) #[.slice a1 G.next.length c1, .slice a2 G.ends.length c2] 26, Ent.row 4 1 (.slice (some ⟨gx, 0, none⟩) G.ends.length cg) G.ends.length (boolCells (G.ends.set k5 y)), Ent.box (bb) #[.slice a1 G.next.length c1, .slice (some ⟨gx, 0, none⟩) G.ends.length cg] 26]) ?_ ?_ ?_
          · rintro listed a w' ⟨l0, l1, l2, l3, rfl, rfl, hS⟩ i hi
            obtain ⟨hun, o, ho, hall⟩ := mem_ready.1 hi
            have hlt := (Array.getElem?_eq_some_iff.1 ho).1
            refine wpOp_step ho (fun K hK => ?_)
            clear hi
            have HS := Lib.hid hS
            clear hS
            simp only [List.setIfInBounds_toArray, List.set_cons_zero, List.set_cons_succ, Array.getD_eq_getD_getElem?, List.getElem?_toArray, List.getElem?_cons_zero, List.getElem?_cons_succ, Option.getD_some]
            obtain h | h | h | h : i = 0 ∨ i = 1 ∨ i = 2 ∨ i = 3 := by simp at hlt; omega
            all_goals subst h
            all_goals simp only [List.getElem?_toArray, List.getElem?_cons_zero, List.getElem?_cons_succ, Option.some.injEq] at ho
            all_goals subst ho
            all_goals simp [Region.binds] at hun hall
            · subst hun
              have e0 := HS.out.cell (v := .slice a1 G.next.length c1) 5 0 rfl rfl
              have e1 := HS.out.cell (v := .slice a2 G.ends.length c2) 5 1 rfl rfl
              go_simp
              exact hK _ _ ⟨true, l1, l2, l3, rfl, (by simp), HS.out⟩
            · subst hun
              have e0 := HS.out.cell (v := .slice a1 G.next.length c1) 7 0 rfl rfl
              have e1 := HS.out.cell (v := .slice (some ⟨gx, 0, none⟩) G.ends.length cg) 7 1 rfl rfl
              go_simp
              exact hK _ _ ⟨l0, true, l2, l3, rfl, (by simp), HS.out⟩
            · obtain rfl := hall
              subst hun
              have f0 := HS.out.fr 2 0 rfl
              have k0 := HS.out.cell (v := .slice none 0 0) 2 0 rfl rfl
              have f1 := HS.out.fr 2 1 rfl
              have k1 := HS.out.cell (v := .slice none 0 0) 2 1 rfl rfl
              go_simp
              exact hK _ _ ⟨true, l1, true, l3, rfl, (by simp), ((HS.out.set 2 rfl 0 (.slice a1 G.next.length c1)).set 2 rfl 1 (.slice a2 G.ends.length c2))⟩
            · obtain ⟨rfl, rfl, rfl, -⟩ := hall
              subst hun
              have f0 := HS.out.fr 3 0 rfl
              have k0 := HS.out.cell (v := .slice none 0 0) 3 0 rfl rfl
              have f1 := HS.out.fr 3 1 rfl
              have k1 := HS.out.cell (v := .slice none 0 0) 3 1 rfl rfl
              go_simp
              exact hK _ _ ⟨true, true, true, true, rfl, (by simp), ((HS.out.set 3 rfl 0 (.slice a1 G.next.length c1)).set 3 rfl 1 (.slice (some ⟨gx, 0, none⟩) G.ends.length cg))⟩
          · rintro listed a w' ⟨l0, l1, l2, l3, rfl, rfl, hS⟩ hr
            have hall := ready_nilM (by kernel_rfl) rfl hr
            obtain rfl : l0 = true := by simpa using hall 0 (by simp)
            obtain rfl : l1 = true := by simpa using hall 1 (by simp)
            obtain rfl : l2 = true := by simpa using hall 2 (by simp)
            obtain rfl : l3 = true := by simpa using hall 3 (by simp)
            clear hall hr 
            simp only [↓reduceIte] at hS ⊢
            simp only [List.setIfInBounds_toArray, List.set_cons_zero, List.set_cons_succ]
            have HSf := Lib.hid hS
            clear hS
            go_wp2
            have q0 := HSf.out.cell (v := .slice a1 G.next.length c1) 2 0 rfl rfl
            have q1 := HSf.out.cell (v := .slice a2 G.ends.length c2) 2 1 rfl rfl
            have q2 := HSf.out.cell (v := .slice a1 G.next.length c1) 3 0 rfl rfl
            have q3 := HSf.out.cell (v := .slice (some ⟨gx, 0, none⟩) G.ends.length cg) 3 1 rfl rfl
            refine bodyPost_ret (v := .tuple #[.agg #[.slice a1 G.next.length c1, .slice a2 G.ends.length c2], .agg #[.slice a1 G.next.length c1, .slice (some ⟨gx, 0, none⟩) G.ends.length cg]]) (by simp [results, Try.results91, go_sem, q0, q1, q2, q3]) rfl ?_
            exact ⟨G, ⟨G.next, G.ends.set k5 y⟩, pr + 1, a1, a2, a1, (some ⟨gx, 0, none⟩), c1, c2, c1, cg, Ent.all [E, Ent.row 4 1 (.slice (some ⟨gx, 0, none⟩) G.ends.length cg) G.ends.length (boolCells (G.ends.set k5 y))], by omega, HSm.out, ⟨HSm.out.n, by rw [List.length_set]; exact HSm.out.e, HSm.out.r⟩, by rw [List.length_set], HA.out.all (by simp), by rw [List.length_set]; exact HA.out.ends (by rw [List.length_set]), St.pack (A := [RdE b vb (pr + 1), X]) (R := [E, Ent.row 4 1 (.slice (some ⟨gx, 0, none⟩) G.ends.length cg) G.ends.length (boolCells (G.ends.set k5 y))]) (HSf.out.pick [0, 1, 4, 6] (by decide))⟩
          · refine ⟨false, false, false, false, rfl, (by simp), ?_⟩
            exact HS9.out.drew.pick [0, 1, 2, 3, 4, 5, 6, 7] (by decide)
        · refine ⟨false, false, false, false, false, false, false, false, false, false, false, rfl, by simp, (by simp), ?_⟩
          exact HS7.out.drew.pick [0, 1, 2, 3, 4, 5, 6, 7] (by decide)
    · refine ⟨false, false, false, false, false, false, false, false, false, 0, none, 0, 0, rfl, by simp, by simp, by simp, (by simp), ?_⟩
      exact HSk.out.drew.pick [0, 1, 2, 3, 4, 5, 6, 7] (by decide)
  · obtain ⟨z0a, z0b, z0c, z0d⟩ := not_eqI (show (k4 : Int) ≠ 0 by omega)
    obtain ⟨z1a, z1b, z1c, z1d⟩ := not_eqI (show (k4 : Int) ≠ 1 by omega)
    clear h42
    go_wp2
    refine wp_region_any (by kernel_rfl) ?_
    refine wpAny_invA (fun A listed a w' => ∃ (l0 l1 l2 l3 l4 : Bool) (x1 : Option Addr) (y1 : Nat) (x2 : Option Addr) (y2 : Nat) (D : DfaD) (pn : Nat) (EE : Ent) (fa : PLift (pn ≤ pr + 1000 ∧ SmallD D ∧ DfaQ EE (.slice x1 D.next.length y1) (.slice x2 D.ends.length y2) D)), listed = #[l0, l1, l2, l3, l4] ∧ (l3 = true → l2 = true) ∧ (l4 = true → l2 = true) ∧
        a = ⟨(((A.tmps.setIfInBounds 46 (if l0 = true then .agg #[.slice a1 G.next.length c1, .slice a2 G.ends.length c2] else A.tmps.getD 46 undef)).setIfInBounds 47 (if l1 = true then .pointer (some ⟨b, 0, none⟩) else A.tmps.getD 47 undef)).setIfInBounds 48 (if l2 = true then .agg #[.slice x1 D.next.length y1, .slice x2 D.ends.length y2] else A.tmps.getD 48 undef)), A.defers⟩ ∧
        St w0 w' [RdE b vb (if l2 = true then pn else pr), X, Ent.box (w.heap.size) #[(if l3 = true then .slice a1 G.next.length c1 else .slice none 0 0), (if l3 = true then .slice a2 G.ends.length c2 else .slice none 0 0)] 26, Ent.box (w.heap.size + 1) #[(if l4 = true then .slice x1 D.next.length y1 else .slice none 0 0), (if l4 = true then .slice x2 D.ends.length y2 else .slice none 0 0)] 26, E, Ent.box (wa.heap.size) #[.slice a1 G.next.length c1, .slice a2 G.ends.length c2] 26, (if l2 = true then EE else Ent.nil)]) ?_ ?_ ?_
    · rintro listed a w' ⟨l0, l1, l2, l3, l4, x1, y1, x2, y2, D, pn, EE, fa, rfl, hd3, hd4, rfl, hS⟩ i hi
      obtain ⟨hun, o, ho, hall⟩ := mem_ready.1 hi
      have hlt := (Array.getElem?_eq_some_iff.1 ho).1
      refine wpOp_step ho (fun K hK => ?_)
      clear hi
      have HS := Lib.hid hS
      clear hS
      simp only [List.setIfInBounds_toArray, List.set_cons_zero, List.set_cons_succ, Array.getD_eq_getD_getElem?, List.getElem?_toArray, List.getElem?_cons_zero, List.getElem?_cons_succ, Option.getD_some]
      obtain h | h | h | h | h : i = 0 ∨ i = 1 ∨ i = 2 ∨ i = 3 ∨ i = 4 := by simp at hlt; omega
      all_goals subst h
      all_goals simp only [List.getElem?_toArray, List.getElem?_cons_zero, List.getElem?_cons_succ, Option.some.injEq] at ho
      all_goals subst ho
      all_goals simp [Region.binds] at hun hall
      · subst hun
        have e0 := HS.out.cell (v := .slice a1 G.next.length c1) 5 0 rfl rfl
        have e1 := HS.out.cell (v := .slice a2 G.ends.length c2) 5 1 rfl rfl
        go_simp
        exact hK _ _ ⟨true, l1, l2, l3, l4, x1, y1, x2, y2, D, pn, EE, fa, rfl, hd3, hd4, (by simp), HS.out⟩
      · subst hun
        go_simp
        exact hK _ _ ⟨l0, true, l2, l3, l4, x1, y1, x2, y2, D, pn, EE, fa, rfl, hd3, hd4, (by simp), HS.out⟩
      · obtain rfl := hall
        subst hun
        obtain rfl : l3 = false := by cases l3 with | false => rfl | true => simpa using hd3 rfl
        obtain rfl : l4 = false := by cases l4 with | false => rfl | true => simpa using hd4 rfl
        go_simp
        go_at_call 61
        refine (l20Dfa_any bs vb b pr 16 w0 _ _ Hb.out hlen (by omega) (by omega) (St.pack (A := [RdE b vb pr]) (R := [X, Ent.box (w.heap.size) #[.slice none 0 0, .slice none 0 0] 26, Ent.box (w.heap.size + 1) #[.slice none 0 0, .slice none 0 0] 26, E, Ent.box (wa.heap.size) #[.slice a1 G.next.length c1, .slice a2 G.ends.length c2] 26, Ent.nil]) HS.out)).mono ?_
        rintro e u1 ⟨D1, pn1, z1, z3, z2, z4, vs1, EE1, hpn1, hsm1, rfl, hh1, hSp⟩
        have hS2 : St w0 u1 [RdE b vb pn1, X, Ent.box (w.heap.size) #[.slice none 0 0, .slice none 0 0] 26, Ent.box (w.heap.size + 1) #[.slice none 0 0, .slice none 0 0] 26, E, Ent.box (wa.heap.size) #[.slice a1 G.next.length c1, .slice a2 G.ends.length c2] 26, EE1] := (St.unpack (A := [RdE b vb pr]) (A' := [RdE b vb pn1, EE1]) (R := [X, Ent.box (w.heap.size) #[.slice none 0 0, .slice none 0 0] 26, Ent.box (w.heap.size + 1) #[.slice none 0 0, .slice none 0 0] 26, E, Ent.box (wa.heap.size) #[.slice a1 G.next.length c1, .slice a2 G.ends.length c2] 26, Ent.nil]) HS.out (hSp.pick [0, 2, 1] (by decide))).pick [0, 2, 3, 4, 5, 6, 1] (by decide)
        have hfa : pn1 ≤ pr + 1000 ∧ SmallD D1 ∧ DfaQ EE1 (.slice z1 D1.next.length z2) (.slice z3 D1.ends.length z4) D1 := ⟨hpn1, hsm1, hh1.q⟩
        have HhS2 := Lib.hid hS2; clear hS2
        go_simp
        exact hK _ _ ⟨l0, true, true, false, false, z1, z2, z3, z4, D1, pn1, EE1, ⟨hfa⟩, rfl, by simp, by simp, (by simp), HhS2.out⟩
      · obtain ⟨rfl, rfl, -⟩ := hall
        subst hun
        have f0 := HS.out.fr 2 0 rfl
        have k0 := HS.out.cell (v := .slice none 0 0) 2 0 rfl rfl
        have f1 := HS.out.fr 2 1 rfl
        have k1 := HS.out.cell (v := .slice none 0 0) 2 1 rfl rfl
        go_simp
        exact hK _ _ ⟨true, l1, true, true, l4, x1, y1, x2, y2, D, pn, EE, fa, rfl, by simp, hd4, (by simp), ((HS.out.set 2 rfl 0 (.slice a1 G.next.length c1)).set 2 rfl 1 (.slice a2 G.ends.length c2))⟩
      · obtain ⟨rfl, rfl, rfl, rfl, -⟩ := hall
        subst hun
        have f0 := HS.out.fr 3 0 rfl
        have k0 := HS.out.cell (v := .slice none 0 0) 3 0 rfl rfl
        have f1 := HS.out.fr 3 1 rfl
        have k1 := HS.out.cell (v := .slice none 0 0) 3 1 rfl rfl
        go_simp
        exact hK _ _ ⟨true, true, true, true, true, x1, y1, x2, y2, D, pn, EE, fa, rfl, by simp, by simp, (by simp), ((HS.out.set 3 rfl 0 (.slice x1 D.next.length y1)).set 3 rfl 1 (.slice x2 D.ends.length y2))⟩
    · rintro listed a w' ⟨l0, l1, l2, l3, l4, x1, y1, x2, y2, D, pn, EE, fa, rfl, hd3, hd4, rfl, hS⟩ hr
      have hall := ready_nilM (by kernel_rfl) rfl hr
      obtain rfl : l0 = true := by simpa using hall 0 (by simp)
      obtain rfl : l1 = true := by simpa using hall 1 (by simp)
      obtain rfl : l2 = true := by simpa using hall 2 (by simp)
      obtain rfl : l3 = true := by simpa using hall 3 (by simp)
      obtain rfl : l4 = true := by simpa using hall 4 (by simp)
      clear hall hr hd3 hd4
      simp only [↓reduceIte] at hS ⊢
      simp only [List.setIfInBounds_toArray, List.set_cons_zero, List.set_cons_succ]
      obtain ⟨hpn, hsm2, hq2⟩ := fa.down
      have HSf := Lib.hid hS
      clear hS
      go_wp2
      have q0 := HSf.out.cell (v := .slice a1 G.next.length c1) 2 0 rfl rfl
      have q1 := HSf.out.cell (v := .slice a2 G.ends.length c2) 2 1 rfl rfl
      have q2 := HSf.out.cell (v := .slice x1 D.next.length y1) 3 0 rfl rfl
      have q3 := HSf.out.cell (v := .slice x2 D.ends.length y2) 3 1 rfl rfl
      refine bodyPost_ret (v := .tuple #[.agg #[.slice a1 G.next.length c1, .slice a2 G.ends.length c2], .agg #[.slice x1 D.next.length y1, .slice x2 D.ends.length y2]]) (by simp [results, Try.results91, go_sem, q0, q1, q2, q3]) rfl ?_
      exact ⟨G, D, pn, a1, a2, x1, x2, c1, c2, y1, y2, _, by omega, HSm.out, hsm2, rfl, HA.out.all (by simp), hq2.all (by simp), St.pack (A := [RdE b vb pn, X]) (R := [E, EE]) (HSf.out.pick [0, 1, 4, 6] (by decide))⟩
    · refine ⟨false, false, false, false, false, none, 0, none, 0, ⟨[], []⟩, pr, Ent.nil, ⟨⟨by omega, small_nil, dfaQ_nil⟩⟩, rfl, by simp, by simp, (by simp), ?_⟩
      exact HSk.out.drew.pick [0, 1, 2, 3, 4, 5, 6] (by decide)
set_option maxRecDepth 100000 in
set_option maxHeartbeats 4000000 in
theorem openJ_any (bs : List Nat) (v : Value) (w : World) (hb : Bytes 0 w v bs) (hlen : bs.length ≤ 100000000) :
    Calls Try.prog 62 #[v] w fun e w' => ∃ vb bs', bs'.length ≤ 2000 ∧ (∀ u : World, Bytes 0 u v bs → Bytes 0 u vb bs') ∧ e = .returned (.pointer (some ⟨w.heap.size, 0, none⟩)) ∧ St w w' [RdE w.heap.size vb 0] := by
  obtain ⟨a, c, rfl, hc1, hc2, -⟩ := hb.form
  have Hb := Lib.hid hb
  clear hb
  by_cases h2 : 2000 < bs.length
  · have q1 : (2000 : Int) < bs.length := by omega
    have q2 : (2000 : Int) ≤ c := by omega
    have hS := (St.start w).alloc _ rfl #[.slice a 2000 c, .int .i64 0] 103
    have HS := Lib.hid hS
    clear hS
    go_enter Try.func62, Try.ntmps62
    go_wp2
    go_ret
    exact ⟨_, bs.take 2000, by rw [List.length_take]; omega, fun u h => h.take (by omega), rfl, HS.out⟩
  · have q1 : (2000 < (bs.length : Int)) = False := by simp; omega
    have hS := (St.start w).alloc _ rfl #[.slice a bs.length c, .int .i64 0] 103
    have HS := Lib.hid hS
    have h2 : bs.length ≤ 2000 := by omega
    clear hS
    go_enter Try.func62, Try.ntmps62
    go_wp2
    go_ret
    exact ⟨_, bs, h2, fun u h => h, rfl, HS.out⟩
end Go.Proofs.Ythhbjkgchabfmaa
