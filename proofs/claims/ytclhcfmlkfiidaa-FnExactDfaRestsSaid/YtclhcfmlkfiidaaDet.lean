/-
  The walks over the program's determinizing.
  Conditions: the automaton reads as such; its moves, first and last states lie below 40.
-/
import Derived.Test.YtclhcfmlkfiidaaExpS
import Derived.Test.YtclhcfmlkfiidaaFe
namespace Go.Proofs.Ytclhcfmlkfiidaa
open Go.RowKit Go.Maps

/-- The step and the end test over keys. -/
def nxS (n : NfaD) (x : Int × Int) (c : Nat) : Int × Int := ((stV 40 n.moves x.1.toNat (c : Int) : Nat), 0)
def enS (n : NfaD) (x : Int × Int) : Bool := endV n x.1.toNat
def isS (x : Int × Int) : Prop := ∃ v : Nat, v < 2 ^ 40 ∧ x = ((v : Int), 0)
theorem isS_fit {x : Int × Int} (h : isS x) : fitU x.1 ∧ fitU x.2 := by
  obtain ⟨v, hv, rfl⟩ := h
  unfold fitU
  simp only
  omega
theorem isS_step {n : NfaD} (hm : mvIn 40 n.moves) (x : Int × Int) (c : Nat) : isS (nxS n x c) := ⟨_, stV_lt hm _ _, rfl⟩
/-- The sets that are met. -/
abbrev metS (n : NfaD) (K : Nat) : List (Int × Int) := (bat (nxS n) (((fstV n : Nat) : Int), 0) K).met
theorem fstV_lt {n : NfaD} (hm : mvIn 40 n.moves) (hs : inN 40 n.firsts) : fstV n < 2 ^ 40 := clIt_lt hm (setV_lt hs) 40
def RDet (n : NfaD) (K B : Nat) (e : Ending) (w' : World) : Prop :=
  if (metS n K).length ≤ K then
    ∃ an cn ae ce, e = .returned (.tuple #[.agg #[.slice an (metS n K).length cn, .slice ae (metS n K).length ce], .int .i64 ((metS n K).length : Nat)]) ∧
      DfaO 44 3 4 B w'.heap.size w' (.agg #[.slice an (metS n K).length cn, .slice ae (metS n K).length ce]) (numDfa (nxS n) (enS n) (metS n K))
  else e = .returned (.tuple #[.agg #[.slice none 0 0, .slice none 0 0], .int .i64 41])

theorem explS_any (n : NfaD) (K : Nat) (v1 v2 v3 : Value) (w : World) (hk0 : 0 < K) (hk1 : K ≤ 100000) (hm : mvIn 40 n.moves) (hml : n.moves.length ≤ 1000000) (hs : inN 40 n.firsts) (he : inN 40 n.ends) (h1 : Moves 0 w v1 n.moves) (h3 : Ints 0 w v3 n.ends) :
    Calls Try.prog 81 #[setC (fstV n), .int .i64 (K : Nat), .func (.func 83) #[.agg (nfaC n v1 v2 v3)] #[], .func (.func 84) #[.agg (nfaC n v1 v2 v3)] #[]] w
      fun e w' => RExpS (((fstV n : Nat) : Int), 0) (nxS n) (enS n) K w.heap.size e w' ∧ Below w.heap.size w w' := by
  refine exploredSet_any ((fstV n : Nat) : Int) 0 (.agg (nfaC n v1 v2 v3)) (nxS n) (enS n) isS K w ⟨_, fstV_lt hm hs, rfl⟩ (fun x c _ _ => isS_step hm x c) (fun x hx => isS_fit hx) hk0 hk1 ?_ ?_
  · rintro x c w' ⟨v, hv, rfl⟩ hc hb
    refine (nfaStep_any n v (c : Int) v1 v2 v3 w' hm hml hv (h1.below hb)).mono ?_
    rintro e w2 ⟨rfl, h⟩
    exact ⟨rfl, h⟩
  · rintro x w' ⟨v, hv, rfl⟩ hb
    exact nfaEnds_any n v v1 v2 v3 w' hv he (h3.below hb) _ rfl
theorem explK_any (n : NfaD) (K : Nat) (hK : K = 40) (v1 v2 v3 : Value) (w : World) (hm : mvIn 40 n.moves) (hml : n.moves.length ≤ 1000000) (hs : inN 40 n.firsts) (he : inN 40 n.ends) (h1 : Moves 0 w v1 n.moves) (h3 : Ints 0 w v3 n.ends) :
    Calls Try.prog 81 #[setC (fstV n), .int .i64 40, .func (.func 83) #[.agg #[.int .i64 n.states, v1, v2, v3]] #[], .func (.func 84) #[.agg #[.int .i64 n.states, v1, v2, v3]] #[]] w
      fun e w' => RExpS (((fstV n : Nat) : Int), 0) (nxS n) (enS n) K w.heap.size e w' ∧ Below w.heap.size w w' := by
  have h := explS_any n K v1 v2 v3 w (by omega) (by omega) hm hml hs he h1 h3
  have e : ((K : Nat) : Int) = 40 := by omega
  rw [e] at h
  exact h
/-- The automaton that is made lies in memory, of the call's own. -/
def DMem (B : Nat) (w : World) (D : DfaD) (v1 v2 : Value) : Prop := OIntSS 44 3 B w.heap.size w v1 D.next ∧ OBools 4 B w.heap.size w v2 D.ends
theorem DMem.of {B B' : Nat} {w : World} {D : DfaD} {v1 v2 : Value} (h : DfaO 44 3 4 B' w.heap.size w (.agg #[v1, v2]) D) (hB : B ≤ B') : DMem B w D v1 v2 := by
  obtain ⟨q1, q2, hq, hd1, hd2⟩ := h
  simp only [Value.agg.injEq] at hq
  have e1 := congrArg (fun (l : Array Value) => l[0]?) hq
  have e2 := congrArg (fun (l : Array Value) => l[1]?) hq
  simp at e1 e2
  subst e1
  subst e2
  exact ⟨hd1.mono hB (Nat.le_refl _), Own.mono hd2 hB (Nat.le_refl _)⟩
theorem DMem.alloc {B : Nat} {w : World} {D : DfaD} {v1 v2 : Value} (h : DMem B w D v1 v2) (o : Obj) : DMem B (w.alloc o) D v1 v2 := by
  have hb := (Below.refl w.heap.size w).alloc (Nat.le_refl _) o
  exact ⟨(h.1.below hb).mono (Nat.le_refl _) hb.size, Own.mono (Own.below h.2 hb) (Nat.le_refl _) hb.size⟩
theorem DMem.set {B : Nat} {w : World} {D : DfaD} {v1 v2 : Value} (h : DMem B w D v1 v2) {b : Nat} {cs : Array Value} (x : Bx w b cs 32) (j : Nat) (v : Value) : DMem B (w.setCell ⟨b, j, none⟩ v) D v1 v2 := by
  have g := grown_set w b j v
  exact ⟨(h.1.grown g (x.apart (by decide)) (x.apart (by decide))).mono (Nat.le_refl _) (by simp [World.setCell]), Own.mono (Own.grown h.2 g (x.apart (by decide))) (Nat.le_refl _) (by simp [World.setCell])⟩
theorem box2 {w : World} {b : Nat} {a c : Value} {T : TypeId} (h : Bx w b #[a, c] T) : w.cell? ⟨b, 0, none⟩ = some a ∧ w.cell? ⟨b, 1, none⟩ = some c ∧ w.frozen? ⟨b, 0, none⟩ = false ∧ w.frozen? ⟨b, 1, none⟩ = false := ⟨h.cell 0, h.cell 1, h.fr 0, h.fr 1⟩
set_option linter.all false in
set_option maxRecDepth 100000 in
set_option maxHeartbeats 3200000 in
theorem determinize_any (n : NfaD) (K : Nat) (hK : K = 40) (v1 v2 v3 : Value) (w : World) (hm : mvIn 40 n.moves) (hml : n.moves.length ≤ 1000000) (hs : inN 40 n.firsts) (hsl : n.firsts.length ≤ 1000000) (he : inN 40 n.ends) (h1 : Moves 0 w v1 n.moves) (h2 : Ints 0 w v2 n.firsts) (h3 : Ints 0 w v3 n.ends) :
    Calls Try.prog 57 #[.agg (nfaC n v1 v2 v3)] w fun e w' => RDet n K w.heap.size e w' ∧ Below w.heap.size w w' := by
  obtain ⟨W, hW⟩ : ∃ W, W = ((w.alloc (.cells (nfaC n v1 v2 v3) 67)).alloc (.cells #[.slice none 0 0, .slice none 0 0] 32)) := ⟨_, rfl⟩
  have hWB : Below w.heap.size w W := by rw [hW]; exact ((Below.refl _ _).alloc (Nat.le_refl _) _).alloc (by simp) _
  have x0 : Bx W w.heap.size (nfaC n v1 v2 v3) 67 := by rw [hW]; exact (Bx.new w _ _).alloc _
  have x1 : Bx W (w.heap.size + 1) #[.slice none 0 0, .slice none 0 0] 32 := by
    rw [hW]; simpa using (Bx.new (w.alloc (.cells (nfaC n v1 v2 v3) 67)) #[.slice none 0 0, .slice none 0 0] 32)
  have hl0 := x0.lt
  have c0 := x0.cell 0
  have c1 := x0.cell 1
  have c2 := x0.cell 2
  have c3 := x0.cell 3
  simp only [nfaC, List.getElem?_toArray, List.getElem?_cons_zero, List.getElem?_cons_succ] at c0 c1 c2 c3
  have Hk := Lib.hid (fun (w' : World) (h : Below W.drew.heap.size W.drew w') => (show w'.cell? ⟨w.heap.size, 0, none⟩ = some (.int .i64 n.states) ∧ w'.cell? ⟨w.heap.size, 1, none⟩ = some v1 ∧ w'.cell? ⟨w.heap.size, 2, none⟩ = some v2 ∧ w'.cell? ⟨w.heap.size, 3, none⟩ = some v3 from ⟨(bcell h _ _ hl0).trans c0, (bcell h _ _ hl0).trans c1, (bcell h _ _ hl0).trans c2, (bcell h _ _ hl0).trans c3⟩))
  have H1 := Lib.hid (h1.below hWB.drew)
  have H2 := Lib.hid (h2.below hWB.drew)
  have H3 := Lib.hid (h3.below hWB.drew)
  have Hx0W := Lib.hid hW
  clear hW
  have hz0 : w.heap.size + 1 < W.heap.size := x1.lt
  have Hhm := Lib.hid hm; clear hm
  have Hhs := Lib.hid hs; clear hs
  have Hhe := Lib.hid he; clear he
  have HhWB := Lib.hid hWB; clear hWB
  have Hx0 := Lib.hid x0; clear x0
  have Hx1 := Lib.hid x1; clear x1
  clear h1 h2 h3
  have hA0 : Below W.drew.heap.size W.drew (W.alloc (.cells #[.slice none 0 0, .slice none 0 0] 32)).drew := by
    have h := ((Below.refl W.heap.size W).alloc (Nat.le_refl _) (.cells #[.slice none 0 0, .slice none 0 0] 32)).drew
    exact ⟨h.os, h.tape, h.output, h.size, h.block⟩
  have HF1 := Lib.hid (nfaFirst_any n v1 v2 v3 (W.alloc (.cells #[.slice none 0 0, .slice none 0 0] 32)).drew Hhm.out hml Hhs.out hsl (H1.out.below hA0) (H2.out.below hA0))
  have HF2 := Lib.hid (fun (u : World) (h : Below (W.alloc (.cells #[.slice none 0 0, .slice none 0 0] 32)).drew.heap.size (W.alloc (.cells #[.slice none 0 0, .slice none 0 0] 32)).drew u) => (show Below W.drew.heap.size W.drew u ∧ Bx u W.heap.size #[.slice none 0 0, .slice none 0 0] 32 from ⟨hA0.trans (h.mono hA0.size), (Bx.new W #[.slice none 0 0, .slice none 0 0] 32).drew.below h (by simp [World.drew])⟩))
  have HhA0 := Lib.hid hA0; clear hA0
  go_enter Try.func57, Try.ntmps57
  obtain ⟨L, hL⟩ : ∃ L, L = (metS n K).length := ⟨_, rfl⟩
  obtain ⟨D, hD⟩ : ∃ D, D = numDfa (nxS n) (enS n) (metS n K) := ⟨_, rfl⟩
  have hw0 : w.heap.size ≤ W.drew.heap.size := HhWB.out.size
  have hKK := hK
  have HhKK := Lib.hid hKK; clear hKK
  clear hK
  have HhL := Lib.hid hL; clear hL
  have HhD := Lib.hid hD; clear hD
  by_cases hle : L ≤ K
  · go_wp2_with fail
    rw [← Hx0W.out]
    go_region_held3 (fun w' => w'.cell? ⟨w.heap.size, 0, none⟩ = some (.int .i64 n.states) ∧ w'.cell? ⟨w.heap.size, 1, none⟩ = some v1 ∧ w'.cell? ⟨w.heap.size, 2, none⟩ = some v2 ∧ w'.cell? ⟨w.heap.size, 3, none⟩ = some v3)
      (first | go_keep | exact Hk.out _ hq0 | exact Hk.out _ hq1 | exact Hk.out _ (hq1.alloc hq1.size _) | exact Hk.out _ (hq0.alloc hq0.size _) | exact Hk.out _ HhA0.out | exact Hk.out _ ((hq1.setCell hq0.size _).setCell hq0.size _) | exact Hk.out _ ((hq1.setCell (Nat.le_refl _) _).setCell (Nat.le_refl _) _))
      (first
        | (go_at_call 82; (with_reducible refine (nfaFirst_any n _ _ _ _ Hhm.out hml Hhs.out hsl H1.out H2.out).mono ?_); rintro e u0 ⟨rfl, hq0⟩)
        | (go_at_call 81; (with_reducible refine (explK_any n K HhKK.out v1 v2 v3 _ Hhm.out hml Hhs.out Hhe.out (H1.out.below hq0) (H3.out.below hq0)).mono ?_); rintro e u1 ⟨hr, hb1⟩; have hq1 := hq0.trans (hb1.mono hq0.size); have yB := yA.below hb1 yA.lt; obtain ⟨g0, g1, i0, i1⟩ := box2 yB; unfold RExpS at hr; rw [← HhL.out, ← HhD.out, if_pos hle] at hr; obtain ⟨an, cn, ae, ce, am, cm, rfl, hd, -⟩ := hr; have hdm := DMem.of hd (Nat.le_trans hw0 hq0.size))
        | (go_at_call 81; (with_reducible refine (explK_any n K HhKK.out v1 v2 v3 _ Hhm.out hml Hhs.out Hhe.out (H1.out.below hq0) (H3.out.below hq0)).mono ?_); rintro e u1 ⟨hr, hb1⟩; have hq1 := hq0.trans (hb1.mono hq0.size); unfold RExpS at hr; rw [← HhL.out, ← HhD.out, if_pos hle] at hr; obtain ⟨an, cn, ae, ce, am, cm, rfl, hd, -⟩ := hr; have hdm := DMem.of hd (Nat.le_trans hw0 hq0.size))
        | (go_at_call 81; (with_reducible refine (explK_any n K HhKK.out v1 v2 v3 _ Hhm.out hml Hhs.out Hhe.out (H1.out.below (hq0.alloc hq0.size _)) (H3.out.below (hq0.alloc hq0.size _))).mono ?_); rintro e u1 ⟨hr, hb1⟩; have hqA := hq0.alloc hq0.size (.cells #[.slice none 0 0, .slice none 0 0] 32); have hq1 := hqA.trans (hb1.mono hqA.size); have yB := (Bx.new u0 #[.slice none 0 0, .slice none 0 0] 32).below hb1 (by simp); obtain ⟨g0, g1, i0, i1⟩ := box2 yB; unfold RExpS at hr; rw [← HhL.out, ← HhD.out, if_pos hle] at hr; obtain ⟨an, cn, ae, ce, am, cm, rfl, hd, -⟩ := hr; have hdm := DMem.of hd (Nat.le_trans hw0 hqA.size))
        | (go_at_call 82; (with_reducible refine HF1.out.mono ?_); rintro e u0 ⟨rfl, hb0⟩; obtain ⟨hq0, yA⟩ := HF2.out u0 hb0))
    all_goals
      have hbw : Below w.heap.size w u1 := HhWB.out.drew.trans (hq1.mono HhWB.out.drew.size)
      have xr := Hx1.out.drew.below hq1 Hx1.out.lt
      have hs0 : w.heap.size + 1 < u0.heap.size := Nat.lt_of_lt_of_le hz0 hq0.size
      have hs1 : w.heap.size + 1 < u1.heap.size := Nat.lt_of_lt_of_le hz0 hq1.size
      first
        | (have hUm := (hdm.set yB 0 (.slice an L cn)).set (yB.set 0 _) 1 (.slice ae L ce); have hUx : Bx ((u1.setCell ⟨u0.heap.size, 0, none⟩ (.slice an L cn)).setCell ⟨u0.heap.size, 1, none⟩ (.slice ae L ce)) u0.heap.size #[.slice an L cn, .slice ae L ce] 32 := (by simpa using (yB.set 0 (.slice an L cn)).set 1 (.slice ae L ce)); have hUr : Bx ((u1.setCell ⟨u0.heap.size, 0, none⟩ (.slice an L cn)).setCell ⟨u0.heap.size, 1, none⟩ (.slice ae L ce)) (w.heap.size + 1) #[.slice none 0 0, .slice none 0 0] 32 := (xr.set_ne _ _ (by simp; omega)).set_ne _ _ (by simp; omega); have hUb : Below w.heap.size w ((u1.setCell ⟨u0.heap.size, 0, none⟩ (.slice an L cn)).setCell ⟨u0.heap.size, 1, none⟩ (.slice ae L ce)) := (hbw.setCell (by simp; omega) _).setCell (by simp; omega) _; generalize hU : (u1.setCell ⟨u0.heap.size, 0, none⟩ (.slice an L cn)).setCell ⟨u0.heap.size, 1, none⟩ (.slice ae L ce) = U at hUm hUx hUr hUb ⊢)
        | (have hUm := (hdm.set yB 0 (.slice an L cn)).set (yB.set 0 _) 1 (.slice ae L ce); have hUx : Bx ((u1.setCell ⟨W.heap.size, 0, none⟩ (.slice an L cn)).setCell ⟨W.heap.size, 1, none⟩ (.slice ae L ce)) W.heap.size #[.slice an L cn, .slice ae L ce] 32 := (by simpa using (yB.set 0 (.slice an L cn)).set 1 (.slice ae L ce)); have hUr : Bx ((u1.setCell ⟨W.heap.size, 0, none⟩ (.slice an L cn)).setCell ⟨W.heap.size, 1, none⟩ (.slice ae L ce)) (w.heap.size + 1) #[.slice none 0 0, .slice none 0 0] 32 := (xr.set_ne _ _ (by simp; omega)).set_ne _ _ (by simp; omega); have hUb : Below w.heap.size w ((u1.setCell ⟨W.heap.size, 0, none⟩ (.slice an L cn)).setCell ⟨W.heap.size, 1, none⟩ (.slice ae L ce)) := (hbw.setCell (by simp; omega) _).setCell (by simp; omega) _; generalize hU : (u1.setCell ⟨W.heap.size, 0, none⟩ (.slice an L cn)).setCell ⟨W.heap.size, 1, none⟩ (.slice ae L ce) = U at hUm hUx hUr hUb ⊢)
        | (have hUm := hdm.alloc (.cells #[.slice an L cn, .slice ae L ce] 32); have hUx := Bx.new u1 #[.slice an L cn, .slice ae L ce] 32; have hUr := xr.alloc (.cells #[.slice an L cn, .slice ae L ce] 32); have hUb := hbw.alloc hbw.size (.cells #[.slice an L cn, .slice ae L ce] 32); generalize hU : u1.alloc (.cells #[.slice an L cn, .slice ae L ce] 32) = U at hUm hUx hUr hUb ⊢)
      have r0 := hUx.cell 0
      have r1 := hUx.cell 1
      have z0 := hUr.cell 0
      have z1 := hUr.cell 1
      have f0 := hUr.fr 0
      have f1 := hUr.fr 1
      simp only [List.getElem?_toArray, List.getElem?_cons_zero, List.getElem?_cons_succ] at r0 r1 z0 z1
      have HhUm := Lib.hid hUm; clear hUm
      have HhUx := Lib.hid hUx; clear hUx
      have HhUr := Lib.hid hUr; clear hUr
      have HhUb := Lib.hid hUb; clear hUb
      have Hhdm := Lib.hid hdm; clear hdm
      have Hxr := Lib.hid xr; clear xr
      clear hd
      go_wp2
      have q := (HhUr.out.set 0 (.slice an L cn)).set 1 (.slice ae L ce)
      have q0 := q.cell 0
      have q1 := q.cell 1
      simp only [List.getElem?_toArray, List.getElem?_cons_zero, List.getElem?_cons_succ, List.setIfInBounds_toArray, List.set_cons_zero, List.set_cons_succ] at q0 q1
      refine bodyPost_ret (v := .tuple #[.agg #[.slice an L cn, .slice ae L ce], .int .i64 L]) (by simp [results, Try.results57, go_sem, q0, q1]) rfl ⟨?_, ?_⟩
      · unfold RDet
        rw [← HhL.out, ← HhD.out, if_pos hle]
        have hm := (HhUm.out.set HhUr.out 0 (.slice an L cn)).set (HhUr.out.set 0 _) 1 (.slice ae L ce)
        exact ⟨_, _, _, _, rfl, _, _, rfl, hm.1, hm.2⟩
      · exact (HhUb.out.setCell (by simp) _).setCell (by simp) _
  · go_wp2_with fail
    rw [← Hx0W.out]
    go_region_held3 (fun w' => w'.cell? ⟨w.heap.size, 0, none⟩ = some (.int .i64 n.states) ∧ w'.cell? ⟨w.heap.size, 1, none⟩ = some v1 ∧ w'.cell? ⟨w.heap.size, 2, none⟩ = some v2 ∧ w'.cell? ⟨w.heap.size, 3, none⟩ = some v3)
      (first | go_keep | exact Hk.out _ hq0 | exact Hk.out _ hq1 | exact Hk.out _ (hq1.alloc hq1.size _) | exact Hk.out _ (hq0.alloc hq0.size _) | exact Hk.out _ HhA0.out | exact Hk.out _ ((hq1.setCell hq0.size _).setCell hq0.size _) | exact Hk.out _ ((hq1.setCell (Nat.le_refl _) _).setCell (Nat.le_refl _) _))
      (first
        | (go_at_call 82; (with_reducible refine (nfaFirst_any n _ _ _ _ Hhm.out hml Hhs.out hsl H1.out H2.out).mono ?_); rintro e u0 ⟨rfl, hq0⟩)
        | (go_at_call 81; (with_reducible refine (explK_any n K HhKK.out v1 v2 v3 _ Hhm.out hml Hhs.out Hhe.out (H1.out.below hq0) (H3.out.below hq0)).mono ?_); rintro e u1 ⟨hr, hb1⟩; have hq1 := hq0.trans (hb1.mono hq0.size); have yB := yA.below hb1 yA.lt; obtain ⟨g0, g1, i0, i1⟩ := box2 yB; unfold RExpS at hr; rw [← HhL.out, ← HhD.out, if_neg hle] at hr; subst hr)
        | (go_at_call 81; (with_reducible refine (explK_any n K HhKK.out v1 v2 v3 _ Hhm.out hml Hhs.out Hhe.out (H1.out.below hq0) (H3.out.below hq0)).mono ?_); rintro e u1 ⟨hr, hb1⟩; have hq1 := hq0.trans (hb1.mono hq0.size); unfold RExpS at hr; rw [← HhL.out, ← HhD.out, if_neg hle] at hr; subst hr)
        | (go_at_call 81; (with_reducible refine (explK_any n K HhKK.out v1 v2 v3 _ Hhm.out hml Hhs.out Hhe.out (H1.out.below (hq0.alloc hq0.size _)) (H3.out.below (hq0.alloc hq0.size _))).mono ?_); rintro e u1 ⟨hr, hb1⟩; have hqA := hq0.alloc hq0.size (.cells #[.slice none 0 0, .slice none 0 0] 32); have hq1 := hqA.trans (hb1.mono hqA.size); have yB := (Bx.new u0 #[.slice none 0 0, .slice none 0 0] 32).below hb1 (by simp); obtain ⟨g0, g1, i0, i1⟩ := box2 yB; unfold RExpS at hr; rw [← HhL.out, ← HhD.out, if_neg hle] at hr; subst hr)
        | (go_at_call 82; (with_reducible refine HF1.out.mono ?_); rintro e u0 ⟨rfl, hb0⟩; obtain ⟨hq0, yA⟩ := HF2.out u0 hb0))
    all_goals
      have hbw : Below w.heap.size w u1 := HhWB.out.drew.trans (hq1.mono HhWB.out.drew.size)
      have xr := Hx1.out.drew.below hq1 Hx1.out.lt
      have hs0 : w.heap.size + 1 < u0.heap.size := Nat.lt_of_lt_of_le hz0 hq0.size
      have hs1 : w.heap.size + 1 < u1.heap.size := Nat.lt_of_lt_of_le hz0 hq1.size
      first
        | (have hUx : Bx ((u1.setCell ⟨u0.heap.size, 0, none⟩ (.slice none 0 0)).setCell ⟨u0.heap.size, 1, none⟩ (.slice none 0 0)) u0.heap.size #[.slice none 0 0, .slice none 0 0] 32 := (by simpa using (yB.set 0 (.slice none 0 0)).set 1 (.slice none 0 0)); have hUr : Bx ((u1.setCell ⟨u0.heap.size, 0, none⟩ (.slice none 0 0)).setCell ⟨u0.heap.size, 1, none⟩ (.slice none 0 0)) (w.heap.size + 1) #[.slice none 0 0, .slice none 0 0] 32 := (xr.set_ne _ _ (by simp; omega)).set_ne _ _ (by simp; omega); have hUb : Below w.heap.size w ((u1.setCell ⟨u0.heap.size, 0, none⟩ (.slice none 0 0)).setCell ⟨u0.heap.size, 1, none⟩ (.slice none 0 0)) := (hbw.setCell (by simp; omega) _).setCell (by simp; omega) _; generalize hU : (u1.setCell ⟨u0.heap.size, 0, none⟩ (.slice none 0 0)).setCell ⟨u0.heap.size, 1, none⟩ (.slice none 0 0) = U at hUx hUr hUb ⊢)
        | (have hUx : Bx ((u1.setCell ⟨W.heap.size, 0, none⟩ (.slice none 0 0)).setCell ⟨W.heap.size, 1, none⟩ (.slice none 0 0)) W.heap.size #[.slice none 0 0, .slice none 0 0] 32 := (by simpa using (yB.set 0 (.slice none 0 0)).set 1 (.slice none 0 0)); have hUr : Bx ((u1.setCell ⟨W.heap.size, 0, none⟩ (.slice none 0 0)).setCell ⟨W.heap.size, 1, none⟩ (.slice none 0 0)) (w.heap.size + 1) #[.slice none 0 0, .slice none 0 0] 32 := (xr.set_ne _ _ (by simp; omega)).set_ne _ _ (by simp; omega); have hUb : Below w.heap.size w ((u1.setCell ⟨W.heap.size, 0, none⟩ (.slice none 0 0)).setCell ⟨W.heap.size, 1, none⟩ (.slice none 0 0)) := (hbw.setCell (by simp; omega) _).setCell (by simp; omega) _; generalize hU : (u1.setCell ⟨W.heap.size, 0, none⟩ (.slice none 0 0)).setCell ⟨W.heap.size, 1, none⟩ (.slice none 0 0) = U at hUx hUr hUb ⊢)
        | (have hUx := Bx.new u1 #[.slice none 0 0, .slice none 0 0] 32; have hUr := xr.alloc (.cells #[.slice none 0 0, .slice none 0 0] 32); have hUb := hbw.alloc hbw.size (.cells #[.slice none 0 0, .slice none 0 0] 32); generalize hU : u1.alloc (.cells #[.slice none 0 0, .slice none 0 0] 32) = U at hUx hUr hUb ⊢)
      have r0 := hUx.cell 0
      have r1 := hUx.cell 1
      have z0 := hUr.cell 0
      have z1 := hUr.cell 1
      have f0 := hUr.fr 0
      have f1 := hUr.fr 1
      simp only [List.getElem?_toArray, List.getElem?_cons_zero, List.getElem?_cons_succ] at r0 r1 z0 z1
      have HhUx := Lib.hid hUx; clear hUx
      have HhUr := Lib.hid hUr; clear hUr
      have HhUb := Lib.hid hUb; clear hUb
      have Hxr := Lib.hid xr; clear xr
      go_wp2
      have q := (HhUr.out.set 0 (.slice none 0 0)).set 1 (.slice none 0 0)
      have q0 := q.cell 0
      have q1 := q.cell 1
      simp only [List.getElem?_toArray, List.getElem?_cons_zero, List.getElem?_cons_succ, List.setIfInBounds_toArray, List.set_cons_zero, List.set_cons_succ] at q0 q1
      refine bodyPost_ret (v := .tuple #[.agg #[.slice none 0 0, .slice none 0 0], .int .i64 41]) (by simp [results, Try.results57, go_sem, q0, q1]) rfl ⟨?_, ?_⟩
      · unfold RDet
        rw [← HhL.out, if_neg hle]
      · exact (HhUb.out.setCell (by simp) _).setCell (by simp) _
end Go.Proofs.Ytclhcfmlkfiidaa
