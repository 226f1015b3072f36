/-
  The walks over the program's learner where it changes: close, refine.
  Conditions: the language is a valid automaton; the words of the table have letters below three; a start is no longer than its place in the list.
-/
import Derived.Test.YtalbofnhcpjilaaPk25Jg
import Derived.Test.YtalbofnhcpjilaaPk26Ry
import Derived.Test.YtalbofnhcpjilaaPk31Tk
import Derived.Test.YtalbofnhcpjilaaPk33Dvi
namespace Go.Proofs.Ytalbofnhcpjilaa
open Go.RowKit
theorem LOk.part {β : Type} [DecidableEq β] {key : List Nat → β} {s : List (List Nat)} (h : LOk s) {k : Nat} (hk : k < (Go.Proofs.Ytalbofnhcpjilaa.kat key s k).length) {n : Nat} (hn : n ≤ 3) : LOk (kpart key s k n) := ((LOk.kat h k).row hk n hn).1
/-! The guesses in memory. -/
theorem GMem.snoc {X : Ent} {vals : List (Value × Value)} {gs : List DfaD} (h : GMem X vals gs) {g : DfaD} {a1 a2 : Option Addr} {c1 c2 : Nat} {vs : List Value} :
    GMem (Ent.all [X, Ent.rows 48 3 (.slice a1 g.next.length c1) vs (g.next.map intCells), Ent.row 4 1 (.slice a2 g.next.length c2) g.next.length (boolCells g.ends)]) (vals ++ [(.slice a1 g.next.length c1, .slice a2 g.next.length c2)]) (gs ++ [g]) := by
  refine ⟨by simp [h.1], fun i hi => ?_⟩
  simp only [List.length_append, List.length_singleton] at hi
  by_cases hin : i < gs.length
  · obtain ⟨p1, q1, p2, q2, us, e, s1, s2⟩ := h.2 i hin
    have e1 : (gs ++ [g]).getD i ⟨[], []⟩ = gs.getD i ⟨[], []⟩ := by simp only [List.getD_eq_getElem?_getD]; rw [List.getElem?_append_left hin]
    have e2 : (vals ++ [((Value.slice a1 g.next.length c1), (Value.slice a2 g.next.length c2))]).getD i (undef, undef) = vals.getD i (undef, undef) := by simp only [List.getD_eq_getElem?_getD]; rw [List.getElem?_append_left (by rw [h.1]; exact hin)]
    rw [e1, e2]
    exact ⟨p1, q1, p2, q2, us, e, ⟨fun w hw => s1.1 w (hw X (by simp)), fun k hk => ⟨X, by simp, s1.2 k hk⟩⟩, ⟨fun w hw => s2.1 w (hw X (by simp)), fun k hk => ⟨X, by simp, s2.2 k hk⟩⟩⟩
  · obtain rfl : i = gs.length := by omega
    have e1 : (gs ++ [g]).getD gs.length ⟨[], []⟩ = g := by simp
    have e2 : (vals ++ [((Value.slice a1 g.next.length c1), (Value.slice a2 g.next.length c2))]).getD gs.length (undef, undef) = ((Value.slice a1 g.next.length c1), (Value.slice a2 g.next.length c2)) := by rw [← h.1]; simp
    rw [e1, e2]
    exact ⟨a1, c1, a2, c2, vs, rfl, ⟨fun w hw => hw _ (by simp), fun k hk => ⟨_, by simp, hk⟩⟩, ⟨fun w hw => hw _ (by simp), fun k hk => ⟨_, by simp, hk⟩⟩⟩
def cntP : Nat → (List Nat → Bool) → Nat
  | 0, p => if p [] = true then 1 else 0
  | n + 1, p => cntP n (fun w => p (0 :: w)) + cntP n (fun w => p (1 :: w)) + cntP n (fun w => p (2 :: w))
theorem cntP_le : ∀ (n : Nat) (p : List Nat → Bool), cntP n p ≤ 3 ^ n
  | 0, p => by
    show (if p [] = true then 1 else 0) ≤ 1
    split <;> omega
  | n + 1, p => by
    have h0 := cntP_le n (fun w => p (0 :: w))
    have h1 := cntP_le n (fun w => p (1 :: w))
    have h2 := cntP_le n (fun w => p (2 :: w))
    show cntP n (fun w => p (0 :: w)) + cntP n (fun w => p (1 :: w)) + cntP n (fun w => p (2 :: w)) ≤ _
    rw [Nat.pow_succ]
    omega
theorem cntP_congr : ∀ (n : Nat) {p q : List Nat → Bool}, (∀ w, isW w → w.length = n → p w = q w) → cntP n p = cntP n q
  | 0, p, q, h => by
    show (if p [] = true then 1 else 0) = (if q [] = true then 1 else 0)
    rw [h [] (fun c hc => by cases hc) rfl]
  | n + 1, p, q, h => by
    have hc : ∀ a, a < 3 → cntP n (fun w => p (a :: w)) = cntP n (fun w => q (a :: w)) := fun a ha => cntP_congr n fun w hw hl => h (a :: w) (fun c hc => by
      rcases List.mem_cons.1 hc with rfl | hc
      · exact ha
      · exact hw c hc) (by rw [List.length_cons, hl])
    show cntP n (fun w => p (0 :: w)) + cntP n (fun w => p (1 :: w)) + cntP n (fun w => p (2 :: w)) = cntP n (fun w => q (0 :: w)) + cntP n (fun w => q (1 :: w)) + cntP n (fun w => q (2 :: w))
    rw [hc 0 (by omega), hc 1 (by omega), hc 2 (by omega)]
theorem cntP_snoc : ∀ (n : Nat) (p : List Nat → Bool), cntP (n + 1) p = cntP n (fun w => p (w ++ [0])) + cntP n (fun w => p (w ++ [1])) + cntP n (fun w => p (w ++ [2]))
  | 0, _ => rfl
  | n + 1, p => by
    show cntP (n + 1) (fun w => p (0 :: w)) + cntP (n + 1) (fun w => p (1 :: w)) + cntP (n + 1) (fun w => p (2 :: w)) = _
    rw [cntP_snoc n, cntP_snoc n, cntP_snoc n]
    show _ = (cntP n (fun w => p (0 :: w ++ [0])) + cntP n (fun w => p (1 :: w ++ [0])) + cntP n (fun w => p (2 :: w ++ [0]))) + (cntP n (fun w => p (0 :: w ++ [1])) + cntP n (fun w => p (1 :: w ++ [1])) + cntP n (fun w => p (2 :: w ++ [1]))) + (cntP n (fun w => p (0 :: w ++ [2])) + cntP n (fun w => p (1 :: w ++ [2])) + cntP n (fun w => p (2 :: w ++ [2])))
    simp only [List.cons_append]
    omega
theorem cntP_rev : ∀ (n : Nat) (p : List Nat → Bool), cntP n (fun w => p w.reverse) = cntP n p
  | 0, _ => rfl
  | n + 1, p => by
    rw [cntP_snoc n p]
    show cntP n (fun w => p (0 :: w).reverse) + cntP n (fun w => p (1 :: w).reverse) + cntP n (fun w => p (2 :: w).reverse) = _
    simp only [List.reverse_cons]
    rw [cntP_rev n (fun w => p (w ++ [0])), cntP_rev n (fun w => p (w ++ [1])), cntP_rev n (fun w => p (w ++ [2]))]
def cntD (d : DfaD) (n : Nat) (s : Int) : Nat := cntP n fun w => den d (runD d s w)
theorem cntD_zero (d : DfaD) (s : Int) : cntD d 0 s = if den d s = true then 1 else 0 := rfl
theorem cntD_succ (d : DfaD) (n : Nat) (s : Int) : cntD d (n + 1) s = cntD d n (dnx d s 0) + cntD d n (dnx d s 1) + cntD d n (dnx d s 2) := rfl
theorem cntD_le (d : DfaD) (n : Nat) (s : Int) : cntD d n s ≤ 3 ^ n := cntP_le n _
theorem cntD_small {d : DfaD} {n : Nat} {s : Int} (h : n ≤ 30) : cntD d n s ≤ 205891132094649 := Nat.le_trans (cntD_le d n s) (Nat.le_trans (Nat.pow_le_pow_right (by omega) h) (by decide))
theorem cnt_turn {d y : DfaD} (hd : dfaOk d.next d.ends = true) {K : Nat} (h : tdK K d = some y) (n : Nat) : cntD y n 0 = cntD d n 0 := by
  have h1 : cntP n (fun w => den y (runD y 0 w)) = cntP n (fun w => (fun v => den d (runD d 0 v)) w.reverse) := cntP_congr n fun w hw _ => td_acc hd h hw
  exact h1.trans (cntP_rev n fun v => den d (runD d 0 v))
variable {P : Program}
theorem St.setAll {w0 w : World} {L : List Ent} (h : St w0 w L) (i : Nat) {b : Nat} {cs : Array Value} {T : TypeId} (hx : L[i]? = some (Ent.box b cs T)) (cs' : Array Value) : St w0 (w.setRow b cs') (L.set i (Ent.box b cs' T)) := by
  have hb : Bx w b cs T := (h.has i _ hx).1
  have hb' : Bx (w.setRow b cs') b cs' T := setRow_heap w b cs cs' T (0, 0) hb
  exact h.turn i hx _ rfl rfl rfl (by simp [World.setRow]) (fun k _ hk => setRow_other w b k cs' hk) hb' fun k hk => by
    have hk : k = b := hk
    subst hk
    exact ⟨hb'.lt, Or.inl rfl⟩
theorem wpList_loadAll {ops : Array Oper} {rest : List Oper} {op : Oper} {a : Act} {w : World} {Q : Exit → Act → World → Prop} (hgd : op.guard = none) (ty : TypeId) (x : Operand) (ho : op.op = .load ty x) (b : Nat) (hx : a.eval x = .pointer (some ⟨b, 0, none⟩)) (T : TypeId) (cs : Array Value) (d : TypeDesc) (hb : Bx w b cs T)
    (hu : P.underlying ty = some d) (hd : d.isRow = true) (hi : (P.info? ty).map (·.size) = some cs.size) (h : wpList P ops Q rest (a.put op.dst (.agg cs)) w) : wpList P ops Q (op :: rest) a w := by
  have hc : w.rangeAt b 0 cs.toList := fun j v hv => by
    rw [Nat.zero_add, hb.cell j]
    simpa using hv
  exact wpList_load_mid hgd ty x ho b 0 hx cs.toList d hc hu hd (by simpa using hi) (by simpa using h)
theorem wpList_storeAll {ops : Array Oper} {rest : List Oper} {op : Oper} {a : Act} {w : World} {Q : Exit → Act → World → Prop} (hgd : op.guard = none) (ty : TypeId) (x y : Operand) (ho : op.op = .store ty x y) (b : Nat) (T : TypeId) (cs cs' : Array Value) (hx : a.eval x = .pointer (some ⟨b, 0, none⟩)) (hy : a.eval y = .agg cs')
    (hb : Bx w b cs T) (hi : (P.info? ty).map (·.size) = some cs'.size) (hl : cs.size = cs'.size) (h1 : ∀ v ∈ cs'.toList, v.oneCell' = true) (h : wpList P ops Q rest (a.put op.dst undef) (w.setRow b cs')) : wpList P ops Q (op :: rest) a w :=
  wpList_plain hgd fun K hK => by
    have hr := run_storeVar_row (P := P) w b T ty cs cs' hb hi hl (Array.all_eq_true_iff_forall_mem.2 fun v hv => h1 v (by simpa using hv))
    unfold Oper.wp execOp
    simp only [ho, hx, hy, Instr.storeAt, Instr.sureAddr, Sem.run_bind, Sem.run_pure, Result.andThen_ok, hr]
    exact hK _ _ h
theorem results_cell1 {fn : Func} {p : Tmp} {ty : TypeId} (h : fn.results = #[.cell p ty]) (tmps : Array Value) (P : Program) (w : World) :
    (results fn tmps).run P w = ((asAddr (tmps.getD p undef)).run P w).andThen fun a w₁ => (loadVar ty a).run P w₁ := by
  simp only [results, h]
  simp [Sem.run_bind, Result.andThen]
theorem results_cellAll {fn : Func} {p : Tmp} {ty : TypeId} (h : fn.results = #[.cell p ty]) (tmps : Array Value) (P : Program) (w : World) (b : Nat) (T : TypeId) (cs : Array Value) (d : TypeDesc) (hp : tmps.getD p undef = .pointer (some ⟨b, 0, none⟩)) (hb : Bx w b cs T) (hu : P.underlying ty = some d) (hd : d.isRow = true) (hi : (P.info? ty).map (·.size) = some cs.size) :
    (results fn tmps).run P w = .ok (.agg cs) w := by
  rw [results_cell1 h, hp]
  have hl : (loadVar ty ⟨b, 0, none⟩).run P w = .ok (.agg cs) w := run_loadVar_row w b T ty cs (0, 0) d hb hu (by cases d <;> simp_all [TypeDesc.isRow]) hi
  simp [asAddr, Result.andThen, hl]
def Ent.inn (X y : Ent) : Prop := (∀ w, X.holds w → y.holds w) ∧ ∀ k, y.foot k → X.foot k
theorem Ent.inn_refl (X : Ent) : X.inn X := ⟨fun _ h => h, fun _ h => h⟩
theorem Ent.inn_all {R : List Ent} {x y : Ent} (hx : x ∈ R) (h : x.inn y) : (Ent.all R).inn y := ⟨fun w hw => h.1 w (hw x hx), fun k hk => ⟨x, hx, h.2 k hk⟩⟩
theorem St.innSt {w0 w : World} {L : List Ent} {X y : Ent} (h : St w0 w L) (i : Nat) (hx : L[i]? = some X) (hin : X.inn y) : St w0 w (L.set i y) := h.same i hx y (hin.1 w) hin.2
theorem St.innRcell {w0 w : World} {L : List Ent} {X : Ent} (h : St w0 w L) (i j : Nat) (hx : L[i]? = some X) {e size g n cap : Nat} {cs : List Value} {v : Value} (hin : X.inn (Ent.row e size (.slice (some ⟨g, 0, none⟩) n cap) n cs)) (hj : j < n * size) (hv : cs[j]? = some v) : w.cell? ⟨g, j, none⟩ = some v := by
  have hl : i < L.length := (List.getElem?_eq_some_iff.1 hx).1
  exact (h.innSt i hx hin).rcell i j (List.getElem?_set_self hl) hj hv
def cwN (d : DfaD) (l s : Nat) : Nat := cntD d l (s : Int)
def psN (d : DfaD) (l s : Nat) : Nat → Nat
  | 0 => 0
  | c + 1 => psN d l s c + cwN d l (nxD d s c)
theorem cwN_le {d : DfaD} {l s : Nat} (h : l ≤ 30) : cwN d l s ≤ 205891132094649 := cntD_small h
theorem psN_le {d : DfaD} {l s : Nat} (h : l ≤ 30) : ∀ c, psN d l s c ≤ c * 205891132094649
  | 0 => by simp [psN]
  | c + 1 => by
    have := psN_le (d := d) (s := s) h c
    have := cwN_le (d := d) (s := nxD d s c) h
    show psN d l s c + cwN d l (nxD d s c) ≤ _
    omega
theorem cwN_zero (d : DfaD) (s : Nat) : cwN d 0 s = if enD d s = true then 1 else 0 := by
  show cntD d 0 (s : Int) = _
  rw [cntD_zero, den_nat]
theorem cwN_succ {d : DfaD} {l s : Nat} (h : ∀ c, c < 3 → dnx d (s : Int) c = (nxD d s c : Nat)) : cwN d (l + 1) s = psN d l s 3 := by
  show cntD d (l + 1) (s : Int) = 0 + cwN d l (nxD d s 0) + cwN d l (nxD d s 1) + cwN d l (nxD d s 2)
  rw [cntD_succ, h 0 (by omega), h 1 (by omega), h 2 (by omega), Nat.zero_add]
  rfl
def arrC (vs : List Value) : Array Value := (vs ++ List.replicate (31 - vs.length) (Value.slice none 0 0)).toArray
theorem arrC_at {vs : List Value} {l : Nat} (h : l < vs.length) : (arrC vs)[l]? = some (vs.getD l undef) := by
  unfold arrC
  rw [List.getElem?_toArray, List.getElem?_append_left h]
  simp [h]
theorem arrC_nil {vs : List Value} (h : vs.length < 31) : (arrC vs)[vs.length]? = some (.slice none 0 0) := by
  unfold arrC
  rw [List.getElem?_toArray, List.getElem?_append_right (Nat.le_refl _), Nat.sub_self, List.getElem?_replicate, if_pos (by omega)]
theorem arrC_set {vs : List Value} (h : vs.length < 31) (v : Value) : (arrC vs).setIfInBounds vs.length v = arrC (vs ++ [v]) := by
  unfold arrC
  rw [List.setIfInBounds_toArray, List.set_append_right _ _ (Nat.le_refl _), Nat.sub_self, show 31 - vs.length = (31 - (vs ++ [v]).length) + 1 by rw [List.length_append, List.length_singleton]; omega, List.replicate_succ, List.set_cons_zero, List.append_assoc]
  rfl
theorem arrC_end {vs : List Value} (h : vs.length = 31) : arrC vs = vs.toArray := by
  unfold arrC
  rw [h]
  simp
def CMem (d : DfaD) (X : Ent) (vs : List Value) (k : Nat) : Prop := vs.length = k ∧ ∀ l, l < k → ∃ b, vs.getD l undef = .slice (some ⟨b, 0, none⟩) d.next.length d.next.length ∧
  X.inn (Ent.row 3 1 (.slice (some ⟨b, 0, none⟩) d.next.length d.next.length) d.next.length (intCells (clsL d.next.length (cwN d l))))
theorem CMem.snoc {d : DfaD} {X : Ent} {vs : List Value} {k b : Nat} (h : CMem d X vs k) : CMem d (Ent.all [X, Ent.row 3 1 (.slice (some ⟨b, 0, none⟩) d.next.length d.next.length) d.next.length (intCells (clsL d.next.length (cwN d k)))]) (vs ++ [.slice (some ⟨b, 0, none⟩) d.next.length d.next.length]) (k + 1) := by
  obtain ⟨hl, hc⟩ := h
  subst hl
  refine ⟨by simp, fun l hlt => ?_⟩
  by_cases hin : l < vs.length
  · obtain ⟨b', e, hi⟩ := hc l hin
    refine ⟨b', ?_, Ent.inn_all (x := X) (by simp) hi⟩
    rw [← e]
    simp only [List.getD_eq_getElem?_getD]
    rw [List.getElem?_append_left hin]
  · obtain rfl : l = vs.length := by omega
    exact ⟨b, by simp, Ent.inn_all (x := Ent.row _ _ _ _ _) (by simp) (Ent.inn_refl _)⟩
theorem CMem.one {d : DfaD} {X : Ent} {vs : List Value} {k : Nat} (h : CMem d X vs k) : ∀ v ∈ vs, v.oneCell' = true := fun v hv => by
  obtain ⟨i, hi, rfl⟩ := List.mem_iff_getElem.1 hv
  obtain ⟨b, e, -⟩ := h.2 i (by rw [← h.1]; exact hi)
  have e2 : vs.getD i undef = vs[i] := by simp [hi]
  rw [← e2, e]
  rfl
def RCnt (d : DfaD) (w : World) (e : Ending) (w' : World) : Prop := ∃ vs X, e = .returned (.agg vs.toArray) ∧ CMem d X vs 31 ∧ St w w' [X]
set_option maxRecDepth 100000 in
set_option maxHeartbeats 8000000 in
theorem counts_any (d : DfaD) (v : Value) (w : World) (hd : dfaOk d.next d.ends = true) (h : DfaR 0 w v d) :
    Calls Try.prog 87 #[v] w fun e w' => RCnt d w e w' := by
  obtain ⟨b1, o1, cv, b2, o2, cw, rfl, hC⟩ := dfa_open hd h
  obtain ⟨L, hL⟩ : ∃ L, L = d.next.length := ⟨_, rfl⟩
  obtain ⟨i0, hi, hz0, hz1, hz2⟩ := info_parts Try.infoInt
  have hl2 := hC.l2
  have hl1 := hC.l1
  have hc1 := hC.c1
  have hc2 := hC.c2
  rw [← hL] at hl1 hl2 hc1 hc2
  rw [← hL]
  have hS0 := (((St.start w).alloc _ rfl #[.slice (some ⟨b1, o1, none⟩) L cv, .slice (some ⟨b2, o2, none⟩) L cw] 27).alloc (w.heap.size + 1) (by simp) (arrC []) 97).alloc (w.heap.size + 1 + 1) (by simp) (arrC []) 97
  have HS0 := Lib.hid ((hS0.add (Below.refl _ _) Ent.nil trivial (fun k hk => hk.elim)).pick [0, 2, 3, 1] (by decide))
  have HC := Lib.hid hC
  have Hhd := Lib.hid hd; clear hd
  have HhL := Lib.hid hL; clear hL
  have Hhi := Lib.hid hi; clear hi
  have Hhz0 := Lib.hid hz0; clear hz0
  have Hhz1 := Lib.hid hz1; clear hz1
  have Hhz2 := Lib.hid hz2; clear hz2
  clear hS0 h hC
  go_enter Try.func87, Try.ntmps87
  go_wp2
  go_loopw [9] (fun i wr => ∃ (k : Nat) (vs : List Value) (X : Ent), i = .int .i64 (k : Int) ∧ k ≤ 31 ∧ CMem d X vs k ∧ St w wr [Ent.box w.heap.size #[.slice (some ⟨b1, o1, none⟩) L cv, .slice (some ⟨b2, o2, none⟩) L cw] 27, Ent.box (w.heap.size + 1 + 1) (arrC vs) 97, X, Ent.box (w.heap.size + 1) (arrC []) 97]) (fun i _ => 31 - (intOf i).toNat)
  case atStart => exact ⟨0, [], Ent.nil, rfl, Nat.zero_le _, ⟨rfl, fun l hl => absurd hl (by omega)⟩, HS0.out⟩
  case round =>
    obtain ⟨k, vs, X, rfl, hk, hM, hS⟩ := hrel
    have hvl := hM.1
    by_cases hlt : k < 31
    · have hlt2 : (k : Int) < 31 := by omega
      have e0 := hS.cell (v := .slice (some ⟨b1, o1, none⟩) L cv) 0 0 rfl rfl
      have HS1 := Lib.hid hS
      have HM := Lib.hid hM
      clear hS hM
      obtain ⟨wo, hwo⟩ : ∃ wo : World, wo = wr := ⟨_, rfl⟩
      subst hwo
      have hsa := arrC_set (vs := vs) (by omega) (.slice (some ⟨wo.heap.size, 0, none⟩) L L)
      rw [hvl] at hsa
      have hnil := arrC_nil (vs := vs) (by omega)
      rw [hvl] at hnil
      have Hnil := Lib.hid hnil
      have Hsa := Lib.hid hsa
      have Hhvl := Lib.hid hvl; clear hvl
      clear hsa hnil
      go_wp2_with (at_make; go_loud (refine wpList_make_full _ rfl _ _ 48 rfl _ 3 i0 (.int .i64 0) 1 Try.underlying48 Hhi.out Hhz0.out Hhz1.out .i64 .i64 _ _ L rfl rfl rfl rfl (by rw [Hhz2.out]; omega) (by unfold maxLen; omega) (Nat.le_refl _) ?_; intro w1 hown hgrow; have HS2 := Lib.hid (HS1.out.made ((Below.refl _ _).grown hgrow (Nat.le_refl _) (fun _ h => by cases h)) (made_ints (cwN d k) hown)); have k0 := HS2.out.cell (v := .slice none 0 0) 1 k rfl Hnil.out; have f0 := HS2.out.fr 1 k rfl; have hS3 := HS2.out.set 1 rfl k (.slice (some ⟨wo.heap.size, 0, none⟩) L L); rw [Hsa.out] at hS3; have HS3 := Lib.hid (show St w _ [Ent.box w.heap.size #[.slice (some ⟨b1, o1, none⟩) L cv, .slice (some ⟨b2, o2, none⟩) L cw] 27, Ent.box (w.heap.size + 1 + 1) (arrC (vs ++ [.slice (some ⟨wo.heap.size, 0, none⟩) L L])) 97, X, Ent.box (w.heap.size + 1) (arrC []) 97, Ent.row 3 1 (.slice (some ⟨wo.heap.size, 0, none⟩) L L) L (intCells (padL L 0 (cwN d k)))] from hS3); have e1 := HS3.out.cell (v := .slice (some ⟨b1, o1, none⟩) L cv) 0 0 rfl rfl; clear hown hgrow hS3))
      clear e0
      obtain ⟨g, hg⟩ : ∃ g, g = wo.heap.size := ⟨_, rfl⟩
      rw [← hg] at HS3 ⊢
      have Hhg := Lib.hid hg; clear hg
      go_loopw [21] (fun i wr => ∃ s : Nat, i = .int .i64 (s : Int) ∧ s ≤ L ∧ St w wr [Ent.box w.heap.size #[.slice (some ⟨b1, o1, none⟩) L cv, .slice (some ⟨b2, o2, none⟩) L cw] 27, Ent.box (w.heap.size + 1 + 1) (arrC (vs ++ [.slice (some ⟨g, 0, none⟩) L L])) 97, X, Ent.box (w.heap.size + 1) (arrC []) 97, Ent.row 3 1 (.slice (some ⟨g, 0, none⟩) L L) L (intCells (padL L s (cwN d k)))]) (fun i _ => L - (intOf i).toNat)
      case atStart => exact ⟨0, rfl, Nat.zero_le _, HS3.out⟩
      case round =>
        obtain ⟨s, rfl, hs, hS⟩ := hrel
        by_cases hslt : s < L
        · have hslt2 : (s : Int) < L := by omega
          have hsL : s < d.next.length := by rw [← HhL.out]; exact hslt
          obtain ⟨b3, o3, c3, hc31, hc32, k3, k4⟩ := row_len HC.out hS.bel hsL
          have K4 := Lib.hid k4
          clear k4
          obtain ⟨wm, hwm⟩ : ∃ wm : World, wm = wr := ⟨_, rfl⟩
          by_cases hk0 : k = 0
          · have hk1 : ((k : Int) == 0) = true := by simp; omega
            have k5 := (bcell hS.bel b2 (o2 + s) HC.out.hb2).trans (HC.out.en s hsL)
            have e2 := hS.cell (v := .slice (some ⟨b2, o2, none⟩) L cw) 0 1 rfl rfl
            have e4 := hS.cell (v := .slice (some ⟨g, 0, none⟩) L L) 1 0 rfl (by
              rw [arrC_at (by simp)]
              have := Hhvl.out
              have : vs = [] := List.eq_nil_of_length_eq_zero (by omega)
              subst this
              rfl)
            rw [padL_T _ hslt] at hS
            have hz : cwN d k s = if enD d s = true then 1 else 0 := by rw [hk0]; exact cwN_zero d s
            obtain ⟨x, hx⟩ : ∃ x, enD d s = x := ⟨_, rfl⟩
            rw [hx] at k5 hz
            have Hhx := Lib.hid hx; clear hx
            cases x
            · have hend := padT_end (n := L) (s := s) (cwN d k)
              rw [hz, if_neg (by simp)] at hend
              rw [hend] at hS
              have HS := Lib.hid hS
              have Hhz := Lib.hid hz; clear hz
              have Hhk0 := Lib.hid hk0; clear hk0
              clear hS hend
              go_wp2
              go_roundw
              case rel => exact ⟨s + 1, by go_num, by omega, HS.out⟩
              case measure => simp [intOf]; omega
            · have f0 := hS.rfr 4 s rfl
              have k0 := hS.rcell (v := .int .i64 0) 4 s rfl (by omega) (padT_at (n := L) (cwN d k) 0)
              have hS3 := hS.store 4 rfl s (.int .i64 1)
              have hset := padT_set (n := L) (s := s) (cwN d k) 0 1
              have hend := padT_end (n := L) (s := s) (cwN d k)
              rw [hz, if_pos rfl] at hend
              rw [show (.int .i64 1 : Value) = .int .i64 ((1 : Nat) : Int) from rfl] at hS3
              simp only [List.set_cons_succ, List.set_cons_zero] at hS3
              rw [hset, hend] at hS3
              have HS := Lib.hid hS3
              have Hhz := Lib.hid hz; clear hz
              have Hhk0 := Lib.hid hk0; clear hk0
              clear hS hend hS3 hset
              go_wp2
              go_roundw
              case rel => exact ⟨s + 1, by go_num, by omega, HS.out⟩
              case measure => simp [intOf]; omega
          · obtain ⟨l, hkl⟩ : ∃ l, k = l + 1 := ⟨k - 1, by omega⟩
            have hk1 : ((k : Int) == 0) = false := by simp; omega
            rw [padL_T _ hslt] at hS
            have HS5 := Lib.hid hS
            have hsub : IntKind.i64.wrap ((k : Int) - 1) = ((l : Nat) : Int) := by rw [IntWalk.i64_in _ (by omega)]; omega
            have hll : l < 31 := by omega
            have hll2 : (l : Int) < 31 := by omega
            have hl30 : l ≤ 30 := by omega
            have hps3 : psN d l s 3 = cwN d k s := by rw [hkl]; exact (cwN_succ (fun c hc => HC.out.dx s c hsL hc)).symm
            obtain ⟨gl, hgl, hin⟩ := HM.out.2 l (by omega)
            rw [← HhL.out] at hgl hin
            have hal : (arrC (vs ++ [.slice (some ⟨g, 0, none⟩) L L]))[l]? = some (.slice (some ⟨gl, 0, none⟩) L L) := by
              rw [arrC_at (by rw [List.length_append, Hhvl.out]; omega), ← hgl]
              simp only [List.getD_eq_getElem?_getD]
              rw [List.getElem?_append_left (by rw [Hhvl.out]; omega)]
            have hak : (arrC (vs ++ [.slice (some ⟨g, 0, none⟩) L L]))[k]? = some (.slice (some ⟨g, 0, none⟩) L L) := by
              rw [arrC_at (by rw [List.length_append, Hhvl.out]; simp)]
              have hv := Hhvl.out
              subst hv
              simp
            have Hal := Lib.hid hal
            have Hak := Lib.hid hak
            have Hin := Lib.hid hin
            have Hps3 := Lib.hid hps3
            have Hhkl := Lib.hid hkl; clear hkl
            clear hS hgl hin hal hak hps3 hk0 hlt
            subst hwm
            go_wp2
            go_loopw [39] (fun i wr => ∃ c : Nat, i = .int .i64 (c : Int) ∧ c ≤ 3 ∧ St w wr [Ent.box w.heap.size #[.slice (some ⟨b1, o1, none⟩) L cv, .slice (some ⟨b2, o2, none⟩) L cw] 27, Ent.box (w.heap.size + 1 + 1) (arrC (vs ++ [.slice (some ⟨g, 0, none⟩) L L])) 97, X, Ent.box (w.heap.size + 1) (arrC []) 97, Ent.row 3 1 (.slice (some ⟨g, 0, none⟩) L L) L (intCells (padT L s (cwN d k) (psN d l s c)))]) (fun i _ => 3 - (intOf i).toNat)
            case atStart => exact ⟨0, rfl, Nat.zero_le _, HS5.out⟩
            case round =>
              obtain ⟨c, rfl, hc, hS⟩ := hrel
              by_cases hc3 : c < 3
              · have hc3I : (c : Int) < 3 := by omega
                have k5 := K4.out wr hS.bel c hc3
                have htL := HC.out.lt s c hsL hc3
                have hps : psN d l s (c + 1) = psN d l s c + cwN d l (nxD d s c) := rfl
                have hb1 := cwN_le (d := d) (l := l) (s := nxD d s c) hl30
                have hb2 := psN_le (d := d) (l := l) (s := s) hl30 c
                have hset := padT_set (n := L) (s := s) (cwN d k) (psN d l s c) (psN d l s (c + 1))
                have r1 := hS.innRcell 2 (nxD d s c) rfl Hin.out (by rw [HhL.out]; omega) (clsL_cell (cwN d l) (by rw [HhL.out]; exact htL))
                have r2 := hS.rcell (v := .int .i64 ((psN d l s c : Nat) : Int)) 4 s rfl (by omega) (padT_at (cwN d k) (psN d l s c))
                rw [hps] at hset
                obtain ⟨t, ht⟩ : ∃ t, nxD d s c = t := ⟨_, rfl⟩
                rw [ht, ← HhL.out] at htL
                rw [ht] at k5 hps hb1 hset r1
                have htLI : (t : Int) < L := by omega
                have a1 := hS.cell (v := .slice (some ⟨gl, 0, none⟩) L L) 1 l rfl Hal.out
                have a2 := hS.cell (v := .slice (some ⟨g, 0, none⟩) L L) 1 k rfl Hak.out
                have f2 := hS.rfr 4 s rfl
                obtain ⟨x, hx⟩ : ∃ x, cwN d l t = x := ⟨_, rfl⟩
                obtain ⟨y, hy⟩ : ∃ y, psN d l s c = y := ⟨_, rfl⟩
                rw [hx] at r1 hps hb1 hset
                rw [hy] at r2 hps hb2 hset hS
                have hS6 := hS.store 4 rfl s (.int .i64 ((y : Int) + (x : Int)))
                rw [show ((y + x : Nat) : Int) = (y : Int) + (x : Int) by omega, ← hps] at hset
                simp only [List.set_cons_succ, List.set_cons_zero] at hS6
                rw [hset] at hS6
                have hw9 : IntKind.i64.wrap ((y : Int) + (x : Int)) = (y : Int) + (x : Int) := IntWalk.i64_in _ (by omega)
                have HS6 := Lib.hid hS6
                have Hhps := Lib.hid hps; clear hps
                have Hhx := Lib.hid hx; clear hx
                have Hhy := Lib.hid hy; clear hy
                have Hht := Lib.hid ht; clear ht
                clear hS hS6 hset hslt hk1
                go_wp2
                go_region
                go_wp2
                go_roundw
                case rel => exact ⟨c + 1, by go_num, by omega, HS6.out.drewN _⟩
                case measure => simp [intOf]; omega
              · obtain rfl : c = 3 := by omega
                rw [Hps3.out, padT_end] at hS
                have HS6 := Lib.hid hS
                clear hS
                go_wp2
                go_roundw
                case rel => exact ⟨s + 1, by go_num, by omega, HS6.out⟩
                case measure => simp [intOf]; omega
        · obtain rfl : s = L := by omega
          rw [padL_end] at hS
          have HS6 := Lib.hid ((hS.pick [0, 1, 3, 2, 4] (by decide)).pack (A := [Ent.box w.heap.size #[.slice (some ⟨b1, o1, none⟩) s cv, .slice (some ⟨b2, o2, none⟩) s cw] 27, Ent.box (w.heap.size + 1 + 1) (arrC (vs ++ [.slice (some ⟨g, 0, none⟩) s s])) 97, Ent.box (w.heap.size + 1) (arrC []) 97]) (R := [X, Ent.row 3 1 (.slice (some ⟨g, 0, none⟩) s s) s (intCells (clsL s (cwN d k)))]))
          clear hS
          go_wp2
          go_roundw
          case rel =>
            have hM2 : CMem d (Ent.all [X, Ent.row 3 1 (.slice (some ⟨g, 0, none⟩) s s) s (intCells (clsL s (cwN d k)))]) (vs ++ [.slice (some ⟨g, 0, none⟩) s s]) (k + 1) := by
              have := HM.out.snoc (b := g)
              rw [← HhL.out] at this
              exact this
            exact ⟨k + 1, vs ++ [Value.slice (some ⟨g, 0, none⟩) s s], Ent.all [X, Ent.row 3 1 (.slice (some ⟨g, 0, none⟩) s s) s (intCells (clsL s (cwN d k)))], by go_num, by omega, hM2, HS6.out.pick [0, 1, 3, 2] (by decide)⟩
          case measure => simp [intOf]; omega
    · obtain rfl : k = 31 := by omega
      rw [arrC_end hvl] at hS
      have HS7 := Lib.hid hS
      clear hS
      rename_i hK0
      have HK := Lib.hid hK0
      clear hK0
      go_wp2
      refine HK.out _ _ ?_
      have hI : (Try.prog.info? 97).map (·.size) = some 31 := by kernel_rfl
      refine wp_seq ?_
      refine wp_region_list ?_
      refine wpList_loadAll rfl 97 _ rfl (w.heap.size + 1 + 1) rfl 97 vs.toArray _ (HS7.out.box 1 rfl) Try.underlying97 rfl (by rw [hI]; simp [hvl]) ?_
      refine wpList_storeAll rfl 97 _ _ rfl (w.heap.size + 1) 97 (arrC []) vs.toArray rfl rfl (HS7.out.box 3 rfl) (by rw [hI]; simp [hvl]) (by simp [hvl, arrC]) (fun v hv => hM.one v (by simpa using hv)) ?_
      refine wpList_nil ?_
      have HS8 := Lib.hid (HS7.out.setAll 3 rfl vs.toArray)
      show Code.wp Try.prog Code.ret _ _ _
      go_wp2
      refine bodyPost_ret (v := .agg vs.toArray) (results_cellAll Try.results87 _ _ _ (w.heap.size + 1) 97 vs.toArray _ rfl (HS8.out.box 3 rfl) Try.underlying97 rfl (by rw [hI]; simp [hvl])) rfl ?_
      exact ⟨vs, X, rfl, hM, HS8.out.pick [2] (by decide)⟩
set_option maxRecDepth 100000 in
set_option maxHeartbeats 8000000 in
theorem l17Counts_any (d : DfaD) (m : Nat) (hm : m ≤ 30) (v : Value) (w : World) (hd : dfaOk d.next d.ends = true) (h : DfaR 0 w v d) :
    Calls Try.prog 88 #[v, .int .i64 (m : Int)] w fun e w' => ∃ g, e = .returned (.slice (some ⟨g, 0, none⟩) d.next.length d.next.length) ∧ St w w' [Ent.row 3 1 (.slice (some ⟨g, 0, none⟩) d.next.length d.next.length) d.next.length (intCells (clsL d.next.length (cwN d m)))] := by
  obtain ⟨b1, o1, cv, b2, o2, cw, rfl, hC⟩ := dfa_open hd h
  obtain ⟨L, hL⟩ : ∃ L, L = d.next.length := ⟨_, rfl⟩
  obtain ⟨i0, hi, hz0, hz1, hz2⟩ := info_parts Try.infoInt
  have hl2 := hC.l2
  have hl1 := hC.l1
  have hc1 := hC.c1
  have hc2 := hC.c2
  rw [← hL] at hl1 hl2 hc1 hc2
  rw [← hL]
  have HS0 := Lib.hid ((St.start w).alloc _ rfl #[.slice (some ⟨b1, o1, none⟩) L cv, .slice (some ⟨b2, o2, none⟩) L cw] 27)
  have HC := Lib.hid hC
  have Hhd := Lib.hid hd; clear hd
  have HhL := Lib.hid hL; clear hL
  have Hhi := Lib.hid hi; clear hi
  have Hhz0 := Lib.hid hz0; clear hz0
  have Hhz1 := Lib.hid hz1; clear hz1
  have Hhz2 := Lib.hid hz2; clear hz2
  clear h hC
  go_enter Try.func88, Try.ntmps88
  have e0 := HS0.out.cell (v := .slice (some ⟨b1, o1, none⟩) L cv) 0 0 rfl rfl
  go_wp2_with (at_make; refine wpList_make_full _ rfl _ _ 48 rfl _ 3 i0 (.int .i64 0) 1 Try.underlying48 Hhi.out Hhz0.out Hhz1.out .i64 .i64 _ _ L rfl rfl rfl rfl (by rw [Hhz2.out]; omega) (by unfold maxLen; omega) (Nat.le_refl _) ?_; intro w1 hown hgrow; have HS1 := Lib.hid (HS0.out.made ((Below.refl _ _).grown hgrow (Nat.le_refl _) (fun _ h => by cases h)) (made_ints (cwN d 0) hown)); clear hown hgrow)
  obtain ⟨g, hg⟩ : ∃ g, g = (w.alloc (.cells #[.slice (some ⟨b1, o1, none⟩) L cv, .slice (some ⟨b2, o2, none⟩) L cw] 27)).heap.size := ⟨_, rfl⟩
  simp only [World.size_alloc] at hg HS1
  rw [← hg] at HS1 ⊢
  have Hhg := Lib.hid hg; clear hg
  clear e0
  go_loopw [6] (fun i wr => ∃ k : Nat, i = .int .i64 (k : Int) ∧ k ≤ L ∧ St w wr [Ent.box w.heap.size #[.slice (some ⟨b1, o1, none⟩) L cv, .slice (some ⟨b2, o2, none⟩) L cw] 27, Ent.row 3 1 (.slice (some ⟨g, 0, none⟩) L L) L (intCells (padL L k (cwN d 0)))]) (fun i _ => L - (intOf i).toNat)
  case atStart => exact ⟨0, rfl, Nat.zero_le _, HS1.out⟩
  case round =>
    obtain ⟨k, rfl, hk, hS⟩ := hrel
    by_cases hlt : k < L
    · have hlt2 : (k : Int) < L := by omega
      have e1 := hS.cell (v := .slice (some ⟨b2, o2, none⟩) L cw) 0 1 rfl rfl
      have k3 := (bcell hS.bel b2 (o2 + k) HC.out.hb2).trans (HC.out.en k (by rw [← HhL.out]; exact hlt))
      rw [padL_T _ hlt] at hS
      have hz := cwN_zero d k
      obtain ⟨x, hx⟩ : ∃ x, enD d k = x := ⟨_, rfl⟩
      rw [hx] at k3 hz
      have Hhx := Lib.hid hx; clear hx
      cases x
      · have hend := padT_end (n := L) (s := k) (cwN d 0)
        rw [hz, if_neg (by simp)] at hend
        rw [hend] at hS
        have HS := Lib.hid hS
        have Hhz := Lib.hid hz; clear hz
        clear hS hend
        go_wp2
        go_roundw
        case rel => exact ⟨k + 1, by go_num, by omega, HS.out⟩
        case measure => simp [intOf]; omega
      · have f0 := hS.rfr 1 k rfl
        have k0 := hS.rcell (v := .int .i64 0) 1 k rfl (by omega) (padT_at (n := L) (cwN d 0) 0)
        have hS3 := hS.store 1 rfl k (.int .i64 1)
        have hset := padT_set (n := L) (s := k) (cwN d 0) 0 1
        have hend := padT_end (n := L) (s := k) (cwN d 0)
        rw [hz, if_pos rfl] at hend
        rw [show (.int .i64 1 : Value) = .int .i64 ((1 : Nat) : Int) from rfl] at hS3
        simp only [List.set_cons_succ, List.set_cons_zero] at hS3
        rw [hset, hend] at hS3
        have HS := Lib.hid hS3
        have Hhz := Lib.hid hz; clear hz
        clear hS hend hS3 hset
        go_wp2
        go_roundw
        case rel => exact ⟨k + 1, by go_num, by omega, HS.out⟩
        case measure => simp [intOf]; omega
    · obtain rfl : k = L := by omega
      rw [padL_end] at hS
      have HS2 := Lib.hid hS
      clear hS hlt
      go_wp2
      go_loopw [5, 7] (fun o i wr => ∃ n g : Nat, o = .slice (some ⟨g, 0, none⟩) k k ∧ i = .int .i64 (n : Int) ∧ n ≤ m ∧ St w wr [Ent.box w.heap.size #[.slice (some ⟨b1, o1, none⟩) k cv, .slice (some ⟨b2, o2, none⟩) k cw] 27, Ent.row 3 1 (.slice (some ⟨g, 0, none⟩) k k) k (intCells (clsL k (cwN d n)))]) (fun _ i _ => m - (intOf i).toNat)
      case atStart => exact ⟨0, _, rfl, rfl, Nat.zero_le _, HS2.out⟩
      case round =>
        obtain ⟨n, g, rfl, rfl, hn, hS⟩ := hrel
        by_cases hlt : n < m
        · have hlt2 : (n : Int) < m := by omega
          have HS3 := Lib.hid hS
          clear hS
          obtain ⟨wo, hwo⟩ : ∃ wo : World, wo = wr := ⟨_, rfl⟩
          subst hwo
          go_wp2_with (at_make; refine wpList_make_full _ rfl _ _ 48 rfl _ 3 i0 (.int .i64 0) 1 Try.underlying48 Hhi.out Hhz0.out Hhz1.out .i64 .i64 _ _ k rfl rfl rfl rfl (by rw [Hhz2.out]; omega) (by unfold maxLen; omega) (Nat.le_refl _) ?_; intro w1 hown hgrow; have HS4 := Lib.hid (HS3.out.made ((Below.refl _ _).grown hgrow (Nat.le_refl _) (fun _ h => by cases h)) (made_ints (cwN d (n + 1)) hown)); clear hown hgrow)
          obtain ⟨q, hq⟩ : ∃ q, q = wo.heap.size := ⟨_, rfl⟩
          rw [← hq] at HS4 ⊢
          have Hhq := Lib.hid hq; clear hq
          go_loopw [9] (fun i wr => ∃ s : Nat, i = .int .i64 (s : Int) ∧ s ≤ k ∧ St w wr [Ent.box w.heap.size #[.slice (some ⟨b1, o1, none⟩) k cv, .slice (some ⟨b2, o2, none⟩) k cw] 27, Ent.row 3 1 (.slice (some ⟨g, 0, none⟩) k k) k (intCells (clsL k (cwN d n))), Ent.row 3 1 (.slice (some ⟨q, 0, none⟩) k k) k (intCells (padL k s (cwN d (n + 1))))]) (fun i _ => k - (intOf i).toNat)
          case atStart => exact ⟨0, rfl, Nat.zero_le _, HS4.out⟩
          case round =>
            obtain ⟨s, rfl, hs, hS⟩ := hrel
            by_cases hslt : s < k
            · have hslt2 : (s : Int) < k := by omega
              rw [padL_T _ hslt] at hS
              have HS5 := Lib.hid hS
              clear hS
              obtain ⟨wm, hwm⟩ : ∃ wm : World, wm = wr := ⟨_, rfl⟩
              subst hwm
              go_wp2
              go_loopw [10] (fun i wr => ∃ c : Nat, i = .int .i64 (c : Int) ∧ c ≤ 3 ∧ St w wr [Ent.box w.heap.size #[.slice (some ⟨b1, o1, none⟩) k cv, .slice (some ⟨b2, o2, none⟩) k cw] 27, Ent.row 3 1 (.slice (some ⟨g, 0, none⟩) k k) k (intCells (clsL k (cwN d n))), Ent.row 3 1 (.slice (some ⟨q, 0, none⟩) k k) k (intCells (padT k s (cwN d (n + 1)) (psN d n s c)))]) (fun i _ => 3 - (intOf i).toNat)
              case atStart => exact ⟨0, rfl, Nat.zero_le _, HS5.out⟩
              case round =>
                obtain ⟨c, rfl, hc, hS⟩ := hrel
                by_cases hc3 : c < 3
                · have hc3I : (c : Int) < 3 := by omega
                  have hsL : s < d.next.length := by rw [← HhL.out]; exact hslt
                  obtain ⟨b3, o3, c3, hc31, hc32, k3, k4⟩ := row_len HC.out hS.bel hsL
                  have k5 := k4 wr hS.bel c hc3
                  have htL := HC.out.lt s c hsL hc3
                  have hps : psN d n s (c + 1) = psN d n s c + cwN d n (nxD d s c) := rfl
                  have hb1 := cwN_le (d := d) (l := n) (s := nxD d s c) (by omega)
                  have hb2 := psN_le (d := d) (l := n) (s := s) (by omega) c
                  have hset := padT_set (n := k) (s := s) (cwN d (n + 1)) (psN d n s c) (psN d n s (c + 1))
                  rw [hps] at hset
                  obtain ⟨t, ht⟩ : ∃ t, nxD d s c = t := ⟨_, rfl⟩
                  rw [ht, ← HhL.out] at htL
                  rw [ht] at k5 hps hb1 hset
                  have htLI : (t : Int) < k := by omega
                  have e0 := hS.cell (v := .slice (some ⟨b1, o1, none⟩) k cv) 0 0 rfl rfl
                  have r1 := hS.rcell (v := .int .i64 ((cwN d n t : Nat) : Int)) 1 t rfl (by omega) (clsL_cell (cwN d n) htL)
                  have r2 := hS.rcell (v := .int .i64 ((psN d n s c : Nat) : Int)) 2 s rfl (by omega) (padT_at (cwN d (n + 1)) (psN d n s c))
                  have f2 := hS.rfr 2 s rfl
                  obtain ⟨x, hx⟩ : ∃ x, cwN d n t = x := ⟨_, rfl⟩
                  obtain ⟨y, hy⟩ : ∃ y, psN d n s c = y := ⟨_, rfl⟩
                  rw [hx] at r1 hps hb1 hset
                  rw [hy] at r2 hps hb2 hset hS
                  have hS6 := hS.store 2 rfl s (.int .i64 ((y : Int) + (x : Int)))
                  rw [show ((y + x : Nat) : Int) = (y : Int) + (x : Int) by omega, ← hps] at hset
                  simp only [List.set_cons_succ, List.set_cons_zero] at hS6
                  rw [hset] at hS6
                  have hw9 : IntKind.i64.wrap ((y : Int) + (x : Int)) = (y : Int) + (x : Int) := IntWalk.i64_in _ (by omega)
                  have HS6 := Lib.hid hS6
                  have Hhps := Lib.hid hps; clear hps
                  have Hhx := Lib.hid hx; clear hx
                  have Hhy := Lib.hid hy; clear hy
                  have Hht := Lib.hid ht; clear ht
                  clear hS hS6 k4 hset hslt hlt
                  go_wp2
                  go_region
                  go_wp2
                  go_roundw
                  case rel => exact ⟨c + 1, by go_num, by omega, HS6.out.drewN _⟩
                  case measure => simp [intOf]; omega
                · obtain rfl : c = 3 := by omega
                  have hsL : s < d.next.length := by rw [← HhL.out]; exact hslt
                  have hps3 : psN d n s 3 = cwN d (n + 1) s := (cwN_succ (fun c hc => HC.out.dx s c hsL hc)).symm
                  rw [hps3, padT_end] at hS
                  have HS6 := Lib.hid hS
                  clear hS hps3
                  go_wp2
                  go_roundw
                  case rel => exact ⟨s + 1, by go_num, by omega, HS6.out⟩
                  case measure => simp [intOf]; omega
            · obtain rfl : s = k := by omega
              rw [padL_end] at hS
              have HS6 := Lib.hid (hS.pick [0, 2] (by decide))
              clear hS
              go_wp2
              go_roundw
              case rel => exact ⟨n + 1, q, rfl, by go_num, by omega, HS6.out⟩
              case measure => simp [intOf]; omega
        · obtain rfl : n = m := by omega
          have HS6 := Lib.hid hS
          clear hS hlt
          go_wp2
          go_ret
          exact ⟨g, rfl, HS6.out.pick [1] (by decide)⟩
def cwA (d : DfaD) (n : Int) : Int := if dfaOk d.next d.ends = true ∧ 0 ≤ n ∧ n ≤ 30 then ((cntD d n.toNat 0 : Nat) : Int) else -1
theorem cwA_no {d : DfaD} {n : Int} (h : dfaOk d.next d.ends = false ∨ inB n 0 30 = false) : cwA d n = -1 := by
  unfold cwA
  rw [if_neg]
  rintro ⟨h1, h2, h3⟩
  rcases h with h | h
  · rw [h] at h1; cases h1
  · unfold inB at h
    simp at h
    omega
theorem cwA_in (d : DfaD) (n : Int) : -1 ≤ cwA d n ∧ cwA d n ≤ 205891132094649 := by
  unfold cwA
  split
  · rename_i h
    have := cntD_small (d := d) (n := n.toNat) (s := 0) (by omega)
    omega
  · omega
theorem cwA_turn {d T : DfaD} {n r : Int} (hr : cwA d n = r) (hc : 0 ≤ r) (ht : det (turnL (nfaQ d)) = some T) : cwA T n = r := by
  subst hr
  unfold cwA at hc ⊢
  split at hc
  · rename_i h
    obtain ⟨hd, h0, h1⟩ := h
    have e1 : nfaQ d = nfaOf d := if_pos hd
    rw [e1, turnL_ok (nfaOf_ok hd)] at ht
    have ht2 : tdK forty d = some T := by
      rw [tdK_det hd]
      exact ht
    rw [if_pos ⟨td_ok rfl ht2, h0, h1⟩, if_pos ⟨hd, h0, h1⟩, cnt_turn hd ht2]
  · omega
theorem idx31 (w : World) {cs : Array Value} {m : Nat} (hm : m < 31) {x : Value} (hx : cs[m]? = some x) : (Instr.index 97 (.agg cs) (.int .i64 (m : Int))).run Try.prog w = .ok x w := by
  have h1 : (0 : Int) ≤ (m : Int) ∧ (m : Int) < ((31 : Nat) : Int) := by omega
  simp [Instr.index, run_underlying Try.underlying97, asIntOf, go_sem, part, isAgg, run_underlying Try.underlying48, hx]
  omega
set_option maxRecDepth 100000 in
set_option maxHeartbeats 8000000 in
theorem implCountWords_any (d : DfaD) (n : Int) (v : Value) (w : World) (h : DfaR 0 w v d) (r : Int) (hr : cwA d n = r) :
    Calls Try.prog 41 #[v, .int .i64 n] w fun e w' => e = .returned (.int .i64 r) ∧ Below w.heap.size w w' := by
  have H := Lib.hid h
  obtain ⟨v1, v2, rfl, g1, g2⟩ := h
  have HS0 := Lib.hid ((St.start w).alloc _ rfl #[v1, v2] 27)
  have e0 := HS0.out.cell (v := v1) 0 0 rfl rfl
  have e1 := HS0.out.cell (v := v2) 0 1 rfl rfl
  clear g1 g2
  cases hd : dfaOk d.next d.ends
  · rw [cwA_no (Or.inl hd)] at hr
    subst hr
    have Hhd := Lib.hid hd; clear hd
    go_enter Try.func41, Try.ntmps41
    go_wp2_with fail
    refine (implDfaValid_any d _ _ (H.out.below HS0.out.bel) _ Hhd.out).mono ?_
    rintro e w1 ⟨rfl, hb1⟩
    have HS1 := Lib.hid (HS0.out.call hb1)
    clear hb1 e0 e1
    go_wp2
    go_ret
    exact ⟨rfl, HS1.out.bel⟩
  cases hin : inB n 0 30
  · rw [cwA_no (Or.inr hin)] at hr
    subst hr
    have Hhd := Lib.hid hd; clear hd
    have Hhin := Lib.hid hin; clear hin
    go_enter Try.func41, Try.ntmps41
    go_wp2_with fail
    refine (implDfaValid_any d _ _ (H.out.below HS0.out.bel) _ Hhd.out).mono ?_
    rintro e w1 ⟨rfl, hb1⟩
    have HS1 := Lib.hid (HS0.out.call hb1)
    clear hb1 e0 e1
    go_wp2_with (go_at_call 86; refine (within_any _ _ _ _ _ Hhin.out).mono ?_; rintro e w' ⟨rfl, rfl⟩)
    go_ret
    exact ⟨rfl, HS1.out.bel⟩
  · have hb : 0 ≤ n ∧ n ≤ 30 := by
      have h2 := hin
      unfold inB at h2
      simp at h2
      exact h2
    obtain ⟨m, rfl⟩ := Int.eq_ofNat_of_zero_le hb.1
    have hr2 : ((cwN d m 0 : Nat) : Int) = r := by
      rw [← hr]
      unfold cwA
      rw [if_pos ⟨hd, hb⟩]
      rfl
    have hm : m ≤ 30 := by omega
    have hm2 : m < 31 := by omega
    have hl := (dfaOk_len hd).1
    have Hhd := Lib.hid hd; clear hd
    have Hhin := Lib.hid hin; clear hin
    have Hhr2 := Lib.hid hr2; clear hr2
    clear hr hb
    go_enter Try.func41, Try.ntmps41
    go_wp2_with fail
    refine (implDfaValid_any d _ _ (H.out.below HS0.out.bel) _ Hhd.out).mono ?_
    rintro e w1 ⟨rfl, hb1⟩
    have HS1 := Lib.hid (HS0.out.call hb1)
    clear hb1 e0 e1
    have e0 := HS1.out.cell (v := v1) 0 0 rfl rfl
    have e1 := HS1.out.cell (v := v2) 0 1 rfl rfl
    go_wp2_with (go_at_call 86; refine (within_any _ _ _ _ _ Hhin.out).mono ?_; rintro e w' ⟨rfl, rfl⟩)
    refine (counts_any d _ _ Hhd.out (H.out.below HS1.out.bel)).mono ?_
    rintro e w2 ⟨vs, X, rfl, hM, hS⟩
    obtain ⟨b, hv, hi⟩ := hM.2 m hm2
    have k0 := hS.innRcell 0 0 rfl hi (by omega) (clsL_cell (cwN d m) (by omega))
    rw [Hhr2.out] at k0
    have HS2 := Lib.hid (HS1.out.call hS.bel)
    have hvl := hM.1
    have hix : vs.toArray[m]? = some (.slice (some ⟨b, 0, none⟩) d.next.length d.next.length) := by
      rw [List.getElem?_toArray, ← hv]
      simp [hvl, hm2]
    have hrx := idx31 w2 hm2 hix
    clear e0 e1 hS hM hi hv hix
    go_wp2
    go_ret
    exact ⟨rfl, HS2.out.bel⟩
set_option maxRecDepth 100000 in
set_option maxHeartbeats 8000000 in
theorem specCountWords_any (d : DfaD) (n : Int) (v : Value) (w : World) (h : DfaR 0 w v d) (r : Int) (hr : cwA d n = r) :
    Calls Try.prog 42 #[v, .int .i64 n] w fun e w' => e = .returned (.int .i64 r) ∧ Below w.heap.size w w' := by
  have H := Lib.hid h
  obtain ⟨v1, v2, rfl, g1, g2⟩ := h
  have HS0 := Lib.hid ((St.start w).alloc _ rfl #[v1, v2] 27)
  have e0 := HS0.out.cell (v := v1) 0 0 rfl rfl
  have e1 := HS0.out.cell (v := v2) 0 1 rfl rfl
  clear g1 g2
  cases hd : dfaOk d.next d.ends
  · rw [cwA_no (Or.inl hd)] at hr
    subst hr
    have Hhd := Lib.hid hd; clear hd
    go_enter Try.func42, Try.ntmps42
    go_wp2_with fail
    refine (specDfaValid_d d _ _ (H.out.below HS0.out.bel) _ Hhd.out).mono ?_
    rintro e w1 ⟨rfl, hb1⟩
    have HS1 := Lib.hid (HS0.out.call hb1)
    clear hb1 e0 e1
    go_wp2
    go_ret
    exact ⟨rfl, HS1.out.bel⟩
  cases hin : inB n 0 30
  · rw [cwA_no (Or.inr hin)] at hr
    subst hr
    have Hhd := Lib.hid hd; clear hd
    have Hhin := Lib.hid hin; clear hin
    go_enter Try.func42, Try.ntmps42
    go_wp2_with fail
    refine (specDfaValid_d d _ _ (H.out.below HS0.out.bel) _ Hhd.out).mono ?_
    rintro e w1 ⟨rfl, hb1⟩
    have HS1 := Lib.hid (HS0.out.call hb1)
    clear hb1 e0 e1
    go_wp2_with (go_at_call 73; refine (l1In_any _ _ _ _ _ Hhin.out).mono ?_; rintro e w' ⟨rfl, rfl⟩)
    go_ret
    exact ⟨rfl, HS1.out.bel⟩
  · have hb : 0 ≤ n ∧ n ≤ 30 := by
      have h2 := hin
      unfold inB at h2
      simp at h2
      exact h2
    obtain ⟨m, rfl⟩ := Int.eq_ofNat_of_zero_le hb.1
    have hr2 : ((cwN d m 0 : Nat) : Int) = r := by
      rw [← hr]
      unfold cwA
      rw [if_pos ⟨hd, hb⟩]
      rfl
    have hm : m ≤ 30 := by omega
    have hl := (dfaOk_len hd).1
    have Hhd := Lib.hid hd; clear hd
    have Hhin := Lib.hid hin; clear hin
    have Hhr2 := Lib.hid hr2; clear hr2
    clear hr hb
    go_enter Try.func42, Try.ntmps42
    go_wp2_with fail
    refine (specDfaValid_d d _ _ (H.out.below HS0.out.bel) _ Hhd.out).mono ?_
    rintro e w1 ⟨rfl, hb1⟩
    have HS1 := Lib.hid (HS0.out.call hb1)
    clear hb1 e0 e1
    have e0 := HS1.out.cell (v := v1) 0 0 rfl rfl
    have e1 := HS1.out.cell (v := v2) 0 1 rfl rfl
    go_wp2_with (go_at_call 73; refine (l1In_any _ _ _ _ _ Hhin.out).mono ?_; rintro e w' ⟨rfl, rfl⟩)
    refine (l17Counts_any d m hm _ _ Hhd.out (H.out.below HS1.out.bel)).mono ?_
    rintro e w2 ⟨g, rfl, hS⟩
    have k0 := hS.rcell 0 0 rfl (by omega) (clsL_cell (cwN d m) (by omega))
    rw [Hhr2.out] at k0
    have HS2 := Lib.hid (HS1.out.call hS.bel)
    clear e0 e1 hS
    go_wp2
    go_ret
    exact ⟨rfl, HS2.out.bel⟩
set_option maxRecDepth 100000 in
set_option maxHeartbeats 8000000 in
theorem l20Length_any (bs : List Nat) (vb : Value) (b p : Nat) (w0 w : World) (X : Ent) (hb : Bytes 0 w0 vb bs) (hlen : bs.length ≤ 2000) (hp : p ≤ 10000) (hS : St w0 w [RdE b vb p, X]) :
    Calls Try.prog 85 #[.pointer (some ⟨b, 0, none⟩), .int .i64 30] w fun e w' => ∃ (n : Int) (p' : Nat), -1 ≤ n ∧ n ≤ 31 ∧ e = .returned (.int .i64 n) ∧ St w0 w' [RdE b vb p', X] := by
  have Hb := Lib.hid hb
  have HS := Lib.hid hS
  clear hb hS
  go_enter Try.func85, Try.ntmps85
  go_wp2_with fail
  refine (pick_any bs vb b p 31 w0 _ _ Hb.out hlen (by omega) (by omega) (by omega) HS.out).mono ?_
  rintro e w1 ⟨k0, hk0, rfl, hS1⟩
  have hS2 := (hS1.alloc w1.heap.size rfl #[.int .i64 (k0 : Int), .int .i64 (-1), .int .i64 31] 3).alloc (w1.heap.size + 1) (by simp) #[.int .i64 0, .int .i64 0, .int .i64 0, .int .i64 0, .int .i64 0, .int .i64 0, .int .i64 1, .int .i64 2] 3
  have HS2 := Lib.hid hS2
  have HSp := Lib.hid (St.pack (A := [RdE b vb (p + 1)]) (R := [X, Ent.box w1.heap.size #[.int .i64 (k0 : Int), .int .i64 (-1), .int .i64 31] 3, Ent.box (w1.heap.size + 1) #[.int .i64 0, .int .i64 0, .int .i64 0, .int .i64 0, .int .i64 0, .int .i64 0, .int .i64 1, .int .i64 2] 3]) hS2)
  clear hS1 hS2
  go_wp2_with fail
  refine (pick_any bs vb b (p + 1) 8 w0 _ _ Hb.out hlen (by omega) (by omega) (by omega) HSp.out).mono ?_
  rintro e w2 ⟨k1, hk1, rfl, hS3⟩
  have HS3 := Lib.hid (St.unpack (A := [RdE b vb (p + 1)]) (A' := [RdE b vb (p + 1 + 1)]) (R := [X, Ent.box w1.heap.size #[.int .i64 (k0 : Int), .int .i64 (-1), .int .i64 31] 3, Ent.box (w1.heap.size + 1) #[.int .i64 0, .int .i64 0, .int .i64 0, .int .i64 0, .int .i64 0, .int .i64 0, .int .i64 1, .int .i64 2] 3]) HS2.out hS3)
  clear hS3 HSp
  obtain h | rfl | rfl : k1 < 6 ∨ k1 = 6 ∨ k1 = 7 := by omega
  · have q0 := HS3.out.cell (v := .int .i64 0) 3 k1 rfl (by
      obtain rfl | rfl | rfl | rfl | rfl | rfl : k1 = 0 ∨ k1 = 1 ∨ k1 = 2 ∨ k1 = 3 ∨ k1 = 4 ∨ k1 = 5 := by omega
      all_goals rfl)
    have q1 := HS3.out.cell (v := .int .i64 (k0 : Int)) 2 0 rfl rfl
    go_wp2
    go_ret
    exact ⟨(k0 : Int), p + 1 + 1, by omega, by omega, rfl, HS3.out.pick [0, 1] (by decide)⟩
  · have q0 := HS3.out.cell (v := .int .i64 1) 3 6 rfl rfl
    have q1 := HS3.out.cell (v := .int .i64 (-1)) 2 1 rfl rfl
    go_wp2
    go_ret
    exact ⟨-1, p + 1 + 1, by omega, by omega, rfl, HS3.out.pick [0, 1] (by decide)⟩
  · have q0 := HS3.out.cell (v := .int .i64 2) 3 7 rfl rfl
    have q1 := HS3.out.cell (v := .int .i64 31) 2 2 rfl rfl
    go_wp2
    go_ret
    exact ⟨31, p + 1 + 1, by omega, by omega, rfl, HS3.out.pick [0, 1] (by decide)⟩
set_option maxRecDepth 100000 in
set_option maxHeartbeats 8000000 in
theorem drawCountWords_any (bs : List Nat) (v : Value) (w : World) (hb : Bytes 0 w v bs) (hlen : bs.length ≤ 100000000) :
    Calls Try.prog 40 #[v] w fun e w' => ∃ (D : DfaD) (n : Int) (a1 a2 : Option Addr) (c1 c2 : Nat), SmallD D ∧ -1 ≤ n ∧ n ≤ 31 ∧ e = .returned (.tuple #[.agg #[.slice a1 D.next.length c1, .slice a2 D.ends.length c2], .int .i64 n]) ∧ DfaR 0 w' (.agg #[.slice a1 D.next.length c1, .slice a2 D.ends.length c2]) D ∧ Below w.heap.size w w' := by
  have hS0 := (St.start w).alloc _ rfl #[.slice none 0 0, .slice none 0 0] 27
  have Hb := Lib.hid hb
  have HhS0 := Lib.hid hS0; clear hS0
  clear hb
  go_enter Try.func40, Try.ntmps40
  go_wp2_with fail
  refine (openJ_any bs v _ (Hb.out.below HhS0.out.bel) hlen).mono ?_
  rintro e w1 ⟨vb, bs', hl', hB, rfl, hS'⟩
  obtain ⟨b, hbb⟩ : ∃ b, b = (w.alloc (.cells #[.slice none 0 0, .slice none 0 0] 27)).heap.size := ⟨_, rfl⟩
  rw [← hbb] at hS'
  rw [← hbb]
  have hB1 := hB w Hb.out
  have HB := Lib.hid hB1
  have HS1 := Lib.hid ((HhS0.out.cat hS').pick [1, 0] (by decide))
  have Hhbb := Lib.hid hbb; clear hbb
  clear hS' hB hB1
  go_wp2_with fail
  refine (l20Dfa_any bs' vb b 0 14 w w1 _ HB.out hl' (by omega) (by omega) HS1.out).mono ?_
  rintro e w2 ⟨D, pn, a1, a2, c1, c2, vs, E, hpn, hsm, rfl, hh, hS2⟩
  have HS2 := Lib.hid (hS2.alloc _ rfl #[.slice a1 D.next.length c1, .slice a2 D.ends.length c2] 27)
  have Hsm := Lib.hid hsm
  have Hh := Lib.hid hh
  clear hS2 hsm hh
  go_wp2
  refine wp_region_any (by kernel_rfl) ?_
  refine wpAny_invA (fun A listed a w' => ∃ (l0 l1 l2 l3 l4 : Bool) (n : {n : Int // -1 ≤ n ∧ n ≤ 31}) (pz : Nat), listed = #[l0, l1, l2, l3, l4] ∧ (l2 = true → l1 = true) ∧ (l3 = true → l2 = true ∧ l0 = true) ∧ (l4 = true → l2 = true ∧ l3 = true) ∧
      a = ⟨((((A.tmps.setIfInBounds 10 (if l0 = true then .agg #[.slice a1 D.next.length c1, .slice a2 D.ends.length c2] else A.tmps.getD 10 undef)).setIfInBounds 11 (if l1 = true then .pointer (some ⟨b, 0, none⟩) else A.tmps.getD 11 undef)).setIfInBounds 12 (if l2 = true then .int .i64 n.1 else A.tmps.getD 12 undef)).setIfInBounds 3 (if l4 = true then .int .i64 n.1 else A.tmps.getD 3 undef)), A.defers⟩ ∧
      St w w' [RdE b vb (if l2 = true then pz else pn), Ent.box w.heap.size #[(if l3 = true then .slice a1 D.next.length c1 else .slice none 0 0), (if l3 = true then .slice a2 D.ends.length c2 else .slice none 0 0)] 27, E, Ent.box w2.heap.size #[.slice a1 D.next.length c1, .slice a2 D.ends.length c2] 27]) ?_ ?_ ?_
  · rintro listed a w' ⟨l0, l1, l2, l3, l4, n, pz, rfl, hd2, hd3, hd4, rfl, hS⟩ i hi
    obtain ⟨hun, o, ho, hall⟩ := mem_ready.1 hi
    have hlt := (Array.getElem?_eq_some_iff.1 ho).1
    refine wpOp_step ho (fun K hK => ?_)
    clear hi
    have HS := Lib.hid hS
    clear hS
    simp only [List.setIfInBounds_toArray, List.set_cons_zero, List.set_cons_succ, Array.getD_eq_getD_getElem?, List.getElem?_toArray, List.getElem?_cons_zero, List.getElem?_cons_succ, Option.getD_some]
    obtain h | h | h | h | h : i = 0 ∨ i = 1 ∨ i = 2 ∨ i = 3 ∨ i = 4 := by simp at hlt; omega
    all_goals subst h
    all_goals simp only [List.getElem?_toArray, List.getElem?_cons_zero, List.getElem?_cons_succ, Option.some.injEq] at ho
    all_goals subst ho
    all_goals simp [Region.binds] at hun hall
    · subst hun
      obtain rfl : l3 = false := offR hd3 rfl
      obtain rfl : l4 = false := offR hd4 rfl
      have e0 := HS.out.cell (v := .slice a1 D.next.length c1) 3 0 rfl rfl
      have e1 := HS.out.cell (v := .slice a2 D.ends.length c2) 3 1 rfl rfl
      go_simp
      exact hK _ _ ⟨true, l1, l2, false, false, n, pz, rfl, hd2, by simp, by simp, (by simp), HS.out⟩
    · subst hun
      obtain rfl : l2 = false := by cases l2 with | false => rfl | true => simpa using hd2 rfl
      obtain rfl : l3 = false := offL hd3 rfl
      obtain rfl : l4 = false := offL hd4 rfl
      go_simp
      exact hK _ _ ⟨l0, true, false, false, false, n, pz, rfl, by simp, by simp, by simp, (by simp), HS.out⟩
    · obtain rfl := hall
      subst hun
      obtain rfl : l3 = false := offL hd3 rfl
      obtain rfl : l4 = false := offL hd4 rfl
      go_simp
      go_at_call 85
      refine (l20Length_any bs' vb b pn w _ _ HB.out hl' (by omega) (St.pack (A := [RdE b vb pn]) (R := [Ent.box w.heap.size #[.slice none 0 0, .slice none 0 0] 27, E, Ent.box w2.heap.size #[.slice a1 D.next.length c1, .slice a2 D.ends.length c2] 27]) (HS.out.pick [0, 1, 2, 3] (by decide)))).mono ?_
      rintro e u1 ⟨n9, p9, h91, h92, rfl, hSp⟩
      have hS2 := St.unpack (A := [RdE b vb pn]) (A' := [RdE b vb p9]) (R := [Ent.box w.heap.size #[.slice none 0 0, .slice none 0 0] 27, E, Ent.box w2.heap.size #[.slice a1 D.next.length c1, .slice a2 D.ends.length c2] 27]) (HS.out.pick [0, 1, 2, 3] (by decide)) hSp
      have HhS2 := Lib.hid hS2; clear hS2
      go_simp
      exact hK _ _ ⟨l0, true, true, false, false, ⟨n9, h91, h92⟩, p9, rfl, by simp, by simp, by simp, (by simp), HhS2.out⟩
    · obtain ⟨rfl, rfl, -⟩ := hall
      subst hun
      obtain ⟨rfl⟩ := hd2 rfl
      obtain rfl : l4 = false := offR hd4 rfl
      have f0 := HS.out.fr 1 0 rfl
      have k0 := HS.out.cell (v := .slice none 0 0) 1 0 rfl rfl
      have f1 := HS.out.fr 1 1 rfl
      have k1 := HS.out.cell (v := .slice none 0 0) 1 1 rfl rfl
      go_simp
      exact hK _ _ ⟨true, true, true, true, false, n, pz, rfl, by simp, by simp, by simp, (by simp), ((HS.out.set 1 rfl 0 (.slice a1 D.next.length c1)).set 1 rfl 1 (.slice a2 D.ends.length c2))⟩
    · obtain ⟨rfl, rfl, rfl, rfl, -⟩ := hall
      subst hun
      go_simp
      exact hK _ _ ⟨true, true, true, true, true, n, pz, rfl, by simp, by simp, by simp, (by simp only [↓reduceIte, List.setIfInBounds_toArray, List.set_cons_zero, List.set_cons_succ]), HS.out⟩
  · rintro listed a w' ⟨l0, l1, l2, l3, l4, n, pz, rfl, hd2, hd3, hd4, rfl, hS⟩ hr
    have hall := ready_nilM (by kernel_rfl) rfl hr
    obtain rfl : l0 = true := by simpa using hall 0 (by simp)
    obtain rfl : l1 = true := by simpa using hall 1 (by simp)
    obtain rfl : l2 = true := by simpa using hall 2 (by simp)
    obtain rfl : l3 = true := by simpa using hall 3 (by simp)
    obtain rfl : l4 = true := by simpa using hall 4 (by simp)
    clear hall hr hd2 hd3 hd4
    simp only [↓reduceIte] at hS ⊢
    simp only [List.setIfInBounds_toArray, List.set_cons_zero, List.set_cons_succ]
    have HSf := Lib.hid (hS.pick [0, 1, 2, 3] (by decide))
    clear hS
    have q0 := HSf.out.cell (v := .slice a1 D.next.length c1) 1 0 rfl rfl
    have q1 := HSf.out.cell (v := .slice a2 D.ends.length c2) 1 1 rfl rfl
    go_wp2
    refine bodyPost_ret (v := .tuple #[.agg #[.slice a1 D.next.length c1, .slice a2 D.ends.length c2], .int .i64 n.1]) (by simp [results, Try.results40, go_sem, q0, q1]) rfl ?_
    exact ⟨D, n.1, a1, a2, c1, c2, Hsm.out, n.2.1, n.2.2, rfl, Hh.out.r HSf.out 2 rfl, HSf.out.bel⟩
  · refine ⟨false, false, false, false, false, ⟨0, by decide⟩, 0, rfl, by simp, by simp, by simp, (by simp), ?_⟩
    exact HS2.out.drew.pick [0, 1, 2, 3] (by decide)
end Go.Proofs.Ytalbofnhcpjilaa
