/-
  The walks over the draws of one automaton.
  Condition: the argument reads as bytes.
-/
import Derived.Test.YtalbofnhcpjilaaPk24Jg
namespace Go.Proofs.Ytalbofnhcpjilaa
open Go.RowKit
set_option maxRecDepth 100000 in
set_option maxHeartbeats 4000000 in
theorem openJ_any (bs : List Nat) (v : Value) (w : World) (hb : Bytes 0 w v bs) (hlen : bs.length ≤ 100000000) :
  Calls Try.prog 56 #[v] w fun e w' => ∃ vb bs', bs'.length ≤ 2000 ∧ (∀ u : World, Bytes 0 u v bs → Bytes 0 u vb bs') ∧ e = .returned (.pointer (some ⟨w.heap.size, 0, none⟩)) ∧ St w w' [RdE w.heap.size vb 0] := by
 obtain ⟨a, c, rfl, hc1, hc2, -⟩ := hb.form
 have Hb := Lib.hid hb
 clear hb
 by_cases h2 : 2000 < bs.length
 ·have q1 : (2000 : Int) < bs.length := by omega
  have q2 : (2000 : Int) ≤ c := by omega
  have hS := (St.start w).alloc _ rfl #[.slice a 2000 c, .int .i64 0] 117
  have HS := Lib.hid hS
  clear hS
  go_enter Try.func56, Try.ntmps56
  go_wp2
  go_ret
  exact ⟨_, bs.take 2000, by rw [List.length_take]; omega, fun u h => h.take (by omega), rfl, HS.out⟩
 ·have q1 : (2000 < (bs.length : Int)) = False := by simp; omega
  have hS := (St.start w).alloc _ rfl #[.slice a bs.length c, .int .i64 0] 117
  have HS := Lib.hid hS
  have h2 : bs.length ≤ 2000 := by omega
  clear hS
  go_enter Try.func56, Try.ntmps56
  go_wp2
  go_ret
  exact ⟨_, bs, h2, fun u h => h, rfl, HS.out⟩
def RDraw (w : World) (e : Ending) (w' : World) : Prop := ∃ (D : DfaD) (a1 a2 : Option Addr) (c1 c2 : Nat), SmallD D ∧ e = .returned (.agg #[.slice a1 D.next.length c1, .slice a2 D.ends.length c2]) ∧ DfaR 0 w' (.agg #[.slice a1 D.next.length c1, .slice a2 D.ends.length c2]) D ∧ Below w.heap.size w w'
set_option maxRecDepth 100000 in
set_option maxHeartbeats 4000000 in
theorem drawDfaRestsD_any (bs : List Nat) (v : Value) (w : World) (hb : Bytes 0 w v bs) (hlen : bs.length ≤ 100000000) :
  Calls Try.prog 22 #[v] w fun e w' => RDraw w e w' := by
 have hS0 := (St.start w).alloc _ rfl #[.slice none 0 0, .slice none 0 0] 27
 have Hb := Lib.hid hb
 have HhS0 := Lib.hid hS0; clear hS0
 clear hb
 go_enter Try.func22, Try.ntmps22
 go_wp2_with fail
 refine (openJ_any bs v _ (Hb.out.below HhS0.out.bel) hlen).mono ?_
 rintro e w1 ⟨vb, bs', hl', hB, rfl, hS'⟩
 obtain ⟨b, hbb⟩ : ∃ b, b = (w.alloc (.cells #[.slice none 0 0, .slice none 0 0] 27)).heap.size := ⟨_, rfl⟩
 rw [← hbb] at hS'
 rw [← hbb]
 have hB1 := hB w Hb.out
 have HB := Lib.hid hB1
 have HS1 := Lib.hid ((HhS0.out.cat hS').pick [1, 0] (by decide))
 have Hhbb := Lib.hid hbb; clear hbb
 clear hS' hB hB1
 go_wp2_with fail
 refine (l20Dfa_any bs' vb b 0 12 w w1 _ HB.out hl' (by omega) (by omega) HS1.out).mono ?_
 rintro e w2 ⟨D, pn, a1, a2, c1, c2, vs, E, hpn, hsm, rfl, hh, hS2⟩
 have HS := Lib.hid hS2
 clear hS2
 have f0 := HS.out.fr 1 0 rfl
 have k0 := HS.out.cell (v := .slice none 0 0) 1 0 rfl rfl
 have f1 := HS.out.fr 1 1 rfl
 have k1 := HS.out.cell (v := .slice none 0 0) 1 1 rfl rfl
 have HS3 := Lib.hid ((HS.out.set 1 rfl 0 (.slice a1 D.next.length c1)).set 1 rfl 1 (.slice a2 D.ends.length c2))
 have q0 := HS3.out.cell (v := .slice a1 D.next.length c1) 1 0 rfl rfl
 have q1 := HS3.out.cell (v := .slice a2 D.ends.length c2) 1 1 rfl rfl
 go_wp2
 refine bodyPost_ret (v := .agg #[.slice a1 D.next.length c1, .slice a2 D.ends.length c2]) (by simp [results, Try.results22, go_sem, q0, q1]) rfl ?_
 exact ⟨D, a1, a2, c1, c2, hsm, rfl, hh.r HS3.out 2 rfl, HS3.out.bel⟩
end Go.Proofs.Ytalbofnhcpjilaa
namespace Go.Proofs.Ytalbofnhcpjilaa
open Go.RowKit
def subV (v u : Nat) : Prop := ∀ s, v.testBit s = true → u.testBit s = true
theorem subV_refl (v : Nat) : subV v v := fun _ h => h
theorem subV_trans {a b c : Nat} (h : subV a b) (h' : subV b c) : subV a c := fun s hs => h' s (h s hs)
theorem subV_eq {a b : Nat} (h : subV a b) (h' : subV b a) : a = b := by
 apply Nat.eq_of_testBit_eq
 intro i
 have h1 := h i
 have h2 := h' i
 cases ha : a.testBit i <;> cases hb : b.testBit i <;> simp_all
theorem subV_adj (v s : Nat) : subV v (adj v s) := fun t ht => by rw [has_adj, ht]; rfl
theorem clMove_sub (v : Nat) (m : Int × Int × Int) : subV v (clMove v m) := by
 unfold clMove
 split
 ·exact subV_adj _ _
 ·exact subV_refl _
theorem clFold_sub : ∀ (ms : List (Int × Int × Int)) (v : Nat), subV v (ms.foldl clMove v)
 | [], v => subV_refl v
 | m :: ms, v => subV_trans (clMove_sub v m) (clFold_sub ms _)
theorem clIt_sub (ms : List (Int × Int × Int)) (v : Nat) : ∀ k, subV v (clIt ms v k)
 | 0 => subV_refl v
 | k + 1 => subV_trans (clIt_sub ms v k) (clFold_sub ms _)
def closedV (ms : List (Int × Int × Int)) (u : Nat) : Prop := ∀ m ∈ ms, m.2.1 = -1 → u.testBit m.1.toNat = true → u.testBit m.2.2.toNat = true
theorem clMove_in {ms : List (Int × Int × Int)} {u v : Nat} (hu : closedV ms u) (h : subV v u) {m : Int × Int × Int} (hm : m ∈ ms) : subV (clMove v m) u := by
 unfold clMove
 split
 ·rename_i hc
  simp only [Bool.and_eq_true, decide_eq_true_eq] at hc
  intro s hs
  rw [has_adj, Bool.or_eq_true] at hs
  rcases hs with hs | hs
  ·exact h s hs
  ·rw [← of_decide_eq_true hs]
   exact hu m hm hc.1.1 (h _ hc.1.2)
 ·exact h
theorem clFold_in {ms : List (Int × Int × Int)} {u : Nat} (hu : closedV ms u) : ∀ (l : List (Int × Int × Int)) (v : Nat), (∀ m ∈ l, m ∈ ms) → subV v u → subV (l.foldl clMove v) u
 | [], _, _, h => h
 | m :: l, v, hl, h => clFold_in hu l _ (fun x hx => hl x (by simp [hx])) (clMove_in hu h (hl m (by simp)))
theorem clIt_in {ms : List (Int × Int × Int)} {u v : Nat} (hu : closedV ms u) (h : subV v u) : ∀ k, subV (clIt ms v k) u
 | 0 => h
 | k + 1 => clFold_in hu ms _ (fun _ hx => hx) (clIt_in hu h k)
theorem clV_fix {n : Nat} {ms : List (Int × Int × Int)} (h : mvIn n ms) (v : Nat) : clPass ms (clV n ms v) = clV n ms v := by
 rcases clIt_drop h v n with h1 | h1
 ·exact h1
 ·have := clr_le n v
  omega
theorem fold_fix : ∀ {l : List (Int × Int × Int)} {v : Nat}, l.foldl clMove v = v → ∀ m ∈ l, clMove v m = v
 | [], _, _, _, hm => by cases hm
 | m :: l, v, h, x, hx => by
  have h1 : clMove v m = v := subV_eq (by have := clFold_sub l (clMove v m); rw [List.foldl_cons] at h; rw [h] at this; exact this) (clMove_sub v m)
  rw [List.foldl_cons, h1] at h
  rcases List.mem_cons.1 hx with rfl | hx
  ·exact h1
  ·exact fold_fix h x hx
theorem clV_closed {n : Nat} {ms : List (Int × Int × Int)} (h : mvIn n ms) (v : Nat) : closedV ms (clV n ms v) := by
 intro m hm hl hf
 have h1 := fold_fix (clV_fix h v) m hm
 cases ht : (clV n ms v).testBit m.2.2.toNat with
 | true => rfl
 | false =>
  exfalso
  unfold clMove at h1
  rw [if_pos (by simp [hl, hf, ht])] at h1
  have := has_adj (clV n ms v) m.2.2.toNat m.2.2.toNat
  rw [h1, ht] at this
  simp at this
theorem clV_sub (n : Nat) (ms : List (Int × Int × Int)) (v : Nat) : subV v (clV n ms v) := clIt_sub ms v n
theorem clV_in {n : Nat} {ms : List (Int × Int × Int)} {u v : Nat} (hu : closedV ms u) (h : subV v u) : subV (clV n ms v) u := clIt_in hu h n
theorem clV_idem {n : Nat} {ms : List (Int × Int × Int)} {u : Nat} (hu : closedV ms u) : clV n ms u = u := subV_eq (clV_in hu (subV_refl u)) (clV_sub n ms u)
theorem setV_has : ∀ (l : List Int) (v t : Nat), (l.foldl (fun v s => adj v s.toNat) v).testBit t = (v.testBit t || l.any fun s => decide (s.toNat = t))
 | [], v, t => by simp
 | s :: l, v, t => by
  rw [List.foldl_cons, setV_has l, has_adj, List.any_cons, Bool.or_assoc]
theorem setV_bit (l : List Int) (t : Nat) : (setV l).testBit t = l.any fun s => decide (s.toNat = t) := by
 unfold setV
 rw [setV_has]
 simp
theorem setV_mem {l : List Int} {x : Int} (hx : x ∈ l) : (setV l).testBit x.toNat = true := by
 rw [setV_bit, List.any_eq_true]
 exact ⟨x, hx, by simp⟩
section
variable {α : Type} [DecidableEq α] {nx : α → Nat → α} {a : α} {en : α → Bool} {K : Nat}
theorem placeOf_at {F : List α} {x : α} (h : x ∈ F) (d : α) : F.getD (placeOf F x) d = x := by
 have h1 := placeOf_lt h
 rw [getD_at h1]
 exact List.getElem_idxOf h1
theorem run_num (hK : (bat nx a K).met.length ≤ K) : ∀ (w : List Nat), isW w → ∀ x ∈ (bat nx a K).met, w.foldl nx x ∈ (bat nx a K).met ∧ runD (numDfa nx en (bat nx a K).met) (placeOf (bat nx a K).met x : Nat) w = (placeOf (bat nx a K).met (w.foldl nx x) : Nat)
 | [], _, x, hx => ⟨hx, rfl⟩
 | c :: w, hw, x, hx => by
  have hc : c < 3 := hw c (by simp)
  have hx2 := bat_closed hK hx hc
  have h1 := placeOf_lt hx
  obtain ⟨h2, h3⟩ := run_num hK w (fun b hb => hw b (by simp [hb])) (nx x c) hx2
  refine ⟨h2, ?_⟩
  unfold runD at *
  rw [List.foldl_cons, List.foldl_cons, ← h3, dnx_num (a := a) (by omega) (by omega) hc]
  unfold numNext
  rw [Int.toNat_natCast, placeOf_at hx]
theorem accD_num (hK : (bat nx a K).met.length ≤ K) {w : List Nat} (hw : isW w) : accD (numDfa nx en (bat nx a K).met) w = en (w.foldl nx a) := by
 have h0 := bat_mem_first (nx := nx) (a := a) K
 obtain ⟨h1, h2⟩ := run_num (en := en) hK w hw a h0
 have h3 : placeOf (bat nx a K).met a = 0 := by
  have hp := bat_pos (nx := nx) (a := a) K
  have hf := bat_first (nx := nx) (a := a) K
  have hn := (bat_good (nx := nx) (a := a) K).1
  rw [getD_at hp] at hf
  have := List.Nodup.idxOf_getElem hn 0 hp
  rw [hf] at this
  exact this
 rw [h3] at h2
 unfold accD
 rw [show ((0 : Nat) : Int) = 0 from rfl] at h2
 rw [h2, den_num (placeOf_lt h1)]
 congr 1
 exact List.getElem_idxOf _
end
def Qs (lo : Nat) (w : World) (e : TypeId) (v : Value) (xs : List Value) : Prop :=
 ∃ g off cap cur, v = .slice (some ⟨g, off, none⟩) xs.length cap ∧ lo ≤ g ∧ w.heap[g]? = some (.cells cur e (0, 0)) ∧ xs.length ≤ cap ∧ cap ≤ maxLen ∧ off + cap ≤ cur.size ∧ ∀ j, j < xs.length → cur[off + j]? = xs[j]?
theorem Qs.obj {lo : Nat} {w : World} {e : TypeId} {v : Value} {xs : List Value} (h : Qs lo w e v xs) {k : Nat} (hk : v.ownBlock = some k) : ∃ cur, w.heap[k]? = some (.cells cur e (0, 0)) := by
 obtain ⟨g, off, cap, cur, rfl, _, hg, _⟩ := h
 have : g = k := by simpa [Value.ownBlock] using hk
 subst this
 exact ⟨cur, hg⟩
theorem Qs.kept {lo : Nat} {w w' : World} {e : TypeId} {v : Value} {xs : List Value} (h : Qs lo w e v xs) (hk : ∀ k, v.ownBlock = some k → w'.heap[k]? = w.heap[k]?) : Qs lo w' e v xs := by
 obtain ⟨g, off, cap, cur, rfl, h1, hg, h2⟩ := h
 exact ⟨g, off, cap, cur, rfl, h1, (hk g rfl).trans hg, h2⟩
theorem Qs.grown {lo : Nat} {w w' : World} {e : TypeId} {v : Value} {xs : List Value} {row : Option Nat} (h : Qs lo w e v xs) (hg : w.grownBy w' row) (ha : Apart w row e) : Qs lo w' e v xs :=
 h.kept fun k hk => by
  obtain ⟨cur, hc⟩ := h.obj hk
  exact hg.block k (Array.getElem?_eq_some_iff.1 hc).1 fun hr => ha k hr.symm _ _ hc
theorem Qs.below {lo : Nat} {w w' : World} {e : TypeId} {v : Value} {xs : List Value} (h : Qs lo w e v xs) (hb : Below w.heap.size w w') : Qs lo w' e v xs :=
 h.kept fun k hk => by
  obtain ⟨cur, hc⟩ := h.obj hk
  exact hb.block k (Array.getElem?_eq_some_iff.1 hc).1
theorem Qs.form {lo : Nat} {w : World} {e : TypeId} {v : Value} {xs : List Value} (h : Qs lo w e v xs) : ∃ g off cap, v = .slice (some ⟨g, off, none⟩) xs.length cap ∧ lo ≤ g ∧ g < w.heap.size ∧ xs.length ≤ cap ∧ cap ≤ 9223372036854775807 ∧ ∀ j, j < xs.length → w.cell? ⟨g, off + j, none⟩ = xs[j]? := by
 obtain ⟨g, off, cap, cur, rfl, h1, hg, h2, h3, h4, h5⟩ := h
 exact ⟨g, off, cap, rfl, h1, (Array.getElem?_eq_some_iff.1 hg).1, h2, h3, fun j hj => (cell_of_row w g _ cur e (0, 0) hg).trans (h5 j hj)⟩
theorem Qs.lo {lo : Nat} {w : World} {e : TypeId} {v : Value} {xs : List Value} (h : Qs lo w e v xs) {k : Nat} (hk : v.ownBlock = some k) : lo ≤ k := by
 obtain ⟨g, off, cap, cur, rfl, h1, _⟩ := h
 have : g = k := by simpa [Value.ownBlock] using hk
 omega
def wdB (l : List Nat) : ByteArray := ⟨(l.map fun c => UInt8.ofNat (97 + c)).toArray⟩
abbrev wdCells (ws : List (List Nat)) : List Value := ws.map fun l => Value.string (wdB l)
theorem wdB_size (l : List Nat) : (wdB l).size = l.length := by simp [wdB, ByteArray.size]
def knows (n : Nat) (s : Bs Int) (cs : List Value) : Prop := cs.length = n ∧ ∀ j, j < s.met.length → cs[(s.met.getD j 0).toNat]? = some (.string (wdB (s.words.getD j [])))
def marks (n : Nat) (s : Bs Int) (bs : List Value) : Prop := bs.length = n ∧ ∀ x : Nat, x < n → bs[x]? = some (.bool (decide ((x : Int) ∈ s.met)))
structure FwW (d : DfaD) (W0 bw bs : Nat) (bx : Array Value) (w : World) (s : Bs Int) (k : Nat) (vq : Value) : Prop where
 wo : ∃ cs, w.ownsRow W0 9 1 (.slice (some ⟨bw, 0, none⟩) d.next.length d.next.length) d.next.length cs ∧ knows d.next.length s cs
 se : ∃ ms, w.ownsRow W0 4 1 (.slice (some ⟨bs, 0, none⟩) d.next.length d.next.length) d.next.length ms ∧ marks d.next.length s ms
 qu : Qs W0 w 3 vq ((s.met.drop k).map (Value.int .i64))
 bx : Bx w W0 bx 27
theorem FwW.below {d : DfaD} {W0 bw bs k : Nat} {bx : Array Value} {w w' : World} {s : Bs Int} {vq : Value} (h : FwW d W0 bw bs bx w s k vq) (hb : Below w.heap.size w w') : FwW d W0 bw bs bx w' s k vq := by
 obtain ⟨⟨cs, h1, h2⟩, ⟨ms, h3, h4⟩, h5, h6⟩ := h
 exact ⟨⟨cs, (Own.below (own_of_row h1) hb).1, h2⟩, ⟨ms, (Own.below (own_of_row h3) hb).1, h4⟩, h5.below hb, h6.below hb h6.lt⟩
theorem FwW.cells {d : DfaD} {W0 bw bs k : Nat} {bx : Array Value} {w : World} {s : Bs Int} {vq : Value} (h : FwW d W0 bw bs bx w s k vq) {x : Nat} (hxn : x < d.next.length) : (∃ u, w.cell? ⟨bw, x, none⟩ = some u) ∧ w.frozen? ⟨bw, x, none⟩ = false ∧ w.frozen? ⟨bs, x, none⟩ = false := by
 obtain ⟨⟨cs, h1, h2⟩, ⟨ms, h3, h4⟩, _⟩ := h
 exact ⟨row_some h1 x (by omega), h1.frozenAt x, h3.frozenAt x⟩
theorem FwW.lt {d : DfaD} {W0 bw bs k : Nat} {bx : Array Value} {w : World} {s : Bs Int} {vq : Value} (h : FwW d W0 bw bs bx w s k vq) : W0 ≤ bw ∧ W0 ≤ bs ∧ bw < w.heap.size ∧ bs < w.heap.size ∧ bw ≠ bs ∧ W0 ≠ bw ∧ W0 ≠ bs := by
 obtain ⟨⟨cs, h1, h2⟩, ⟨ms, h3, h4⟩, _, h6⟩ := h
 refine ⟨(h1.lt bw rfl).1, (h3.lt bs rfl).1, (h1.lt bw rfl).2, (h3.lt bs rfl).2, ?_, ?_, ?_⟩
 ·intro e
  obtain ⟨cu, hcu⟩ := ownsRow_obj (k := bs) h3 rfl
  exact ownsRow_apart (e' := 4) h1 (by decide) bs (by rw [e]; rfl) _ _ hcu
 ·intro e
  exact ownsRow_apart (e' := 27) h1 (by decide) bw rfl _ _ (by rw [← e]; exact h6)
 ·intro e
  exact ownsRow_apart (e' := 27) h3 (by decide) bs rfl _ _ (by rw [← e]; exact h6)
theorem FwW.q2 {d : DfaD} {W0 bw bs k : Nat} {bx : Array Value} {w w4 w5 : World} {s : Bs Int} {vq : Value} (h : FwW d W0 bw bs bx w s k vq) (x : Nat) {u v : Value} (_ : bw ≠ bs)
  (h5 : w5 = (w4.setCell ⟨bw, x, none⟩ u).drew) (h4 : w4 = w.setCell ⟨bs, x, none⟩ v) : Qs W0 w5 3 vq ((s.met.drop k).map (Value.int .i64)) := by
 obtain ⟨⟨cs, h1, h2⟩, ⟨ms, h3, h4'⟩, hq, h6⟩ := h
 subst h4
 subst h5
 have a1 : (w.setCell ⟨bs, x, none⟩ v).ownsRow W0 9 1 (.slice (some ⟨bw, 0, none⟩) d.next.length d.next.length) d.next.length cs := ownsRow_grown h1 (grown_set w bs x _) (fun k hk => by cases hk; exact ownsRow_apart (e' := 9) h3 (by decide) bs rfl)
 exact ((hq.grown (grown_set w bs x v) (fun k hk => by cases hk; exact ownsRow_apart (e' := 3) h3 (by decide) bs rfl)).grown (grown_set (w.setCell ⟨bs, x, none⟩ v) bw x u) (fun k hk => by cases hk; exact ownsRow_apart (e' := 3) a1 (by decide) bw rfl)).below (Below.refl _ _).drew
end Go.Proofs.Ytalbofnhcpjilaa
namespace Go.Proofs.Ytalbofnhcpjilaa
open Go.RowKit Go.Maps
def hitK (K : Nat) (a b : DfaD) : Option (List Nat) := firstHit (endsF (fun x y => x != y) a b) (bat (stepP a b) (0, 0) K)
def mostP : Nat := 1600
def hitP (a b : DfaD) : Option (List Nat) := hitK mostP a b
end Go.Proofs.Ytalbofnhcpjilaa
namespace Go.Proofs.Ytalbofnhcpjilaa
open Go.RowKit
section
variable {α β : Type} [DecidableEq α] [DecidableEq β] {nx : α → Nat → α} {nx' : β → Nat → β} {a : α} {f : α → β}
theorem bat_words (k : Nat) : ∀ i, i < (bat nx a k).met.length → ((bat nx a k).words.getD i []).foldl nx a = (bat nx a k).met.getD i a ∧ isW ((bat nx a k).words.getD i []) := by
 have h := bat_ind (nx := nx) (a := a) (fun s => s.words.length = s.met.length ∧ ∀ i, i < s.met.length → (s.words.getD i []).foldl nx a = s.met.getD i a ∧ isW (s.words.getD i [])) ⟨rfl, fun i hi => by
  obtain rfl : i = 0 := by simpa using hi
  exact ⟨rfl, fun c hc => by simp at hc⟩⟩ (fun s k hk t c hc hs ht => by
   unfold bvisit
   split
   ·exact ht
   ·refine ⟨by simp [ht.1], fun i hi => ?_⟩
    simp only [List.length_append, List.length_singleton] at hi
    by_cases hit : i < t.met.length
    ·have h1 := ht.2 i hit
     have e1 : (t.words ++ [s.words.getD k [] ++ [c]]).getD i [] = t.words.getD i [] := by
      simp only [List.getD_eq_getElem?_getD]; rw [List.getElem?_append_left (by rw [ht.1]; exact hit)]
     have e2 : (t.met ++ [nx (s.met.getD k a) c]).getD i a = t.met.getD i a := by
      simp only [List.getD_eq_getElem?_getD]; rw [List.getElem?_append_left hit]
     show ((t.words ++ [s.words.getD k [] ++ [c]]).getD i []).foldl nx a = (t.met ++ [nx (s.met.getD k a) c]).getD i a ∧ isW ((t.words ++ [s.words.getD k [] ++ [c]]).getD i [])
     rw [e1, e2]
     exact h1
    ·obtain rfl : i = t.met.length := by omega
     have h2 := hs.2 k hk
     have e1 : (t.words ++ [s.words.getD k [] ++ [c]]).getD t.met.length [] = s.words.getD k [] ++ [c] := by simp [← ht.1]
     have e2 : (t.met ++ [nx (s.met.getD k a) c]).getD t.met.length a = nx (s.met.getD k a) c := by simp
     show ((t.words ++ [s.words.getD k [] ++ [c]]).getD t.met.length []).foldl nx a = (t.met ++ [nx (s.met.getD k a) c]).getD t.met.length a ∧ isW ((t.words ++ [s.words.getD k [] ++ [c]]).getD t.met.length [])
     rw [e1, e2, List.foldl_append, h2.1]
     exact ⟨rfl, isW_append h2.2 (isW_one hc)⟩) k
 exact h.2
end
theorem firstHit_some {α : Type} {en : α → Bool} {s : Bs α} {w : List Nat} {d : α} (hl : s.words.length = s.met.length) (h : firstHit en s = some w) : ∃ i, i < s.met.length ∧ s.words.getD i [] = w ∧ en (s.met.getD i d) = true := by
 unfold firstHit at h
 rw [Option.map_eq_some_iff] at h
 obtain ⟨p, hp, rfl⟩ := h
 obtain ⟨h1, i, hi, hpi, -⟩ := List.find?_eq_some_iff_getElem.1 hp
 rw [List.length_zip] at hi
 have him : i < s.met.length := by omega
 have hiw : i < s.words.length := by omega
 rw [List.getElem_zip] at hpi
 refine ⟨i, him, ?_, ?_⟩
 ·rw [getD_at hiw, ← hpi]
 ·rw [getD_at him]
  rw [← hpi] at h1
  exact h1
theorem stepP_fold (a b : DfaD) : ∀ (w : List Nat) (s t : Int), w.foldl (stepP a b) (s, t) = (runD a s w, runD b t w)
 | [], _, _ => rfl
 | c :: w, s, t => stepP_fold a b w (dnx a s c) (dnx b t c)
theorem hit_says {K : Nat} {a b : DfaD} {w : List Nat} (h : hitK K a b = some w) : isW w ∧ accD a w ≠ accD b w := by
 have hg := (bat_good (nx := stepP a b) (a := ((0, 0) : Int × Int)) K).2.1
 obtain ⟨i, hi, hw, he⟩ := firstHit_some (d := ((0, 0) : Int × Int)) hg h
 obtain ⟨h1, h2⟩ := bat_words (nx := stepP a b) (a := ((0, 0) : Int × Int)) K i hi
 rw [hw] at h1 h2
 rw [stepP_fold] at h1
 refine ⟨h2, fun e => ?_⟩
 unfold endsF at he
 rw [← h1] at he
 unfold accD den at e
 simp only at he
 rw [e] at he
 simp at he
theorem wdB_at {l : List Nat} {i : Nat} (hi : i < l.length) (hw : isW l) (h : i < (wdB l).size) : (((wdB l)[i]'h).toNat : Int) = 97 + (l.getD i 0 : Nat) := by
 have hc : l.getD i 0 < 3 := hw _ (memD hi)
 have e : (wdB l)[i]'h = UInt8.ofNat (97 + l.getD i 0) := by
  show (wdB l).data[i] = _
  simp [wdB, hi]
 rw [e, UInt8.toNat_ofNat']
 omega
set_option maxHeartbeats 800000 in
theorem letter_any (l : List Nat) (i : Nat) (hi : i < l.length) (hw : isW l) (w : World) : Calls Try.prog 106 #[.string (wdB l), .int .i64 i] w fun e w' => e = .returned (.int .i64 (l.getD i 0 : Nat)) ∧ w = w' := by
 have hc : l.getD i 0 < 3 := hw _ (memD hi)
 have hs : (wdB l).size = l.length := wdB_size l
 have hat := fun h => wdB_at hi hw h
 obtain ⟨c, hcc⟩ : ∃ c, c = l.getD i 0 := ⟨_, rfl⟩
 rw [← hcc] at hc hat
 rw [← hcc]
 have hrun : ∀ w' : World, (Instr.index 9 (.string (wdB l)) (.int .i64 (i : Int))).run Try.prog w' = .ok (.int .u8 (97 + (c : Int))) w' := fun w' => by
  rw [run_index_string w' 9 (wdB l) .i64 i Try.underlying9, dif_pos (by omega)]
  congr 2
  exact hat _
 have hw8 : IntKind.u8.wrap (97 + (c : Int) - 97) = (c : Int) := by
  obtain rfl | rfl | rfl : c = 0 ∨ c = 1 ∨ c = 2 := by omega
  all_goals rfl
 have hw9 : IntKind.i64.wrap (c : Int) = (c : Int) := IntWalk.i64_in _ (by omega)
 have Hhcc := Lib.hid hcc; clear hcc
 clear hat
 go_enter Try.func106, Try.ntmps106
 go_wp2
 go_ret
 exact ⟨rfl, rfl⟩
theorem runD_snoc (d : DfaD) (s : Int) {l : List Nat} {k : Nat} (hk : k < l.length) : runD d s (l.take (k + 1)) = dnx d (runD d s (l.take k)) (l.getD k 0) := by
 rw [List.take_succ_eq_append_getElem hk, runD_append]
 simp [runD, hk]
set_option maxHeartbeats 1600000 in
theorem runD_any (d : DfaD) (q : Nat) (l : List Nat) (v : Value) (w : World) (hd : dfaOk d.next d.ends = true) (hq : q < d.next.length) (hw : isW l) (hl : l.length ≤ 1000000) (h : DfaR 0 w v d) :
  Calls Try.prog 126 #[v, .int .i64 q, .string (wdB l)] w fun e w' => e = .returned (.int .i64 (runD d q l)) ∧ Below w.heap.size w w' := by
 obtain ⟨v1, v2, rfl, g1, g2⟩ := h
 have hlen := dfaOk_len hd
 have hS0 := (St.start w).alloc _ rfl #[v1, v2] 27
 have hs : (wdB l).size = l.length := wdB_size l
 have G1 := Lib.hid g1
 have Hhd := Lib.hid hd; clear hd
 have Hhw := Lib.hid hw; clear hw
 have HhS0 := Lib.hid hS0; clear hS0
 clear g1 g2
 go_enter Try.func126, Try.ntmps126
 go_wp2
 go_loopw [1, 10] (fun fr i wr => ∃ k p : Nat, fr = .int .i64 p ∧ i = .int .i64 k ∧ k ≤ l.length ∧ p < d.next.length ∧ (p : Int) = runD d q (l.take k) ∧ St w wr [Ent.box w.heap.size #[v1, v2] 27]) (fun _ i _ => l.length - (intOf i).toNat)
 case atStart => exact ⟨0, q, rfl, rfl, Nat.zero_le _, hq, rfl, HhS0.out⟩
 case round =>
  obtain ⟨k, p, rfl, rfl, hk, hp, hrun, hS⟩ := hrel
  by_cases hlt : k < l.length
  ·have hc : l.getD k 0 < 3 := Hhw.out _ (memD hlt)
   obtain ⟨b1, o1, cap1, z, t, s, rfl, hc1, hc2, k1, hs1, hs2, k2, hb1, hb2⟩ := dfa_cell (G1.out.below hS.bel) Hhd.out hp hc
   have e0 := hS.cell (v := .slice (some ⟨b1, o1, none⟩) d.next.length cap1) 0 0 rfl rfl
   have hnx := (dfaOk_row Hhd.out hp).2 _ hc
   have hsn := runD_snoc d q hlt
   rw [← hrun] at hsn
   obtain ⟨x, hx⟩ : ∃ x, x = (d.next.getD p []).getD (l.getD k 0) 0 := ⟨_, rfl⟩
   have hdx : dnx d (p : Int) (l.getD k 0) = x := by rw [hx]; rfl
   rw [hdx] at hsn
   rw [← hx] at k2 hnx
   obtain ⟨x0, x1⟩ := hnx
   obtain ⟨x, rfl⟩ := Int.eq_ofNat_of_zero_le x0
   have hlet := fun (w : World) => letter_any l k hlt Hhw.out w
   obtain ⟨c, hcc⟩ : ∃ c, c = l.getD k 0 := ⟨_, rfl⟩
   rw [← hcc] at hc k2 hlet
   have hp2 : (p : Int) < d.next.length := by omega
   have hc3 : (c : Int) < 3 := by omega
   have hkl : (k : Int) < l.length := by omega
   have Hlet := Lib.hid hlet
   have HhS := Lib.hid hS; clear hS
   have Hhx := Lib.hid hx; clear hx
   have Hhdx := Lib.hid hdx; clear hdx
   have Hhsn := Lib.hid hsn; clear hsn
   have Hhcc := Lib.hid hcc; clear hcc
   have Hhrun := Lib.hid hrun; clear hrun
   clear hlet
   go_wp2
   go_quiet (((go_at_call 106; with_reducible exact quiet_eq (Hlet.out _))))
   go_wp2
   go_roundw
   case rel => exact ⟨k + 1, x, rfl, by go_num, by omega, by omega, Hhsn.out.symm, HhS.out.drewN _⟩
   case measure => simp [intOf]; omega
  ·obtain rfl : k = l.length := by omega
   rw [List.take_length] at hrun
   have HhS := Lib.hid hS; clear hS
   have Hhrun := Lib.hid hrun; clear hrun
   go_wp2
   go_ret
   exact ⟨ret_int Hhrun.out, HhS.out.bel⟩
set_option maxHeartbeats 1600000 in
theorem accepts_any (d : DfaD) (l : List Nat) (v : Value) (w : World) (hd : dfaOk d.next d.ends = true) (hw : isW l) (hl : l.length ≤ 1000000) (h : DfaR 0 w v d) :
  Calls Try.prog 75 #[v, .string (wdB l)] w fun e w' => e = .returned (.bool (accD d l)) ∧ Below w.heap.size w w' := by
 have HD := Lib.hid h
 obtain ⟨v1, v2, rfl, g1, g2⟩ := h
 obtain ⟨h1, h2, h3⟩ := dfaOk_len hd
 obtain ⟨q, hq⟩ := Int.eq_ofNat_of_zero_le (runD_in hd hw (s := 0) (by omega) (by omega)).1
 have hqn : q < d.ends.length := by have := (runD_in hd hw (s := 0) (by omega) (by omega)).2; omega
 have hS0 := (St.start w).alloc _ rfl #[v1, v2] 27
 obtain ⟨b2, o2, cap2, rfl, hc1, hc2, k2, hb2⟩ := bool_cell g2 hqn
 have hacc : accD d l = d.ends.getD q false := by
  unfold accD den
  rw [hq, Int.toNat_natCast]
 have e0 := hS0.cell (v := v1) 0 0 rfl rfl
 have e1 := hS0.cell (v := .slice (some ⟨b2, o2, none⟩) d.ends.length cap2) 0 1 rfl rfl
 have hl0 := (hS0.boxlt 0 rfl).2
 have hk2 := (bcell hS0.bel b2 (o2 + q) hb2).trans k2
 have hb2' := Nat.lt_of_lt_of_le hb2 hS0.size
 obtain ⟨W, hW⟩ : ∃ W, W = w.alloc (.cells #[v1, .slice (some ⟨b2, o2, none⟩) d.ends.length cap2] 27) := ⟨_, rfl⟩
 rw [← hW] at e0 e1 hl0 hk2 hb2' hS0
 have hrun : ∀ w' : World, Below w.heap.size w w' → Calls Try.prog 126 #[.agg #[v1, .slice (some ⟨b2, o2, none⟩) d.ends.length cap2], .int .i64 0, .string (wdB l)] w' fun e w2 => e = .returned (.int .i64 (runD d 0 l)) ∧ Below w'.heap.size w' w2 := fun w' hb => runD_any d 0 l (.agg #[v1, .slice (some ⟨b2, o2, none⟩) d.ends.length cap2]) w' hd (by omega) hw hl (HD.out.below hb)
 rw [hq] at hrun
 have Hrun := Lib.hid hrun
 have Hk := Lib.hid (fun (w' : World) (h : Below W.drew.heap.size W.drew w') => (show w'.cell? ⟨w.heap.size, 0, none⟩ = some v1 ∧ w'.cell? ⟨w.heap.size, 1, none⟩ = some (.slice (some ⟨b2, o2, none⟩) d.ends.length cap2) ∧ w'.cell? ⟨b2, o2 + q, none⟩ = some (.bool (d.ends.getD q false)) from ⟨(bcell h _ _ hl0).trans e0, (bcell h _ _ hl0).trans e1, (bcell h _ _ hb2').trans hk2⟩))
 obtain ⟨r, hr⟩ : ∃ r, r = d.ends.getD q false := ⟨_, rfl⟩
 rw [← hr] at hacc hk2 Hk
 rw [hacc]
 have hqi : (q : Int) < d.ends.length := by omega
 have HBd := Lib.hid hS0.bel.drew
 have HhS0 := Lib.hid hS0; clear hS0
 have Hhd := Lib.hid hd; clear hd
 have Hhw := Lib.hid hw; clear hw
 have Hhq := Lib.hid hq; clear hq
 have Hhr := Lib.hid hr; clear hr
 have Hhacc := Lib.hid hacc; clear hacc
 have HW := Lib.hid hW
 clear hW g1 g2 k2 hrun h3
 go_enter Try.func75, Try.ntmps75
 go_wp2_with fail
 rw [← HW.out]
 go_region_held3 (fun w' => w'.cell? ⟨w.heap.size, 0, none⟩ = some v1 ∧ w'.cell? ⟨w.heap.size, 1, none⟩ = some (.slice (some ⟨b2, o2, none⟩) d.ends.length cap2) ∧ w'.cell? ⟨b2, o2 + q, none⟩ = some (.bool r))
  (first | go_keep | exact Hk.out _ hq0)
  (first
   | (go_at_call 126; (with_reducible refine (Hrun.out _ HBd.out).mono ?_); rintro e u0 ⟨rfl, hq0⟩))
 go_wp2
 go_ret
 exact ⟨rfl, HBd.out.trans (hq0.mono HBd.out.size)⟩
def txB (l : List Nat) : ByteArray := ⟨(l.map UInt8.ofNat).toArray⟩
def isT (l : List Nat) : Prop := ∀ b ∈ l, b < 256
theorem txB_size (l : List Nat) : (txB l).size = l.length := by simp [txB, ByteArray.size]
theorem getD_memT {l : List Nat} {i : Nat} (hi : i < l.length) : l.getD i 0 ∈ l := by
 rw [List.getD_eq_getElem?_getD, List.getElem?_eq_getElem hi]
 exact List.getElem_mem hi
theorem txB_at {l : List Nat} {i : Nat} (hi : i < l.length) (ht : isT l) (h : i < (txB l).size) : (((txB l)[i]'h).toNat : Int) = (l.getD i 0 : Nat) := by
 have hc : l.getD i 0 < 256 := ht _ (getD_memT hi)
 have e : (txB l)[i]'h = UInt8.ofNat (l.getD i 0) := by
  show (txB l).data[i] = _
  simp [txB, hi]
 rw [e, UInt8.toNat_ofNat']
 omega
theorem txB_index {l : List Nat} {i : Nat} (hi : i < l.length) (ht : isT l) (w : World) : (Instr.index 9 (.string (txB l)) (.int .i64 (i : Int))).run Try.prog w = .ok (.int .u8 ((l.getD i 0 : Nat) : Int)) w := by
 have hs : (txB l).size = l.length := txB_size l
 rw [run_index_string w 9 (txB l) .i64 i Try.underlying9, dif_pos (by omega)]
 congr 2
 exact txB_at hi ht _
def okT (l : List Nat) (k : Nat) : Bool := (List.range k).all fun i => inB ((l.getD i 0 : Nat) : Int) 97 99
def wdOk (l : List Nat) : Bool := okT l l.length && decide (l.length ≤ 8)
theorem okT_succ {l : List Nat} {k : Nat} (h : okT l k = true) (h1 : inB ((l.getD k 0 : Nat) : Int) 97 99 = true) : okT l (k + 1) = true := range_snoc h h1
theorem okT_bad {l : List Nat} {k : Nat} (hk : k < l.length) (h1 : inB ((l.getD k 0 : Nat) : Int) 97 99 = false) : wdOk l = false := by
 unfold wdOk okT
 have : ((List.range l.length).all fun i => inB ((l.getD i 0 : Nat) : Int) 97 99) = false := by
  rw [List.all_eq_false]
  exact ⟨k, List.mem_range.2 hk, by rw [h1]; simp⟩
 rw [this]
 rfl
set_option maxHeartbeats 1600000 in
theorem areLetters_any (l : List Nat) (w : World) (ht : isT l) (hl : l.length ≤ 1000000) (r : Bool) (hr : wdOk l = r) :
  Calls Try.prog 125 #[.string (txB l), .int .i64 8] w fun e w' => e = .returned (.bool r) ∧ w = w' := by
 have hs : (txB l).size = l.length := txB_size l
 have Hhr := Lib.hid hr; clear hr
 have Hht := Lib.hid ht; clear ht
 go_enter Try.func125, Try.ntmps125
 go_wp2
 go_loopw [8] (fun i wr => ∃ k : Nat, i = .int .i64 k ∧ k ≤ l.length ∧ okT l k = true ∧ w = wr) (fun i _ => l.length - (intOf i).toNat)
 case atStart => exact ⟨0, rfl, Nat.zero_le _, rfl, rfl⟩
 case round =>
  obtain ⟨k, rfl, hk, hok, rfl⟩ := hrel
  by_cases hlt : k < l.length
  ·have hkl : (k : Int) < l.length := by omega
   have hrun := txB_index hlt Hht.out
   have hb := Hht.out _ (getD_memT hlt)
   obtain ⟨c, hcc⟩ : ∃ c, c = l.getD k 0 := ⟨_, rfl⟩
   rw [← hcc] at hrun hb
   have hw9 : IntKind.i64.wrap (c : Int) = (c : Int) := IntWalk.i64_in _ (by omega)
   have Hhok := Lib.hid hok; clear hok
   have Hhcc := Lib.hid hcc; clear hcc
   cases hin : inB (c : Int) 97 99
   ·have Hhin := Lib.hid hin; clear hin
    go_wp2_with (go_at_call 86; refine (within_any _ _ _ _ _ Hhin.out).mono ?_; rintro e w' ⟨rfl, rfl⟩)
    go_ret
    exact ⟨by rw [← Hhr.out, okT_bad hlt (by rw [← Hhcc.out]; exact Hhin.out)]; rfl, rfl⟩
   ·have Hhin := Lib.hid hin; clear hin
    go_wp2_with (go_at_call 86; refine (within_any _ _ _ _ _ Hhin.out).mono ?_; rintro e w' ⟨rfl, rfl⟩)
    go_roundw
    case rel => exact ⟨k + 1, by go_num, by omega, okT_succ Hhok.out (by rw [← Hhcc.out]; exact Hhin.out), trivial⟩
    case measure => simp [intOf]; omega
  ·obtain rfl : k = l.length := by omega
   have hrr : decide ((l.length : Int) ≤ 8) = r := by
    rw [← Hhr.out]
    unfold wdOk
    rw [hok, Bool.true_and]
    exact decide_eq_decide.2 (by omega)
   have Hhok := Lib.hid hok; clear hok
   have Hhrr := Lib.hid hrr; clear hrr
   go_wp2
   go_ret
   exact ⟨by rw [← Hhrr.out]; rfl, rfl⟩
set_option maxHeartbeats 1600000 in
theorem implWordValid_any (l : List Nat) (w : World) (ht : isT l) (hl : l.length ≤ 1000000) (r : Bool) (hr : wdOk l = r) :
  Calls Try.prog 74 #[.string (txB l)] w fun e w' => e = .returned (.bool r) ∧ w = w' := by
 have Hhr := Lib.hid hr; clear hr
 have Hht := Lib.hid ht; clear ht
 go_enter Try.func74, Try.ntmps74
 go_wp2_with (go_at_call 125; refine (areLetters_any l _ Hht.out hl _ Hhr.out).mono ?_; rintro e w' ⟨rfl, rfl⟩)
 go_ret
 exact ⟨rfl, rfl⟩
set_option maxHeartbeats 1600000 in
theorem specWordValid_any (l : List Nat) (w : World) (ht : isT l) (hl : l.length ≤ 1000000) (r : Bool) (hr : wdOk l = r) :
  Calls Try.prog 30 #[.string (txB l)] w fun e w' => e = .returned (.bool r) ∧ w = w' := by
 have hs : (txB l).size = l.length := txB_size l
 have Hhr := Lib.hid hr; clear hr
 have Hht := Lib.hid ht; clear ht
 go_enter Try.func30, Try.ntmps30
 go_wp2
 go_loopw [3] (fun i wr => ∃ k : Nat, i = .int .i64 k ∧ k ≤ l.length ∧ okT l k = true ∧ w = wr) (fun i _ => l.length - (intOf i).toNat)
 case atStart => exact ⟨0, rfl, Nat.zero_le _, rfl, rfl⟩
 case round =>
  obtain ⟨k, rfl, hk, hok, rfl⟩ := hrel
  by_cases hlt : k < l.length
  ·have hkl : (k : Int) < l.length := by omega
   have hrun := txB_index hlt Hht.out
   have hb := Hht.out _ (getD_memT hlt)
   obtain ⟨c, hcc⟩ : ∃ c, c = l.getD k 0 := ⟨_, rfl⟩
   rw [← hcc] at hrun hb
   have hw9 : IntKind.i64.wrap (c : Int) = (c : Int) := IntWalk.i64_in _ (by omega)
   have Hhok := Lib.hid hok; clear hok
   have Hhcc := Lib.hid hcc; clear hcc
   cases hin : inB (c : Int) 97 99
   ·have Hhin := Lib.hid hin; clear hin
    go_wp2_with (go_at_call 73; refine (l1In_any _ _ _ _ _ Hhin.out).mono ?_; rintro e w' ⟨rfl, rfl⟩)
    go_ret
    exact ⟨by rw [← Hhr.out, okT_bad hlt (by rw [← Hhcc.out]; exact Hhin.out)]; rfl, rfl⟩
   ·have Hhin := Lib.hid hin; clear hin
    go_wp2_with (go_at_call 73; refine (l1In_any _ _ _ _ _ Hhin.out).mono ?_; rintro e w' ⟨rfl, rfl⟩)
    go_roundw
    case rel => exact ⟨k + 1, by go_num, by omega, okT_succ Hhok.out (by rw [← Hhcc.out]; exact Hhin.out), trivial⟩
    case measure => simp [intOf]; omega
  ·obtain rfl : k = l.length := by omega
   have hrr : decide ((l.length : Int) ≤ 8) = r := by
    rw [← Hhr.out]
    unfold wdOk
    rw [hok, Bool.true_and]
    exact decide_eq_decide.2 (by omega)
   have Hhok := Lib.hid hok; clear hok
   have Hhrr := Lib.hid hrr; clear hrr
   go_wp2
   go_ret
   exact ⟨by rw [← Hhrr.out]; rfl, rfl⟩
set_option maxHeartbeats 800000 in
theorem letterT_any (l : List Nat) (i : Nat) (hi : i < l.length) (ht : isT l) (hlo : 97 ≤ l.getD i 0) (w : World) : Calls Try.prog 106 #[.string (txB l), .int .i64 i] w fun e w' => e = .returned (.int .i64 ((l.getD i 0 - 97 : Nat) : Int)) ∧ w = w' := by
 have hb := ht _ (getD_memT hi)
 have hrun := txB_index hi ht
 obtain ⟨c, hcc⟩ : ∃ c, c = l.getD i 0 - 97 := ⟨_, rfl⟩
 have hc2 : ((l.getD i 0 : Nat) : Int) = 97 + (c : Int) := by omega
 rw [hc2] at hrun
 rw [← hcc]
 have hw8 : IntKind.u8.wrap (97 + (c : Int) - 97) = (c : Int) := by
  have : 97 + (c : Int) - 97 = (c : Int) := by omega
  rw [this]
  exact IntWalk.u8_in _ (by omega)
 have hw9 : IntKind.i64.wrap (c : Int) = (c : Int) := IntWalk.i64_in _ (by omega)
 have Hhcc := Lib.hid hcc; clear hcc
 clear hc2 hlo hb
 go_enter Try.func106, Try.ntmps106
 go_wp2
 go_ret
 exact ⟨rfl, rfl⟩
def shF : Nat → Nat
 | 0 => 0
 | k + 1 => shF k + 3 ^ k
theorem pow3_le {k : Nat} (h : k ≤ 9) : 3 ^ k ≤ 19683 := Nat.pow_le_pow_right (by omega) h
theorem shF_le : ∀ k, shF k ≤ 3 ^ k
 | 0 => by decide
 | k + 1 => by
  show shF k + 3 ^ k ≤ 3 ^ (k + 1)
  have := shF_le k
  rw [Nat.pow_succ]
  omega
set_option maxHeartbeats 1600000 in
theorem wordsOf_any (n : Nat) (w : World) (hn : n ≤ 9) : Calls Try.prog 140 #[.int .i64 n] w fun e w' => e = .returned (.int .i64 ((3 ^ n : Nat) : Int)) ∧ w = w' := by
 go_enter Try.func140, Try.ntmps140
 go_wp2
 go_loopw [3, 5] (fun p i wr => ∃ k q : Nat, i = .int .i64 k ∧ p = .int .i64 q ∧ k ≤ n ∧ 3 ^ k = q ∧ w = wr) (fun _ i _ => n - (intOf i).toNat)
 case atStart => exact ⟨0, 1, rfl, rfl, Nat.zero_le _, rfl, rfl⟩
 case round =>
  obtain ⟨k, q, rfl, rfl, hk, hq, rfl⟩ := hrel
  have hq2 := pow3_le (k := k) (by omega)
  rw [hq] at hq2
  by_cases hlt : k < n
  ·have hkl : (k : Int) < n := by omega
   have Hhq := Lib.hid hq; clear hq
   go_wp2
   go_roundw
   case rel => exact ⟨k + 1, q * 3, by go_num, by go_num, by omega, by rw [Nat.pow_succ, Hhq.out], trivial⟩
   case measure => simp [intOf]; omega
  ·obtain rfl : k = n := by omega
   have Hhq := Lib.hid hq; clear hq
   go_wp2
   go_ret
   exact ⟨by rw [Hhq.out]; rfl, rfl⟩
set_option maxHeartbeats 1600000 in
theorem shorter_any (n : Nat) (w : World) (hn : n ≤ 9) : Calls Try.prog 107 #[.int .i64 n] w fun e w' => e = .returned (.int .i64 ((shF n : Nat) : Int)) ∧ w = w' := by
 go_enter Try.func107, Try.ntmps107
 go_wp2
 go_loopw [3, 6] (fun p i wr => ∃ k q : Nat, i = .int .i64 k ∧ p = .int .i64 q ∧ k ≤ n ∧ shF k = q ∧ w = wr) (fun _ i _ => n - (intOf i).toNat)
 case atStart => exact ⟨0, 0, rfl, rfl, Nat.zero_le _, rfl, rfl⟩
 case round =>
  obtain ⟨k, q, rfl, rfl, hk, hq, rfl⟩ := hrel
  have hq2 := pow3_le (k := k) (by omega)
  have hq3 := shF_le k
  rw [hq] at hq3
  obtain ⟨t, hT⟩ : ∃ t, 3 ^ k = t := ⟨_, rfl⟩
  rw [hT] at hq2 hq3
  by_cases hlt : k < n
  ·have hkl : (k : Int) < n := by omega
   have Hhq := Lib.hid hq; clear hq
   have HhT := Lib.hid hT; clear hT
   go_wp2_with (go_at_call 140; refine (wordsOf_any k _ (by omega)).mono ?_; rintro e w' ⟨rfl, rfl⟩; rw [HhT.out])
   go_roundw
   case rel => exact ⟨k + 1, q + t, by go_num, by go_num, by omega, by rw [← Hhq.out, ← HhT.out]; rfl, trivial⟩
   case measure => simp [intOf]; omega
  ·obtain rfl : k = n := by omega
   have Hhq := Lib.hid hq; clear hq
   have HhT := Lib.hid hT; clear hT
   go_wp2
   go_ret
   exact ⟨by rw [Hhq.out]; rfl, rfl⟩
set_option maxHeartbeats 1600000 in
theorem rankAb_any (w : World) : Calls Try.prog 57 #[.string { data := #[97, 98] }] w fun e w' => e = .returned (.int .i64 5) ∧ w = w' := by
 have hab : ({ data := #[97, 98] } : ByteArray) = txB [97, 98] := rfl
 have hab2 : isT [97, 98] := fun b hb => by simp at hb; omega
 have hsz : (txB [97, 98]).size = 2 := rfl
 have l0 := fun w => letterT_any [97, 98] 0 (by decide) hab2 (by decide) w
 have l1 := fun w => letterT_any [97, 98] 1 (by decide) hab2 (by decide) w
 have sh : ∀ w, Calls Try.prog 107 #[.int .i64 2] w fun e w' => e = .returned (.int .i64 4) ∧ w = w' := fun w => shorter_any 2 w (by omega)
 have hv := fun w => implWordValid_any [97, 98] w hab2 (by decide) true rfl
 rw [hab]
 have L0 := Lib.hid l0
 have L1 := Lib.hid l1
 have Sh := Lib.hid sh
 have Hv := Lib.hid hv
 clear l0 l1 sh hab hab2 hv
 go_enter Try.func57, Try.ntmps57
 go_wp2_with (go_at_call 74; refine (Hv.out _).mono ?_; rintro e w' ⟨rfl, rfl⟩)
 go_loopw [3, 10] (fun n i wr => ∃ k q : Nat, i = .int .i64 k ∧ n = .int .i64 q ∧ k ≤ 2 ∧ q ≤ 1 ∧ (k < 2 → q = 0) ∧ (k = 2 → q = 1) ∧ w = wr) (fun _ i _ => 2 - (intOf i).toNat)
 case atStart => exact ⟨0, 0, rfl, rfl, by omega, by omega, fun _ => rfl, fun h => by omega, rfl⟩
 case round =>
  obtain ⟨k, q, rfl, rfl, hk, hq1, hq2, hq3, rfl⟩ := hrel
  obtain rfl | rfl | rfl : k = 0 ∨ k = 1 ∨ k = 2 := by omega
  ·obtain rfl := hq2 (by omega)
   clear hq1 hq2 hq3 hk
   go_wp2_with (go_at_call 106; refine (L0.out _).mono ?_; rintro e w' ⟨rfl, rfl⟩)
   go_roundw
   case rel => exact ⟨1, 0, rfl, rfl, by omega, by omega, fun _ => rfl, fun h => by omega, trivial⟩
   case measure => simp [intOf]
  ·obtain rfl := hq2 (by omega)
   clear hq1 hq2 hq3 hk
   go_wp2_with (go_at_call 106; refine (L1.out _).mono ?_; rintro e w' ⟨rfl, rfl⟩)
   go_roundw
   case rel => exact ⟨2, 1, rfl, rfl, by omega, by omega, fun h => by omega, fun _ => rfl, trivial⟩
   case measure => simp [intOf]
  ·obtain rfl := hq3 rfl
   clear hq1 hq2 hq3 hk
   go_wp2_with (go_at_call 107; refine (Sh.out _).mono ?_; rintro e w' ⟨rfl, rfl⟩)
   go_ret
   exact ⟨rfl, rfl⟩
set_option maxHeartbeats 1600000 in
theorem alive_any (w : World) : Calls Try.prog 21 #[] w fun e w' => e = .returned (.bool true) ∧ w = w' := by
 go_enter Try.func21, Try.ntmps21
 go_wp2_with (go_at_call 57; refine (rankAb_any _).mono ?_; rintro e w' ⟨rfl, rfl⟩)
 go_ret
 exact ⟨rfl, rfl⟩
def zeN : NfaD := ⟨0, [], [], []⟩
theorem nfaR_of {w : World} {n : NfaD} {v1 v2 v3 : Value} (h1 : Moves 0 w v1 n.moves) (h2 : Ints 0 w v2 n.firsts) (h3 : Ints 0 w v3 n.ends) (hs0 : -9223372036854775808 ≤ n.states) (hs1 : n.states ≤ 9223372036854775807) : NfaR 0 w (.agg #[.int .i64 n.states, v1, v2, v3]) n := ⟨v1, v2, v3, rfl, h1, h2, h3, hs0, hs1⟩
inductive Pth (ms : List (Int × Int × Int)) : Int → List Nat → Int → Prop
 | here (s : Int) : Pth ms s [] s
 | eps {s t u : Int} {w : List Nat} : (s, -1, t) ∈ ms → Pth ms t w u → Pth ms s w u
 | step {s t u : Int} {c : Nat} {w : List Nat} : (s, (c : Int), t) ∈ ms → Pth ms t w u → Pth ms s (c :: w) u
theorem Pth.append {ms : List (Int × Int × Int)} {s t u : Int} {x y : List Nat} (h : Pth ms s x t) (h' : Pth ms t y u) : Pth ms s (x ++ y) u := by
 induction h with
 | here s => exact h'
 | eps hm _ ih => exact .eps hm (ih h')
 | step hm _ ih => exact .step hm (ih h')
theorem Pth.mono {ms ns : List (Int × Int × Int)} (hs : ∀ m ∈ ms, m ∈ ns) {s t : Int} {x : List Nat} (h : Pth ms s x t) : Pth ns s x t := by
 induction h with
 | here s => exact .here s
 | eps hm _ ih => exact .eps (hs _ hm) ih
 | step hm _ ih => exact .step (hs _ hm) ih
theorem Pth.map {ms ns : List (Int × Int × Int)} (f : Int → Int) (hs : ∀ m ∈ ms, (f m.1, m.2.1, f m.2.2) ∈ ns ∨ (m.2.1 = -1 ∧ f m.1 = f m.2.2)) {s t : Int} {x : List Nat} (h : Pth ms s x t) : Pth ns (f s) x (f t) := by
 induction h with
 | here s => exact .here _
 | eps hm _ ih =>
  rcases hs _ hm with h | ⟨_, h⟩
  ·exact .eps h ih
  ·exact h ▸ ih
 | step hm _ ih =>
  rcases hs _ hm with h | ⟨h, _⟩
  ·exact .step h ih
  ·simp only at h; omega
theorem Pth.in {ms : List (Int × Int × Int)} {n : Nat} (hm : mvIn n ms) {s t : Int} {x : List Nat} (h : Pth ms s x t) (hs : 0 ≤ s ∧ s < (n : Int)) : 0 ≤ t ∧ t < (n : Int) := by
 induction h with
 | here s => exact hs
 | eps h _ ih => exact ih (hm _ h).2
 | step h _ ih => exact ih (hm _ h).2
def runS (n : NfaD) (cs : List Nat) : Nat := cs.foldl (fun v (c : Nat) => stV 40 n.moves v (c : Int)) (clV 40 n.moves (setV n.firsts))
def accS (n : NfaD) (cs : List Nat) : Bool := n.ends.any fun s => (runS n cs).testBit s.toNat
theorem nat_of (P : Nat → Prop) : ∀ n : Nat, ∃ u : Nat, ∀ t, u.testBit t = true ↔ t < n ∧ P t
 | 0 => ⟨0, fun t => by simp⟩
 | n + 1 => by
  obtain ⟨u, hu⟩ := nat_of P n
  by_cases hp : P n
  ·refine ⟨adj u n, fun t => ?_⟩
   rw [has_adj, Bool.or_eq_true, hu, decide_eq_true_eq]
   constructor
   ·rintro (⟨h1, h2⟩ | rfl)
    ·exact ⟨by omega, h2⟩
    ·exact ⟨by omega, hp⟩
   ·rintro ⟨h1, h2⟩
    by_cases h : n = t
    ·exact .inr h
    ·exact .inl ⟨by omega, h2⟩
  ·refine ⟨u, fun t => ?_⟩
   rw [hu]
   constructor
   ·rintro ⟨h1, h2⟩
    exact ⟨by omega, h2⟩
   ·rintro ⟨h1, h2⟩
    by_cases h : t = n
    ·subst h; exact absurd h2 hp
    ·exact ⟨by omega, h2⟩
theorem Pth.closed {ms : List (Int × Int × Int)} {u : Nat} (hu : closedV ms u) {s t : Int} {x : List Nat} (h : Pth ms s x t) (hx : x = []) (hs : u.testBit s.toNat = true) : u.testBit t.toNat = true := by
 induction h with
 | here s => exact hs
 | eps hm _ ih => exact ih hx (hu _ hm rfl hs)
 | step hm _ ih => cases hx
theorem clV_pth {ms : List (Int × Int × Int)} (hm : mvIn 40 ms) {v t : Nat} (hv : v < 2 ^ 40) : (clV 40 ms v).testBit t = true ↔ ∃ s : Nat, s < 40 ∧ v.testBit s = true ∧ Pth ms s [] t := by
 constructor
 ·intro h
  obtain ⟨u, hu⟩ := nat_of (fun t => ∃ s : Nat, s < 40 ∧ v.testBit s = true ∧ Pth ms s [] t) 40
  have hc : closedV ms u := by
   intro m hmm he hf
   obtain ⟨h1, s, hs, hvs, hp⟩ := (hu _).1 hf
   have h2 := hm m hmm
   refine (hu _).2 ⟨by omega, s, hs, hvs, ?_⟩
   have e1 : ((m.1.toNat : Nat) : Int) = m.1 := by omega
   have e2 : ((m.2.2.toNat : Nat) : Int) = m.2.2 := by omega
   rw [e1] at hp
   rw [e2]
   refine hp.append (y := []) (.eps ?_ (.here _))
   rw [← he]
   exact hmm
  have hsub : subV v u := by
   intro s hs
   have : s < 40 := by
    by_cases h : s < 40
    ·exact h
    ·rw [Nat.testBit_lt_two_pow (Nat.lt_of_lt_of_le hv (Nat.pow_le_pow_right (by omega) (by omega)))] at hs
     cases hs
   exact (hu s).2 ⟨this, s, this, hs, .here _⟩
  exact ((hu t).1 (clV_in hc hsub t h)).2
 ·rintro ⟨s, hs, hvs, hp⟩
  have := hp.closed (clV_closed hm v) rfl (by rw [Int.toNat_natCast]; exact clV_sub 40 ms v s hvs)
  rwa [Int.toNat_natCast] at this
theorem stFold_bit {c : Int} {v : Nat} : ∀ (l : List (Int × Int × Int)) (u t : Nat), (l.foldl (stMove v c) u).testBit t = true ↔ u.testBit t = true ∨ ∃ m ∈ l, m.2.1 = c ∧ v.testBit m.1.toNat = true ∧ m.2.2.toNat = t
 | [], u, t => by simp
 | m :: l, u, t => by
  rw [List.foldl_cons, stFold_bit l, stMove]
  split
  ·rename_i h
   rw [Bool.and_eq_true, decide_eq_true_eq] at h
   rw [has_adj, Bool.or_eq_true, decide_eq_true_eq]
   constructor
   ·rintro ((h1 | h1) | ⟨x, hx, h1⟩)
    ·exact .inl h1
    ·exact .inr ⟨m, by simp, h.1, h.2, h1⟩
    ·exact .inr ⟨x, by simp [hx], h1⟩
   ·rintro (h1 | ⟨x, hx, h1⟩)
    ·exact .inl (.inl h1)
    ·rcases List.mem_cons.1 hx with rfl | hx
     ·exact .inl (.inr h1.2.2)
     ·exact .inr ⟨x, hx, h1⟩
  ·rename_i h
   rw [Bool.and_eq_true, decide_eq_true_eq] at h
   constructor
   ·rintro (h1 | ⟨x, hx, h1⟩)
    ·exact .inl h1
    ·exact .inr ⟨x, by simp [hx], h1⟩
   ·rintro (h1 | ⟨x, hx, h1⟩)
    ·exact .inl h1
    ·rcases List.mem_cons.1 hx with rfl | hx
     ·exact absurd ⟨h1.1, h1.2.1⟩ h
     ·exact .inr ⟨x, hx, h1⟩
theorem lt_of_bit {v s n : Nat} (hv : v < 2 ^ n) (hs : v.testBit s = true) : s < n := by
 by_cases h : s < n
 ·exact h
 ·rw [Nat.testBit_lt_two_pow (Nat.lt_of_lt_of_le hv (Nat.pow_le_pow_right (by omega) (by omega)))] at hs
  cases hs
theorem stV_pth {ms : List (Int × Int × Int)} (hm : mvIn 40 ms) {v t : Nat} (c : Nat) : (stV 40 ms v (c : Int)).testBit t = true ↔ ∃ x, x ∈ ms ∧ x.2.1 = (c : Int) ∧ v.testBit x.1.toNat = true ∧ Pth ms x.2.2 [] t := by
 have hlt : ms.foldl (stMove v c) 0 < 2 ^ 40 := foldl_inv _ (fun u => u < 2 ^ 40) (fun _ _ hx hu => stMove_lt hm hx hu) (by decide)
 unfold stV
 rw [clV_pth hm hlt]
 constructor
 ·rintro ⟨s, hs, hb, hp⟩
  rw [stFold_bit] at hb
  rcases hb with hb | ⟨m, hmm, h1, h2, h3⟩
  ·simp at hb
  ·refine ⟨m, hmm, h1, h2, ?_⟩
   have e : m.2.2 = (s : Int) := by have := (hm m hmm).2; omega
   rw [e]
   exact hp
 ·rintro ⟨x, hx, h1, h2, hp⟩
  have h4 := (hm x hx).2
  refine ⟨x.2.2.toNat, by omega, ?_, ?_⟩
  ·rw [stFold_bit]
   exact .inr ⟨x, hx, h1, h2, rfl⟩
  ·have e : ((x.2.2.toNat : Nat) : Int) = x.2.2 := by omega
   rw [e]
   exact hp
theorem Pth.split {ms : List (Int × Int × Int)} {s u : Int} {x : List Nat} (h : Pth ms s x u) : ∀ {c : Nat} {w : List Nat}, x = c :: w → ∃ m, m ∈ ms ∧ m.2.1 = (c : Int) ∧ Pth ms s [] m.1 ∧ Pth ms m.2.2 w u := by
 induction h with
 | here s => intro c w h; cases h
 | eps hm _ ih =>
  intro c w h
  obtain ⟨m, h1, h2, h3, h4⟩ := ih h
  exact ⟨m, h1, h2, .eps hm h3, h4⟩
 | step hm hp ih =>
  intro c w h
  injection h with h1 h2
  subst h1
  subst h2
  exact ⟨_, hm, rfl, .here _, hp⟩
theorem stV_closed {ms : List (Int × Int × Int)} (hm : mvIn 40 ms) (v : Nat) (c : Int) : closedV ms (stV 40 ms v c) := clV_closed hm _
theorem foldl_pth {ms : List (Int × Int × Int)} (hm : mvIn 40 ms) : ∀ (cs : List Nat) (V : Nat), V < 2 ^ 40 → closedV ms V → ∀ t, (cs.foldl (fun v (c : Nat) => stV 40 ms v (c : Int)) V).testBit t = true ↔ ∃ s : Nat, s < 40 ∧ V.testBit s = true ∧ Pth ms s cs t
 | [], V, hV, hc, t => by
  rw [List.foldl_nil]
  constructor
  ·intro h
   exact ⟨t, lt_of_bit hV h, h, .here _⟩
  ·rintro ⟨s, hs, h1, h2⟩
   have := h2.closed hc rfl (by rwa [Int.toNat_natCast])
   rwa [Int.toNat_natCast] at this
 | c :: cs, V, hV, hc, t => by
  rw [List.foldl_cons, foldl_pth hm cs _ (stV_lt hm V c) (stV_closed hm V c)]
  constructor
  ·rintro ⟨s, hs, h1, h2⟩
   rw [stV_pth hm] at h1
   obtain ⟨x, hx, h3, h4, h5⟩ := h1
   have h6 := (hm x hx).1
   refine ⟨x.1.toNat, by omega, h4, ?_⟩
   have e : ((x.1.toNat : Nat) : Int) = x.1 := by omega
   rw [e]
   refine .step (t := x.2.2) ?_ (h5.append h2)
   rw [← h3]
   exact hx
  ·rintro ⟨s, hs, h1, h2⟩
   obtain ⟨m, h3, h4, h5, h6⟩ := h2.split rfl
   have h7 := (hm m h3).2
   refine ⟨m.2.2.toNat, by omega, ?_, ?_⟩
   ·rw [stV_pth hm]
    have := h5.closed hc rfl (by rwa [Int.toNat_natCast])
    refine ⟨m, h3, h4, this, ?_⟩
    have e : ((m.2.2.toNat : Nat) : Int) = m.2.2 := by omega
    rw [e]
    exact .here _
   ·have e : ((m.2.2.toNat : Nat) : Int) = m.2.2 := by omega
    rw [e]
    exact h6
theorem accS_pth {n : NfaD} (hn : nfaOk n = true) (cs : List Nat) : accS n cs = true ↔ ∃ f ∈ n.firsts, ∃ e ∈ n.ends, Pth n.moves f cs e := by
 obtain ⟨m, hm, hm40, hmv, -, hf, -, he, -⟩ := nfaOk_facts hn
 have hm4 := mvIn_40 hmv hm40
 have hfi : inN 40 n.firsts := fun s hs => by have := hf s hs; omega
 have hlt : clV 40 n.moves (setV n.firsts) < 2 ^ 40 := clIt_lt hm4 (setV_lt hfi) 40
 have hrun := foldl_pth hm4 cs _ hlt (clV_closed hm4 (setV n.firsts))
 unfold accS runS
 rw [List.any_eq_true]
 constructor
 ·rintro ⟨e, hee, hb⟩
  obtain ⟨s, hs, h1, h2⟩ := (hrun _).1 hb
  rw [clV_pth hm4 (setV_lt hfi)] at h1
  obtain ⟨r, hr, h3, h4⟩ := h1
  rw [setV_bit, List.any_eq_true] at h3
  obtain ⟨f, hff, h5⟩ := h3
  have h5 := of_decide_eq_true h5
  have h6 := hf f hff
  have h7 := he e hee
  refine ⟨f, hff, e, hee, ?_⟩
  have e1 : (r : Int) = f := by omega
  have e2 : ((e.toNat : Nat) : Int) = e := by omega
  rw [e1] at h4
  rw [e2] at h2
  exact h4.append h2
 ·rintro ⟨f, hff, e, hee, hp⟩
  have h6 := hf f hff
  have h7 := he e hee
  refine ⟨e, hee, (hrun _).2 ⟨f.toNat, by omega, ?_, ?_⟩⟩
  ·exact clV_sub 40 n.moves _ _ (setV_mem hff)
  ·have e1 : ((f.toNat : Nat) : Int) = f := by omega
   have e2 : ((e.toNat : Nat) : Int) = e := by omega
   rw [e1, e2]
   exact hp
theorem accS_same {n m : NfaD} (hn : nfaOk n = true) (hm : nfaOk m = true) {x y : List Nat} (h1 : ∀ f ∈ n.firsts, ∀ e ∈ n.ends, Pth n.moves f x e → ∃ g ∈ m.firsts, ∃ d ∈ m.ends, Pth m.moves g y d) (h2 : ∀ f ∈ m.firsts, ∀ e ∈ m.ends, Pth m.moves f y e → ∃ g ∈ n.firsts, ∃ d ∈ n.ends, Pth n.moves g x d) : accS n x = accS m y := by
 rw [Bool.eq_iff_iff, accS_pth hn, accS_pth hm]
 exact ⟨fun ⟨f, hf, e, he, hp⟩ => h1 f hf e he hp, fun ⟨f, hf, e, he, hp⟩ => h2 f hf e he hp⟩
-- repeated
theorem Pth.turn {ms : List (Int × Int × Int)} {s t : Int} {x : List Nat} (h : Pth ms s x t) : Pth (ms.map turnM) t x.reverse s := by
 induction h with
 | here s => exact .here s
 | eps hm _ ih => 
  have := ih.append (y := []) (.eps (List.mem_map.2 ⟨_, hm, rfl⟩) (.here _))
  rwa [List.append_nil] at this
 | step hm _ ih =>
  rw [List.reverse_cons]
  exact ih.append (.step (List.mem_map.2 ⟨_, hm, rfl⟩) (.here _))
theorem turn_turn (n : NfaD) : turnN (turnN n) = n := by
 obtain ⟨s, ms, f, e⟩ := n
 have : turnM ∘ turnM = id := rfl
 simp [turnN, this]
theorem turn_ok {n : NfaD} (hn : nfaOk n = true) : nfaOk (turnN n) = true := by
 unfold nfaOk at *
 simp only [Bool.and_eq_true, turnN, List.length_map, List.all_map] at *
 refine ⟨⟨⟨⟨hn.1.1.1.1, hn.1.1.1.2⟩, hn.1.2⟩, hn.1.1.2⟩, ?_⟩
 rw [List.all_eq_true]
 intro x hx
 have := List.all_eq_true.1 hn.2 x hx
 simp only [mvOk, turnM, Function.comp, Bool.and_eq_true] at *
 exact ⟨⟨this.1.2, this.1.1⟩, this.2⟩
theorem turn_acc {n : NfaD} (hn : nfaOk n = true) (x : List Nat) : accS (turnN n) x.reverse = accS n x := by
 refine accS_same (turn_ok hn) hn ?_ ?_
 ·intro f hf e he hp
  have h := hp.turn
  rw [List.reverse_reverse] at h
  refine ⟨e, he, f, hf, ?_⟩
  have h2 : (turnN n).moves.map turnM = n.moves := congrArg NfaD.moves (turn_turn n)
  rwa [h2] at h
 ·intro f hf e he hp
  exact ⟨e, he, f, hf, hp.turn⟩
-- either, joined: the second automaton is moved up
def lets (l : List Nat) : List Nat := l.map (· - 97)
theorem okT_at {l : List Nat} {k : Nat} (h : okT l l.length = true) (hk : k < l.length) : 97 ≤ l.getD k 0 ∧ l.getD k 0 ≤ 99 := by
 unfold okT at h
 have := List.all_eq_true.1 h k (List.mem_range.2 hk)
 simp only [inB, Bool.and_eq_true, decide_eq_true_eq] at this
 omega
theorem wdOk_parts {l : List Nat} (h : wdOk l = true) : okT l l.length = true ∧ l.length ≤ 8 := by
 unfold wdOk at h
 simp only [Bool.and_eq_true, decide_eq_true_eq] at h
 exact h
end Go.Proofs.Ytalbofnhcpjilaa
namespace Go.Proofs.Ytalbofnhcpjilaa
open Go.RowKit
theorem wdOk_iff {l : List Nat} : wdOk l = true ↔ (∀ b ∈ l, 97 ≤ b ∧ b ≤ 99) ∧ l.length ≤ 8 := by
 constructor
 ·intro h
  obtain ⟨h1, h2⟩ := wdOk_parts h
  refine ⟨fun b hb => ?_, h2⟩
  obtain ⟨k, hk, e⟩ := List.getElem_of_mem hb
  have := okT_at h1 hk
  rw [getD_at hk, e] at this
  exact this
 ·rintro ⟨h1, h2⟩
  unfold wdOk okT
  rw [Bool.and_eq_true, List.all_eq_true, decide_eq_true_eq]
  refine ⟨fun k hk => ?_, h2⟩
  have hk := List.mem_range.1 hk
  have := h1 _ (getD_memT hk)
  simp only [inB, Bool.and_eq_true, decide_eq_true_eq]
  omega
end Go.Proofs.Ytalbofnhcpjilaa
