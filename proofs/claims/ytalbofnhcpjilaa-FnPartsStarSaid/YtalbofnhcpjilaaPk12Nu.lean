/-
  The walks over the program's CheckPairs and over the function behind it.
  Conditions: the arguments read as automata and as a list of pairs; for the function behind it, the automata are valid.
-/
import Derived.Test.YtalbofnhcpjilaaPk10Nb
namespace Go.Proofs.Ytalbofnhcpjilaa
open Go.RowKit Go.Maps
theorem zeroBool (w : World) : (zeroValue 4).run Try.prog w = .ok (.bool false) w := by kernel_rfl
end Go.Proofs.Ytalbofnhcpjilaa
namespace Go.Proofs.Ytalbofnhcpjilaa
open Go.RowKit
section
variable {α : Type} [DecidableEq α] {nx : α → Nat → α} {a : α} {en : α → Bool} {K : Nat}
theorem placeOf_at {F : List α} {x : α} (h : x ∈ F) (d : α) : F.getD (placeOf F x) d = x := by
  have h1 := placeOf_lt h
  rw [getD_at h1]
  exact List.getElem_idxOf h1
theorem run_num (hK : (bat nx a K).met.length ≤ K) : ∀ (w : List Nat), isW w → ∀ x ∈ (bat nx a K).met, w.foldl nx x ∈ (bat nx a K).met ∧ runD (numDfa nx en (bat nx a K).met) (placeOf (bat nx a K).met x : Nat) w = (placeOf (bat nx a K).met (w.foldl nx x) : Nat)
  | [], _, x, hx => ⟨hx, rfl⟩
  | c :: w, hw, x, hx => by
    have hc : c < 3 := hw c (by simp)
    have hx2 := bat_closed hK hx hc
    have h1 := placeOf_lt hx
    obtain ⟨h2, h3⟩ := run_num hK w (fun b hb => hw b (by simp [hb])) (nx x c) hx2
    refine ⟨h2, ?_⟩
    unfold runD at *
    rw [List.foldl_cons, List.foldl_cons, ← h3, dnx_num (a := a) (by omega) (by omega) hc]
    unfold numNext
    rw [Int.toNat_natCast, placeOf_at hx]
theorem accD_num (hK : (bat nx a K).met.length ≤ K) {w : List Nat} (hw : isW w) : accD (numDfa nx en (bat nx a K).met) w = en (w.foldl nx a) := by
  have h0 := bat_mem_first (nx := nx) (a := a) K
  obtain ⟨h1, h2⟩ := run_num (en := en) hK w hw a h0
  have h3 : placeOf (bat nx a K).met a = 0 := by
    have hp := bat_pos (nx := nx) (a := a) K
    have hf := bat_first (nx := nx) (a := a) K
    have hn := (bat_good (nx := nx) (a := a) K).1
    rw [getD_at hp] at hf
    have := List.Nodup.idxOf_getElem hn 0 hp
    rw [hf] at this
    exact this
  rw [h3] at h2
  unfold accD
  rw [show ((0 : Nat) : Int) = 0 from rfl] at h2
  rw [h2, den_num (placeOf_lt h1)]
  congr 1
  exact List.getElem_idxOf _
end
theorem fine_nx {d : DfaD} (hd : fine d) {s c : Nat} (hs : s < d.next.length) (hc : c < 3) : nxD d s c < d.next.length ∧ dnx d (s : Int) c = ((nxD d s c : Nat) : Int) := nxD_lt hd hs hc
theorem den_nat (d : DfaD) (s : Nat) : den d (s : Int) = enD d s := by simp [den, enD]
theorem trim_acc {d : DfaD} (hd : fine d) {w : List Nat} (hw : isW w) : accD (trimD d) w = accD d w := by
  unfold trimD
  rw [accD_num (met_facts hd _).2 hw]
  rfl
def Strs (B : Nat) (w : World) (v : Value) (ws : List (List Nat)) : Prop := Sl B w v ws.length 1 (wdCells ws)
theorem Strs.below {B : Nat} {w w' : World} {v : Value} {ws : List (List Nat)} (h : Strs B w v ws) (he : Below w.heap.size w w') : Strs B w' v ws := Sl.below h he
theorem Strs.form {B : Nat} {w : World} {v : Value} {ws : List (List Nat)} (h : Strs B w v ws) : ∃ a cap, v = .slice a ws.length cap ∧ ws.length ≤ cap ∧ cap ≤ 9223372036854775807 ∧
    (0 < ws.length → ∃ b off, a = some ⟨b, off, none⟩ ∧ b < w.heap.size ∧ ∀ j, j < ws.length → w.cell? ⟨b, off + j, none⟩ = some (.string (wdB (ws.getD j [])))) := by
  obtain ⟨hl, a, cap, hv, h1, h2, h3⟩ := h
  refine ⟨a, cap, hv, h1, h2, fun hn => ?_⟩
  obtain ⟨b, off, ha, hb, hlt, hc⟩ := h3 hn
  refine ⟨b, off, ha, hlt, fun j hj => ?_⟩
  rw [hc j (by omega)]
  simp [hj]
def okWs (ws : List (List Nat)) : Prop := ∀ x ∈ ws, isW x ∧ x.length ≤ 400000
def LOk (st : List (List Nat)) : Prop := (∀ x ∈ st, isW x) ∧ ∀ i, i < st.length → (st.getD i []).length ≤ i
theorem LOk.visit {β : Type} [DecidableEq β] {key : List Nat → β} {s : List (List Nat)} (h : LOk s) {w : List Nat} (hw : isW w) (hl : w.length ≤ s.length) : LOk (kvisit key s w) := by
  unfold kvisit
  split
  · exact h
  · refine ⟨fun x hx => ?_, fun i hi => ?_⟩
    · rcases List.mem_append.1 hx with hx | hx
      · exact h.1 x hx
      · simp only [List.mem_singleton] at hx
        rw [hx]
        exact hw
    · simp only [List.length_append, List.length_singleton] at hi
      by_cases hin : i < s.length
      · have := h.2 i hin
        simp only [List.getD_eq_getElem?_getD] at this ⊢
        rw [List.getElem?_append_left hin]
        exact this
      · obtain rfl : i = s.length := by omega
        simpa using hl
theorem LOk.row {β : Type} [DecidableEq β] {key : List Nat → β} {s : List (List Nat)} (h : LOk s) {k : Nat} (hk : k < s.length) : ∀ n, n ≤ 3 → LOk (krow key s (s.getD k []) n) ∧ s.length ≤ (krow key s (s.getD k []) n).length
  | 0, _ => ⟨h, Nat.le_refl _⟩
  | n + 1, hn => by
    obtain ⟨h1, h2⟩ := h.row (key := key) hk n (by omega)
    have h3 := (kvisit_pre (key := key) (krow key s (s.getD k []) n) (s.getD k [] ++ [n])).length_le
    refine ⟨h1.visit (isW_append (h.1 _ (memD hk)) (isW_one (by omega))) ?_, Nat.le_trans h2 h3⟩
    have := h.2 k hk
    rw [List.length_append, List.length_singleton]
    omega
theorem LOk.kat {β : Type} [DecidableEq β] {key : List Nat → β} {s : List (List Nat)} (h : LOk s) : ∀ k, LOk (kat key s k)
  | 0 => h
  | k + 1 => by
    have ih := LOk.kat (key := key) h k
    by_cases hk : k < (Go.Proofs.Ytalbofnhcpjilaa.kat key s k).length
    · rw [kat_succ hk]
      exact (ih.row hk 3 (by omega)).1
    · rw [kat_stay (by omega)]
      exact ih
theorem LOk.okWs {st : List (List Nat)} (h : LOk st) (hl : st.length ≤ 1000) : ∀ x ∈ st, isW x ∧ x.length ≤ 399999 := fun x hx => by
  refine ⟨h.1 x hx, ?_⟩
  obtain ⟨i, hi, e⟩ := List.getElem_of_mem hx
  have := h.2 i hi
  rw [getD_at hi, e] at this
  omega
def hitD (d : DfaD) (g : DfaD) : Option (List Nat) := hitP d g
theorem hitD_eq (d g : DfaD) : hitD d g = hitK mostP d g := rfl
theorem mostP_le : mostP ≤ 1600 := Nat.le_refl _
theorem hitD_says {d g : DfaD} {w : List Nat} (h : hitD d g = some w) : isW w ∧ accD d w ≠ accD g w := by
  rw [hitD_eq] at h
  exact hit_says h
theorem hitD_ok (d : DfaD) : hitOk d (hitD d) := fun _ _ _ h => hitD_says h
theorem hitK_len {K : Nat} {a b : DfaD} {w : List Nat} (h : hitK K a b = some w) : w.length ≤ K := by
  have hg := (bat_good (nx := stepP a b) (a := ((0, 0) : Int × Int)) K).2.1
  obtain ⟨i, hi, hw, -⟩ := firstHit_some (d := ((0, 0) : Int × Int)) hg h
  rw [← hw]
  exact bat_wlen (nx := stepP a b) (a := ((0, 0) : Int × Int)) K _ (memD (by omega))
theorem hitD_len {d g : DfaD} {w : List Nat} (h : hitD d g = some w) : w.length ≤ 1600 := by
  rw [hitD_eq] at h
  have := hitK_len h
  have := mostP_le
  omega
def preW (d : DfaD) : Nat → List (List Nat)
  | 0 => [[]]
  | j + 1 => (tabW d (hitD d) j).1
def resW (d : DfaD) (j : Nat) : List (List Nat) := (tabW d (hitD d) j).2
def staW (d : DfaD) (j : Nat) : List (List Nat) := (tabW d (hitD d) j).1
def gueW (d : DfaD) (j : Nat) : DfaD := gssW d (hitD d) j
theorem nodup_take {α : Type} {l m : List α} (h : l <+: m) (hm : m.Nodup) : l.Nodup := by
  obtain ⟨t, rfl⟩ := h
  exact (List.nodup_append.1 hm).1
theorem resW_succ (d : DfaD) (j : Nat) {w : List Nat} (h : hitD d (gueW d j) = some w) : resW d (j + 1) = resW d j ++ [w.drop (cutW d (staW d j) (gueW d j) w + 1)] := by
  show (tabW d (hitD d) j).2 ++ _ = _
  have h' : hitD d (guessW d (tabW d (hitD d) j).1 (tabW d (hitD d) j).2) = some w := h
  simp only [h', Option.getD_some]
  rfl
structure LTab (d : DfaD) (j : Nat) : Prop where
  pre : LOk (preW d j)
  nd : ((preW d j).map (rowW d (resW d j))).Nodup
  re : okWs (resW d j)
  rl : (resW d j).length ≤ j + 1
  inv : LInv d (staW d j) (resW d j)
  st : LOk (staW d j)
theorem LTab.at {d : DfaD} (hd : dfaOk d.next d.ends = true) : ∀ j, (∀ i, i < j → (hitD d (gueW d i)).isSome = true) → LTab d j
  | 0, hy => by
    have hinv := (tab_inv hd (hitD_ok d) 0 hy).1
    have h0 : LOk [[]] := ⟨fun x hx => by simp at hx; subst hx; intro c hc; simp at hc, fun i hi => by
      obtain rfl : i = 0 := by simpa using hi
      simp⟩
    exact ⟨h0, by simp [preW], fun x hx => by simp [resW, tabW] at hx; subst hx; exact ⟨fun c hc => by simp at hc, by simp⟩, by simp [resW, tabW], hinv, LOk.kat h0 _⟩
  | j + 1, hy => by
    have ih := LTab.at hd j fun i hi => hy i (by omega)
    have hinv := (tab_inv hd (hitD_ok d) (j + 1) hy).1
    obtain ⟨w, hw⟩ := Option.isSome_iff_exists.1 (hy j (by omega))
    have hr := resW_succ d j hw
    have hww := (hitD_says hw).1
    have hpre : preW d (j + 1) <+: staW d (j + 1) := kat_pre (key := rowW d (resW d (j + 1))) (s0 := preW d (j + 1)) (Nat.zero_le (d.next.length + 1))
    refine ⟨ih.st, ?_, fun x hx => ?_, ?_, hinv, LOk.kat (s := preW d (j + 1)) ih.st _⟩
    · obtain ⟨t, ht⟩ := hpre
      have h1 := hinv.nd
      refine nodup_take (m := (staW d (j + 1)).map (rowW d (resW d (j + 1)))) ⟨t.map (rowW d (resW d (j + 1))), ?_⟩ h1
      rw [← List.map_append, ht]
    · rw [hr] at hx
      rcases List.mem_append.1 hx with hx | hx
      · exact ih.re x hx
      · simp only [List.mem_singleton] at hx
        subst hx
        refine ⟨isW_drop hww _, ?_⟩
        have := hitD_len hw
        rw [List.length_drop]
        omega
    · rw [hr, List.length_append, List.length_singleton]
      have := ih.rl
      omega
/-! The guesses in memory. -/
def Ent.sub (X y : Ent) : Prop := (∀ w, X.holds w → y.holds w) ∧ ∀ k, y.foot k → X.foot k
def GMem (X : Ent) (vals : List (Value × Value)) (gs : List DfaD) : Prop := vals.length = gs.length ∧ ∀ i, i < gs.length →
  ∃ a1 c1 a2 c2 vs, vals.getD i (undef, undef) = (.slice a1 (gs.getD i ⟨[], []⟩).next.length c1, .slice a2 (gs.getD i ⟨[], []⟩).next.length c2) ∧
    Ent.sub X (Ent.rows 48 3 (.slice a1 (gs.getD i ⟨[], []⟩).next.length c1) vs ((gs.getD i ⟨[], []⟩).next.map intCells)) ∧ Ent.sub X (Ent.row 4 1 (.slice a2 (gs.getD i ⟨[], []⟩).next.length c2) (gs.getD i ⟨[], []⟩).next.length (boolCells (gs.getD i ⟨[], []⟩).ends))
theorem GMem.nil (X : Ent) : GMem X [] [] := ⟨rfl, fun i hi => absurd hi (by simp)⟩
theorem GMem.own {w0 w : World} {L : List Ent} (h : St w0 w L) (i : Nat) {X : Ent} (hx : L[i]? = some X) {vals : List (Value × Value)} {gs : List DfaD} (hG : GMem X vals gs) {k : Nat} (hk : k < gs.length) :
    ∃ a1 c1 a2 c2, vals.getD k (undef, undef) = (.slice a1 (gs.getD k ⟨[], []⟩).next.length c1, .slice a2 (gs.getD k ⟨[], []⟩).next.length c2) ∧ (gs.getD k ⟨[], []⟩).ends.length = (gs.getD k ⟨[], []⟩).next.length ∧
      DfaO 48 3 4 w0.heap.size w.heap.size w (.agg #[.slice a1 (gs.getD k ⟨[], []⟩).next.length c1, .slice a2 (gs.getD k ⟨[], []⟩).next.length c2]) (gs.getD k ⟨[], []⟩) := by
  obtain ⟨a1, c1, a2, c2, vs, e, s1, s2⟩ := hG.2 k hk
  have hil : i < L.length := (List.getElem?_eq_some_iff.1 hx).1
  have h1 := h.same i hx _ (s1.1 w) s1.2
  have h2 := h.same i hx _ (s2.1 w) s2.2
  have g1 := h1.intSS i (by rw [List.getElem?_set, if_pos rfl, if_pos hil])
  have g2 := h2.row i (by rw [List.getElem?_set, if_pos rfl, if_pos hil])
  have hl : (gs.getD k ⟨[], []⟩).ends.length = (gs.getD k ⟨[], []⟩).next.length := by have := g2.1; simp at this; simpa using this
  refine ⟨a1, c1, a2, c2, e, hl, _, _, rfl, g1, ?_⟩
  unfold OBools
  rw [hl]
  exact own_of_row g2
end Go.Proofs.Ytalbofnhcpjilaa
namespace Go.Proofs.Ytalbofnhcpjilaa
open Go.RowKit
def subV (v u : Nat) : Prop := ∀ s, v.testBit s = true → u.testBit s = true
theorem subV_refl (v : Nat) : subV v v := fun _ h => h
theorem subV_trans {a b c : Nat} (h : subV a b) (h' : subV b c) : subV a c := fun s hs => h' s (h s hs)
theorem subV_eq {a b : Nat} (h : subV a b) (h' : subV b a) : a = b := by
  apply Nat.eq_of_testBit_eq
  intro i
  have h1 := h i
  have h2 := h' i
  cases ha : a.testBit i <;> cases hb : b.testBit i <;> simp_all
theorem subV_adj (v s : Nat) : subV v (adj v s) := fun t ht => by rw [has_adj, ht]; rfl
theorem clMove_sub (v : Nat) (m : Int × Int × Int) : subV v (clMove v m) := by
  unfold clMove
  split
  · exact subV_adj _ _
  · exact subV_refl _
theorem clFold_sub : ∀ (ms : List (Int × Int × Int)) (v : Nat), subV v (ms.foldl clMove v)
  | [], v => subV_refl v
  | m :: ms, v => subV_trans (clMove_sub v m) (clFold_sub ms _)
theorem clIt_sub (ms : List (Int × Int × Int)) (v : Nat) : ∀ k, subV v (clIt ms v k)
  | 0 => subV_refl v
  | k + 1 => subV_trans (clIt_sub ms v k) (clFold_sub ms _)
def closedV (ms : List (Int × Int × Int)) (u : Nat) : Prop := ∀ m ∈ ms, m.2.1 = -1 → u.testBit m.1.toNat = true → u.testBit m.2.2.toNat = true
theorem clMove_in {ms : List (Int × Int × Int)} {u v : Nat} (hu : closedV ms u) (h : subV v u) {m : Int × Int × Int} (hm : m ∈ ms) : subV (clMove v m) u := by
  unfold clMove
  split
  · rename_i hc
    simp only [Bool.and_eq_true, decide_eq_true_eq] at hc
    intro s hs
    rw [has_adj, Bool.or_eq_true] at hs
    rcases hs with hs | hs
    · exact h s hs
    · rw [← of_decide_eq_true hs]
      exact hu m hm hc.1.1 (h _ hc.1.2)
  · exact h
theorem clFold_in {ms : List (Int × Int × Int)} {u : Nat} (hu : closedV ms u) : ∀ (l : List (Int × Int × Int)) (v : Nat), (∀ m ∈ l, m ∈ ms) → subV v u → subV (l.foldl clMove v) u
  | [], _, _, h => h
  | m :: l, v, hl, h => clFold_in hu l _ (fun x hx => hl x (by simp [hx])) (clMove_in hu h (hl m (by simp)))
theorem clIt_in {ms : List (Int × Int × Int)} {u v : Nat} (hu : closedV ms u) (h : subV v u) : ∀ k, subV (clIt ms v k) u
  | 0 => h
  | k + 1 => clFold_in hu ms _ (fun _ hx => hx) (clIt_in hu h k)
theorem clV_fix {n : Nat} {ms : List (Int × Int × Int)} (h : mvIn n ms) (v : Nat) : clPass ms (clV n ms v) = clV n ms v := by
  rcases clIt_drop h v n with h1 | h1
  · exact h1
  · have := clr_le n v
    omega
theorem fold_fix : ∀ {l : List (Int × Int × Int)} {v : Nat}, l.foldl clMove v = v → ∀ m ∈ l, clMove v m = v
  | [], _, _, _, hm => by cases hm
  | m :: l, v, h, x, hx => by
    have h1 : clMove v m = v := subV_eq (by have := clFold_sub l (clMove v m); rw [List.foldl_cons] at h; rw [h] at this; exact this) (clMove_sub v m)
    rw [List.foldl_cons, h1] at h
    rcases List.mem_cons.1 hx with rfl | hx
    · exact h1
    · exact fold_fix h x hx
theorem clV_closed {n : Nat} {ms : List (Int × Int × Int)} (h : mvIn n ms) (v : Nat) : closedV ms (clV n ms v) := by
  intro m hm hl hf
  have h1 := fold_fix (clV_fix h v) m hm
  cases ht : (clV n ms v).testBit m.2.2.toNat with
  | true => rfl
  | false =>
    exfalso
    unfold clMove at h1
    rw [if_pos (by simp [hl, hf, ht])] at h1
    have := has_adj (clV n ms v) m.2.2.toNat m.2.2.toNat
    rw [h1, ht] at this
    simp at this
theorem clV_sub (n : Nat) (ms : List (Int × Int × Int)) (v : Nat) : subV v (clV n ms v) := clIt_sub ms v n
theorem clV_in {n : Nat} {ms : List (Int × Int × Int)} {u v : Nat} (hu : closedV ms u) (h : subV v u) : subV (clV n ms v) u := clIt_in hu h n
theorem clV_idem {n : Nat} {ms : List (Int × Int × Int)} {u : Nat} (hu : closedV ms u) : clV n ms u = u := subV_eq (clV_in hu (subV_refl u)) (clV_sub n ms u)
theorem setV_has : ∀ (l : List Int) (v t : Nat), (l.foldl (fun v s => adj v s.toNat) v).testBit t = (v.testBit t || l.any fun s => decide (s.toNat = t))
  | [], v, t => by simp
  | s :: l, v, t => by
    rw [List.foldl_cons, setV_has l, has_adj, List.any_cons, Bool.or_assoc]
theorem setV_bit (l : List Int) (t : Nat) : (setV l).testBit t = l.any fun s => decide (s.toNat = t) := by
  unfold setV
  rw [setV_has]
  simp
theorem setV_mem {l : List Int} {x : Int} (hx : x ∈ l) : (setV l).testBit x.toNat = true := by
  rw [setV_bit, List.any_eq_true]
  exact ⟨x, hx, by simp⟩
inductive Pth (ms : List (Int × Int × Int)) : Int → List Nat → Int → Prop
  | here (s : Int) : Pth ms s [] s
  | eps {s t u : Int} {w : List Nat} : (s, -1, t) ∈ ms → Pth ms t w u → Pth ms s w u
  | step {s t u : Int} {c : Nat} {w : List Nat} : (s, (c : Int), t) ∈ ms → Pth ms t w u → Pth ms s (c :: w) u
theorem Pth.append {ms : List (Int × Int × Int)} {s t u : Int} {x y : List Nat} (h : Pth ms s x t) (h' : Pth ms t y u) : Pth ms s (x ++ y) u := by
  induction h with
  | here s => exact h'
  | eps hm _ ih => exact .eps hm (ih h')
  | step hm _ ih => exact .step hm (ih h')
theorem Pth.mono {ms ns : List (Int × Int × Int)} (hs : ∀ m ∈ ms, m ∈ ns) {s t : Int} {x : List Nat} (h : Pth ms s x t) : Pth ns s x t := by
  induction h with
  | here s => exact .here s
  | eps hm _ ih => exact .eps (hs _ hm) ih
  | step hm _ ih => exact .step (hs _ hm) ih
theorem Pth.map {ms ns : List (Int × Int × Int)} (f : Int → Int) (hs : ∀ m ∈ ms, (f m.1, m.2.1, f m.2.2) ∈ ns ∨ (m.2.1 = -1 ∧ f m.1 = f m.2.2)) {s t : Int} {x : List Nat} (h : Pth ms s x t) : Pth ns (f s) x (f t) := by
  induction h with
  | here s => exact .here _
  | eps hm _ ih =>
    rcases hs _ hm with h | ⟨_, h⟩
    · exact .eps h ih
    · exact h ▸ ih
  | step hm _ ih =>
    rcases hs _ hm with h | ⟨h, _⟩
    · exact .step h ih
    · simp only at h; omega
theorem Pth.in {ms : List (Int × Int × Int)} {n : Nat} (hm : mvIn n ms) {s t : Int} {x : List Nat} (h : Pth ms s x t) (hs : 0 ≤ s ∧ s < (n : Int)) : 0 ≤ t ∧ t < (n : Int) := by
  induction h with
  | here s => exact hs
  | eps h _ ih => exact ih (hm _ h).2
  | step h _ ih => exact ih (hm _ h).2
def runS (n : NfaD) (cs : List Nat) : Nat := cs.foldl (fun v (c : Nat) => stV 40 n.moves v (c : Int)) (clV 40 n.moves (setV n.firsts))
def accS (n : NfaD) (cs : List Nat) : Bool := n.ends.any fun s => (runS n cs).testBit s.toNat
theorem nat_of (P : Nat → Prop) : ∀ n : Nat, ∃ u : Nat, ∀ t, u.testBit t = true ↔ t < n ∧ P t
  | 0 => ⟨0, fun t => by simp⟩
  | n + 1 => by
    obtain ⟨u, hu⟩ := nat_of P n
    by_cases hp : P n
    · refine ⟨adj u n, fun t => ?_⟩
      rw [has_adj, Bool.or_eq_true, hu, decide_eq_true_eq]
      constructor
      · rintro (⟨h1, h2⟩ | rfl)
        · exact ⟨by omega, h2⟩
        · exact ⟨by omega, hp⟩
      · rintro ⟨h1, h2⟩
        by_cases h : n = t
        · exact .inr h
        · exact .inl ⟨by omega, h2⟩
    · refine ⟨u, fun t => ?_⟩
      rw [hu]
      constructor
      · rintro ⟨h1, h2⟩
        exact ⟨by omega, h2⟩
      · rintro ⟨h1, h2⟩
        by_cases h : t = n
        · subst h; exact absurd h2 hp
        · exact ⟨by omega, h2⟩
theorem Pth.closed {ms : List (Int × Int × Int)} {u : Nat} (hu : closedV ms u) {s t : Int} {x : List Nat} (h : Pth ms s x t) (hx : x = []) (hs : u.testBit s.toNat = true) : u.testBit t.toNat = true := by
  induction h with
  | here s => exact hs
  | eps hm _ ih => exact ih hx (hu _ hm rfl hs)
  | step hm _ ih => cases hx
theorem clV_pth {ms : List (Int × Int × Int)} (hm : mvIn 40 ms) {v t : Nat} (hv : v < 2 ^ 40) : (clV 40 ms v).testBit t = true ↔ ∃ s : Nat, s < 40 ∧ v.testBit s = true ∧ Pth ms s [] t := by
  constructor
  · intro h
    obtain ⟨u, hu⟩ := nat_of (fun t => ∃ s : Nat, s < 40 ∧ v.testBit s = true ∧ Pth ms s [] t) 40
    have hc : closedV ms u := by
      intro m hmm he hf
      obtain ⟨h1, s, hs, hvs, hp⟩ := (hu _).1 hf
      have h2 := hm m hmm
      refine (hu _).2 ⟨by omega, s, hs, hvs, ?_⟩
      have e1 : ((m.1.toNat : Nat) : Int) = m.1 := by omega
      have e2 : ((m.2.2.toNat : Nat) : Int) = m.2.2 := by omega
      rw [e1] at hp
      rw [e2]
      refine hp.append (y := []) (.eps ?_ (.here _))
      rw [← he]
      exact hmm
    have hsub : subV v u := by
      intro s hs
      have : s < 40 := by
        by_cases h : s < 40
        · exact h
        · rw [Nat.testBit_lt_two_pow (Nat.lt_of_lt_of_le hv (Nat.pow_le_pow_right (by omega) (by omega)))] at hs
          cases hs
      exact (hu s).2 ⟨this, s, this, hs, .here _⟩
    exact ((hu t).1 (clV_in hc hsub t h)).2
  · rintro ⟨s, hs, hvs, hp⟩
    have := hp.closed (clV_closed hm v) rfl (by rw [Int.toNat_natCast]; exact clV_sub 40 ms v s hvs)
    rwa [Int.toNat_natCast] at this
theorem stFold_bit {c : Int} {v : Nat} : ∀ (l : List (Int × Int × Int)) (u t : Nat), (l.foldl (stMove v c) u).testBit t = true ↔ u.testBit t = true ∨ ∃ m ∈ l, m.2.1 = c ∧ v.testBit m.1.toNat = true ∧ m.2.2.toNat = t
  | [], u, t => by simp
  | m :: l, u, t => by
    rw [List.foldl_cons, stFold_bit l, stMove]
    split
    · rename_i h
      rw [Bool.and_eq_true, decide_eq_true_eq] at h
      rw [has_adj, Bool.or_eq_true, decide_eq_true_eq]
      constructor
      · rintro ((h1 | h1) | ⟨x, hx, h1⟩)
        · exact .inl h1
        · exact .inr ⟨m, by simp, h.1, h.2, h1⟩
        · exact .inr ⟨x, by simp [hx], h1⟩
      · rintro (h1 | ⟨x, hx, h1⟩)
        · exact .inl (.inl h1)
        · rcases List.mem_cons.1 hx with rfl | hx
          · exact .inl (.inr h1.2.2)
          · exact .inr ⟨x, hx, h1⟩
    · rename_i h
      rw [Bool.and_eq_true, decide_eq_true_eq] at h
      constructor
      · rintro (h1 | ⟨x, hx, h1⟩)
        · exact .inl h1
        · exact .inr ⟨x, by simp [hx], h1⟩
      · rintro (h1 | ⟨x, hx, h1⟩)
        · exact .inl h1
        · rcases List.mem_cons.1 hx with rfl | hx
          · exact absurd ⟨h1.1, h1.2.1⟩ h
          · exact .inr ⟨x, hx, h1⟩
theorem lt_of_bit {v s n : Nat} (hv : v < 2 ^ n) (hs : v.testBit s = true) : s < n := by
  by_cases h : s < n
  · exact h
  · rw [Nat.testBit_lt_two_pow (Nat.lt_of_lt_of_le hv (Nat.pow_le_pow_right (by omega) (by omega)))] at hs
    cases hs
theorem stV_pth {ms : List (Int × Int × Int)} (hm : mvIn 40 ms) {v t : Nat} (c : Nat) : (stV 40 ms v (c : Int)).testBit t = true ↔ ∃ x, x ∈ ms ∧ x.2.1 = (c : Int) ∧ v.testBit x.1.toNat = true ∧ Pth ms x.2.2 [] t := by
  have hlt : ms.foldl (stMove v c) 0 < 2 ^ 40 := foldl_inv _ (fun u => u < 2 ^ 40) (fun _ _ hx hu => stMove_lt hm hx hu) (by decide)
  unfold stV
  rw [clV_pth hm hlt]
  constructor
  · rintro ⟨s, hs, hb, hp⟩
    rw [stFold_bit] at hb
    rcases hb with hb | ⟨m, hmm, h1, h2, h3⟩
    · simp at hb
    · refine ⟨m, hmm, h1, h2, ?_⟩
      have e : m.2.2 = (s : Int) := by have := (hm m hmm).2; omega
      rw [e]
      exact hp
  · rintro ⟨x, hx, h1, h2, hp⟩
    have h4 := (hm x hx).2
    refine ⟨x.2.2.toNat, by omega, ?_, ?_⟩
    · rw [stFold_bit]
      exact .inr ⟨x, hx, h1, h2, rfl⟩
    · have e : ((x.2.2.toNat : Nat) : Int) = x.2.2 := by omega
      rw [e]
      exact hp
theorem Pth.split {ms : List (Int × Int × Int)} {s u : Int} {x : List Nat} (h : Pth ms s x u) : ∀ {c : Nat} {w : List Nat}, x = c :: w → ∃ m, m ∈ ms ∧ m.2.1 = (c : Int) ∧ Pth ms s [] m.1 ∧ Pth ms m.2.2 w u := by
  induction h with
  | here s => intro c w h; cases h
  | eps hm _ ih =>
    intro c w h
    obtain ⟨m, h1, h2, h3, h4⟩ := ih h
    exact ⟨m, h1, h2, .eps hm h3, h4⟩
  | step hm hp ih =>
    intro c w h
    injection h with h1 h2
    subst h1
    subst h2
    exact ⟨_, hm, rfl, .here _, hp⟩
theorem stV_closed {ms : List (Int × Int × Int)} (hm : mvIn 40 ms) (v : Nat) (c : Int) : closedV ms (stV 40 ms v c) := clV_closed hm _
theorem foldl_pth {ms : List (Int × Int × Int)} (hm : mvIn 40 ms) : ∀ (cs : List Nat) (V : Nat), V < 2 ^ 40 → closedV ms V → ∀ t, (cs.foldl (fun v (c : Nat) => stV 40 ms v (c : Int)) V).testBit t = true ↔ ∃ s : Nat, s < 40 ∧ V.testBit s = true ∧ Pth ms s cs t
  | [], V, hV, hc, t => by
    rw [List.foldl_nil]
    constructor
    · intro h
      exact ⟨t, lt_of_bit hV h, h, .here _⟩
    · rintro ⟨s, hs, h1, h2⟩
      have := h2.closed hc rfl (by rwa [Int.toNat_natCast])
      rwa [Int.toNat_natCast] at this
  | c :: cs, V, hV, hc, t => by
    rw [List.foldl_cons, foldl_pth hm cs _ (stV_lt hm V c) (stV_closed hm V c)]
    constructor
    · rintro ⟨s, hs, h1, h2⟩
      rw [stV_pth hm] at h1
      obtain ⟨x, hx, h3, h4, h5⟩ := h1
      have h6 := (hm x hx).1
      refine ⟨x.1.toNat, by omega, h4, ?_⟩
      have e : ((x.1.toNat : Nat) : Int) = x.1 := by omega
      rw [e]
      refine .step (t := x.2.2) ?_ (h5.append h2)
      rw [← h3]
      exact hx
    · rintro ⟨s, hs, h1, h2⟩
      obtain ⟨m, h3, h4, h5, h6⟩ := h2.split rfl
      have h7 := (hm m h3).2
      refine ⟨m.2.2.toNat, by omega, ?_, ?_⟩
      · rw [stV_pth hm]
        have := h5.closed hc rfl (by rwa [Int.toNat_natCast])
        refine ⟨m, h3, h4, this, ?_⟩
        have e : ((m.2.2.toNat : Nat) : Int) = m.2.2 := by omega
        rw [e]
        exact .here _
      · have e : ((m.2.2.toNat : Nat) : Int) = m.2.2 := by omega
        rw [e]
        exact h6
theorem accS_pth {n : NfaD} (hn : nfaOk n = true) (cs : List Nat) : accS n cs = true ↔ ∃ f ∈ n.firsts, ∃ e ∈ n.ends, Pth n.moves f cs e := by
  obtain ⟨m, hm, hm40, hmv, -, hf, -, he, -⟩ := nfaOk_facts hn
  have hm4 := mvIn_40 hmv hm40
  have hfi : inN 40 n.firsts := fun s hs => by have := hf s hs; omega
  have hlt : clV 40 n.moves (setV n.firsts) < 2 ^ 40 := clIt_lt hm4 (setV_lt hfi) 40
  have hrun := foldl_pth hm4 cs _ hlt (clV_closed hm4 (setV n.firsts))
  unfold accS runS
  rw [List.any_eq_true]
  constructor
  · rintro ⟨e, hee, hb⟩
    obtain ⟨s, hs, h1, h2⟩ := (hrun _).1 hb
    rw [clV_pth hm4 (setV_lt hfi)] at h1
    obtain ⟨r, hr, h3, h4⟩ := h1
    rw [setV_bit, List.any_eq_true] at h3
    obtain ⟨f, hff, h5⟩ := h3
    have h5 := of_decide_eq_true h5
    have h6 := hf f hff
    have h7 := he e hee
    refine ⟨f, hff, e, hee, ?_⟩
    have e1 : (r : Int) = f := by omega
    have e2 : ((e.toNat : Nat) : Int) = e := by omega
    rw [e1] at h4
    rw [e2] at h2
    exact h4.append h2
  · rintro ⟨f, hff, e, hee, hp⟩
    have h6 := hf f hff
    have h7 := he e hee
    refine ⟨e, hee, (hrun _).2 ⟨f.toNat, by omega, ?_, ?_⟩⟩
    · exact clV_sub 40 n.moves _ _ (setV_mem hff)
    · have e1 : ((f.toNat : Nat) : Int) = f := by omega
      have e2 : ((e.toNat : Nat) : Int) = e := by omega
      rw [e1, e2]
      exact hp
def txB (l : List Nat) : ByteArray := ⟨(l.map UInt8.ofNat).toArray⟩
def isT (l : List Nat) : Prop := ∀ b ∈ l, b < 256
theorem txB_size (l : List Nat) : (txB l).size = l.length := by simp [txB, ByteArray.size]
theorem getD_memT {l : List Nat} {i : Nat} (hi : i < l.length) : l.getD i 0 ∈ l := by
  rw [List.getD_eq_getElem?_getD, List.getElem?_eq_getElem hi]
  exact List.getElem_mem hi
theorem txB_at {l : List Nat} {i : Nat} (hi : i < l.length) (ht : isT l) (h : i < (txB l).size) : (((txB l)[i]'h).toNat : Int) = (l.getD i 0 : Nat) := by
  have hc : l.getD i 0 < 256 := ht _ (getD_memT hi)
  have e : (txB l)[i]'h = UInt8.ofNat (l.getD i 0) := by
    show (txB l).data[i] = _
    simp [txB, hi]
  rw [e, UInt8.toNat_ofNat']
  omega
theorem txB_index {l : List Nat} {i : Nat} (hi : i < l.length) (ht : isT l) (w : World) : (Instr.index 9 (.string (txB l)) (.int .i64 (i : Int))).run Try.prog w = .ok (.int .u8 ((l.getD i 0 : Nat) : Int)) w := by
  have hs : (txB l).size = l.length := txB_size l
  rw [run_index_string w 9 (txB l) .i64 i Try.underlying9, dif_pos (by omega)]
  congr 2
  exact txB_at hi ht _
def okT (l : List Nat) (k : Nat) : Bool := (List.range k).all fun i => inB ((l.getD i 0 : Nat) : Int) 97 99
def wdOk (l : List Nat) : Bool := okT l l.length && decide (l.length ≤ 8)
theorem okT_succ {l : List Nat} {k : Nat} (h : okT l k = true) (h1 : inB ((l.getD k 0 : Nat) : Int) 97 99 = true) : okT l (k + 1) = true := range_snoc h h1
theorem okT_bad {l : List Nat} {k : Nat} (hk : k < l.length) (h1 : inB ((l.getD k 0 : Nat) : Int) 97 99 = false) : wdOk l = false := by
  unfold wdOk okT
  have : ((List.range l.length).all fun i => inB ((l.getD i 0 : Nat) : Int) 97 99) = false := by
    rw [List.all_eq_false]
    exact ⟨k, List.mem_range.2 hk, by rw [h1]; simp⟩
  rw [this]
  rfl
set_option maxHeartbeats 1600000 in
theorem areLetters_any (l : List Nat) (w : World) (ht : isT l) (hl : l.length ≤ 1000000) (r : Bool) (hr : wdOk l = r) :
    Calls Try.prog 125 #[.string (txB l), .int .i64 8] w fun e w' => e = .returned (.bool r) ∧ w = w' := by
  have hs : (txB l).size = l.length := txB_size l
  have Hhr := Lib.hid hr; clear hr
  have Hht := Lib.hid ht; clear ht
  go_enter Try.func125, Try.ntmps125
  go_wp2
  go_loopw [8] (fun i wr => ∃ k : Nat, i = .int .i64 k ∧ k ≤ l.length ∧ okT l k = true ∧ w = wr) (fun i _ => l.length - (intOf i).toNat)
  case atStart => exact ⟨0, rfl, Nat.zero_le _, rfl, rfl⟩
  case round =>
    obtain ⟨k, rfl, hk, hok, rfl⟩ := hrel
    by_cases hlt : k < l.length
    · have hkl : (k : Int) < l.length := by omega
      have hrun := txB_index hlt Hht.out
      have hb := Hht.out _ (getD_memT hlt)
      obtain ⟨c, hcc⟩ : ∃ c, c = l.getD k 0 := ⟨_, rfl⟩
      rw [← hcc] at hrun hb
      have hw9 : IntKind.i64.wrap (c : Int) = (c : Int) := IntWalk.i64_in _ (by omega)
      have Hhok := Lib.hid hok; clear hok
      have Hhcc := Lib.hid hcc; clear hcc
      cases hin : inB (c : Int) 97 99
      · have Hhin := Lib.hid hin; clear hin
        go_wp2_with (go_at_call 86; refine (within_any _ _ _ _ _ Hhin.out).mono ?_; rintro e w' ⟨rfl, rfl⟩)
        go_ret
        exact ⟨by rw [← Hhr.out, okT_bad hlt (by rw [← Hhcc.out]; exact Hhin.out)]; rfl, rfl⟩
      · have Hhin := Lib.hid hin; clear hin
        go_wp2_with (go_at_call 86; refine (within_any _ _ _ _ _ Hhin.out).mono ?_; rintro e w' ⟨rfl, rfl⟩)
        go_roundw
        case rel => exact ⟨k + 1, by go_num, by omega, okT_succ Hhok.out (by rw [← Hhcc.out]; exact Hhin.out), trivial⟩
        case measure => simp [intOf]; omega
    · obtain rfl : k = l.length := by omega
      have hrr : decide ((l.length : Int) ≤ 8) = r := by
        rw [← Hhr.out]
        unfold wdOk
        rw [hok, Bool.true_and]
        exact decide_eq_decide.2 (by omega)
      have Hhok := Lib.hid hok; clear hok
      have Hhrr := Lib.hid hrr; clear hrr
      go_wp2
      go_ret
      exact ⟨by rw [← Hhrr.out]; rfl, rfl⟩
set_option maxHeartbeats 1600000 in
theorem implWordValid_any (l : List Nat) (w : World) (ht : isT l) (hl : l.length ≤ 1000000) (r : Bool) (hr : wdOk l = r) :
    Calls Try.prog 74 #[.string (txB l)] w fun e w' => e = .returned (.bool r) ∧ w = w' := by
  have Hhr := Lib.hid hr; clear hr
  have Hht := Lib.hid ht; clear ht
  go_enter Try.func74, Try.ntmps74
  go_wp2_with (go_at_call 125; refine (areLetters_any l _ Hht.out hl _ Hhr.out).mono ?_; rintro e w' ⟨rfl, rfl⟩)
  go_ret
  exact ⟨rfl, rfl⟩
set_option maxHeartbeats 800000 in
theorem letterT_any (l : List Nat) (i : Nat) (hi : i < l.length) (ht : isT l) (hlo : 97 ≤ l.getD i 0) (w : World) : Calls Try.prog 106 #[.string (txB l), .int .i64 i] w fun e w' => e = .returned (.int .i64 ((l.getD i 0 - 97 : Nat) : Int)) ∧ w = w' := by
  have hb := ht _ (getD_memT hi)
  have hrun := txB_index hi ht
  obtain ⟨c, hcc⟩ : ∃ c, c = l.getD i 0 - 97 := ⟨_, rfl⟩
  have hc2 : ((l.getD i 0 : Nat) : Int) = 97 + (c : Int) := by omega
  rw [hc2] at hrun
  rw [← hcc]
  have hw8 : IntKind.u8.wrap (97 + (c : Int) - 97) = (c : Int) := by
    have : 97 + (c : Int) - 97 = (c : Int) := by omega
    rw [this]
    exact IntWalk.u8_in _ (by omega)
  have hw9 : IntKind.i64.wrap (c : Int) = (c : Int) := IntWalk.i64_in _ (by omega)
  have Hhcc := Lib.hid hcc; clear hcc
  clear hc2 hlo hb
  go_enter Try.func106, Try.ntmps106
  go_wp2
  go_ret
  exact ⟨rfl, rfl⟩
def shF : Nat → Nat
  | 0 => 0
  | k + 1 => shF k + 3 ^ k
theorem pow3_le {k : Nat} (h : k ≤ 9) : 3 ^ k ≤ 19683 := Nat.pow_le_pow_right (by omega) h
theorem shF_le : ∀ k, shF k ≤ 3 ^ k
  | 0 => by decide
  | k + 1 => by
    show shF k + 3 ^ k ≤ 3 ^ (k + 1)
    have := shF_le k
    rw [Nat.pow_succ]
    omega
set_option maxHeartbeats 1600000 in
theorem wordsOf_any (n : Nat) (w : World) (hn : n ≤ 9) : Calls Try.prog 140 #[.int .i64 n] w fun e w' => e = .returned (.int .i64 ((3 ^ n : Nat) : Int)) ∧ w = w' := by
  go_enter Try.func140, Try.ntmps140
  go_wp2
  go_loopw [3, 5] (fun p i wr => ∃ k q : Nat, i = .int .i64 k ∧ p = .int .i64 q ∧ k ≤ n ∧ 3 ^ k = q ∧ w = wr) (fun _ i _ => n - (intOf i).toNat)
  case atStart => exact ⟨0, 1, rfl, rfl, Nat.zero_le _, rfl, rfl⟩
  case round =>
    obtain ⟨k, q, rfl, rfl, hk, hq, rfl⟩ := hrel
    have hq2 := pow3_le (k := k) (by omega)
    rw [hq] at hq2
    by_cases hlt : k < n
    · have hkl : (k : Int) < n := by omega
      have Hhq := Lib.hid hq; clear hq
      go_wp2
      go_roundw
      case rel => exact ⟨k + 1, q * 3, by go_num, by go_num, by omega, by rw [Nat.pow_succ, Hhq.out], trivial⟩
      case measure => simp [intOf]; omega
    · obtain rfl : k = n := by omega
      have Hhq := Lib.hid hq; clear hq
      go_wp2
      go_ret
      exact ⟨by rw [Hhq.out]; rfl, rfl⟩
set_option maxHeartbeats 1600000 in
theorem shorter_any (n : Nat) (w : World) (hn : n ≤ 9) : Calls Try.prog 107 #[.int .i64 n] w fun e w' => e = .returned (.int .i64 ((shF n : Nat) : Int)) ∧ w = w' := by
  go_enter Try.func107, Try.ntmps107
  go_wp2
  go_loopw [3, 6] (fun p i wr => ∃ k q : Nat, i = .int .i64 k ∧ p = .int .i64 q ∧ k ≤ n ∧ shF k = q ∧ w = wr) (fun _ i _ => n - (intOf i).toNat)
  case atStart => exact ⟨0, 0, rfl, rfl, Nat.zero_le _, rfl, rfl⟩
  case round =>
    obtain ⟨k, q, rfl, rfl, hk, hq, rfl⟩ := hrel
    have hq2 := pow3_le (k := k) (by omega)
    have hq3 := shF_le k
    rw [hq] at hq3
    obtain ⟨t, hT⟩ : ∃ t, 3 ^ k = t := ⟨_, rfl⟩
    rw [hT] at hq2 hq3
    by_cases hlt : k < n
    · have hkl : (k : Int) < n := by omega
      have Hhq := Lib.hid hq; clear hq
      have HhT := Lib.hid hT; clear hT
      go_wp2_with (go_at_call 140; refine (wordsOf_any k _ (by omega)).mono ?_; rintro e w' ⟨rfl, rfl⟩; rw [HhT.out])
      go_roundw
      case rel => exact ⟨k + 1, q + t, by go_num, by go_num, by omega, by rw [← Hhq.out, ← HhT.out]; rfl, trivial⟩
      case measure => simp [intOf]; omega
    · obtain rfl : k = n := by omega
      have Hhq := Lib.hid hq; clear hq
      have HhT := Lib.hid hT; clear hT
      go_wp2
      go_ret
      exact ⟨by rw [Hhq.out]; rfl, rfl⟩
set_option maxHeartbeats 1600000 in
theorem rankAb_any (w : World) : Calls Try.prog 57 #[.string { data := #[97, 98] }] w fun e w' => e = .returned (.int .i64 5) ∧ w = w' := by
  have hab : ({ data := #[97, 98] } : ByteArray) = txB [97, 98] := rfl
  have hab2 : isT [97, 98] := fun b hb => by simp at hb; omega
  have hsz : (txB [97, 98]).size = 2 := rfl
  have l0 := fun w => letterT_any [97, 98] 0 (by decide) hab2 (by decide) w
  have l1 := fun w => letterT_any [97, 98] 1 (by decide) hab2 (by decide) w
  have sh : ∀ w, Calls Try.prog 107 #[.int .i64 2] w fun e w' => e = .returned (.int .i64 4) ∧ w = w' := fun w => shorter_any 2 w (by omega)
  have hv := fun w => implWordValid_any [97, 98] w hab2 (by decide) true rfl
  rw [hab]
  have L0 := Lib.hid l0
  have L1 := Lib.hid l1
  have Sh := Lib.hid sh
  have Hv := Lib.hid hv
  clear l0 l1 sh hab hab2 hv
  go_enter Try.func57, Try.ntmps57
  go_wp2_with (go_at_call 74; refine (Hv.out _).mono ?_; rintro e w' ⟨rfl, rfl⟩)
  go_loopw [3, 10] (fun n i wr => ∃ k q : Nat, i = .int .i64 k ∧ n = .int .i64 q ∧ k ≤ 2 ∧ q ≤ 1 ∧ (k < 2 → q = 0) ∧ (k = 2 → q = 1) ∧ w = wr) (fun _ i _ => 2 - (intOf i).toNat)
  case atStart => exact ⟨0, 0, rfl, rfl, by omega, by omega, fun _ => rfl, fun h => by omega, rfl⟩
  case round =>
    obtain ⟨k, q, rfl, rfl, hk, hq1, hq2, hq3, rfl⟩ := hrel
    obtain rfl | rfl | rfl : k = 0 ∨ k = 1 ∨ k = 2 := by omega
    · obtain rfl := hq2 (by omega)
      clear hq1 hq2 hq3 hk
      go_wp2_with (go_at_call 106; refine (L0.out _).mono ?_; rintro e w' ⟨rfl, rfl⟩)
      go_roundw
      case rel => exact ⟨1, 0, rfl, rfl, by omega, by omega, fun _ => rfl, fun h => by omega, trivial⟩
      case measure => simp [intOf]
    · obtain rfl := hq2 (by omega)
      clear hq1 hq2 hq3 hk
      go_wp2_with (go_at_call 106; refine (L1.out _).mono ?_; rintro e w' ⟨rfl, rfl⟩)
      go_roundw
      case rel => exact ⟨2, 1, rfl, rfl, by omega, by omega, fun h => by omega, fun _ => rfl, trivial⟩
      case measure => simp [intOf]
    · obtain rfl := hq3 rfl
      clear hq1 hq2 hq3 hk
      go_wp2_with (go_at_call 107; refine (Sh.out _).mono ?_; rintro e w' ⟨rfl, rfl⟩)
      go_ret
      exact ⟨rfl, rfl⟩
set_option maxHeartbeats 1600000 in
theorem alive_any (w : World) : Calls Try.prog 21 #[] w fun e w' => e = .returned (.bool true) ∧ w = w' := by
  go_enter Try.func21, Try.ntmps21
  go_wp2_with (go_at_call 57; refine (rankAb_any _).mono ?_; rintro e w' ⟨rfl, rfl⟩)
  go_ret
  exact ⟨rfl, rfl⟩
end Go.Proofs.Ytalbofnhcpjilaa
namespace Go.Proofs.Ytalbofnhcpjilaa
open Go.RowKit
theorem det_okK {K : Nat} {n : NfaD} {D : DfaD} (h : detK K n = some D) : nfaOk n = true ∧ (metS n K).length ≤ K ∧ D = numDfa (nxS n) (enS n) (metS n K) := by
  unfold detK at h
  split at h
  · rename_i h1
    exact ⟨h1.1, h1.2, (Option.some.inj h).symm⟩
  · cases h
theorem foldl_nxS {n : NfaD} : ∀ (w : List Nat) (v : Nat), w.foldl (nxS n) (((v : Nat) : Int), 0) = (((w.foldl (fun v (c : Nat) => stV 40 n.moves v (c : Int)) v : Nat) : Int), 0)
  | [], _ => rfl
  | c :: w, v => by
    rw [List.foldl_cons, List.foldl_cons, ← foldl_nxS w]
    rfl
theorem det_accK {K : Nat} {n : NfaD} {D : DfaD} (h : detK K n = some D) {w : List Nat} (hw : isW w) : accD D w = accS n w := by
  obtain ⟨-, h2, rfl⟩ := det_okK h
  rw [accD_num h2 hw, foldl_nxS]
  rfl
end Go.Proofs.Ytalbofnhcpjilaa
namespace Go.Proofs.Ytalbofnhcpjilaa
open Go.RowKit
theorem stOk_ofP {l : List Int} {m : Int} (h : ∀ j, j < l.length → (0 ≤ l.getD j 0 ∧ l.getD j 0 ≤ m - 1) ∧ (0 < j → l.getD (j - 1) 0 < l.getD j 0)) : stOk l m = true := by
  unfold stOk
  rw [List.all_eq_true]
  intro j hj
  obtain ⟨h1, h2⟩ := h j (List.mem_range.1 hj)
  unfold okAt
  rw [Bool.and_eq_true, Bool.or_eq_true]
  refine ⟨by simp only [inB, Bool.and_eq_true, decide_eq_true_eq]; exact h1, ?_⟩
  by_cases h0 : j = 0
  · exact .inl (decide_eq_true h0)
  · exact .inr (decide_eq_true (h2 (by omega)))
theorem bit_two {s t : Nat} : (2 ^ s).testBit t = decide (s = t) := by
  rw [Nat.testBit_two_pow]
theorem mvs_mem {d : DfaD} : ∀ {k : Nat} {m : Int × Int × Int}, m ∈ mvs d k ↔ ∃ s c : Nat, s < k ∧ c < 3 ∧ m = ((s : Int), (c : Int), (d.next.getD s []).getD c 0)
  | 0, m => by simp [mvs]
  | k + 1, m => by
    rw [show mvs d (k + 1) = mvs d k ++ rowM d k from rfl, List.mem_append, mvs_mem]
    constructor
    · rintro (⟨s, c, h1, h2, h3⟩ | h)
      · exact ⟨s, c, by omega, h2, h3⟩
      · obtain ⟨c, hc, rfl⟩ := List.mem_map.1 h
        exact ⟨k, c, by omega, List.mem_range.1 hc, rfl⟩
    · rintro ⟨s, c, h1, h2, h3⟩
      by_cases h : s = k
      · subst h
        exact .inr (List.mem_map.2 ⟨c, List.mem_range.2 h2, h3.symm⟩)
      · exact .inl ⟨s, c, by omega, h2, h3⟩
theorem nfaOf_closed {d : DfaD} (k u : Nat) : closedV (mvs d k) u := by
  intro m hm he
  obtain ⟨s, c, -, -, rfl⟩ := mvs_mem.1 hm
  simp only at he
  omega
theorem bit_ext {a b : Nat} (h : ∀ t, a.testBit t = true ↔ b.testBit t = true) : a = b := by
  apply Nat.eq_of_testBit_eq
  intro t
  rw [Bool.eq_iff_iff]
  exact h t
theorem stV_one {d : DfaD} (hd : dfaOk d.next d.ends = true) {s c : Nat} (hs : s < d.next.length) (hc : c < 3) : ∃ q : Nat, q < d.next.length ∧ stV 40 (mvs d d.next.length) (2 ^ s) (c : Int) = 2 ^ q := by
  have hr := (dfaOk_row hd hs).2 c hc
  obtain ⟨q, hq⟩ := Int.eq_ofNat_of_zero_le hr.1
  refine ⟨q, by omega, ?_⟩
  unfold stV
  rw [clV_idem (nfaOf_closed _ _)]
  apply bit_ext
  intro t
  rw [stFold_bit, bit_two, decide_eq_true_eq]
  constructor
  · rintro (h | ⟨m, hm, h1, h2, h3⟩)
    · simp at h
    · obtain ⟨s', c', h4, h5, rfl⟩ := mvs_mem.1 hm
      rw [bit_two, decide_eq_true_eq] at h2
      simp only [Int.toNat_natCast] at h2
      subst h2
      have : c' = c := by simp only at h1; omega
      subst this
      simp only [hq] at h3
      omega
  · rintro rfl
    right
    refine ⟨_, mvs_mem.2 ⟨s, c, hs, hc, rfl⟩, rfl, ?_, ?_⟩
    · rw [bit_two]
      simp
    · simp only [hq]
      omega
theorem met_one {d : DfaD} (hd : dfaOk d.next d.ends = true) (K : Nat) : (metS (nfaOf d) K).length ≤ d.next.length := by
  have hl := dfaOk_len hd
  have hf : fstV (nfaOf d) = 2 ^ 0 := by
    unfold fstV
    rw [show (nfaOf d).moves = mvs d d.next.length from rfl, clV_idem (nfaOf_closed _ _)]
    rfl
  have hall : ∀ x ∈ metS (nfaOf d) K, ∃ s : Nat, s < d.next.length ∧ x = (((2 ^ s : Nat) : Int), 0) := by
    refine bat_all (Q := fun x => ∃ s : Nat, s < d.next.length ∧ x = (((2 ^ s : Nat) : Int), 0)) ⟨0, by omega, by rw [hf]⟩ ?_ K
    rintro x c hc ⟨s, hs, rfl⟩
    obtain ⟨q, hq, h⟩ := stV_one hd hs hc
    refine ⟨q, hq, ?_⟩
    unfold nxS
    rw [show (nfaOf d).moves = mvs d d.next.length from rfl]
    simp only [Int.toNat_natCast]
    rw [h]
  have := nodup_le (bat_good (nx := nxS (nfaOf d)) (a := (((fstV (nfaOf d) : Nat) : Int), 0)) K).1 (m := (List.range d.next.length).map fun s => (((2 ^ s : Nat) : Int), (0 : Int))) fun x hx => by
    obtain ⟨s, hs, rfl⟩ := hall x hx
    exact List.mem_map.2 ⟨s, List.mem_range.2 hs, rfl⟩
  simpa using this
theorem eds_pair (d : DfaD) : ∀ k, (eds d k).Pairwise (· < ·)
  | 0 => List.Pairwise.nil
  | k + 1 => by
    unfold eds
    split
    · rw [List.pairwise_append]
      refine ⟨eds_pair d k, List.pairwise_singleton _ _, fun x hx y hy => ?_⟩
      rw [List.mem_singleton.1 hy]
      exact (eds_in d k x hx).2
    · exact eds_pair d k
theorem nfaOf_ok {d : DfaD} (hd : dfaOk d.next d.ends = true) : nfaOk (nfaOf d) = true := by
  have hl := dfaOk_len hd
  unfold nfaOk
  simp only [Bool.and_eq_true, decide_eq_true_eq]
  refine ⟨⟨⟨⟨?_, ?_⟩, ?_⟩, ?_⟩, ?_⟩
  · show inB (d.next.length : Int) 0 40 = true
    simp only [inB, Bool.and_eq_true, decide_eq_true_eq]
    exact ⟨by omega, by omega⟩
  · show (mvs d d.next.length).length ≤ 400
    rw [mvs_len]
    omega
  · refine stOk_ofP fun j hj => ?_
    have hj : j < 1 := hj
    obtain rfl : j = 0 := by omega
    refine ⟨?_, fun h => by omega⟩
    simp only [nfaOf, List.getD_cons_zero]
    omega
  · refine stOk_ofP fun j hj => ?_
    have hj : j < (eds d d.next.length).length := hj
    have h1 := eds_in d _ _ (memD (d := (0 : Int)) hj)
    refine ⟨?_, fun h => ?_⟩
    · show 0 ≤ (eds d d.next.length).getD j 0 ∧ (eds d d.next.length).getD j 0 ≤ (d.next.length : Int) - 1
      omega
    · have := List.pairwise_iff_getElem.1 (eds_pair d d.next.length) (j - 1) j (by omega) hj (by omega)
      show (eds d d.next.length).getD (j - 1) 0 < (eds d d.next.length).getD j 0
      rw [getD_at (by omega), getD_at hj]
      exact this
  · rw [List.all_eq_true]
    intro m hm
    obtain ⟨s, c, h1, h2, rfl⟩ := mvs_mem.1 (show m ∈ mvs d d.next.length from hm)
    have hr := (dfaOk_row hd h1).2 c h2
    show mvOk (d.next.length : Int) _ = true
    simp only [mvOk, inB, Bool.and_eq_true, decide_eq_true_eq]
    exact ⟨⟨⟨by omega, by omega⟩, by omega, by omega⟩, by omega, by omega⟩
end Go.Proofs.Ytalbofnhcpjilaa
namespace Go.Proofs.Ytalbofnhcpjilaa
open Go.RowKit
theorem stV_nx {d : DfaD} (hd : dfaOk d.next d.ends = true) {s c : Nat} (hs : s < d.next.length) (hc : c < 3) : stV 40 (mvs d d.next.length) (2 ^ s) (c : Int) = 2 ^ nxD d s c := by
  have hr := (dfaOk_row hd hs).2 c hc
  unfold stV
  rw [clV_idem (nfaOf_closed _ _)]
  apply bit_ext
  intro t
  rw [stFold_bit, bit_two, decide_eq_true_eq]
  constructor
  · rintro (h | ⟨m, hm, h1, h2, h3⟩)
    · simp at h
    · obtain ⟨s', c', h4, h5, rfl⟩ := mvs_mem.1 hm
      rw [bit_two, decide_eq_true_eq] at h2
      simp only [Int.toNat_natCast] at h2
      subst h2
      have : c' = c := by simp only at h1; omega
      subst this
      exact h3
  · rintro rfl
    right
    refine ⟨_, mvs_mem.2 ⟨s, c, hs, hc, rfl⟩, rfl, ?_, rfl⟩
    rw [bit_two]
    simp
theorem fst_nfaOf (d : DfaD) : fstV (nfaOf d) = 2 ^ 0 := by
  unfold fstV
  rw [show (nfaOf d).moves = mvs d d.next.length from rfl, clV_idem (nfaOf_closed _ _)]
  rfl
theorem eds_mem {d : DfaD} : ∀ {k : Nat} {x : Int}, x ∈ eds d k ↔ ∃ s : Nat, x = (s : Int) ∧ s < k ∧ enD d s = true
  | 0, x => by simp [eds]
  | k + 1, x => by
    have ih := eds_mem (d := d) (k := k) (x := x)
    unfold eds
    by_cases h : d.ends.getD k false = true
    · rw [if_pos h, List.mem_append, ih, List.mem_singleton]
      constructor
      · rintro (⟨s, h1, h2, h3⟩ | rfl)
        · exact ⟨s, h1, by omega, h3⟩
        · exact ⟨k, rfl, by omega, h⟩
      · rintro ⟨s, h1, h2, h3⟩
        by_cases hk : s = k
        · subst hk; exact .inr h1
        · exact .inl ⟨s, h1, by omega, h3⟩
    · rw [if_neg h, ih]
      constructor
      · rintro ⟨s, h1, h2, h3⟩
        exact ⟨s, h1, by omega, h3⟩
      · rintro ⟨s, h1, h2, h3⟩
        by_cases hk : s = k
        · subst hk; exact absurd h3 h
        · exact ⟨s, h1, by omega, h3⟩
theorem det_nfaOf {d : DfaD} (hd : dfaOk d.next d.ends = true) {K : Nat} (hK : d.next.length ≤ K) : detK K (nfaOf d) = some (trimD d) := by
  have hl := dfaOk_len hd
  have hf := fine_of hd
  unfold detK
  rw [if_pos ⟨nfaOf_ok hd, Nat.le_trans (met_one hd K) hK⟩]
  congr 1
  let f : Int → Int × Int := fun x => (((2 ^ x.toNat : Nat) : Int), 0)
  let Q : Int → Prop := fun x => ∃ s : Nat, x = (s : Int) ∧ s < d.next.length
  have hm := numDfa_mapQ (nx := dnx d) (nx' := nxS (nfaOf d)) (a := (0 : Int)) (f := f) (Q := Q) (en := den d) (en' := enS (nfaOf d)) (K := K) ⟨0, rfl, by omega⟩ (by
    rintro x c hc ⟨s, rfl, hs⟩
    obtain ⟨h3, h4⟩ := fine_nx hf hs hc
    exact ⟨_, h4, h3⟩) (by
    rintro x y ⟨s, rfl, hs⟩ ⟨t, rfl, ht⟩ h
    have h1 : ((2 ^ s : Nat) : Int) = ((2 ^ t : Nat) : Int) := congrArg Prod.fst h
    have : s = t := (Nat.pow_right_inj (show 1 < 2 by omega)).1 (Int.ofNat_inj.1 h1)
    rw [this]) (by
    rintro x c hc ⟨s, rfl, hs⟩
    obtain ⟨h3, h4⟩ := fine_nx hf hs hc
    simp only [f, h4, nxS, Int.toNat_natCast]
    rw [show (nfaOf d).moves = mvs d d.next.length from rfl, stV_nx hd hs hc]) (by
    rintro x ⟨s, rfl, hs⟩
    rw [den_nat]
    simp only [f, enS, Int.toNat_natCast]
    unfold endV
    rw [show (nfaOf d).ends = eds d d.next.length from rfl, Bool.eq_iff_iff, List.any_eq_true]
    constructor
    · rintro ⟨x, hx, hb⟩
      obtain ⟨t, rfl, ht, he⟩ := eds_mem.1 hx
      rw [bit_two, decide_eq_true_eq] at hb
      simp only [Int.toNat_natCast] at hb
      rw [hb]
      exact he
    · intro he
      refine ⟨(s : Int), eds_mem.2 ⟨s, rfl, hs, he⟩, ?_⟩
      rw [bit_two]
      simp)
  have h0 : f 0 = ((((fstV (nfaOf d) : Nat) : Int), 0) : Int × Int) := by rw [fst_nfaOf]; rfl
  rw [h0] at hm
  refine hm.trans ?_
  unfold trimD
  rw [bat_done (met_facts hf _).2 hK]
theorem nfaOf_acc {d : DfaD} (hd : dfaOk d.next d.ends = true) {w : List Nat} (hw : isW w) : accS (nfaOf d) w = accD d w := by
  rw [← det_accK (det_nfaOf hd (Nat.le_refl _)) hw, trim_acc (fine_of hd) hw]
end Go.Proofs.Ytalbofnhcpjilaa
