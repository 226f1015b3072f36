/-
  The walks over the program's CheckPairs and over the function behind it.
  Conditions: the arguments read as automata and as a list of pairs; for the function behind it, the automata are valid.
-/
import Derived.Test.YtalbofnhcpjilaaPk25Tz
namespace Go.Proofs.Ytalbofnhcpjilaa
open Go.RowKit Go.Maps
theorem zeroBool (w : World) : (zeroValue 4).run Try.prog w = .ok (.bool false) w := by kernel_rfl
end Go.Proofs.Ytalbofnhcpjilaa
namespace Go.Proofs.Ytalbofnhcpjilaa
open Go.RowKit
def Strs (B : Nat) (w : World) (v : Value) (ws : List (List Nat)) : Prop := Sl B w v ws.length 1 (wdCells ws)
theorem Strs.below {B : Nat} {w w' : World} {v : Value} {ws : List (List Nat)} (h : Strs B w v ws) (he : Below w.heap.size w w') : Strs B w' v ws := Sl.below h he
theorem Strs.form {B : Nat} {w : World} {v : Value} {ws : List (List Nat)} (h : Strs B w v ws) : ∃ a cap, v = .slice a ws.length cap ∧ ws.length ≤ cap ∧ cap ≤ 9223372036854775807 ∧
  (0 < ws.length → ∃ b off, a = some ⟨b, off, none⟩ ∧ b < w.heap.size ∧ ∀ j, j < ws.length → w.cell? ⟨b, off + j, none⟩ = some (.string (wdB (ws.getD j [])))) := by
 obtain ⟨hl, a, cap, hv, h1, h2, h3⟩ := h
 refine ⟨a, cap, hv, h1, h2, fun hn => ?_⟩
 obtain ⟨b, off, ha, hb, hlt, hc⟩ := h3 hn
 refine ⟨b, off, ha, hlt, fun j hj => ?_⟩
 rw [hc j (by omega)]
 simp [hj]
def okWs (ws : List (List Nat)) : Prop := ∀ x ∈ ws, isW x ∧ x.length ≤ 400000
def LOk (st : List (List Nat)) : Prop := (∀ x ∈ st, isW x) ∧ ∀ i, i < st.length → (st.getD i []).length ≤ i
theorem LOk.visit {β : Type} [DecidableEq β] {key : List Nat → β} {s : List (List Nat)} (h : LOk s) {w : List Nat} (hw : isW w) (hl : w.length ≤ s.length) : LOk (kvisit key s w) := by
 unfold kvisit
 split
 ·exact h
 ·refine ⟨fun x hx => ?_, fun i hi => ?_⟩
  ·rcases List.mem_append.1 hx with hx | hx
   ·exact h.1 x hx
   ·simp only [List.mem_singleton] at hx
    rw [hx]
    exact hw
  ·simp only [List.length_append, List.length_singleton] at hi
   by_cases hin : i < s.length
   ·have := h.2 i hin
    simp only [List.getD_eq_getElem?_getD] at this ⊢
    rw [List.getElem?_append_left hin]
    exact this
   ·obtain rfl : i = s.length := by omega
    simpa using hl
theorem LOk.row {β : Type} [DecidableEq β] {key : List Nat → β} {s : List (List Nat)} (h : LOk s) {k : Nat} (hk : k < s.length) : ∀ n, n ≤ 3 → LOk (krow key s (s.getD k []) n) ∧ s.length ≤ (krow key s (s.getD k []) n).length
 | 0, _ => ⟨h, Nat.le_refl _⟩
 | n + 1, hn => by
  obtain ⟨h1, h2⟩ := h.row (key := key) hk n (by omega)
  have h3 := (kvisit_pre (key := key) (krow key s (s.getD k []) n) (s.getD k [] ++ [n])).length_le
  refine ⟨h1.visit (isW_append (h.1 _ (memD hk)) (isW_one (by omega))) ?_, Nat.le_trans h2 h3⟩
  have := h.2 k hk
  rw [List.length_append, List.length_singleton]
  omega
theorem LOk.kat {β : Type} [DecidableEq β] {key : List Nat → β} {s : List (List Nat)} (h : LOk s) : ∀ k, LOk (kat key s k)
 | 0 => h
 | k + 1 => by
  have ih := LOk.kat (key := key) h k
  by_cases hk : k < (Go.Proofs.Ytalbofnhcpjilaa.kat key s k).length
  ·rw [kat_succ hk]
   exact (ih.row hk 3 (by omega)).1
  ·rw [kat_stay (by omega)]
   exact ih
theorem LOk.okWs {st : List (List Nat)} (h : LOk st) (hl : st.length ≤ 1000) : ∀ x ∈ st, isW x ∧ x.length ≤ 399999 := fun x hx => by
 refine ⟨h.1 x hx, ?_⟩
 obtain ⟨i, hi, e⟩ := List.getElem_of_mem hx
 have := h.2 i hi
 rw [getD_at hi, e] at this
 omega
def hitD (d : DfaD) (g : DfaD) : Option (List Nat) := hitP d g
theorem hitD_eq (d g : DfaD) : hitD d g = hitK mostP d g := rfl
theorem mostP_le : mostP ≤ 1600 := Nat.le_refl _
theorem hitD_says {d g : DfaD} {w : List Nat} (h : hitD d g = some w) : isW w ∧ accD d w ≠ accD g w := by
 rw [hitD_eq] at h
 exact hit_says h
theorem hitD_ok (d : DfaD) : hitOk d (hitD d) := fun _ _ _ h => hitD_says h
theorem hitK_len {K : Nat} {a b : DfaD} {w : List Nat} (h : hitK K a b = some w) : w.length ≤ K := by
 have hg := (bat_good (nx := stepP a b) (a := ((0, 0) : Int × Int)) K).2.1
 obtain ⟨i, hi, hw, -⟩ := firstHit_some (d := ((0, 0) : Int × Int)) hg h
 rw [← hw]
 exact bat_wlen (nx := stepP a b) (a := ((0, 0) : Int × Int)) K _ (memD (by omega))
theorem hitD_len {d g : DfaD} {w : List Nat} (h : hitD d g = some w) : w.length ≤ 1600 := by
 rw [hitD_eq] at h
 have := hitK_len h
 have := mostP_le
 omega
def preW (d : DfaD) : Nat → List (List Nat)
 | 0 => [[]]
 | j + 1 => (tabW d (hitD d) j).1
def resW (d : DfaD) (j : Nat) : List (List Nat) := (tabW d (hitD d) j).2
def staW (d : DfaD) (j : Nat) : List (List Nat) := (tabW d (hitD d) j).1
def gueW (d : DfaD) (j : Nat) : DfaD := gssW d (hitD d) j
theorem nodup_take {α : Type} {l m : List α} (h : l <+: m) (hm : m.Nodup) : l.Nodup := by
 obtain ⟨t, rfl⟩ := h
 exact (List.nodup_append.1 hm).1
theorem resW_succ (d : DfaD) (j : Nat) {w : List Nat} (h : hitD d (gueW d j) = some w) : resW d (j + 1) = resW d j ++ [w.drop (cutW d (staW d j) (gueW d j) w + 1)] := by
 show (tabW d (hitD d) j).2 ++ _ = _
 have h' : hitD d (guessW d (tabW d (hitD d) j).1 (tabW d (hitD d) j).2) = some w := h
 simp only [h', Option.getD_some]
 rfl
structure LTab (d : DfaD) (j : Nat) : Prop where
 pre : LOk (preW d j)
 nd : ((preW d j).map (rowW d (resW d j))).Nodup
 re : okWs (resW d j)
 rl : (resW d j).length ≤ j + 1
 inv : LInv d (staW d j) (resW d j)
 st : LOk (staW d j)
theorem LTab.at {d : DfaD} (hd : dfaOk d.next d.ends = true) : ∀ j, (∀ i, i < j → (hitD d (gueW d i)).isSome = true) → LTab d j
 | 0, hy => by
  have hinv := (tab_inv hd (hitD_ok d) 0 hy).1
  have h0 : LOk [[]] := ⟨fun x hx => by simp at hx; subst hx; intro c hc; simp at hc, fun i hi => by
   obtain rfl : i = 0 := by simpa using hi
   simp⟩
  exact ⟨h0, by simp [preW], fun x hx => by simp [resW, tabW] at hx; subst hx; exact ⟨fun c hc => by simp at hc, by simp⟩, by simp [resW, tabW], hinv, LOk.kat h0 _⟩
 | j + 1, hy => by
  have ih := LTab.at hd j fun i hi => hy i (by omega)
  have hinv := (tab_inv hd (hitD_ok d) (j + 1) hy).1
  obtain ⟨w, hw⟩ := Option.isSome_iff_exists.1 (hy j (by omega))
  have hr := resW_succ d j hw
  have hww := (hitD_says hw).1
  have hpre : preW d (j + 1) <+: staW d (j + 1) := kat_pre (key := rowW d (resW d (j + 1))) (s0 := preW d (j + 1)) (Nat.zero_le (d.next.length + 1))
  refine ⟨ih.st, ?_, fun x hx => ?_, ?_, hinv, LOk.kat (s := preW d (j + 1)) ih.st _⟩
  ·obtain ⟨t, ht⟩ := hpre
   have h1 := hinv.nd
   refine nodup_take (m := (staW d (j + 1)).map (rowW d (resW d (j + 1)))) ⟨t.map (rowW d (resW d (j + 1))), ?_⟩ h1
   rw [← List.map_append, ht]
  ·rw [hr] at hx
   rcases List.mem_append.1 hx with hx | hx
   ·exact ih.re x hx
   ·simp only [List.mem_singleton] at hx
    subst hx
    refine ⟨isW_drop hww _, ?_⟩
    have := hitD_len hw
    rw [List.length_drop]
    omega
  ·rw [hr, List.length_append, List.length_singleton]
   have := ih.rl
   omega
/-! The guesses in memory. -/
def Ent.sub (X y : Ent) : Prop := (∀ w, X.holds w → y.holds w) ∧ ∀ k, y.foot k → X.foot k
def GMem (X : Ent) (vals : List (Value × Value)) (gs : List DfaD) : Prop := vals.length = gs.length ∧ ∀ i, i < gs.length →
 ∃ a1 c1 a2 c2 vs, vals.getD i (undef, undef) = (.slice a1 (gs.getD i ⟨[], []⟩).next.length c1, .slice a2 (gs.getD i ⟨[], []⟩).next.length c2) ∧
  Ent.sub X (Ent.rows 48 3 (.slice a1 (gs.getD i ⟨[], []⟩).next.length c1) vs ((gs.getD i ⟨[], []⟩).next.map intCells)) ∧ Ent.sub X (Ent.row 4 1 (.slice a2 (gs.getD i ⟨[], []⟩).next.length c2) (gs.getD i ⟨[], []⟩).next.length (boolCells (gs.getD i ⟨[], []⟩).ends))
theorem GMem.nil (X : Ent) : GMem X [] [] := ⟨rfl, fun i hi => absurd hi (by simp)⟩
theorem GMem.own {w0 w : World} {L : List Ent} (h : St w0 w L) (i : Nat) {X : Ent} (hx : L[i]? = some X) {vals : List (Value × Value)} {gs : List DfaD} (hG : GMem X vals gs) {k : Nat} (hk : k < gs.length) :
  ∃ a1 c1 a2 c2, vals.getD k (undef, undef) = (.slice a1 (gs.getD k ⟨[], []⟩).next.length c1, .slice a2 (gs.getD k ⟨[], []⟩).next.length c2) ∧ (gs.getD k ⟨[], []⟩).ends.length = (gs.getD k ⟨[], []⟩).next.length ∧
   DfaO 48 3 4 w0.heap.size w.heap.size w (.agg #[.slice a1 (gs.getD k ⟨[], []⟩).next.length c1, .slice a2 (gs.getD k ⟨[], []⟩).next.length c2]) (gs.getD k ⟨[], []⟩) := by
 obtain ⟨a1, c1, a2, c2, vs, e, s1, s2⟩ := hG.2 k hk
 have hil : i < L.length := (List.getElem?_eq_some_iff.1 hx).1
 have h1 := h.same i hx _ (s1.1 w) s1.2
 have h2 := h.same i hx _ (s2.1 w) s2.2
 have g1 := h1.intSS i (by rw [List.getElem?_set, if_pos rfl, if_pos hil])
 have g2 := h2.row i (by rw [List.getElem?_set, if_pos rfl, if_pos hil])
 have hl : (gs.getD k ⟨[], []⟩).ends.length = (gs.getD k ⟨[], []⟩).next.length := by have := g2.1; simp at this; simpa using this
 refine ⟨a1, c1, a2, c2, e, hl, _, _, rfl, g1, ?_⟩
 unfold OBools
 rw [hl]
 exact own_of_row g2
theorem min_dfaOk {d : DfaD} (hd : dfaOk d.next d.ends = true) : dfaOk (minD d).next (minD d).ends = true := by
 rw [← small_min (fine_of hd)]
 exact (trim_ok (fold_ok (trim_ok hd).1)).1
end Go.Proofs.Ytalbofnhcpjilaa
