/-
  The walks over the program's CheckPairs and over the function behind it.
  Conditions: the arguments read as automata and as a list of pairs; for the function behind it, the automata are valid.
-/
import Derived.Test.YtfgpkadhegdffaaPk18Arr
import Derived.Test.YtfgpkadhegdffaaPk23Wpl
import Derived.Test.YtfgpkadhegdffaaPk24L16
namespace Go.Proofs.Ytfgpkadhegdffaa
open Go.RowKit Go.Maps
theorem zeroBool (w : World) : (zeroValue 4).run Try.prog w = .ok (.bool false) w := by kernel_rfl
end Go.Proofs.Ytfgpkadhegdffaa
namespace Go.Proofs.Ytfgpkadhegdffaa
open Go.RowKit
def vl (w : List Nat) : Nat := w.foldl (fun n c => 3 * n + c + 1) 0
section
variable {α : Type} [DecidableEq α] {nx : α → Nat → α} {a : α}
structure BI (s : Bs α) (B : Nat) : Prop where
  len : s.words.length = s.met.length
  inc : ∀ i j, i < j → j < s.met.length → vl (s.words.getD i []) < vl (s.words.getD j [])
  bnd : ∀ j, j < s.met.length → vl (s.words.getD j []) ≤ B
omit [DecidableEq α] in
theorem BI.up {s : Bs α} {B B' : Nat} (h : BI s B) (hB : B ≤ B') : BI s B' := ⟨h.len, h.inc, fun j hj => Nat.le_trans (h.bnd j hj) hB⟩
end
def Strs (B : Nat) (w : World) (v : Value) (ws : List (List Nat)) : Prop := Sl B w v ws.length 1 (wdCells ws)
theorem Strs.below {B : Nat} {w w' : World} {v : Value} {ws : List (List Nat)} (h : Strs B w v ws) (he : Below w.heap.size w w') : Strs B w' v ws := Sl.below h he
theorem Strs.form {B : Nat} {w : World} {v : Value} {ws : List (List Nat)} (h : Strs B w v ws) : ∃ a cap, v = .slice a ws.length cap ∧ ws.length ≤ cap ∧ cap ≤ 9223372036854775807 ∧
    (0 < ws.length → ∃ b off, a = some ⟨b, off, none⟩ ∧ b < w.heap.size ∧ ∀ j, j < ws.length → w.cell? ⟨b, off + j, none⟩ = some (.string (wdB (ws.getD j [])))) := by
  obtain ⟨hl, a, cap, hv, h1, h2, h3⟩ := h
  refine ⟨a, cap, hv, h1, h2, fun hn => ?_⟩
  obtain ⟨b, off, ha, hb, hlt, hc⟩ := h3 hn
  refine ⟨b, off, ha, hlt, fun j hj => ?_⟩
  rw [hc j (by omega)]
  simp [hj]
def okWs (ws : List (List Nat)) : Prop := ∀ x ∈ ws, isW x ∧ x.length ≤ 400000
def LOk (st : List (List Nat)) : Prop := (∀ x ∈ st, isW x) ∧ ∀ i, i < st.length → (st.getD i []).length ≤ i
theorem LOk.visit {β : Type} [DecidableEq β] {key : List Nat → β} {s : List (List Nat)} (h : LOk s) {w : List Nat} (hw : isW w) (hl : w.length ≤ s.length) : LOk (kvisit key s w) := by
  unfold kvisit
  split
  · exact h
  · refine ⟨fun x hx => ?_, fun i hi => ?_⟩
    · rcases List.mem_append.1 hx with hx | hx
      · exact h.1 x hx
      · simp only [List.mem_singleton] at hx
        rw [hx]
        exact hw
    · simp only [List.length_append, List.length_singleton] at hi
      by_cases hin : i < s.length
      · have := h.2 i hin
        simp only [List.getD_eq_getElem?_getD] at this ⊢
        rw [List.getElem?_append_left hin]
        exact this
      · obtain rfl : i = s.length := by omega
        simpa using hl
theorem LOk.row {β : Type} [DecidableEq β] {key : List Nat → β} {s : List (List Nat)} (h : LOk s) {k : Nat} (hk : k < s.length) : ∀ n, n ≤ 3 → LOk (krow key s (s.getD k []) n) ∧ s.length ≤ (krow key s (s.getD k []) n).length
  | 0, _ => ⟨h, Nat.le_refl _⟩
  | n + 1, hn => by
    obtain ⟨h1, h2⟩ := h.row (key := key) hk n (by omega)
    have h3 := (kvisit_pre (key := key) (krow key s (s.getD k []) n) (s.getD k [] ++ [n])).length_le
    refine ⟨h1.visit (isW_append (h.1 _ (memD hk)) (isW_one (by omega))) ?_, Nat.le_trans h2 h3⟩
    have := h.2 k hk
    rw [List.length_append, List.length_singleton]
    omega
theorem LOk.kat {β : Type} [DecidableEq β] {key : List Nat → β} {s : List (List Nat)} (h : LOk s) : ∀ k, LOk (kat key s k)
  | 0 => h
  | k + 1 => by
    have ih := LOk.kat (key := key) h k
    by_cases hk : k < (Go.Proofs.Ytfgpkadhegdffaa.kat key s k).length
    · rw [kat_succ hk]
      exact (ih.row hk 3 (by omega)).1
    · rw [kat_stay (by omega)]
      exact ih
theorem LOk.part {β : Type} [DecidableEq β] {key : List Nat → β} {s : List (List Nat)} (h : LOk s) {k : Nat} (hk : k < (Go.Proofs.Ytfgpkadhegdffaa.kat key s k).length) {n : Nat} (hn : n ≤ 3) : LOk (kpart key s k n) := ((LOk.kat h k).row hk n hn).1
theorem LOk.okWs {st : List (List Nat)} (h : LOk st) (hl : st.length ≤ 1000) : ∀ x ∈ st, isW x ∧ x.length ≤ 399999 := fun x hx => by
  refine ⟨h.1 x hx, ?_⟩
  obtain ⟨i, hi, e⟩ := List.getElem_of_mem hx
  have := h.2 i hi
  rw [getD_at hi, e] at this
  omega
def hitD (d : DfaD) (g : DfaD) : Option (List Nat) := hitP d g
theorem hitD_eq (d g : DfaD) : hitD d g = hitK mostP d g := rfl
theorem mostP_le : mostP ≤ 1600 := Nat.le_refl _
theorem hitD_says {d g : DfaD} {w : List Nat} (h : hitD d g = some w) : isW w ∧ accD d w ≠ accD g w := by
  rw [hitD_eq] at h
  exact hit_says h
theorem hitD_ok (d : DfaD) : hitOk d (hitD d) := fun _ _ _ h => hitD_says h
theorem hitK_len {K : Nat} {a b : DfaD} {w : List Nat} (h : hitK K a b = some w) : w.length ≤ K := by
  have hg := (bat_good (nx := stepP a b) (a := ((0, 0) : Int × Int)) K).2.1
  obtain ⟨i, hi, hw, -⟩ := firstHit_some (d := ((0, 0) : Int × Int)) hg h
  rw [← hw]
  exact bat_wlen (nx := stepP a b) (a := ((0, 0) : Int × Int)) K _ (memD (by omega))
theorem hitD_len {d g : DfaD} {w : List Nat} (h : hitD d g = some w) : w.length ≤ 1600 := by
  rw [hitD_eq] at h
  have := hitK_len h
  have := mostP_le
  omega
def preW (d : DfaD) : Nat → List (List Nat)
  | 0 => [[]]
  | j + 1 => (tabW d (hitD d) j).1
def resW (d : DfaD) (j : Nat) : List (List Nat) := (tabW d (hitD d) j).2
def staW (d : DfaD) (j : Nat) : List (List Nat) := (tabW d (hitD d) j).1
def gueW (d : DfaD) (j : Nat) : DfaD := gssW d (hitD d) j
theorem nodup_take {α : Type} {l m : List α} (h : l <+: m) (hm : m.Nodup) : l.Nodup := by
  obtain ⟨t, rfl⟩ := h
  exact (List.nodup_append.1 hm).1
theorem resW_succ (d : DfaD) (j : Nat) {w : List Nat} (h : hitD d (gueW d j) = some w) : resW d (j + 1) = resW d j ++ [w.drop (cutW d (staW d j) (gueW d j) w + 1)] := by
  show (tabW d (hitD d) j).2 ++ _ = _
  have h' : hitD d (guessW d (tabW d (hitD d) j).1 (tabW d (hitD d) j).2) = some w := h
  simp only [h', Option.getD_some]
  rfl
structure LTab (d : DfaD) (j : Nat) : Prop where
  pre : LOk (preW d j)
  nd : ((preW d j).map (rowW d (resW d j))).Nodup
  re : okWs (resW d j)
  rl : (resW d j).length ≤ j + 1
  inv : LInv d (staW d j) (resW d j)
  st : LOk (staW d j)
theorem LTab.at {d : DfaD} (hd : dfaOk d.next d.ends = true) : ∀ j, (∀ i, i < j → (hitD d (gueW d i)).isSome = true) → LTab d j
  | 0, hy => by
    have hinv := (tab_inv hd (hitD_ok d) 0 hy).1
    have h0 : LOk [[]] := ⟨fun x hx => by simp at hx; subst hx; intro c hc; simp at hc, fun i hi => by
      obtain rfl : i = 0 := by simpa using hi
      simp⟩
    exact ⟨h0, by simp [preW], fun x hx => by simp [resW, tabW] at hx; subst hx; exact ⟨fun c hc => by simp at hc, by simp⟩, by simp [resW, tabW], hinv, LOk.kat h0 _⟩
  | j + 1, hy => by
    have ih := LTab.at hd j fun i hi => hy i (by omega)
    have hinv := (tab_inv hd (hitD_ok d) (j + 1) hy).1
    obtain ⟨w, hw⟩ := Option.isSome_iff_exists.1 (hy j (by omega))
    have hr := resW_succ d j hw
    have hww := (hitD_says hw).1
    have hpre : preW d (j + 1) <+: staW d (j + 1) := kat_pre (key := rowW d (resW d (j + 1))) (s0 := preW d (j + 1)) (Nat.zero_le (d.next.length + 1))
    refine ⟨ih.st, ?_, fun x hx => ?_, ?_, hinv, LOk.kat (s := preW d (j + 1)) ih.st _⟩
    · obtain ⟨t, ht⟩ := hpre
      have h1 := hinv.nd
      refine nodup_take (m := (staW d (j + 1)).map (rowW d (resW d (j + 1)))) ⟨t.map (rowW d (resW d (j + 1))), ?_⟩ h1
      rw [← List.map_append, ht]
    · rw [hr] at hx
      rcases List.mem_append.1 hx with hx | hx
      · exact ih.re x hx
      · simp only [List.mem_singleton] at hx
        subst hx
        refine ⟨isW_drop hww _, ?_⟩
        have := hitD_len hw
        rw [List.length_drop]
        omega
    · rw [hr, List.length_append, List.length_singleton]
      have := ih.rl
      omega
/-! The guesses in memory. -/
def Ent.sub (X y : Ent) : Prop := (∀ w, X.holds w → y.holds w) ∧ ∀ k, y.foot k → X.foot k
def GMem (X : Ent) (vals : List (Value × Value)) (gs : List DfaD) : Prop := vals.length = gs.length ∧ ∀ i, i < gs.length →
  ∃ a1 c1 a2 c2 vs, vals.getD i (undef, undef) = (.slice a1 (gs.getD i ⟨[], []⟩).next.length c1, .slice a2 (gs.getD i ⟨[], []⟩).next.length c2) ∧
    Ent.sub X (Ent.rows 60 3 (.slice a1 (gs.getD i ⟨[], []⟩).next.length c1) vs ((gs.getD i ⟨[], []⟩).next.map intCells)) ∧ Ent.sub X (Ent.row 4 1 (.slice a2 (gs.getD i ⟨[], []⟩).next.length c2) (gs.getD i ⟨[], []⟩).next.length (boolCells (gs.getD i ⟨[], []⟩).ends))
theorem GMem.nil (X : Ent) : GMem X [] [] := ⟨rfl, fun i hi => absurd hi (by simp)⟩
theorem GMem.snoc {X : Ent} {vals : List (Value × Value)} {gs : List DfaD} (h : GMem X vals gs) {g : DfaD} {a1 a2 : Option Addr} {c1 c2 : Nat} {vs : List Value} :
    GMem (Ent.all [X, Ent.rows 60 3 (.slice a1 g.next.length c1) vs (g.next.map intCells), Ent.row 4 1 (.slice a2 g.next.length c2) g.next.length (boolCells g.ends)]) (vals ++ [(.slice a1 g.next.length c1, .slice a2 g.next.length c2)]) (gs ++ [g]) := by
  refine ⟨by simp [h.1], fun i hi => ?_⟩
  simp only [List.length_append, List.length_singleton] at hi
  by_cases hin : i < gs.length
  · obtain ⟨p1, q1, p2, q2, us, e, s1, s2⟩ := h.2 i hin
    have e1 : (gs ++ [g]).getD i ⟨[], []⟩ = gs.getD i ⟨[], []⟩ := by simp only [List.getD_eq_getElem?_getD]; rw [List.getElem?_append_left hin]
    have e2 : (vals ++ [((Value.slice a1 g.next.length c1), (Value.slice a2 g.next.length c2))]).getD i (undef, undef) = vals.getD i (undef, undef) := by simp only [List.getD_eq_getElem?_getD]; rw [List.getElem?_append_left (by rw [h.1]; exact hin)]
    rw [e1, e2]
    exact ⟨p1, q1, p2, q2, us, e, ⟨fun w hw => s1.1 w (hw X (by simp)), fun k hk => ⟨X, by simp, s1.2 k hk⟩⟩, ⟨fun w hw => s2.1 w (hw X (by simp)), fun k hk => ⟨X, by simp, s2.2 k hk⟩⟩⟩
  · obtain rfl : i = gs.length := by omega
    have e1 : (gs ++ [g]).getD gs.length ⟨[], []⟩ = g := by simp
    have e2 : (vals ++ [((Value.slice a1 g.next.length c1), (Value.slice a2 g.next.length c2))]).getD gs.length (undef, undef) = ((Value.slice a1 g.next.length c1), (Value.slice a2 g.next.length c2)) := by rw [← h.1]; simp
    rw [e1, e2]
    exact ⟨a1, c1, a2, c2, vs, rfl, ⟨fun w hw => hw _ (by simp), fun k hk => ⟨_, by simp, hk⟩⟩, ⟨fun w hw => hw _ (by simp), fun k hk => ⟨_, by simp, hk⟩⟩⟩
theorem Try.infoDfa : (Try.prog.info? 30).map (fun i => (i.zero, i.size, i.bytes)) = some (some (.agg #[.slice none 0 0, .slice none 0 0]), 2, 48) := by kernel_rfl
theorem GMem.own {w0 w : World} {L : List Ent} (h : St w0 w L) (i : Nat) {X : Ent} (hx : L[i]? = some X) {vals : List (Value × Value)} {gs : List DfaD} (hG : GMem X vals gs) {k : Nat} (hk : k < gs.length) :
    ∃ a1 c1 a2 c2, vals.getD k (undef, undef) = (.slice a1 (gs.getD k ⟨[], []⟩).next.length c1, .slice a2 (gs.getD k ⟨[], []⟩).next.length c2) ∧ (gs.getD k ⟨[], []⟩).ends.length = (gs.getD k ⟨[], []⟩).next.length ∧
      DfaO 60 3 4 w0.heap.size w.heap.size w (.agg #[.slice a1 (gs.getD k ⟨[], []⟩).next.length c1, .slice a2 (gs.getD k ⟨[], []⟩).next.length c2]) (gs.getD k ⟨[], []⟩) := by
  obtain ⟨a1, c1, a2, c2, vs, e, s1, s2⟩ := hG.2 k hk
  have hil : i < L.length := (List.getElem?_eq_some_iff.1 hx).1
  have h1 := h.same i hx _ (s1.1 w) s1.2
  have h2 := h.same i hx _ (s2.1 w) s2.2
  have g1 := h1.intSS i (by rw [List.getElem?_set, if_pos rfl, if_pos hil])
  have g2 := h2.row i (by rw [List.getElem?_set, if_pos rfl, if_pos hil])
  have hl : (gs.getD k ⟨[], []⟩).ends.length = (gs.getD k ⟨[], []⟩).next.length := by have := g2.1; simp at this; simpa using this
  refine ⟨a1, c1, a2, c2, e, hl, _, _, rfl, g1, ?_⟩
  unfold OBools
  rw [hl]
  exact own_of_row g2
def xb (b x : Bool) : Bool := b != x
def flB (b : Bool) (g : DfaD) : DfaD := ⟨g.next, g.ends.map (xb b)⟩
theorem flB_run (b : Bool) (g : DfaD) (s : Int) (w : List Nat) : runD (flB b g) s w = runD g s w := rfl
theorem flB_ok {b : Bool} {g : DfaD} (h : dfaOk g.next g.ends = true) : dfaOk (flB b g).next (flB b g).ends = true := by
  have hl := dfaOk_len h
  refine dfaOk_of hl.1 hl.2.1 ?_ fun i hi => dfaOk_row h hi
  show (g.ends.map (xb b)).length = g.next.length
  rw [List.length_map]
  exact hl.2.2
theorem flB_acc {b : Bool} {g : DfaD} (h : dfaOk g.next g.ends = true) {w : List Nat} (hw : isW w) : accD (flB b g) w = xb b (accD g w) := by
  have hl := dfaOk_len h
  obtain ⟨t, ht, hr⟩ := runD_nat (fine_of h) w (s := 0) hw (by omega)
  have hr : runD g 0 w = (t : Int) := hr
  unfold accD
  rw [flB_run, hr, den_nat, den_nat]
  show (g.ends.map (xb b)).getD t false = xb b (g.ends.getD t false)
  rw [List.getD_eq_getElem?_getD, List.getElem?_map, List.getD_eq_getElem?_getD, List.getElem?_eq_getElem (show t < g.ends.length by omega)]
  rfl
section
variable {key key' : List Nat → List Bool} {f : List Bool → List Bool}
end
section
variable {b : Bool} {d M : DfaD}
end
def leafQ (p : Int × Int) : DfaD := if p.1 = 1 then noneD else if p.1 = 2 then oneD else minD ⟨[[2, 2, 2].set p.2.toNat 1, [2, 2, 2], [2, 2, 2]], [false, true, false]⟩
def oneQ (K : Nat) (k : Int) (a : DfaD) : Option DfaD := if k = 8 then (detQW 81 K (starN (nfaOf a))).map minD else some (flB true a)
def twoQ (K : Nat) (k : Int) (a b : DfaD) : Option DfaD :=
  if k = 4 then (detQW 81 K (joinN (nfaOf a) (nfaOf b))).map minD else if k = 5 then (pairK K (fun p q => p || q) a b).map minD else (pairK K (fun p q => p && q) a b).map minD
def stepC (K : Nat) (p : Int × Int) (st : List DfaD) : Option (List DfaD) :=
  if pNeeds p = 0 then some (leafQ p :: st)
  else if pNeeds p = 1 then
    match st with
    | a :: r => (oneQ K p.1 a).map (· :: r)
    | [] => none
  else
    match st with
    | b :: a :: r => (twoQ K p.1 a b).map (· :: r)
    | _ => none
def runC (K : Nat) : List (Int × Int) → List DfaD → Option (List DfaD)
  | [], st => some st
  | p :: ps, st => (stepC K p st).bind (runC K ps)
theorem trim_flB {d : DfaD} (hd : fine d) : trimD (flB true d) = flB true (trimD d) := by
  have hm := (met_facts hd d.next.length).1
  unfold trimD numDfa flB
  show DfaD.mk _ _ = DfaD.mk _ _
  congr 1
  rw [List.map_map]
  refine List.map_congr_left fun x hx => ?_
  obtain ⟨h1, h2⟩ := hm x hx
  have h3 := hd.2.2.1
  have hlt : x.toNat < d.ends.length := by omega
  simp [den, hlt]
theorem min_flB {d : DfaD} (hd : dfaOk d.next d.ends = true) (hm : minD d = d) : minD (flB true d) = flB true d := by
  have hf := fine_of hd
  have hF := fine_of (flB_ok (b := true) hd)
  have ht : trimD d = d := by
    have := min_trim hf
    rw [hm] at this
    exact this
  refine min_self hF (by rw [trim_flB hf, ht]) fun s t hs ht' h => ?_
  have hs : s < d.next.length := hs
  have ht' : t < d.next.length := ht'
  refine min_reduced hf (by rw [hm]; exact hs) (by rw [hm]; exact ht') fun w hw => ?_
  rw [hm]
  obtain ⟨a, ha, hra⟩ := runD_nat hf w hw hs
  obtain ⟨b, hb, hrb⟩ := runD_nat hf w hw ht'
  have h1 := h w hw
  rw [flB_run, flB_run, hra, hrb, den_nat, den_nat] at h1
  rw [hra, hrb, den_nat, den_nat]
  have e : ∀ i, i < d.next.length → enD (flB true d) i = !enD d i := fun i hi => by
    have h3 := (dfaOk_len hd).2.2
    have hi2 : i < d.ends.length := by omega
    simp [enD, flB, hi2, xb]
  rw [e a ha, e b hb] at h1
  simpa using h1
theorem comp_min {K : Nat} (hK : K = 40) (t : Ex) {d : DfaD} (h : compE K t = some d) : minD d = d := by
  have key : ∀ {y : DfaD}, dfaOk y.next y.ends = true → smallD y = d → minD d = d := fun {y} hy e => by
    rw [← e, small_min (fine_of hy)]
    exact min_min (fine_of hy)
  cases t with
  | zero => simp only [compE, Option.some.injEq] at h; exact key noneD_ok h
  | one => simp only [compE, Option.some.injEq] at h; exact key oneD_ok h
  | ltr c => simp only [compE, Option.some.injEq] at h; exact key (ltrD_ok c) h
  | join a b =>
    simp only [compE, Option.bind_eq_some_iff, Option.map_eq_some_iff] at h
    obtain ⟨x, -, y, -, z, hz, e⟩ := h
    exact key (detM_ok hK hz) e
  | alt a b =>
    simp only [compE, Option.bind_eq_some_iff, Option.map_eq_some_iff] at h
    obtain ⟨x, -, y, -, z, hz, e⟩ := h
    exact key (pairK_ok hK hz) e
  | both a b =>
    simp only [compE, Option.bind_eq_some_iff, Option.map_eq_some_iff] at h
    obtain ⟨x, -, y, -, z, hz, e⟩ := h
    exact key (pairK_ok hK hz) e
  | neg a =>
    simp only [compE, Option.map_eq_some_iff] at h
    obtain ⟨x, hx, e⟩ := h
    exact key (negD_ok (compE_ok hK a hx)) e
  | star a =>
    simp only [compE, Option.bind_eq_some_iff, Option.map_eq_some_iff] at h
    obtain ⟨x, -, z, hz, e⟩ := h
    exact key (detM_ok hK hz) e
theorem map_small {o : Option DfaD} (h : ∀ d, o = some d → dfaOk d.next d.ends = true) : o.map smallD = o.map minD := by
  cases o with
  | none => rfl
  | some d => exact congrArg some (small_min (fine_of (h d rfl)))
theorem neg_flB (d : DfaD) : negD d = flB true d := by
  unfold negD flB
  congr 1
  exact List.map_congr_left fun x _ => by cases x <;> rfl
theorem leaf_none : smallD noneD = noneD := by decide +kernel
theorem leaf_one : smallD oneD = oneD := by decide +kernel
theorem runC_post {K : Nat} (hK : K = 40) : ∀ (t : Ex) (rest : List (Int × Int)) (st : List DfaD), runC K (t.post ++ rest) st = (compE K t).bind fun d => runC K rest (d :: st) := by
  intro t
  induction t with
  | zero =>
    intro rest st
    show (some (noneD :: st)).bind (runC K rest) = _
    simp only [compE, leaf_none]
    rfl
  | one =>
    intro rest st
    show (some (oneD :: st)).bind (runC K rest) = _
    simp only [compE, leaf_one]
    rfl
  | ltr c =>
    intro rest st
    have e : stepC K (3, (c.val : Int)) st = some (leafQ (3, (c.val : Int)) :: st) := by unfold stepC; rw [if_pos (pn_leaf3 c)]
    show (stepC K (3, (c.val : Int)) st).bind (runC K rest) = _
    rw [e]
    simp only [compE]
    rw [small_min (fine_of (ltrD_ok c))]
    rfl
  | join a b ha hb =>
    intro rest st
    show runC K ((a.post ++ b.post ++ [(4, 0)]) ++ rest) st = _
    rw [List.append_assoc, List.append_assoc, ha]
    simp only [compE]
    cases hx : compE K a with
    | none => rfl
    | some x =>
      show runC K (b.post ++ ([(4, 0)] ++ rest)) (x :: st) = _
      rw [hb]
      show _ = ((compE K b).bind fun y => (detM 81 K (wJoin x y)).map smallD).bind _
      cases hy : compE K b with
      | none => rfl
      | some y =>
        show ((twoQ K 4 x y).map (· :: st)).bind (runC K rest) = ((detM 81 K (wJoin x y)).map smallD).bind _
        rw [show twoQ K 4 x y = (detM 81 K (wJoin x y)).map smallD by
          rw [map_small fun d hd => detM_ok hK hd, ← det_same, ← join_same]
          rfl]
        cases (detM 81 K (wJoin x y)).map smallD <;> rfl
  | alt a b ha hb =>
    intro rest st
    show runC K ((a.post ++ b.post ++ [(5, 0)]) ++ rest) st = _
    rw [List.append_assoc, List.append_assoc, ha]
    simp only [compE]
    cases hx : compE K a with
    | none => rfl
    | some x =>
      show runC K (b.post ++ ([(5, 0)] ++ rest)) (x :: st) = _
      rw [hb]
      show _ = ((compE K b).bind fun y => (pairK K (fun p q => p || q) x y).map smallD).bind _
      cases hy : compE K b with
      | none => rfl
      | some y =>
        show ((twoQ K 5 x y).map (· :: st)).bind (runC K rest) = ((pairK K (fun p q => p || q) x y).map smallD).bind _
        rw [show twoQ K 5 x y = (pairK K (fun p q => p || q) x y).map smallD by
          rw [map_small fun d hd => pairK_ok hK hd]
          rfl]
        cases (pairK K (fun p q => p || q) x y).map smallD <;> rfl
  | both a b ha hb =>
    intro rest st
    show runC K ((a.post ++ b.post ++ [(6, 0)]) ++ rest) st = _
    rw [List.append_assoc, List.append_assoc, ha]
    simp only [compE]
    cases hx : compE K a with
    | none => rfl
    | some x =>
      show runC K (b.post ++ ([(6, 0)] ++ rest)) (x :: st) = _
      rw [hb]
      show _ = ((compE K b).bind fun y => (pairK K (fun p q => p && q) x y).map smallD).bind _
      cases hy : compE K b with
      | none => rfl
      | some y =>
        show ((twoQ K 6 x y).map (· :: st)).bind (runC K rest) = ((pairK K (fun p q => p && q) x y).map smallD).bind _
        rw [show twoQ K 6 x y = (pairK K (fun p q => p && q) x y).map smallD by
          rw [map_small fun d hd => pairK_ok hK hd]
          rfl]
        cases (pairK K (fun p q => p && q) x y).map smallD <;> rfl
  | neg a ha =>
    intro rest st
    show runC K ((a.post ++ [(7, 0)]) ++ rest) st = _
    rw [List.append_assoc, ha]
    simp only [compE]
    cases hx : compE K a with
    | none => rfl
    | some x =>
      have hok := compE_ok hK a hx
      show runC K rest (flB true x :: st) = runC K rest (smallD (negD x) :: st)
      rw [small_min (fine_of (negD_ok hok)), neg_flB, min_flB hok (comp_min hK a hx)]
  | star a ha =>
    intro rest st
    show runC K ((a.post ++ [(8, 0)]) ++ rest) st = _
    rw [List.append_assoc, ha]
    simp only [compE]
    cases hx : compE K a with
    | none => rfl
    | some x =>
      show ((oneQ K 8 x).map (· :: st)).bind (runC K rest) = ((detM 81 K (wStar x)).map smallD).bind _
      rw [show oneQ K 8 x = (detM 81 K (wStar x)).map smallD by
        rw [map_small fun d hd => detM_ok hK hd, ← det_same, ← star_same]
        rfl]
      cases (detM 81 K (wStar x)).map smallD <;> rfl
theorem runC_whole {K : Nat} (hK : K = 40) (t : Ex) : runC K t.post [] = (compE K t).map fun d => [d] := by
  have h := runC_post hK t [] []
  rw [List.append_nil] at h
  rw [h]
  cases compE K t <;> rfl
theorem leafQ_ok {p : Int × Int} (h : pOk p = true) (hn : pNeeds p = 0) : dfaOk (leafQ p).next (leafQ p).ends = true := by
  unfold leafQ
  split
  · exact noneD_ok
  · split
    · exact oneD_ok
    · rename_i h1 h2
      have h3 : p.1 = 3 ∧ 0 ≤ p.2 ∧ p.2 ≤ 2 := by
        unfold pNeeds at hn
        rw [if_pos h] at hn
        simp only [pOk, inB, Bool.and_eq_true, Bool.or_eq_true, decide_eq_true_eq, Bool.not_eq_true', decide_eq_false_iff_not] at h
        split at hn
        · omega
        · split at hn <;> omega
      obtain ⟨c, hc⟩ : ∃ c : Fin 3, p.2.toNat = c.val := ⟨⟨p.2.toNat, by omega⟩, rfl⟩
      rw [hc]
      have := small_ok (ltrD_ok c)
      rw [small_min (fine_of (ltrD_ok c))] at this
      exact this
theorem min_ok {d : DfaD} (h : dfaOk d.next d.ends = true) : dfaOk (minD d).next (minD d).ends = true := by
  rw [← small_min (fine_of h)]
  exact small_ok h
set_option maxRecDepth 100000 in
set_option maxHeartbeats 8000000 in
theorem cloneMv_any (xs : List (Int × Int × Int)) (v : Value) (w : World) (hl : xs.length ≤ 1000000) (h : Moves 0 w v xs) :
    Calls Try.prog 101 #[v] w fun e w' => ∃ a c, e = .returned (.slice a xs.length c) ∧ St w w' [Ent.row 127 3 (.slice a xs.length c) xs.length (xs.flatMap moveCells)] := by
  have hx := h
  obtain ⟨a, cap, rfl, hc1, hc2, hr⟩ := h.form
  obtain ⟨j0, hj, hy0, hy1, hy2⟩ := info_parts Try.infoMv
  cases a with
  | none =>
    have h0 : xs = [] := by
      rcases Nat.eq_zero_or_pos xs.length with h0 | h0
      · exact List.eq_nil_of_length_eq_zero h0
      · obtain ⟨b, off, hb, -⟩ := hr h0
        cases hb
    subst h0
    have qT := fun (w' : World) => Lib.run_eql_slice_nil (P := Try.prog) w' 94 127 none 0 cap 0 0 Try.underlying94
    simp only [Option.isNone] at qT
    go_enter Try.func101, Try.ntmps101
    go_wp2
    go_ret
    exact ⟨none, 0, rfl, (St.start w).nilRow 127 3⟩
  | some ad =>
    have hS0 := ((St.start w).alloc _ rfl #[] 127).boxrow 0 0 3 [] rfl rfl (Nat.zero_le _)
    have hRw := hS0.row 0 rfl
    have hX := hx.below hS0.bel
    have HhS0 := Lib.hid hS0; clear hS0
    have HhRw := Lib.hid hRw; clear hRw
    have HhX := Lib.hid hX; clear hX
    have Hhx := Lib.hid hx; clear hx
    clear hr
    have qT := fun (w' : World) => Lib.run_eql_slice_nil (P := Try.prog) w' 94 127 (some ad) xs.length cap 0 0 Try.underlying94
    simp only [Option.isNone] at qT
    go_enter Try.func101, Try.ntmps101
    go_wp2_with (at_builtin; refine wpList_append_sl _ rfl _ _ _ rfl _ 127 j0 (.agg #[.int .i64 0, .int .i64 0, .int .i64 0]) 3 24 Try.underlying94 hj hy0 hy1 hy2 rfl (by omega) _ 0 _ rfl HhRw.out _ xs.length (xs.flatMap moveCells) rfl HhX.out on_mvs (by unfold maxLen; omega) (by omega) HhS0.out.size ?_; intro a6 c6 w6 hown6 hgrow6 hat6; have HS6 := Lib.hid (HhS0.out.appS 0 rfl hown6 hgrow6 hat6); clear hown6 hgrow6 hat6)
    go_ret
    have hq : St w w6 [Ent.row 127 3 (.slice a6 (0 + xs.length) c6) (0 + xs.length) (xs.flatMap moveCells)] := HS6.out
    rw [Nat.zero_add] at hq
    exact ⟨a6, c6, rfl, hq⟩
set_option maxRecDepth 100000 in
set_option maxHeartbeats 8000000 in
theorem starNfa_any (n : NfaD) (m : Nat) (v1 v2 v3 : Value) (w : World) (hm : n.states = (m : Int)) (hm40 : m ≤ 1000) (hml : n.moves.length ≤ 1000) (hfl : n.firsts.length ≤ 1000) (hel : n.ends.length ≤ 1000) (h1 : Moves 0 w v1 n.moves) (h2 : Ints 0 w v2 n.firsts) (h3 : Ints 0 w v3 n.ends) :
    Calls Try.prog 71 #[.agg #[.int .i64 n.states, v1, v2, v3]] w fun e w' => RNfaS (starN n) w e w' := by
  have hcl := fun (u : World) (hu : Below w.heap.size w u) => cloneMv_any n.moves v1 u (by omega) (h1.below hu)
  obtain ⟨av, cv, rfl, hc1, hm1, hr1⟩ := h1.form
  obtain ⟨af, cf, rfl, hc2, hm2, hr2⟩ := h2.form
  obtain ⟨ae, ce, rfl, hc3, hm3, hr3⟩ := h3.form
  obtain ⟨i0, hi, hz0, hz1, hz2⟩ := info_parts Try.infoMv
  obtain ⟨L1, hL1⟩ : ∃ L, L = n.moves.length := ⟨_, rfl⟩
  obtain ⟨L2, hL2⟩ : ∃ L, L = n.firsts.length := ⟨_, rfl⟩
  obtain ⟨L3, hL3⟩ : ∃ L, L = n.ends.length := ⟨_, rfl⟩
  have hS0 := ((St.start w).alloc _ rfl #[.int .i64 n.states, .slice av n.moves.length cv, .slice af n.firsts.length cf, .slice ae n.ends.length ce] 96).alloc (w.heap.size + 1) (by simp) #[.int .i64 0, .slice none 0 0, .slice none 0 0, .slice none 0 0] 96
  rw [hm, ← hL1, ← hL2, ← hL3] at hS0
  rw [hm, ← hL1, ← hL2, ← hL3]
  rw [← hL1] at hml hc1 hcl
  rw [← hL2] at hfl hc2 hr2
  rw [← hL3] at hel hc3 hr3
  have hS1 := hS0.call (Below.refl _ _)
  have HS0 : Hid (St w _ [Ent.box w.heap.size #[.int .i64 (m : Int), .slice av L1 cv, .slice af L2 cf, .slice ae L3 ce] 96, Ent.box (w.heap.size + 1) #[.int .i64 0, .slice none 0 0, .slice none 0 0, .slice none 0 0] 96, Ent.nil, Ent.nil, Ent.nil, Ent.nil]) := Lib.hid (hS1.pick [0, 1, 2, 3, 4, 5] (by decide))
  have Hcl := Lib.hid hcl
  have Hr2 := Lib.hid hr2
  have Hr3 := Lib.hid hr3
  have HhL1 := Lib.hid hL1; clear hL1
  have HhL2 := Lib.hid hL2; clear hL2
  have HhL3 := Lib.hid hL3; clear hL3
  have Hhm := Lib.hid hm; clear hm
  have Hhi := Lib.hid hi; clear hi
  have Hhz0 := Lib.hid hz0; clear hz0
  have Hhz1 := Lib.hid hz1; clear hz1
  have Hhz2 := Lib.hid hz2; clear hz2
  clear h1 h2 h3 hr1 hr2 hr3 hcl hS0 hS1
  go_enter Try.func71, Try.ntmps71
  go_wp2_with fail
  refine wp_region_any (by kernel_rfl) ?_
  refine wpAny_invA (fun A listed a w' => ∃ (l0 l1 l2 l3 l4 l5 l6 l7 l8 l9 l10 l11 l12 l13 l14 : Bool) (am : Option Addr) (cm : Nat) (b5 : Nat) (b6 : Nat) (bo : Nat), listed = #[l0, l1, l2, l3, l4, l5, l6, l7, l8, l9, l10, l11, l12, l13, l14] ∧ (l12 = true → l2 = true ∧ l5 = true ∧ l8 = true ∧ l11 = true) ∧ (l14 = true → l13 = true ∧ l12 = true) ∧
      a = ⟨((((((((((((((A.tmps.setIfInBounds 8 (if l0 = true then .pointer (some ⟨w.heap.size, 0, none⟩) else A.tmps.getD 8 undef)).setIfInBounds 9 (if l1 = true then .int .i64 (m : Int) else A.tmps.getD 9 undef)).setIfInBounds 10 (if l2 = true then .int .i64 ((m : Int) + 1) else A.tmps.getD 10 undef)).setIfInBounds 11 (if l3 = true then .pointer (some ⟨w.heap.size, 1, none⟩) else A.tmps.getD 11 undef)).setIfInBounds 12 (if l4 = true then .slice av L1 cv else A.tmps.getD 12 undef)).setIfInBounds 13 (if l5 = true then .slice am L1 cm else A.tmps.getD 13 undef)).setIfInBounds 14 (if l6 = true then .pointer (some ⟨w.heap.size, 0, none⟩) else A.tmps.getD 14 undef)).setIfInBounds 15 (if l7 = true then .int .i64 (m : Int) else A.tmps.getD 15 undef)).setIfInBounds 16 (if l8 = true then .slice (some ⟨b5, 0, none⟩) 1 1 else A.tmps.getD 16 undef)).setIfInBounds 17 (if l9 = true then .pointer (some ⟨w.heap.size, 0, none⟩) else A.tmps.getD 17 undef)).setIfInBounds 18 (if l10 = true then .int .i64 (m : Int) else A.tmps.getD 18 undef)).setIfInBounds 19 (if l11 = true then .slice (some ⟨b6, 0, none⟩) 1 1 else A.tmps.getD 19 undef)).setIfInBounds 20 (if l12 = true then .agg #[.int .i64 ((m : Int) + 1), .slice am L1 cm, .slice (some ⟨b5, 0, none⟩) 1 1, .slice (some ⟨b6, 0, none⟩) 1 1] else A.tmps.getD 20 undef)).setIfInBounds 3 (if l13 = true then .pointer (some ⟨bo, 0, none⟩) else A.tmps.getD 3 undef)), A.defers⟩ ∧
      St w w' [Ent.box w.heap.size #[.int .i64 (m : Int), .slice av L1 cv, .slice af L2 cf, .slice ae L3 ce] 96, Ent.box (w.heap.size + 1) #[.int .i64 0, .slice none 0 0, .slice none 0 0, .slice none 0 0] 96, (if l13 = true then Ent.box bo #[(if l14 = true then .int .i64 ((m : Int) + 1) else .int .i64 0), (if l14 = true then .slice am L1 cm else .slice none 0 0), (if l14 = true then .slice (some ⟨b5, 0, none⟩) 1 1 else .slice none 0 0), (if l14 = true then .slice (some ⟨b6, 0, none⟩) 1 1 else .slice none 0 0)] 96 else Ent.nil), (if l5 = true then Ent.row 127 3 (.slice am L1 cm) L1 (n.moves.flatMap moveCells) else Ent.nil), (if l8 = true then Ent.row 3 1 (.slice (some ⟨b5, 0, none⟩) 1 1) 1 [.int .i64 (m : Int)] else Ent.nil), (if l11 = true then Ent.row 3 1 (.slice (some ⟨b6, 0, none⟩) 1 1) 1 [.int .i64 (m : Int)] else Ent.nil)]) ?_ ?_ ?_
  · rintro listed a w' ⟨l0, l1, l2, l3, l4, l5, l6, l7, l8, l9, l10, l11, l12, l13, l14, am, cm, b5, b6, bo, rfl, hd12, hd14, rfl, hS⟩ i hi
    obtain ⟨hun, o, ho, hall⟩ := mem_ready.1 hi
    have hlt := (Array.getElem?_eq_some_iff.1 ho).1
    refine wpOp_step ho (fun K hK => ?_)
    clear hi
    have HS := Lib.hid hS
    clear hS
    simp only [List.setIfInBounds_toArray, List.set_cons_zero, List.set_cons_succ, Array.getD_eq_getD_getElem?, List.getElem?_toArray, List.getElem?_cons_zero, List.getElem?_cons_succ, Option.getD_some]
    obtain h | h | h | h | h | h | h | h | h | h | h | h | h | h | h : i = 0 ∨ i = 1 ∨ i = 2 ∨ i = 3 ∨ i = 4 ∨ i = 5 ∨ i = 6 ∨ i = 7 ∨ i = 8 ∨ i = 9 ∨ i = 10 ∨ i = 11 ∨ i = 12 ∨ i = 13 ∨ i = 14 := by simp at hlt; omega
    all_goals subst h
    all_goals simp only [List.getElem?_toArray, List.getElem?_cons_zero, List.getElem?_cons_succ, Option.some.injEq] at ho
    all_goals subst ho
    all_goals simp [Region.binds] at hun hall
    · subst hun
      go_simp
      exact hK _ _ ⟨true, l1, l2, l3, l4, l5, l6, l7, l8, l9, l10, l11, l12, l13, l14, am, cm, b5, b6, bo, rfl, hd12, hd14, (by simp), HS.out⟩
    · obtain rfl := hall
      subst hun
      have e0 := HS.out.cell (v := .int .i64 (m : Int)) 0 0 rfl rfl
      go_simp
      exact hK _ _ ⟨true, true, l2, l3, l4, l5, l6, l7, l8, l9, l10, l11, l12, l13, l14, am, cm, b5, b6, bo, rfl, hd12, hd14, (by simp), HS.out⟩
    · obtain rfl := hall
      subst hun
      obtain rfl : l12 = false := by cases l12 with | false => rfl | true => simpa using hd12 rfl
      obtain rfl : l14 = false := offR hd14 rfl
      have hw : IntKind.i64.wrap ((m : Int) + 1) = (m : Int) + 1 := IntWalk.i64_in _ (by omega)
      go_simp
      exact hK _ _ ⟨l0, true, true, l3, l4, l5, l6, l7, l8, l9, l10, l11, false, l13, false, am, cm, b5, b6, bo, rfl, by simp, by simp, (by simp), HS.out⟩
    · subst hun
      go_simp
      exact hK _ _ ⟨l0, l1, l2, true, l4, l5, l6, l7, l8, l9, l10, l11, l12, l13, l14, am, cm, b5, b6, bo, rfl, hd12, hd14, (by simp), HS.out⟩
    · obtain rfl := hall
      subst hun
      have e1 := HS.out.cell (v := .slice av L1 cv) 0 1 rfl rfl
      go_simp
      exact hK _ _ ⟨l0, l1, l2, true, true, l5, l6, l7, l8, l9, l10, l11, l12, l13, l14, am, cm, b5, b6, bo, rfl, hd12, hd14, (by simp), HS.out⟩
    · obtain rfl := hall
      subst hun
      obtain rfl : l12 = false := by cases l12 with | false => rfl | true => simpa using hd12 rfl
      obtain rfl : l14 = false := offR hd14 rfl
      go_simp
      go_at_call 101
      refine (Hcl.out _ HS.out.bel).mono ?_
      rintro e u1 ⟨x1, d1, rfl, hb⟩
      have hS2 := (HS.out.cat hb).pick [0, 1, 2, 6, 4, 5] (by decide)
      have HhS2 := Lib.hid hS2; clear hS2
      go_simp
      exact hK _ _ ⟨l0, l1, l2, l3, true, true, l6, l7, l8, l9, l10, l11, false, l13, false, x1, d1, b5, b6, bo, rfl, by simp, by simp, (by simp), HhS2.out⟩
    · subst hun
      go_simp
      exact hK _ _ ⟨l0, l1, l2, l3, l4, l5, true, l7, l8, l9, l10, l11, l12, l13, l14, am, cm, b5, b6, bo, rfl, hd12, hd14, (by simp), HS.out⟩
    · obtain rfl := hall
      subst hun
      have e0 := HS.out.cell (v := .int .i64 (m : Int)) 0 0 rfl rfl
      go_simp
      exact hK _ _ ⟨l0, l1, l2, l3, l4, l5, true, true, l8, l9, l10, l11, l12, l13, l14, am, cm, b5, b6, bo, rfl, hd12, hd14, (by simp), HS.out⟩
    · obtain rfl := hall
      subst hun
      obtain rfl : l12 = false := by cases l12 with | false => rfl | true => simpa using hd12 rfl
      obtain rfl : l14 = false := offR hd14 rfl
      have hS2 := ((HS.out.alloc _ rfl #[.int .i64 (m : Int)] 3).boxrow 6 1 1 [.int .i64 (m : Int)] rfl rfl (by decide)).pick [0, 1, 2, 3, 6, 5] (by decide)
      have HhS2 := Lib.hid hS2; clear hS2
      go_simp
      exact hK _ _ ⟨l0, l1, l2, l3, l4, l5, l6, true, true, l9, l10, l11, false, l13, false, am, cm, w'.heap.size, b6, bo, rfl, by simp, by simp, (by simp), HhS2.out⟩
    · subst hun
      go_simp
      exact hK _ _ ⟨l0, l1, l2, l3, l4, l5, l6, l7, l8, true, l10, l11, l12, l13, l14, am, cm, b5, b6, bo, rfl, hd12, hd14, (by simp), HS.out⟩
    · obtain rfl := hall
      subst hun
      have e0 := HS.out.cell (v := .int .i64 (m : Int)) 0 0 rfl rfl
      go_simp
      exact hK _ _ ⟨l0, l1, l2, l3, l4, l5, l6, l7, l8, true, true, l11, l12, l13, l14, am, cm, b5, b6, bo, rfl, hd12, hd14, (by simp), HS.out⟩
    · obtain rfl := hall
      subst hun
      obtain rfl : l12 = false := by cases l12 with | false => rfl | true => simpa using hd12 rfl
      obtain rfl : l14 = false := offR hd14 rfl
      have hS2 := ((HS.out.alloc _ rfl #[.int .i64 (m : Int)] 3).boxrow 6 1 1 [.int .i64 (m : Int)] rfl rfl (by decide)).pick [0, 1, 2, 3, 4, 6] (by decide)
      have HhS2 := Lib.hid hS2; clear hS2
      go_simp
      exact hK _ _ ⟨l0, l1, l2, l3, l4, l5, l6, l7, l8, l9, true, true, false, l13, false, am, cm, b5, w'.heap.size, bo, rfl, by simp, by simp, (by simp), HhS2.out⟩
    · obtain ⟨rfl, rfl, rfl, rfl⟩ := hall
      subst hun
      obtain rfl : l14 = false := offR hd14 rfl
      go_simp
      exact hK _ _ ⟨l0, l1, true, l3, l4, true, l6, l7, true, l9, l10, true, true, l13, false, am, cm, b5, b6, bo, rfl, by simp, by simp, (by simp), HS.out⟩
    · subst hun
      obtain rfl : l14 = false := offL hd14 rfl
      have hS2 := (HS.out.alloc _ rfl #[.int .i64 0, .slice none 0 0, .slice none 0 0, .slice none 0 0] 96).pick [0, 1, 6, 3, 4, 5] (by decide)
      have HhS2 := Lib.hid hS2; clear hS2
      go_simp
      exact hK _ _ ⟨l0, l1, l2, l3, l4, l5, l6, l7, l8, l9, l10, l11, l12, true, false, am, cm, b5, b6, w'.heap.size, rfl, hd12, by simp, (by simp), HhS2.out⟩
    · obtain ⟨rfl, rfl, rfl, rfl, rfl, rfl, rfl, rfl, -, rfl, rfl, rfl, rfl, rfl, rfl, -, -⟩ := hall
      subst hun
      have f0 := HS.out.fr 2 0 rfl
      have k0 := HS.out.cell (v := .int .i64 0) 2 0 rfl rfl
      have f1 := HS.out.fr 2 1 rfl
      have k1 := HS.out.cell (v := .slice none 0 0) 2 1 rfl rfl
      have f2 := HS.out.fr 2 2 rfl
      have k2 := HS.out.cell (v := .slice none 0 0) 2 2 rfl rfl
      have f3 := HS.out.fr 2 3 rfl
      have k3 := HS.out.cell (v := .slice none 0 0) 2 3 rfl rfl
      go_simp
      exact hK _ _ ⟨true, true, true, true, true, true, true, true, true, true, true, true, true, true, true, am, cm, b5, b6, bo, rfl, by simp, by simp, (by simp only [↓reduceIte, List.setIfInBounds_toArray, List.set_cons_zero, List.set_cons_succ]), ((((HS.out.set 2 rfl 0 (.int .i64 ((m : Int) + 1))).set 2 rfl 1 (.slice am L1 cm)).set 2 rfl 2 (.slice (some ⟨b5, 0, none⟩) 1 1)).set 2 rfl 3 (.slice (some ⟨b6, 0, none⟩) 1 1))⟩
  · rintro listed a w' ⟨l0, l1, l2, l3, l4, l5, l6, l7, l8, l9, l10, l11, l12, l13, l14, am, cm, b5, b6, bo, rfl, hd12, hd14, rfl, hS⟩ hr
    have hall := ready_nilM (by kernel_rfl) rfl hr
    obtain rfl : l0 = true := by simpa using hall 0 (by simp)
    obtain rfl : l1 = true := by simpa using hall 1 (by simp)
    obtain rfl : l2 = true := by simpa using hall 2 (by simp)
    obtain rfl : l3 = true := by simpa using hall 3 (by simp)
    obtain rfl : l4 = true := by simpa using hall 4 (by simp)
    obtain rfl : l5 = true := by simpa using hall 5 (by simp)
    obtain rfl : l6 = true := by simpa using hall 6 (by simp)
    obtain rfl : l7 = true := by simpa using hall 7 (by simp)
    obtain rfl : l8 = true := by simpa using hall 8 (by simp)
    obtain rfl : l9 = true := by simpa using hall 9 (by simp)
    obtain rfl : l10 = true := by simpa using hall 10 (by simp)
    obtain rfl : l11 = true := by simpa using hall 11 (by simp)
    obtain rfl : l12 = true := by simpa using hall 12 (by simp)
    obtain rfl : l13 = true := by simpa using hall 13 (by simp)
    obtain rfl : l14 = true := by simpa using hall 14 (by simp)
    clear hall hr hd12 hd14
    simp only [↓reduceIte] at hS ⊢
    simp only [List.setIfInBounds_toArray, List.set_cons_zero, List.set_cons_succ]
    have HS1 := Lib.hid (hS.pick [0, 1, 2, 3, 4, 5] (by decide))
    clear hS
    have e9 := HS1.out.cell (v := .slice af L2 cf) 0 2 rfl rfl
    go_wp2
    go_loopw [24] (fun i wr => ∃ (k : Nat) (a1 : Option Addr) (c1 : Nat), i = .int .i64 k ∧ k ≤ L2 ∧ St w wr [Ent.box w.heap.size #[.int .i64 (m : Int), .slice av L1 cv, .slice af L2 cf, .slice ae L3 ce] 96, Ent.box (w.heap.size + 1) #[.int .i64 0, .slice none 0 0, .slice none 0 0, .slice none 0 0] 96, Ent.box bo #[.int .i64 ((m : Int) + 1), .slice a1 (L1 + k) c1, .slice (some ⟨b5, 0, none⟩) 1 1, .slice (some ⟨b6, 0, none⟩) 1 1] 96, Ent.row 127 3 (.slice a1 (L1 + k) c1) (L1 + k) ((n.moves ++ (n.firsts.take k).map fun t => ((m : Int), (-1 : Int), t)).flatMap moveCells), Ent.row 3 1 (.slice (some ⟨b5, 0, none⟩) 1 1) 1 [.int .i64 (m : Int)], Ent.row 3 1 (.slice (some ⟨b6, 0, none⟩) 1 1) 1 [.int .i64 (m : Int)]]) (fun i _ => L2 - (intOf i).toNat)
    case atStart =>
      refine ⟨0, am, cm, rfl, Nat.zero_le _, ?_⟩
      have h := HS1.out
      rw [List.take_zero, List.map_nil, List.append_nil]
      exact h
    case round =>
      obtain ⟨k, a1, c1, rfl, hk, hS⟩ := hrel
      by_cases hlt : k < L2
      · have hlt2 : (k : Int) < L2 := by omega
        have hkn : k < n.firsts.length := by have := HhL2.out; omega
        obtain ⟨b1, o1, rfl, -, hb1, hcs⟩ := Hr2.out (by omega)
        have m0 := hcs k hlt
        have hsn := take_map_snoc (fun t => ((m : Int), (-1 : Int), t)) (d := 0) hkn rfl
        obtain ⟨p0, hp⟩ : ∃ p, p = n.firsts.getD k 0 := ⟨_, rfl⟩
        rw [← hp] at m0 hsn
        have m1 := (bcell hS.bel b1 _ hb1).trans m0
        have e0 := hS.cell (v := .int .i64 (m : Int)) 0 0 rfl rfl
        have y0 := hS.cell (v := .slice a1 (L1 + k) c1) 2 1 rfl rfl
        have hSa := hS.alloc_ (.cells #[.int .i64 (m : Int), .int .i64 (-1), .int .i64 p0] 127)
        have HSa := Lib.hid hSa
        have HRa := Lib.hid (hSa.row 3 rfl)
        have Hhp := Lib.hid hp; clear hp
        have Hhsn := Lib.hid hsn; clear hsn
        clear hS hSa hcs m0
        go_wp2_with (at_builtin; refine wpList_append_lies _ rfl _ _ _ rfl _ 127 i0 (.agg #[.int .i64 0, .int .i64 0, .int .i64 0]) 3 24 Try.underlying94 Hhi.out Hhz0.out Hhz1.out Hhz2.out rfl (by omega) _ (L1 + k) _ rfl HRa.out ⟨wr.heap.size, 0, none⟩ 1 1 [.int .i64 (m : Int), .int .i64 (-1), .int .i64 p0] rfl rfl (World.news_of_block (heap_alloc_new wr _)) one_mv (by omega) (by unfold maxLen; omega) (by omega) HSa.out.size _ rfl ?_; intro g6 c6 w6 hown6 hgrow6 hat6 hlt6; have HS6 := Lib.hid (HSa.out.app 3 rfl hown6 hgrow6 hat6); have y1 := HS6.out.cell (v := .slice a1 (L1 + k) c1) 2 1 rfl rfl; have y2 := HS6.out.fr 2 1 rfl; clear hown6 hgrow6 hat6 hlt6)
        go_roundw
        case rel =>
          refine ⟨k + 1, some ⟨g6, 0, none⟩, c6, by go_num, by omega, ?_⟩
          rw [Hhsn.out, ← List.append_assoc, List.flatMap_append (xs := _ ++ _)]
          exact HS6.out.set 2 rfl 1 (.slice (some ⟨g6, 0, none⟩) (L1 + k + 1) c6)
        case measure => simp [intOf]; omega
      · obtain rfl : L2 = k := by omega
        rw [show (n.firsts.take L2) = n.firsts from List.take_of_length_le (by have := HhL2.out; omega)] at hS
        have HSe := Lib.hid hS
        clear hS
        have e9 := HSe.out.cell (v := .slice ae L3 ce) 0 3 rfl rfl
        have HSe1 := HSe
        clear HSe
        go_wp2
        go_loopw [41] (fun i wr => ∃ (k : Nat) (a1 : Option Addr) (c1 : Nat), i = .int .i64 k ∧ k ≤ L3 ∧ St w wr [Ent.box w.heap.size #[.int .i64 (m : Int), .slice av L1 cv, .slice af L2 cf, .slice ae L3 ce] 96, Ent.box (w.heap.size + 1) #[.int .i64 0, .slice none 0 0, .slice none 0 0, .slice none 0 0] 96, Ent.box bo #[.int .i64 ((m : Int) + 1), .slice a1 (L1 + L2 + k) c1, .slice (some ⟨b5, 0, none⟩) 1 1, .slice (some ⟨b6, 0, none⟩) 1 1] 96, Ent.row 127 3 (.slice a1 (L1 + L2 + k) c1) (L1 + L2 + k) ((n.moves ++ (n.firsts.map fun t => ((m : Int), (-1 : Int), t)) ++ (n.ends.take k).map fun s => (s, (-1 : Int), (m : Int))).flatMap moveCells), Ent.row 3 1 (.slice (some ⟨b5, 0, none⟩) 1 1) 1 [.int .i64 (m : Int)], Ent.row 3 1 (.slice (some ⟨b6, 0, none⟩) 1 1) 1 [.int .i64 (m : Int)]]) (fun i _ => L3 - (intOf i).toNat)
        case atStart =>
          refine ⟨0, a1, c1, rfl, Nat.zero_le _, ?_⟩
          have h := HSe1.out
          rw [List.take_zero, List.map_nil, List.append_nil]
          exact h
        case round =>
          obtain ⟨k, a1, c1, rfl, hk, hS⟩ := hrel
          by_cases hlt : k < L3
          · have hlt2 : (k : Int) < L3 := by omega
            have hkn : k < n.ends.length := by have := HhL3.out; omega
            obtain ⟨b1, o1, rfl, -, hb1, hcs⟩ := Hr3.out (by omega)
            have m0 := hcs k hlt
            have hsn := take_map_snoc (fun s => (s, (-1 : Int), (m : Int))) (d := 0) hkn rfl
            obtain ⟨p0, hp⟩ : ∃ p, p = n.ends.getD k 0 := ⟨_, rfl⟩
            rw [← hp] at m0 hsn
            have m1 := (bcell hS.bel b1 _ hb1).trans m0
            have e0 := hS.cell (v := .int .i64 (m : Int)) 0 0 rfl rfl
            have y0 := hS.cell (v := .slice a1 (L1 + L2 + k) c1) 2 1 rfl rfl
            have hSa := hS.alloc_ (.cells #[.int .i64 p0, .int .i64 (-1), .int .i64 (m : Int)] 127)
            have HSa := Lib.hid hSa
            have HRa := Lib.hid (hSa.row 3 rfl)
            have Hhp := Lib.hid hp; clear hp
            have Hhsn := Lib.hid hsn; clear hsn
            clear hS hSa hcs m0
            go_wp2_with (at_builtin; refine wpList_append_lies _ rfl _ _ _ rfl _ 127 i0 (.agg #[.int .i64 0, .int .i64 0, .int .i64 0]) 3 24 Try.underlying94 Hhi.out Hhz0.out Hhz1.out Hhz2.out rfl (by omega) _ (L1 + L2 + k) _ rfl HRa.out ⟨wr.heap.size, 0, none⟩ 1 1 [.int .i64 p0, .int .i64 (-1), .int .i64 (m : Int)] rfl rfl (World.news_of_block (heap_alloc_new wr _)) one_mv (by omega) (by unfold maxLen; omega) (by omega) HSa.out.size _ rfl ?_; intro g6 c6 w6 hown6 hgrow6 hat6 hlt6; have HS6 := Lib.hid (HSa.out.app 3 rfl hown6 hgrow6 hat6); have y1 := HS6.out.cell (v := .slice a1 (L1 + L2 + k) c1) 2 1 rfl rfl; have y2 := HS6.out.fr 2 1 rfl; clear hown6 hgrow6 hat6 hlt6)
            go_roundw
            case rel =>
              refine ⟨k + 1, some ⟨g6, 0, none⟩, c6, by go_num, by omega, ?_⟩
              rw [Hhsn.out, ← List.append_assoc, List.flatMap_append (xs := _ ++ _)]
              exact HS6.out.set 2 rfl 1 (.slice (some ⟨g6, 0, none⟩) (L1 + L2 + k + 1) c6)
            case measure => simp [intOf]; omega
          · obtain rfl : L3 = k := by omega
            rw [show (n.ends.take L3) = n.ends from List.take_of_length_le (by have := HhL3.out; omega)] at hS
            have HSe := Lib.hid hS
            clear hS
            have e0 := HSe.out.cell (v := .int .i64 ((m : Int) + 1)) 2 0 rfl rfl
            have e1 := HSe.out.cell (v := .slice a1 (L1 + L2 + L3) c1) 2 1 rfl rfl
            have e2 := HSe.out.cell (v := .slice (some ⟨b5, 0, none⟩) 1 1) 2 2 rfl rfl
            have e3 := HSe.out.cell (v := .slice (some ⟨b6, 0, none⟩) 1 1) 2 3 rfl rfl
            have f0 := HSe.out.fr 1 0 rfl
            have k0 := HSe.out.cell (v := .int .i64 0) 1 0 rfl rfl
            have f1 := HSe.out.fr 1 1 rfl
            have k1 := HSe.out.cell (v := .slice none 0 0) 1 1 rfl rfl
            have f2 := HSe.out.fr 1 2 rfl
            have k2 := HSe.out.cell (v := .slice none 0 0) 1 2 rfl rfl
            have f3 := HSe.out.fr 1 3 rfl
            have k3 := HSe.out.cell (v := .slice none 0 0) 1 3 rfl rfl
            have HSr := Lib.hid ((((HSe.out.set 1 rfl 0 (.int .i64 ((m : Int) + 1))).set 1 rfl 1 (.slice a1 (L1 + L2 + L3) c1)).set 1 rfl 2 (.slice (some ⟨b5, 0, none⟩) 1 1)).set 1 rfl 3 (.slice (some ⟨b6, 0, none⟩) 1 1))
            have q0 := HSr.out.cell (v := .int .i64 ((m : Int) + 1)) 1 0 rfl rfl
            have q1 := HSr.out.cell (v := .slice a1 (L1 + L2 + L3) c1) 1 1 rfl rfl
            have q2 := HSr.out.cell (v := .slice (some ⟨b5, 0, none⟩) 1 1) 1 2 rfl rfl
            have q3 := HSr.out.cell (v := .slice (some ⟨b6, 0, none⟩) 1 1) 1 3 rfl rfl
            go_wp2
            refine bodyPost_ret (v := .agg #[.int .i64 ((m : Int) + 1), .slice a1 (L1 + L2 + L3) c1, .slice (some ⟨b5, 0, none⟩) 1 1, .slice (some ⟨b6, 0, none⟩) 1 1]) (by simp [results, Try.results71, go_sem, q0, q1, q2, q3]) rfl ?_
            have hNm : n.moves.length + n.firsts.length + n.ends.length = L1 + L2 + L3 := by rw [HhL1.out, HhL2.out, HhL3.out]
            have hst : starN n = ⟨(m : Int) + 1, n.moves ++ (n.firsts.map fun t => ((m : Int), -1, t)) ++ (n.ends.map fun s => (s, -1, (m : Int))), [(m : Int)], [(m : Int)]⟩ := by unfold starN; rw [Hhm.out]
            rw [hst]
            refine ⟨a1, c1, some ⟨b5, 0, none⟩, 1, some ⟨b6, 0, none⟩, 1, ?_, ?_⟩
            · simp only [List.length_append, List.length_map, hNm]
              rfl
            · simp only [List.length_append, List.length_map, hNm]
              exact HSr.out.pick [3, 4, 5] (by decide)
  · refine ⟨false, false, false, false, false, false, false, false, false, false, false, false, false, false, false, none, 0, 0, 0, 0, rfl, by simp, by simp, (by simp), ?_⟩
    exact HS0.out.drew.pick [0, 1, 2, 3, 4, 5] (by decide)
end Go.Proofs.Ytfgpkadhegdffaa
