/-
  Plain: the words of a search in breadth are the least ones (shorter first, then by letters); the first word that tells two automata apart stands on their languages alone.
  No condition.
-/
import Derived.Test.YthhbjkgchabfmaaPk25Pa
import Derived.Test.YthhbjkgchabfmaaPk30L16
import Derived.Test.YthhbjkgchabfmaaPk32Pg
import Derived.Test.YthhbjkgchabfmaaPk38My
namespace Go.Proofs.Ythhbjkgchabfmaa
open Go.RowKit
def vl (w : List Nat) : Nat := w.foldl (fun n c => 3 * n + c + 1) 0
theorem vl_nil : vl [] = 0 := rfl
theorem vl_snoc (w : List Nat) (c : Nat) : vl (w ++ [c]) = 3 * vl w + c + 1 := by simp [vl]
theorem isW_snoc {w : List Nat} {c : Nat} (h : isW (w ++ [c])) : isW w ∧ c < 3 := ⟨fun x hx => h x (List.mem_append_left _ hx), h c (by simp)⟩
theorem snoc_ex {w : List Nat} (h : w ≠ []) : ∃ u c, w = u ++ [c] := ⟨w.dropLast, w.getLast h, (List.dropLast_concat_getLast h).symm⟩
theorem vl_inj : ∀ (n : Nat) (u w : List Nat), u.length ≤ n → isW u → isW w → vl u = vl w → u = w
  | 0, u, w, hn, hu, hw, h => by
    obtain rfl : u = [] := List.length_eq_zero_iff.1 (by omega)
    by_cases hw0 : w = []
    · exact hw0.symm
    · obtain ⟨v, c, rfl⟩ := snoc_ex hw0
      rw [vl_snoc, vl_nil] at h
      omega
  | n + 1, u, w, hn, hu, hw, h => by
    by_cases hu0 : u = []
    · subst hu0
      by_cases hw0 : w = []
      · exact hw0.symm
      · obtain ⟨v, c, rfl⟩ := snoc_ex hw0
        rw [vl_snoc, vl_nil] at h
        omega
    · obtain ⟨p, b, rfl⟩ := snoc_ex hu0
      by_cases hw0 : w = []
      · subst hw0
        rw [vl_snoc, vl_nil] at h
        omega
      · obtain ⟨q, c, rfl⟩ := snoc_ex hw0
        obtain ⟨h1, h2⟩ := isW_snoc hu
        obtain ⟨h3, h4⟩ := isW_snoc hw
        rw [vl_snoc, vl_snoc] at h
        obtain rfl : b = c := by omega
        rw [List.length_append] at hn
        have := vl_inj n p q (by simp at hn; omega) h1 h3 (by omega)
        rw [this]
section
variable {α : Type} [DecidableEq α] {nx : α → Nat → α} {a : α}
structure BI (s : Bs α) (B : Nat) : Prop where
  len : s.words.length = s.met.length
  inc : ∀ i j, i < j → j < s.met.length → vl (s.words.getD i []) < vl (s.words.getD j [])
  bnd : ∀ j, j < s.met.length → vl (s.words.getD j []) ≤ B
omit [DecidableEq α] in
theorem BI.up {s : Bs α} {B B' : Nat} (h : BI s B) (hB : B ≤ B') : BI s B' := ⟨h.len, h.inc, fun j hj => Nat.le_trans (h.bnd j hj) hB⟩
theorem getD_lt {β : Type} {l : List β} {x d : β} {i : Nat} (h : i < l.length) : (l ++ [x]).getD i d = l.getD i d := by
  rw [List.getD_eq_getElem?_getD, List.getElem?_append_left h, ← List.getD_eq_getElem?_getD]
theorem getD_last {β : Type} {l : List β} {x d : β} {i : Nat} (h : i = l.length) : (l ++ [x]).getD i d = x := by
  subst h
  simp
theorem BI.visit {x : α} {wd : List Nat} {t : Bs α} {c B : Nat} (h : BI t B) (hB : 3 * vl wd + c = B) : BI (bvisit nx x wd t c) (B + 1) := by
  unfold bvisit
  split
  · exact h.up (by omega)
  · have hl := h.len
    refine ⟨by simp [hl], fun i j hij hj => ?_, fun j hj => ?_⟩
    · simp only [List.length_append, List.length_singleton] at hj
      by_cases hj2 : j < t.met.length
      · show vl ((t.words ++ [wd ++ [c]]).getD i []) < vl ((t.words ++ [wd ++ [c]]).getD j [])
        rw [getD_lt (by omega), getD_lt (by omega)]
        exact h.inc i j hij hj2
      · show vl ((t.words ++ [wd ++ [c]]).getD i []) < vl ((t.words ++ [wd ++ [c]]).getD j [])
        rw [getD_lt (by omega), getD_last (by omega), vl_snoc]
        have := h.bnd i (by omega)
        omega
    · simp only [List.length_append, List.length_singleton] at hj
      show vl ((t.words ++ [wd ++ [c]]).getD j []) ≤ _
      by_cases hj2 : j < t.met.length
      · rw [getD_lt (by omega)]
        have := h.bnd j hj2
        omega
      · rw [getD_last (by omega), vl_snoc]
        omega
theorem bpart_bi {k : Nat} (h : BI (bat nx a k) (3 * vl ((bat nx a k).words.getD k []))) : ∀ n, n ≤ 3 → BI (bpart nx a k n) (3 * vl ((bat nx a k).words.getD k []) + n)
  | 0, _ => h
  | n + 1, hn => by
    rw [bpart_succ]
    exact (bpart_bi h n (by omega)).visit rfl
theorem bat_bi : ∀ k, ∃ B, BI (bat nx a k) B ∧ (k < (bat nx a k).met.length → B ≤ 3 * vl ((bat nx a k).words.getD k []))
  | 0 => ⟨0, ⟨rfl, fun i j h1 h2 => by simp only [bat, List.length_singleton] at h2; omega, fun j hj => by
      simp only [bat, List.length_singleton] at hj
      obtain rfl : j = 0 := by omega
      exact Nat.le_refl _⟩, fun _ => Nat.zero_le _⟩
  | k + 1 => by
    obtain ⟨B, h, hb⟩ := bat_bi k
    by_cases hk : k < (bat nx a k).met.length
    · have h3 := bpart_bi (h.up (hb hk)) 3 (by omega)
      have hle := (bpart_le (nx := nx) (a := a) (k := k) (show 0 ≤ 3 by omega)).2
      rw [bat_succ hk]
      refine ⟨_, h3, fun hk1 => ?_⟩
      have h4 := h3.inc k (k + 1) (by omega) hk1
      have h5 : (bpart nx a k 3).words.getD k [] = (bat nx a k).words.getD k [] := prefix_getD hle (by rw [bpart_zero, h.len]; exact hk) []
      rw [h5] at h4
      omega
    · rw [bat_stay (by omega)]
      exact ⟨B, h, fun h' => by omega⟩
theorem bat_cov {K : Nat} (hK : (bat nx a K).met.length ≤ K) {i c : Nat} (hi : i < (bat nx a K).met.length) (hc : c < 3) : ∃ j, j < (bat nx a K).met.length ∧ (bat nx a K).met.getD j a = nx ((bat nx a K).met.getD i a) c ∧ vl ((bat nx a K).words.getD j []) ≤ 3 * vl ((bat nx a K).words.getD i []) + c + 1 := by
  have hkk : i < (bat nx a i).met.length := by
    by_cases h : i < (bat nx a i).met.length
    · exact h
    · have := bat_done (nx := nx) (a := a) (k := i) (m := K) (by omega) (by omega)
      rw [this] at hi
      omega
  have hle := bat_le (nx := nx) (a := a) (show i ≤ K by omega)
  obtain ⟨B, hB, hb⟩ := bat_bi (nx := nx) (a := a) i
  have hw : i < (bat nx a i).words.length := by rw [hB.len]; exact hkk
  rw [prefix_getD hle.1 hkk a, prefix_getD hle.2 hw []]
  have hp := bpart_bi (hB.up (hb hkk)) (c + 1) (by omega)
  have hm := bpart_mem (nx := nx) (a := a) (k := i) (n := c + 1) (c := c) (by omega)
  obtain ⟨j, hj, e⟩ := List.mem_iff_getElem.1 hm
  have hpl := bpart_le_bat (nx := nx) (a := a) hkk (show c + 1 ≤ 3 by omega) (show i < K by omega)
  refine ⟨j, Nat.lt_of_lt_of_le hj hpl.1.length_le, ?_, ?_⟩
  · rw [prefix_getD hpl.1 hj a, getD_at hj, e]
  · rw [prefix_getD hpl.2 (by rw [hp.len]; exact hj) []]
    exact hp.bnd j hj
theorem bat_least {K : Nat} (hK : (bat nx a K).met.length ≤ K) : ∀ (n : Nat) (u : List Nat), u.length ≤ n → isW u → ∃ j, j < (bat nx a K).met.length ∧ (bat nx a K).met.getD j a = u.foldl nx a ∧ vl ((bat nx a K).words.getD j []) ≤ vl u
  | 0, u, hn, hu => by
    obtain rfl : u = [] := List.length_eq_zero_iff.1 (by omega)
    obtain ⟨-, -, h3⟩ := bat_good (nx := nx) (a := a) K
    refine ⟨0, bat_pos K, bat_first K, ?_⟩
    have hle := (bat_le (nx := nx) (a := a) (show 0 ≤ K by omega)).2
    rw [prefix_getD hle (by simp [bat]) []]
    exact Nat.le_refl _
  | n + 1, u, hn, hu => by
    by_cases hu0 : u = []
    · subst hu0
      exact bat_least hK n [] (by simp) hu
    · obtain ⟨p, c, rfl⟩ := snoc_ex hu0
      obtain ⟨h1, h2⟩ := isW_snoc hu
      obtain ⟨i, hi, e, hv⟩ := bat_least hK n p (by rw [List.length_append] at hn; simp at hn; omega) h1
      obtain ⟨j, hj, ej, hvj⟩ := bat_cov hK hi h2
      refine ⟨j, hj, ?_, ?_⟩
      · rw [ej, e, List.foldl_append]
        rfl
      · rw [vl_snoc]
        omega
theorem hit_least {en : α → Bool} {K : Nat} (hK : (bat nx a K).met.length ≤ K) {w : List Nat} (h : firstHit en (bat nx a K) = some w) : isW w ∧ en (w.foldl nx a) = true ∧ ∀ u, isW u → en (u.foldl nx a) = true → vl w ≤ vl u := by
  have hg := bat_good (nx := nx) (a := a) K
  obtain ⟨B, hB, -⟩ := bat_bi (nx := nx) (a := a) K
  unfold firstHit at h
  rw [Option.map_eq_some_iff] at h
  obtain ⟨⟨x, w'⟩, hf, e⟩ := h
  have e : w' = w := e
  subst e
  obtain ⟨hen, i, hi, hxw, hno⟩ := List.find?_eq_some_iff_getElem.1 hf
  rw [List.length_zip] at hi
  have hi1 : i < (bat nx a K).met.length := by omega
  have hi2 : i < (bat nx a K).words.length := by omega
  rw [List.getElem_zip] at hxw
  simp only [Prod.mk.injEq] at hxw
  obtain ⟨hx, hw⟩ := hxw
  obtain ⟨hb1, hb2⟩ := bat_words (nx := nx) (a := a) K i hi1
  have hwd : (bat nx a K).words.getD i [] = w' := by rw [getD_at hi2]; exact hw
  have hmt : (bat nx a K).met.getD i a = x := by rw [getD_at hi1]; exact hx
  rw [hwd, hmt] at hb1
  rw [hwd] at hb2
  refine ⟨hb2, by rw [hb1]; exact hen, fun u hu hue => ?_⟩
  obtain ⟨j, hj, ej, hv⟩ := bat_least hK u.length u (Nat.le_refl _) hu
  by_cases hij : j < i
  · have hn := hno j hij
    rw [List.getElem_zip] at hn
    have : en (bat nx a K).met[j] = false := by simpa using hn
    rw [← getD_at hj (d := a), ej, hue] at this
    cases this
  · by_cases hji : i = j
    · subst hji
      rw [hwd] at hv
      exact hv
    · have := hB.inc i j (by omega) hj
      rw [hwd] at this
      omega
end
theorem hit_lang {a b a' b' : DfaD} (ha : dfaOk a.next a.ends = true) (hb : dfaOk b.next b.ends = true) (ha' : dfaOk a'.next a'.ends = true) (hb' : dfaOk b'.next b'.ends = true) {K : Nat} (hK : 1600 ≤ K)
    (h : ∀ w, isW w → (accD a w = accD b w ↔ accD a' w = accD b' w)) : hitK K a b = hitK K a' b' := by
  have key : ∀ {a b : DfaD}, dfaOk a.next a.ends = true → dfaOk b.next b.ends = true → ∀ {w : List Nat}, hitK K a b = some w → isW w ∧ accD a w ≠ accD b w ∧ ∀ u, isW u → accD a u ≠ accD b u → vl w ≤ vl u := by
    intro a b ha hb w hw
    obtain ⟨h1, h2, h3⟩ := hit_least (nx := stepP a b) (a := ((0, 0) : Int × Int)) (most_le ha hb hK) hw
    have hne : ∀ u : List Nat, endsF (fun x y => x != y) a b (u.foldl (stepP a b) (0, 0)) = true ↔ accD a u ≠ accD b u := fun u => by
      rw [stepP_fold]
      show (den a (runD a 0 u) != den b (runD b 0 u)) = true ↔ _
      rw [bne_iff_ne]
      exact Iff.rfl
    exact ⟨h1, (hne w).1 h2, fun u hu hue => h3 u hu ((hne u).2 hue)⟩
  cases e1 : hitK K a b with
  | none =>
    have h1 := (hitK_iff ha hb hK).1 e1
    exact ((hitK_iff ha' hb' hK).2 fun w hw => (h w hw).1 (h1 w hw)).symm
  | some w =>
    obtain ⟨w1, w2, w3⟩ := key ha hb e1
    cases e2 : hitK K a' b' with
    | none => exact absurd ((h w w1).2 ((hitK_iff ha' hb' hK).1 e2 w w1)) w2
    | some u =>
      obtain ⟨u1, u2, u3⟩ := key ha' hb' e2
      have h1 := w3 u u1 fun e => u2 ((h u u1).1 e)
      have h2 := u3 w w1 fun e => w2 ((h w w1).2 e)
      rw [vl_inj w.length w u (Nat.le_refl _) w1 u1 (by omega)]
def xb (b x : Bool) : Bool := b != x
theorem xb_inj {b x y : Bool} : xb b x = xb b y ↔ x = y := by cases b <;> cases x <;> cases y <;> decide
theorem xb_ne {b x y : Bool} : (xb b x != xb b y) = (x != y) := by cases b <;> cases x <;> cases y <;> decide
theorem map_xb_inj {b : Bool} : ∀ {l m : List Bool}, l.map (xb b) = m.map (xb b) → l = m
  | [], [], _ => rfl
  | [], _ :: _, h => by cases h
  | _ :: _, [], h => by cases h
  | x :: l, y :: m, h => by
    rw [List.map_cons, List.map_cons, List.cons.injEq] at h
    rw [xb_inj.1 h.1, map_xb_inj h.2]
def flB (b : Bool) (g : DfaD) : DfaD := ⟨g.next, g.ends.map (xb b)⟩
theorem flB_run (b : Bool) (g : DfaD) (s : Int) (w : List Nat) : runD (flB b g) s w = runD g s w := rfl
theorem flB_ok {b : Bool} {g : DfaD} (h : dfaOk g.next g.ends = true) : dfaOk (flB b g).next (flB b g).ends = true := by
  have hl := dfaOk_len h
  refine dfaOk_of hl.1 hl.2.1 ?_ fun i hi => dfaOk_row h hi
  show (g.ends.map (xb b)).length = g.next.length
  rw [List.length_map]
  exact hl.2.2
theorem flB_acc {b : Bool} {g : DfaD} (h : dfaOk g.next g.ends = true) {w : List Nat} (hw : isW w) : accD (flB b g) w = xb b (accD g w) := by
  have hl := dfaOk_len h
  obtain ⟨t, ht, hr⟩ := runD_nat (fine_of h) w (s := 0) hw (by omega)
  have hr : runD g 0 w = (t : Int) := hr
  unfold accD
  rw [flB_run, hr, den_nat, den_nat]
  show (g.ends.map (xb b)).getD t false = xb b (g.ends.getD t false)
  rw [List.getD_eq_getElem?_getD, List.getElem?_map, List.getD_eq_getElem?_getD, List.getElem?_eq_getElem (show t < g.ends.length by omega)]
  rfl
section
variable {key key' : List Nat → List Bool} {f : List Bool → List Bool}
theorem mem_key (hf : ∀ x y, f x = f y → x = y) (hk : ∀ w, isW w → key' w = f (key w)) {s : List (List Nat)} (hs : ∀ x ∈ s, isW x) {w : List Nat} (hw : isW w) : key' w ∈ s.map key' ↔ key w ∈ s.map key := by
  rw [List.mem_map, List.mem_map]
  constructor
  · rintro ⟨x, hx, e⟩
    rw [hk x (hs x hx), hk w hw] at e
    exact ⟨x, hx, hf _ _ e⟩
  · rintro ⟨x, hx, e⟩
    exact ⟨x, hx, by rw [hk x (hs x hx), hk w hw, e]⟩
theorem kvisit_lang (hf : ∀ x y, f x = f y → x = y) (hk : ∀ w, isW w → key' w = f (key w)) {s : List (List Nat)} (hs : ∀ x ∈ s, isW x) {w : List Nat} (hw : isW w) : kvisit key' s w = kvisit key s w ∧ ∀ x ∈ kvisit key s w, isW x := by
  unfold kvisit
  have h := mem_key hf hk hs hw
  by_cases hm : key w ∈ s.map key
  · rw [if_pos hm, if_pos (h.2 hm)]
    exact ⟨rfl, hs⟩
  · rw [if_neg hm, if_neg fun h' => hm (h.1 h')]
    refine ⟨rfl, fun x hx => ?_⟩
    rcases List.mem_append.1 hx with hx | hx
    · exact hs x hx
    · rw [List.mem_singleton.1 hx]
      exact hw
theorem krow_lang (hf : ∀ x y, f x = f y → x = y) (hk : ∀ w, isW w → key' w = f (key w)) {s : List (List Nat)} (hs : ∀ x ∈ s, isW x) {w : List Nat} (hw : isW w) : ∀ n, n ≤ 3 → krow key' s w n = krow key s w n ∧ ∀ x ∈ krow key s w n, isW x
  | 0, _ => ⟨rfl, hs⟩
  | n + 1, hn => by
    obtain ⟨h1, h2⟩ := krow_lang hf hk hs hw n (by omega)
    show kvisit key' (krow key' s w n) (w ++ [n]) = kvisit key (krow key s w n) (w ++ [n]) ∧ ∀ x ∈ kvisit key (krow key s w n) (w ++ [n]), isW x
    rw [h1]
    exact kvisit_lang hf hk h2 (isW_append hw (isW_one (by omega)))
theorem kat_lang (hf : ∀ x y, f x = f y → x = y) (hk : ∀ w, isW w → key' w = f (key w)) {s : List (List Nat)} (hs : ∀ x ∈ s, isW x) : ∀ k, kat key' s k = kat key s k ∧ ∀ x ∈ kat key s k, isW x
  | 0 => ⟨rfl, hs⟩
  | k + 1 => by
    obtain ⟨h1, h2⟩ := kat_lang hf hk hs k
    by_cases hlt : k < (kat key s k).length
    · have e1 : kat key s (k + 1) = krow key (kat key s k) ((kat key s k).getD k []) 3 := by simp only [kat, if_pos hlt]
      have e2 : kat key' s (k + 1) = krow key' (kat key' s k) ((kat key' s k).getD k []) 3 := by simp only [kat, if_pos (show k < (kat key' s k).length by rw [h1]; exact hlt)]
      rw [e1, e2, h1]
      exact krow_lang hf hk h2 (h2 _ (memD hlt)) 3 (by omega)
    · have e1 : kat key s (k + 1) = kat key s k := by simp only [kat, if_neg hlt]
      have e2 : kat key' s (k + 1) = kat key' s k := by simp only [kat, if_neg (show ¬ k < (kat key' s k).length by rw [h1]; exact hlt)]
      rw [e1, e2]
      exact ⟨h1, h2⟩
end
section
variable {b : Bool} {d M : DfaD}
theorem row_lang (h : ∀ w, isW w → accD M w = xb b (accD d w)) {r : List (List Nat)} (hr : ∀ x ∈ r, isW x) (w : List Nat) (hw : isW w) : rowW M r w = (rowW d r w).map (xb b) := by
  unfold rowW
  rw [List.map_map]
  exact List.map_congr_left fun x hx => h _ (isW_append hw (hr x hx))
theorem close_lang (hd : dfaOk d.next d.ends = true) (hM : dfaOk M.next M.ends = true) (h : ∀ w, isW w → accD M w = xb b (accD d w)) {s r : List (List Nat)} (hs : ∀ x ∈ s, isW x) (hr : ∀ x ∈ r, isW x) (hn : (s.map (rowW d r)).Nodup) : closeW M s r = closeW d s r := by
  have hk := row_lang h hr
  have hkl := fun k => kat_lang (f := List.map (xb b)) (fun x y e => map_xb_inj e) hk hs k
  have hnk : ∀ k, ((kat (rowW d r) s k).map (rowW d r)).Nodup := fun k => kat_nodup hn k
  have hnM : ∀ k, ((kat (rowW d r) s k).map (rowW M r)).Nodup := fun k => by
    have e : (kat (rowW d r) s k).map (rowW M r) = ((kat (rowW d r) s k).map (rowW d r)).map (List.map (xb b)) := by
      rw [List.map_map]
      exact List.map_congr_left fun x hx => hk x ((hkl k).2 x hx)
    rw [e]
    exact List.Pairwise.map _ (fun x y hne e => hne (map_xb_inj e)) (hnk k)
  have l1 := rows_le hd (hkl (d.next.length + 1)).2 (hnk _)
  have l2 := rows_le hM (hkl (M.next.length + 1)).2 (hnM _)
  unfold closeW
  rw [(hkl _).1]
  rcases Nat.le_total (M.next.length + 1) (d.next.length + 1) with hle | hle
  · exact (kat_done (by omega) hle).symm
  · exact kat_done (by omega) hle
theorem find_lang {S : List (List Bool)} {x : List Bool} : findB (S.map (List.map (xb b))) (x.map (xb b)) = findB S x := by
  have hm : x.map (xb b) ∈ S.map (List.map (xb b)) ↔ x ∈ S := by
    rw [List.mem_map]
    exact ⟨fun ⟨y, hy, e⟩ => by rw [← map_xb_inj e]; exact hy, fun hx => ⟨x, hx, rfl⟩⟩
  unfold findB
  by_cases hx : x ∈ S
  · rw [if_pos hx, if_pos (hm.2 hx)]
    rw [placeOf_map fun y _ e => map_xb_inj e]
  · rw [if_neg hx, if_neg fun h => hx (hm.1 h)]
theorem guess_lang (h : ∀ w, isW w → accD M w = xb b (accD d w)) {s r : List (List Nat)} (hs : ∀ x ∈ s, isW x) (hr : ∀ x ∈ r, isW x) : guessW M s r = flB b (guessW d s r) := by
  have hk := row_lang h hr
  have e : s.map (rowW M r) = (s.map (rowW d r)).map (List.map (xb b)) := by
    rw [List.map_map]
    exact List.map_congr_left fun x hx => hk x (hs x hx)
  unfold guessW flB
  rw [e]
  congr 1
  · refine List.map_congr_left fun w hw => List.map_congr_left fun c hc => ?_
    rw [hk _ (isW_append (hs w hw) (isW_one (List.mem_range.1 hc)))]
    exact find_lang
  · rw [List.map_map]
    exact List.map_congr_left fun x hx => h x (hs x hx)
theorem cut_lang (h : ∀ w, isW w → accD M w = xb b (accD d w)) {s : List (List Nat)} (hs : ∀ x ∈ s, isW x) (g : DfaD) {w : List Nat} (hw : isW w) : cutW M s (flB b g) w = cutW d s g w := by
  have hmix : ∀ k, isW (mixW s g w k) := fun k => by
    refine isW_append ?_ (isW_drop hw k)
    by_cases hlt : (runD g 0 (w.take k)).toNat < s.length
    · exact hs _ (memD hlt)
    · rw [List.getD_eq_getElem?_getD, List.getElem?_eq_none (by omega)]
      exact isW_nil
  have e : (fun k => accD M (mixW s (flB b g) w k) != accD M (mixW s (flB b g) w (k + 1))) = fun k => accD d (mixW s g w k) != accD d (mixW s g w (k + 1)) := by
    funext k
    show (accD M (mixW s g w k) != accD M (mixW s g w (k + 1))) = _
    rw [h _ (hmix k), h _ (hmix (k + 1)), xb_ne]
  unfold cutW
  rw [e]
theorem hit_langB (hd : dfaOk d.next d.ends = true) (hM : dfaOk M.next M.ends = true) (h : ∀ w, isW w → accD M w = xb b (accD d w)) {g : DfaD} (hg : dfaOk g.next g.ends = true) : hitD M (flB b g) = hitD d g := by
  rw [hitD_eq, hitD_eq]
  refine hit_lang hM (flB_ok hg) hd hg mostP_ge fun w hw => ?_
  rw [h w hw, flB_acc hg hw]
  exact xb_inj
theorem tabW_step (d : DfaD) (hit : DfaD → Option (List Nat)) (j : Nat) {s r : List (List Nat)} (e : tabW d hit j = (s, r)) {w : List Nat} (hw : (hit (guessW d s r)).getD [] = w) :
    tabW d hit (j + 1) = (closeW d s (r ++ [w.drop (cutW d s (guessW d s r) w + 1)]), r ++ [w.drop (cutW d s (guessW d s r) w + 1)]) := by
  subst hw
  have e1 : (tabW d hit j).1 = s := by rw [e]
  have e2 : (tabW d hit j).2 = r := by rw [e]
  subst e1
  subst e2
  rfl
theorem tab_lang (hd : dfaOk d.next d.ends = true) (hM : dfaOk M.next M.ends = true) (h : ∀ w, isW w → accD M w = xb b (accD d w)) : ∀ j, (∀ i, i < j → (hitD d (gueW d i)).isSome = true) → tabW M (hitD M) j = tabW d (hitD d) j
  | 0, _ => by
    have h0 : ∀ x ∈ ([[]] : List (List Nat)), isW x := fun x hx => by rw [List.mem_singleton.1 hx]; exact isW_nil
    show (closeW M [[]] [[]], ([[]] : List (List Nat))) = (closeW d [[]] [[]], [[]])
    rw [close_lang hd hM h h0 h0 (by simp)]
  | j + 1, hy => by
    have ih := tab_lang hd hM h j fun i hi => hy i (by omega)
    have hT := LTab.at hd j fun i hi => hy i (by omega)
    have hT1 := LTab.at hd (j + 1) hy
    have hs : ∀ x ∈ staW d j, isW x := hT.inv.sw
    have hr : ∀ x ∈ resW d j, isW x := hT.inv.rw
    have hg := gueW_ok hd (j := j) fun i hi => hy i (by omega)
    have e1 : guessW M (staW d j) (resW d j) = flB b (gueW d j) := guess_lang h hs hr
    have e2 : hitD M (flB b (gueW d j)) = hitD d (gueW d j) := hit_langB hd hM h hg
    obtain ⟨w, hw⟩ := Option.isSome_iff_exists.1 (hy j (by omega))
    have hww := (hitD_says hw).1
    have er := resW_succ d j hw
    have e3 := cut_lang h hs (gueW d j) hww
    have hstep : tabW M (hitD M) (j + 1) = (closeW M (staW d j) (resW d j ++ [w.drop (cutW M (staW d j) (flB b (gueW d j)) w + 1)]), resW d j ++ [w.drop (cutW M (staW d j) (flB b (gueW d j)) w + 1)]) := by
      have h1 := tabW_step M (hitD M) j (s := staW d j) (r := resW d j) (by rw [ih]; rfl) (w := w) (by rw [e1, e2, hw]; rfl)
      rw [h1, e1]
    rw [hstep, e3, ← er]
    have hr1 : ∀ x ∈ resW d (j + 1), isW x := hT1.inv.rw
    rw [close_lang hd hM h hs hr1 hT1.nd]
    show _ = (staW d (j + 1), resW d (j + 1))
    rw [← closeW_pre d (j + 1)]
    rfl
theorem gue_lang (hd : dfaOk d.next d.ends = true) (hM : dfaOk M.next M.ends = true) (h : ∀ w, isW w → accD M w = xb b (accD d w)) {j : Nat} (hy : ∀ i, i < j → (hitD d (gueW d i)).isSome = true) : gueW M j = flB b (gueW d j) := by
  have hT := LTab.at hd j hy
  show guessW M (tabW M (hitD M) j).1 (tabW M (hitD M) j).2 = _
  rw [tab_lang hd hM h j hy]
  exact guess_lang h hT.inv.sw hT.inv.rw
theorem last_lang (hd : dfaOk d.next d.ends = true) (hM : dfaOk M.next M.ends = true) (h : ∀ w, isW w → accD M w = xb b (accD d w)) {J : Nat} (hJ : lastG d J) : lastG M J := fun _ => by
  obtain ⟨h0, hy⟩ := hJ hd
  have hh : ∀ j, j ≤ J → hitD M (gueW M j) = hitD d (gueW d j) := fun j hj => by
    have hyj : ∀ i, i < j → (hitD d (gueW d i)).isSome = true := fun i hi => hy i (by omega)
    rw [gue_lang hd hM h hyj]
    exact hit_langB hd hM h (gueW_ok hd hyj)
  exact ⟨by rw [hh J (Nat.le_refl _)]; exact h0, fun i hi => by rw [hh i (by omega)]; exact hy i hi⟩
end
end Go.Proofs.Ythhbjkgchabfmaa
