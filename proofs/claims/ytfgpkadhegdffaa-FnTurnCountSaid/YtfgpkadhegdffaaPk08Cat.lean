/-
  Expressions as trees, plain: the list of parts of a tree; every list that is in order is that of a tree; its operands.
  No condition: this text speaks of no program.
-/
import Derived.Test.YtfgpkadhegdffaaPk07Ivs
namespace Go.Proofs.Ytfgpkadhegdffaa
inductive Ex where
  | zero | one | ltr (c : Fin 3) | join (a b : Ex) | alt (a b : Ex) | both (a b : Ex) | neg (a : Ex) | star (a : Ex)
  deriving DecidableEq
def Ex.post : Ex → List (Int × Int)
  | .zero => [(1, 0)]
  | .one => [(2, 0)]
  | .ltr c => [(3, (c.val : Int))]
  | .join a b => a.post ++ b.post ++ [(4, 0)]
  | .alt a b => a.post ++ b.post ++ [(5, 0)]
  | .both a b => a.post ++ b.post ++ [(6, 0)]
  | .neg a => a.post ++ [(7, 0)]
  | .star a => a.post ++ [(8, 0)]
theorem pn_leaf1 : pNeeds (1, 0) = 0 := by decide
theorem pn_leaf2 : pNeeds (2, 0) = 0 := by decide
theorem pn_leaf3 (c : Fin 3) : pNeeds (3, (c.val : Int)) = 0 := by
  have : c = 0 ∨ c = 1 ∨ c = 2 := by omega
  rcases this with rfl | rfl | rfl <;> decide
theorem pn_join : pNeeds (4, 0) = 2 := by decide
theorem pn_alt : pNeeds (5, 0) = 2 := by decide
theorem pn_both : pNeeds (6, 0) = 2 := by decide
theorem pn_neg : pNeeds (7, 0) = 1 := by decide
theorem pn_star : pNeeds (8, 0) = 1 := by decide
theorem post_pos : ∀ t : Ex, 1 ≤ t.post.length := by
  intro t
  cases t <;> simp [Ex.post] <;> omega
theorem dep_app_left (xs ys : List (Int × Int)) : ∀ k, k ≤ xs.length → dep (xs ++ ys) k = dep xs k
  | 0, _ => rfl
  | k + 1, h => by
    have ih := dep_app_left xs ys k (by omega)
    have e : (xs ++ ys).getD k (0, 0) = xs.getD k (0, 0) := by
      simp [List.getD_eq_getElem?_getD, List.getElem?_append_left (show k < xs.length by omega)]
    unfold dep
    rw [ih, e]
theorem dep_app (xs ys : List (Int × Int)) : ∀ k, dep (xs ++ ys) (xs.length + k) = dep xs xs.length + dep ys k
  | 0 => by rw [Nat.add_zero, dep_app_left xs ys _ (Nat.le_refl _)]; simp [dep]
  | k + 1 => by
    have ih := dep_app xs ys k
    have e : (xs ++ ys).getD (xs.length + k) (0, 0) = ys.getD k (0, 0) := by
      simp [List.getD_eq_getElem?_getD, List.getElem?_append_right (show xs.length ≤ xs.length + k by omega)]
    show dep (xs ++ ys) (xs.length + k) - pNeeds ((xs ++ ys).getD (xs.length + k) (0, 0)) + 1 = dep xs xs.length + (dep ys k - pNeeds (ys.getD k (0, 0)) + 1)
    rw [ih, e]
    omega
theorem getD_app_left {xs ys : List (Int × Int)} {k : Nat} (h : k < xs.length) : (xs ++ ys).getD k (0, 0) = xs.getD k (0, 0) := by
  simp [List.getD_eq_getElem?_getD, List.getElem?_append_left h]
theorem getD_app_right (xs ys : List (Int × Int)) (k : Nat) : (xs ++ ys).getD (xs.length + k) (0, 0) = ys.getD k (0, 0) := by
  simp [List.getD_eq_getElem?_getD, List.getElem?_append_right (show xs.length ≤ xs.length + k by omega)]
def okFrom (m : Int) (es : List (Int × Int)) : Prop := ∀ k, k < es.length → 0 ≤ pNeeds (es.getD k (0, 0)) ∧ pNeeds (es.getD k (0, 0)) ≤ m + dep es k
theorem okFrom_mono {m m' : Int} {es : List (Int × Int)} (h : okFrom m es) (hm : m ≤ m') : okFrom m' es := fun k hk => by
  have := h k hk
  omega
theorem okFrom_app {m : Int} {xs ys : List (Int × Int)} (h : okFrom m xs) (h' : okFrom (m + dep xs xs.length) ys) : okFrom m (xs ++ ys) := fun k hk => by
  by_cases hx : k < xs.length
  · rw [getD_app_left hx, dep_app_left _ _ _ (by omega)]
    exact h k hx
  · obtain ⟨j, rfl⟩ := Nat.exists_eq_add_of_le (Nat.le_of_not_lt hx)
    rw [getD_app_right, dep_app]
    have := h' j (by simp at hk; omega)
    omega
theorem okFrom_one {m : Int} {p : Int × Int} (h0 : 0 ≤ pNeeds p) (h1 : pNeeds p ≤ m) : okFrom m [p] := fun k hk => by
  obtain rfl : k = 0 := by simpa using hk
  simp [dep]
  omega
theorem dep_one (p : Int × Int) : dep [p] 1 = 1 - pNeeds p := by
  simp [dep]
  omega
theorem dep_snoc (xs : List (Int × Int)) (p : Int × Int) : dep (xs ++ [p]) (xs ++ [p]).length = dep xs xs.length + (1 - pNeeds p) := by
  rw [List.length_append, dep_app]
  show dep xs xs.length + dep [p] 1 = _
  rw [dep_one]
theorem dep_cat (xs ys : List (Int × Int)) : dep (xs ++ ys) (xs ++ ys).length = dep xs xs.length + dep ys ys.length := by
  rw [List.length_append, dep_app]
theorem post_ok : ∀ t : Ex, okFrom 0 t.post ∧ dep t.post t.post.length = 1 := by
  intro t
  have leaf : ∀ p, pNeeds p = 0 → okFrom 0 [p] ∧ dep [p] [p].length = 1 := fun p hp => ⟨okFrom_one (by omega) (by omega), by
    show dep [p] 1 = 1
    rw [dep_one]
    omega⟩
  have two : ∀ (xs ys : List (Int × Int)) p, pNeeds p = 2 → okFrom 0 xs → dep xs xs.length = 1 → okFrom 0 ys → dep ys ys.length = 1 → okFrom 0 (xs ++ ys ++ [p]) ∧ dep (xs ++ ys ++ [p]) (xs ++ ys ++ [p]).length = 1 := fun xs ys p hp h1 h2 h3 h4 => by
    have hc := dep_cat xs ys
    refine ⟨okFrom_app (okFrom_app h1 (okFrom_mono h3 (by omega))) (okFrom_one (by omega) (by omega)), ?_⟩
    rw [dep_snoc]
    omega
  have one : ∀ (xs : List (Int × Int)) p, pNeeds p = 1 → okFrom 0 xs → dep xs xs.length = 1 → okFrom 0 (xs ++ [p]) ∧ dep (xs ++ [p]) (xs ++ [p]).length = 1 := fun xs p hp h1 h2 => by
    refine ⟨okFrom_app h1 (okFrom_one (by omega) (by omega)), ?_⟩
    rw [dep_snoc]
    omega
  induction t with
  | zero => exact leaf _ pn_leaf1
  | one => exact leaf _ pn_leaf2
  | ltr c => exact leaf _ (pn_leaf3 c)
  | join a b ha hb => exact two _ _ _ pn_join ha.1 ha.2 hb.1 hb.2
  | alt a b ha hb => exact two _ _ _ pn_alt ha.1 ha.2 hb.1 hb.2
  | both a b ha hb => exact two _ _ _ pn_both ha.1 ha.2 hb.1 hb.2
  | neg a ha => exact one _ _ pn_neg ha.1 ha.2
  | star a ha => exact one _ _ pn_star ha.1 ha.2
theorem post_exOk (t : Ex) (h : t.post.length ≤ 60) : exOk t.post = true := by
  obtain ⟨h1, h2⟩ := post_ok t
  simp only [exOk, exAt, Bool.and_eq_true, List.all_eq_true, List.mem_range, decide_eq_true_eq]
  refine ⟨⟨fun k hk => ?_, h2⟩, h⟩
  have := h1 k hk
  omega
theorem snoc_of {α : Type} : ∀ (l : List α), 1 ≤ l.length → ∃ L b, l = L ++ [b]
  | [], h => by simp at h
  | [a], _ => ⟨[], a, rfl⟩
  | a :: b :: l, _ => by
    obtain ⟨L, c, h⟩ := snoc_of (b :: l) (by simp)
    exact ⟨a :: L, c, by rw [h]; rfl⟩
def cat (st : List Ex) : List (Int × Int) := st.flatMap Ex.post
theorem cat_app (a b : List Ex) : cat (a ++ b) = cat a ++ cat b := by simp [cat]
theorem cat_one (a : Ex) : cat [a] = a.post := by simp [cat]
theorem parse_at {es : List (Int × Int)} (h : okFrom 0 es) : ∀ k, k ≤ es.length → ∃ st : List Ex, cat st = es.take k ∧ (st.length : Int) = dep es k
  | 0, _ => ⟨[], rfl, rfl⟩
  | k + 1, hk => by
    obtain ⟨st, h1, h2⟩ := parse_at h k (by omega)
    obtain ⟨h3, h4⟩ := h k (by omega)
    have ht : es.take (k + 1) = es.take k ++ [es.getD k (0, 0)] := by
      rw [List.take_succ_eq_append_getElem (by omega)]
      simp [show k < es.length by omega]
    have hd : dep es (k + 1) = dep es k - pNeeds (es.getD k (0, 0)) + 1 := rfl
    obtain ⟨p, hp⟩ : ∃ p, p = es.getD k (0, 0) := ⟨_, rfl⟩
    rw [← hp] at h3 h4 ht hd
    have hok := pNeeds_ok h3
    obtain ⟨p1, p2⟩ := p
    rw [ht, hd, ← h1]
    have leaf : ∀ t : Ex, t.post = [(p1, p2)] → pNeeds (p1, p2) = 0 → ∃ st' : List Ex, cat st' = cat st ++ [(p1, p2)] ∧ (st'.length : Int) = dep es k - pNeeds (p1, p2) + 1 := fun t e0 e1 => ⟨st ++ [t], by rw [cat_app, cat_one, e0], by simp; omega⟩
    have one : ∀ f : Ex → Ex, (∀ a, (f a).post = a.post ++ [(p1, p2)]) → pNeeds (p1, p2) = 1 → ∃ st' : List Ex, cat st' = cat st ++ [(p1, p2)] ∧ (st'.length : Int) = dep es k - pNeeds (p1, p2) + 1 := fun f e0 e1 => by
      obtain ⟨L, a, rfl⟩ := snoc_of st (by omega)
      refine ⟨L ++ [f a], by rw [cat_app, cat_app, cat_one, cat_one, e0]; simp, ?_⟩
      simp at h2 ⊢
      omega
    have two : ∀ f : Ex → Ex → Ex, (∀ a b, (f a b).post = a.post ++ b.post ++ [(p1, p2)]) → pNeeds (p1, p2) = 2 → ∃ st' : List Ex, cat st' = cat st ++ [(p1, p2)] ∧ (st'.length : Int) = dep es k - pNeeds (p1, p2) + 1 := fun f e0 e1 => by
      obtain ⟨L, b, rfl⟩ := snoc_of st (by omega)
      obtain ⟨L, a, rfl⟩ := snoc_of L (by simp at h2; omega)
      refine ⟨L ++ [f a b], by simp only [cat_app, cat_one, e0, List.append_assoc], ?_⟩
      simp at h2 ⊢
      omega
    simp only [pOk, inB, Bool.and_eq_true, Bool.or_eq_true, decide_eq_true_eq, Bool.not_eq_true', decide_eq_false_iff_not] at hok
    obtain ⟨⟨q1, q2⟩, q3⟩ := hok
    have hc : (p1 = 1 ∧ p2 = 0) ∨ (p1 = 2 ∧ p2 = 0) ∨ (p1 = 3 ∧ 0 ≤ p2 ∧ p2 ≤ 2) ∨ (p1 = 4 ∧ p2 = 0) ∨ (p1 = 5 ∧ p2 = 0) ∨ (p1 = 6 ∧ p2 = 0) ∨ (p1 = 7 ∧ p2 = 0) ∨ (p1 = 8 ∧ p2 = 0) := by omega
    rcases hc with ⟨rfl, rfl⟩ | ⟨rfl, rfl⟩ | ⟨rfl, g1, g2⟩ | ⟨rfl, rfl⟩ | ⟨rfl, rfl⟩ | ⟨rfl, rfl⟩ | ⟨rfl, rfl⟩ | ⟨rfl, rfl⟩
    · exact leaf .zero rfl pn_leaf1
    · exact leaf .one rfl pn_leaf2
    · obtain ⟨c, rfl⟩ := Int.eq_ofNat_of_zero_le g1
      exact leaf (.ltr ⟨c, by omega⟩) rfl (pn_leaf3 ⟨c, by omega⟩)
    · exact two .join (fun _ _ => rfl) pn_join
    · exact two .alt (fun _ _ => rfl) pn_alt
    · exact two .both (fun _ _ => rfl) pn_both
    · exact one .neg (fun _ => rfl) pn_neg
    · exact one .star (fun _ => rfl) pn_star
theorem parse {es : List (Int × Int)} (h : exOk es = true) : ∃ t : Ex, t.post = es := by
  obtain ⟨h1, h2, h3, h4⟩ := exOk_facts h
  obtain ⟨st, e1, e2⟩ := parse_at (es := es) (fun k hk => by have := h1 k hk; omega) es.length (Nat.le_refl _)
  rw [h2] at e2
  rw [List.take_length] at e1
  obtain ⟨L, t, rfl⟩ := snoc_of st (by omega)
  have hL : L = [] := by
    cases L with
    | nil => rfl
    | cons => simp at e2; omega
  subst hL
  exact ⟨t, by simpa [cat_one] using e1⟩
theorem last_snoc (xs : List (Int × Int)) (p : Int × Int) : (xs ++ [p]).getD ((xs ++ [p]).length - 1) (0, 0) = p := by
  simp [List.getD_eq_getElem?_getD]
theorem begins_unique {es : List (Int × Int)} {n a b : Nat} (h : beginsAt es n a) (h' : beginsAt es n b) : a = b := by
  obtain ⟨h1, h2, h3⟩ := h
  obtain ⟨g1, g2, g3⟩ := h'
  rcases Nat.lt_trichotomy a b with hl | hl | hl
  · exact absurd g2 (h3 b hl g1)
  · exact hl
  · exact absurd h2 (g3 a hl h1)
theorem okFrom_pos {es : List (Int × Int)} (h : okFrom 0 es) {k : Nat} (h0 : 0 < k) (hk : k ≤ es.length) : 1 ≤ dep es k := dep_pos (fun j hj => by have := h j hj; omega) k h0 hk
theorem split_two {a b : Ex} {p : Int × Int} (hp : pNeeds p = 2) {xs ys : List (Int × Int)} (h : splits (a.post ++ b.post ++ [p]) xs ys) : xs = a.post ∧ ys = b.post := by
  obtain ⟨-, -, h3⟩ := h
  rw [last_snoc] at h3
  obtain ⟨at', hb, rfl, rfl⟩ := h3 hp
  obtain ⟨a1, a2⟩ := post_ok a
  obtain ⟨b1, b2⟩ := post_ok b
  have hl : (a.post ++ b.post ++ [p]).length - 1 = a.post.length + b.post.length := by simp
  rw [hl] at hb ⊢
  have hbeg : beginsAt (a.post ++ b.post ++ [p]) (a.post.length + b.post.length) a.post.length := by
    have hd : ∀ j, j ≤ b.post.length → dep (a.post ++ b.post ++ [p]) (a.post.length + j) = 1 + dep b.post j := fun j hj => by
      rw [dep_app_left _ _ _ (by simp; omega), dep_app, a2]
    have h0 := hd 0 (Nat.zero_le _)
    have hn := hd b.post.length (Nat.le_refl _)
    rw [b2] at hn
    rw [Nat.add_zero] at h0
    refine ⟨by have := post_pos b; omega, by rw [h0, hn]; rfl, fun j h1 h2 => ?_⟩
    obtain ⟨i, rfl⟩ := Nat.exists_eq_add_of_le (Nat.le_of_lt h1)
    rw [hd i (by omega), hn]
    have := okFrom_pos b1 (show 0 < i by omega) (by omega)
    omega
  obtain rfl := begins_unique hb hbeg
  constructor
  · rw [List.append_assoc, List.take_left']
    rfl
  · rw [List.append_assoc, List.drop_left' rfl, Nat.add_sub_cancel_left, List.take_left' rfl]
theorem split_one {a : Ex} {p : Int × Int} (hp : pNeeds p = 1) {xs ys : List (Int × Int)} (h : splits (a.post ++ [p]) xs ys) : xs = a.post ∧ ys = [] := by
  obtain ⟨-, h2, -⟩ := h
  rw [last_snoc] at h2
  obtain ⟨rfl, rfl⟩ := h2 hp
  simp
theorem split_leaf {p : Int × Int} (hp : pNeeds p = 0) {xs ys : List (Int × Int)} (h : splits [p] xs ys) : xs = [] ∧ ys = [] := h.1 (by simpa using hp)
theorem getD_mid {xs ys : List (Int × Int)} {p : Int × Int} : (xs ++ p :: ys).getD xs.length (0, 0) = p := by simp
theorem stk_leaf {es pre suf : List (Int × Int)} {p : Int × Int} (he : es = pre ++ p :: suf) (hp : pNeeds p = 0) : stkB es (pre.length + 1) = stkB es pre.length ++ [pre.length] := by
  have h : es.getD pre.length (0, 0) = p := by rw [he]; exact getD_mid
  rw [stkB_succ]
  unfold begB
  rw [h, hp]
  simp
theorem stk_one {es pre xs suf : List (Int × Int)} {p : Int × Int} (he : es = pre ++ xs ++ p :: suf) (hp : pNeeds p = 1) (hx : stkB es (pre.length + xs.length) = stkB es pre.length ++ [pre.length]) : stkB es (pre.length + (xs.length + 1)) = stkB es pre.length ++ [pre.length] := by
  have h : es.getD (pre.length + xs.length) (0, 0) = p := by
    rw [he, ← List.length_append]
    exact getD_mid
  rw [← Nat.add_assoc, stkB_succ]
  unfold begB
  rw [h, hp, hx]
  simp
theorem stk_two {es pre xs ys suf : List (Int × Int)} {p : Int × Int} (he : es = pre ++ xs ++ ys ++ p :: suf) (hp : pNeeds p = 2) (hx : stkB es (pre.length + xs.length) = stkB es pre.length ++ [pre.length]) (hy : stkB es (pre.length + xs.length + ys.length) = stkB es (pre.length + xs.length) ++ [pre.length + xs.length]) :
    stkB es (pre.length + (xs.length + (ys.length + 1))) = stkB es pre.length ++ [pre.length] := by
  have h : es.getD (pre.length + xs.length + ys.length) (0, 0) = p := by
    rw [he, ← List.length_append, ← List.length_append]
    exact getD_mid
  rw [show pre.length + (xs.length + (ys.length + 1)) = pre.length + xs.length + ys.length + 1 by omega, stkB_succ]
  unfold begB
  rw [h, hp, hy, hx]
  simp
theorem stk_post : ∀ (t : Ex) (es pre suf : List (Int × Int)), es = pre ++ t.post ++ suf → stkB es (pre.length + t.post.length) = stkB es pre.length ++ [pre.length] := by
  intro t
  induction t with
  | zero => intro es pre suf he; exact stk_leaf (p := (1, 0)) (suf := suf) (by rw [he]; simp [Ex.post]) pn_leaf1
  | one => intro es pre suf he; exact stk_leaf (p := (2, 0)) (suf := suf) (by rw [he]; simp [Ex.post]) pn_leaf2
  | ltr c => intro es pre suf he; exact stk_leaf (p := (3, (c.val : Int))) (suf := suf) (by rw [he]; simp [Ex.post]) (pn_leaf3 c)
  | neg a ha =>
    intro es pre suf he
    have h1 := ha es pre ((7, 0) :: suf) (by rw [he]; simp [Ex.post])
    have h2 := stk_one (xs := a.post) (p := (7, 0)) (suf := suf) (by rw [he]; simp [Ex.post]) pn_neg h1
    simpa [Ex.post] using h2
  | star a ha =>
    intro es pre suf he
    have h1 := ha es pre ((8, 0) :: suf) (by rw [he]; simp [Ex.post])
    have h2 := stk_one (xs := a.post) (p := (8, 0)) (suf := suf) (by rw [he]; simp [Ex.post]) pn_star h1
    simpa [Ex.post] using h2
  | join a b ha hb =>
    intro es pre suf he
    have h1 := ha es pre (b.post ++ (4, 0) :: suf) (by rw [he]; simp [Ex.post])
    have h2 := hb es (pre ++ a.post) ((4, 0) :: suf) (by rw [he]; simp [Ex.post])
    rw [List.length_append] at h2
    have h3 := stk_two (xs := a.post) (ys := b.post) (p := (4, 0)) (suf := suf) (by rw [he]; simp [Ex.post]) pn_join h1 h2
    simpa [Ex.post] using h3
  | alt a b ha hb =>
    intro es pre suf he
    have h1 := ha es pre (b.post ++ (5, 0) :: suf) (by rw [he]; simp [Ex.post])
    have h2 := hb es (pre ++ a.post) ((5, 0) :: suf) (by rw [he]; simp [Ex.post])
    rw [List.length_append] at h2
    have h3 := stk_two (xs := a.post) (ys := b.post) (p := (5, 0)) (suf := suf) (by rw [he]; simp [Ex.post]) pn_alt h1 h2
    simpa [Ex.post] using h3
  | both a b ha hb =>
    intro es pre suf he
    have h1 := ha es pre (b.post ++ (6, 0) :: suf) (by rw [he]; simp [Ex.post])
    have h2 := hb es (pre ++ a.post) ((6, 0) :: suf) (by rw [he]; simp [Ex.post])
    rw [List.length_append] at h2
    have h3 := stk_two (xs := a.post) (ys := b.post) (p := (6, 0)) (suf := suf) (by rw [he]; simp [Ex.post]) pn_both h1 h2
    simpa [Ex.post] using h3
theorem beg_two (a b : Ex) (p : Int × Int) : begB (a.post ++ b.post ++ [p]) (a.post.length + b.post.length - 1) = a.post.length := by
  have h2 := stk_post b (a.post ++ b.post ++ [p]) a.post [p] rfl
  have hb := post_pos b
  rw [show a.post.length + b.post.length = (a.post.length + b.post.length - 1) + 1 by omega, stkB_succ] at h2
  have := List.append_inj_right' h2 rfl
  simpa using this
end Go.Proofs.Ytfgpkadhegdffaa
namespace Go.Proofs.Ytfgpkadhegdffaa
open Go.RowKit
theorem Try.infoPart : (Try.prog.info? 39).map (fun i => (i.zero, i.size, i.bytes)) = some (some (.agg #[.int .i64 0, .int .i64 0]), 2, 16) := by kernel_rfl
abbrev PZ : Value := .agg #[.int .i64 0, .int .i64 0]
set_option maxRecDepth 100000 in
set_option maxHeartbeats 4000000 in
theorem growP_any (n : Nat) (w : World) (hn : n ≤ 100000) :
    Calls Try.prog 98 #[.slice none 0 0, .int .i64 (n : Int)] w fun e w' => ∃ a c, e = .returned (.slice a 0 c) ∧ St w w' [Ent.row 39 2 (.slice a 0 c) 0 []] := by
  obtain ⟨j0, hj, hy0, hy1, hy2⟩ := info_parts Try.infoPart
  have h1 : ¬ ((n : Int) < 0) := by omega
  by_cases h0 : n = 0
  · subst h0
    have hS0 := (St.start w).nilRow 39 2
    have HhS0 := Lib.hid hS0; clear hS0
    go_enter Try.func98, Try.ntmps98
    go_wp2
    go_ret
    exact ⟨none, 0, rfl, HhS0.out⟩
  · have hrz : ∀ ty, (Builtin.append_ #[23, 3] ty #[.slice none 0 0, .int .i64 (n : Int)]).run Try.prog w =
        .ok (.slice (some ⟨w.heap.size, 0, none⟩) n (grownCap w n 0 39)) (w.drew.alloc (.cells (Builtin.zeroCells PZ.cells n ++ Builtin.zeroCells PZ.cells (grownCap w n 0 39 - n)) 39)) := fun ty => by
      have h := Lib.run_append_grow_zeros w 23 3 ty 39 j0 PZ .i64 .i64 Try.underlying23 Try.underlying3 hj hy0 none 0 0 [] (run_firstCells_none w.drew j0.size 0 0 0) n (by omega) (by omega) (by omega) (by omega) (by rw [hy2]; omega) (by rw [hy2]; exact growslice_fits (by omega) (by omega))
      simpa using h
    have hGn : n ≤ grownCap w n 0 39 := grownCap_ge w _ _ _
    have hG63 : grownCap w n 0 39 ≤ maxLen := grownCap_le_maxLen w n 0 39 (by unfold maxLen; omega)
    obtain ⟨G, hG⟩ : ∃ G, G = grownCap w n 0 39 := ⟨_, rfl⟩
    obtain ⟨cur, hcur⟩ : ∃ cur, cur = Builtin.zeroCells PZ.cells n ++ Builtin.zeroCells PZ.cells (G - n) := ⟨_, rfl⟩
    have hcs : cur.size = G * 2 := by
      rw [hcur, Array.size_append, size_zeroCells, size_zeroCells]
      show n * 2 + (G - n) * 2 = G * 2
      rw [← hG] at hGn
      omega
    rw [← hG] at hrz hGn hG63
    rw [← hcur] at hrz
    have hown : (w.drew.alloc (.cells cur 39)).ownsRow w.heap.size 39 2 (.slice (some ⟨w.heap.size, 0, none⟩) 0 G) 0 [] :=
      ⟨rfl, .inr ⟨w.heap.size, G, cur, rfl, Nat.le_refl _, heap_alloc_new w.drew _, Nat.zero_le _, hG63, hcs, by simp⟩⟩
    have hS0 := (St.start w).made ((Below.refl _ _).drew.alloc (Nat.le_refl _) (.cells cur 39)) hown
    have hG63' : G ≤ 9223372036854775807 := by unfold maxLen at hG63; omega
    have HhG := Lib.hid hG; clear hG
    have Hhcur := Lib.hid hcur; clear hcur
    have Hhcs := Lib.hid hcs; clear hcs
    have Hhown := Lib.hid hown; clear hown
    have HhS0 := Lib.hid hS0; clear hS0
    go_enter Try.func98, Try.ntmps98
    go_wp2_with (at_builtin; refine Lib.wpList_append_run _ rfl _ _ _ _ rfl _ _ rfl rfl _ _ (hrz _) ?_)
    go_ret
    exact ⟨_, G, rfl, HhS0.out⟩
def sumL (ess : List (List (Int × Int))) (k : Nat) : Nat := (ess.take k).flatten.length
theorem sumL_zero (ess : List (List (Int × Int))) : sumL ess 0 = 0 := by simp [sumL]
theorem sumL_succ {ess : List (List (Int × Int))} {k : Nat} (h : k < ess.length) : sumL ess (k + 1) = sumL ess k + (ess.getD k []).length ∧ (ess.take (k + 1)).flatten = (ess.take k).flatten ++ ess.getD k [] := by
  have e : ess.take (k + 1) = ess.take k ++ [ess.getD k []] := by
    rw [List.take_succ_eq_append_getElem h]
    simp [h]
  have e2 : (ess.take (k + 1)).flatten = (ess.take k).flatten ++ ess.getD k [] := by
    rw [e]
    simp
  exact ⟨by unfold sumL; rw [e2, List.length_append], e2⟩
theorem sumL_le {ess : List (List (Int × Int))} (hl : ∀ es ∈ ess, es.length ≤ 1000) : ∀ k, k ≤ ess.length → sumL ess k ≤ 1000 * k
  | 0, _ => by rw [sumL_zero]; omega
  | k + 1, h => by
    have ih := sumL_le hl k (by omega)
    have h1 := (sumL_succ (ess := ess) (k := k) (by omega)).1
    have h2 := hl (ess.getD k []) (by simp [List.getElem?_eq_getElem (show k < ess.length by omega)])
    omega
set_option maxRecDepth 100000 in
set_option maxHeartbeats 4000000 in
theorem concatP_any (ess : List (List (Int × Int))) (vas : List Value) (ao : Option Addr) (b cap : Nat) (w : World) (hao : 0 < ess.length → ao = some ⟨b, 0, none⟩) (hm : ess.length ≤ 100) (hl : ∀ es ∈ ess, es.length ≤ 1000) (hb : 0 < ess.length → b < w.heap.size)
    (hc : ∀ i, i < ess.length → w.cell? ⟨b, i, none⟩ = some (vas.getD i undef)) (hp : ∀ i, i < ess.length → Pairs 0 w (vas.getD i undef) (ess.getD i [])) :
    Calls Try.prog 65 #[.slice ao ess.length cap] w fun e w' => ∃ a c, e = .returned (.slice a ess.flatten.length c) ∧ St w w' [Ent.row 39 2 (.slice a ess.flatten.length c) ess.flatten.length (ess.flatten.flatMap pairCells)] := by
  obtain ⟨j0, hj, hy0, hy1, hy2⟩ := info_parts Try.infoPart
  obtain ⟨m, hmm⟩ : ∃ m, m = ess.length := ⟨_, rfl⟩
  have hsum := fun k (h : k < ess.length) => sumL_succ h
  have hle := sumL_le hl
  have hfin : sumL ess m = ess.flatten.length ∧ (ess.take m).flatten = ess.flatten := by
    rw [hmm]
    unfold sumL
    rw [List.take_length]
    exact ⟨rfl, rfl⟩
  have hl' : ∀ k, k < m → (ess.getD k []).length ≤ 1000 := fun k hk => hl _ (by simp [List.getElem?_eq_getElem (show k < ess.length by omega)])
  rw [← hmm] at hm hc hp hsum hle hao hb ⊢
  have Hao := Lib.hid hao
  have Hb := Lib.hid hb
  have Hc := Lib.hid hc
  have Hp := Lib.hid hp
  have Hsum := Lib.hid hsum
  have Hle := Lib.hid hle
  have Hfin := Lib.hid hfin
  have Hl := Lib.hid hl'
  have Hhmm := Lib.hid hmm; clear hmm
  clear hc hp hsum hle hfin hl hl' hao hb
  go_enter Try.func65, Try.ntmps65
  go_wp2
  go_loopw [3, 11] (fun n i wr => ∃ k : Nat, i = .int .i64 (k : Int) ∧ n = .int .i64 ((sumL ess k : Nat) : Int) ∧ k ≤ m ∧ w = wr) (fun _ i _ => m - (intOf i).toNat)
  case atStart => exact ⟨0, rfl, by rw [sumL_zero]; rfl, Nat.zero_le _, rfl⟩
  case round =>
    obtain ⟨k, rfl, rfl, hk, rfl⟩ := hrel
    by_cases hlt : k < m
    · have hlt2 : (k : Int) < m := by omega
      have hao := Hao.out (by omega)
      subst hao
      obtain ⟨q1, q2⟩ := Hsum.out k hlt
      have q3 := Hle.out k hk
      have q4 := Hl.out k hlt
      have c0 := Hc.out k hlt
      obtain ⟨ax, cx, hv, hv1, hv2, -⟩ := (Hp.out k hlt).form
      rw [hv] at c0
      obtain ⟨L, hL⟩ : ∃ L, L = (ess.getD k []).length := ⟨_, rfl⟩
      obtain ⟨s, hs⟩ : ∃ s, s = sumL ess k := ⟨_, rfl⟩
      rw [← hL] at q1 q4 c0
      rw [← hs] at q1 q3
      rw [← hs]
      have hw : IntKind.i64.wrap ((s : Int) + (L : Int)) = (s : Int) + (L : Int) := IntWalk.i64_in _ (by omega)
      have hng : ¬ (s : Int) + (L : Int) < 0 := by omega
      have Hq1 := Lib.hid q1; clear q1
      have HhL := Lib.hid hL; clear hL
      have Hhs := Lib.hid hs; clear hs
      clear q2 hv hv1 hv2
      go_wp2
      go_roundw
      case rel => exact ⟨k + 1, by go_num, by rw [Hq1.out]; congr 1, by omega, trivial⟩
      case measure => simp [intOf]; omega
    · obtain rfl : k = m := by omega
      obtain ⟨s, hs⟩ : ∃ s, s = sumL ess k := ⟨_, rfl⟩
      have q3 := Hle.out k hk
      rw [← hs] at q3 ⊢
      have Hhs := Lib.hid hs; clear hs
      clear hlt
      go_wp2_with fail
      refine (growP_any s _ (by omega)).mono ?_
      rintro e w1 ⟨a6, c6, rfl, hS'⟩
      have HS1 := Lib.hid hS'
      clear hS'
      go_wp2
      go_loopw [6, 27] (fun vo i wr => ∃ (j : Nat) (a : Option Addr) (c : Nat), i = .int .i64 (j : Int) ∧ vo = .slice a (sumL ess j) c ∧ j ≤ k ∧ St w wr [Ent.row 39 2 (.slice a (sumL ess j) c) (sumL ess j) ((ess.take j).flatten.flatMap pairCells)]) (fun _ i _ => k - (intOf i).toNat)
      case atStart => exact ⟨0, a6, c6, rfl, by rw [sumL_zero], by omega, by rw [sumL_zero]; exact HS1.out⟩
      case round =>
        obtain ⟨j, a, c, rfl, rfl, hj2, hS⟩ := hrel
        by_cases hlt : j < k
        · have hlt2 : (j : Int) < k := by omega
          have hao := Hao.out (by omega)
          subst hao
          have hb := Hb.out (by omega)
          obtain ⟨q1, q2⟩ := Hsum.out j hlt
          have q3 := Hle.out j (by omega)
          have q4 := Hl.out j hlt
          have m0 := (bcell hS.bel b j hb).trans (Hc.out j hlt)
          have hPr := (Hp.out j hlt).below hS.bel
          obtain ⟨ax, cx, hv, hv1, hv2, -⟩ := hPr.form
          rw [hv] at m0 hPr
          obtain ⟨E, hE⟩ : ∃ E, E = ess.getD j [] := ⟨_, rfl⟩
          obtain ⟨Z, hZ⟩ : ∃ Z, Z = (ess.take j).flatten := ⟨_, rfl⟩
          rw [← hE] at q1 q2 q4 m0 hPr hv1
          rw [← hZ] at q2 hS
          obtain ⟨L, hL⟩ : ∃ L, L = E.length := ⟨_, rfl⟩
          obtain ⟨s2, hs2⟩ : ∃ s2, s2 = sumL ess j := ⟨_, rfl⟩
          have hPr2 : Sl 0 wr (.slice ax L cx) L 2 (E.flatMap pairCells) := by rw [hL]; exact hPr
          rw [← hL] at q1 q4 m0
          rw [← hs2] at q1 q3 hS
          rw [← hs2]
          have HS := Lib.hid hS
          have HR := Lib.hid (hS.row 0 rfl)
          have HXw := Lib.hid hPr2
          have Hq1 := Lib.hid q1; clear q1
          have Hq2 := Lib.hid q2; clear q2
          have HhL := Lib.hid hL; clear hL
          have Hhs2 := Lib.hid hs2; clear hs2
          have HhE := Lib.hid hE; clear hE
          have HhZ := Lib.hid hZ; clear hZ
          clear hS hv hv1 hv2 hPr hPr2 hlt
          go_wp2_with (at_builtin; refine wpList_append_sl _ rfl _ _ _ rfl _ 39 j0 PZ 2 16 Try.underlying23 hj hy0 hy1 hy2 rfl (by omega) _ s2 _ rfl HR.out _ L (E.flatMap pairCells) rfl HXw.out on_prs (by unfold maxLen; omega) (by omega) HS.out.size ?_; intro a6 c6 w6 hown6 hgrow6 hat6; have HS6 := Lib.hid (HS.out.appS 0 rfl hown6 hgrow6 hat6); clear hown6 hgrow6 hat6)
          go_roundw
          case rel => exact ⟨j + 1, a6, c6, by go_num, by rw [Hq1.out], by omega, by rw [Hq1.out, Hq2.out, List.flatMap_append]; exact HS6.out⟩
          case measure => simp [intOf]; omega
        · obtain rfl : j = k := by omega
          rw [Hfin.out.1, Hfin.out.2] at hS
          rw [Hfin.out.1]
          have HS := Lib.hid hS
          clear hS hlt
          go_wp2
          go_ret
          exact ⟨a, c, rfl, HS.out⟩
def RPo (es : List (Int × Int)) (w : World) (e : Ending) (w' : World) : Prop := ∃ a c, e = .returned (.slice a es.length c) ∧ St w w' [Ent.row 39 2 (.slice a es.length c) es.length (es.flatMap pairCells)]
theorem concat2_any (xs ys : List (Int × Int)) (v u : Value) (b cap : Nat) (w : World) (hl : xs.length ≤ 1000) (hl2 : ys.length ≤ 1000) (hb : b < w.heap.size) (h0 : w.cell? ⟨b, 0, none⟩ = some v) (h1 : w.cell? ⟨b, 1, none⟩ = some u) (hp : Pairs 0 w v xs) (hq : Pairs 0 w u ys) :
    Calls Try.prog 65 #[.slice (some ⟨b, 0, none⟩) 2 cap] w fun e w' => RPo (xs ++ ys) w e w' := by
  have h := concatP_any [xs, ys] [v, u] (some ⟨b, 0, none⟩) b cap w (fun _ => rfl) (by simp) (by intro es he; simp at he; rcases he with rfl | rfl <;> assumption) (fun _ => hb) (fun i hi => by
    obtain rfl | rfl : i = 0 ∨ i = 1 := by simp at hi; omega
    · exact h0
    · exact h1) (fun i hi => by
    obtain rfl | rfl : i = 0 ∨ i = 1 := by simp at hi; omega
    · exact hp
    · exact hq)
  have e : [xs, ys].flatten = xs ++ ys := by simp
  rw [e] at h
  exact h
theorem concat1_any (xs : List (Int × Int)) (v : Value) (b cap : Nat) (w : World) (hl : xs.length ≤ 1000) (hb : b < w.heap.size) (h0 : w.cell? ⟨b, 0, none⟩ = some v) (hp : Pairs 0 w v xs) :
    Calls Try.prog 65 #[.slice (some ⟨b, 0, none⟩) 1 cap] w fun e w' => RPo xs w e w' := by
  have h := concatP_any [xs] [v] (some ⟨b, 0, none⟩) b cap w (fun _ => rfl) (by simp) (by simpa using hl) (fun _ => hb) (fun i hi => by
    obtain rfl : i = 0 := by simpa using hi
    exact h0) (fun i hi => by
    obtain rfl : i = 0 := by simpa using hi
    exact hp)
  have e : [xs].flatten = xs := by simp
  rw [e] at h
  exact h
theorem concat0_any (w : World) : Calls Try.prog 65 #[.slice none 0 0] w fun e w' => RPo [] w e w' :=
  concatP_any [] [] none 0 0 w (fun h => absurd h (by simp)) (by simp) (by simp) (fun h => absurd h (by simp)) (fun i hi => absurd hi (by simp)) (fun i hi => absurd hi (by simp))
theorem concat2T_any (xs ys T : List (Int × Int)) (hT : xs ++ ys = T) (v u : Value) (b cap : Nat) (w : World) (hl : xs.length ≤ 1000) (hl2 : ys.length ≤ 1000) (hb : b < w.heap.size) (h0 : w.cell? ⟨b, 0, none⟩ = some v) (h1 : w.cell? ⟨b, 1, none⟩ = some u) (hp : Pairs 0 w v xs) (hq : Pairs 0 w u ys) :
    Calls Try.prog 65 #[.slice (some ⟨b, 0, none⟩) 2 cap] w fun e w' => RPo T w e w' := by
  subst hT
  exact concat2_any xs ys v u b cap w hl hl2 hb h0 h1 hp hq
end Go.Proofs.Ytfgpkadhegdffaa
