/-
  Plain: what both DfaRests answer.
  Condition: the automaton is valid.
-/
import Derived.Test.YthhbjkgchabfmaaPk21Ry
import Derived.Test.YthhbjkgchabfmaaPk34My
namespace Go.Proofs.Ythhbjkgchabfmaa
open Go.RowKit
theorem sum_rows3'' {xss : List (List Int)} (h : ∀ x ∈ xss, x.length = 3) : (xss.map List.length).sum = 3 * xss.length := by
  induction xss with
  | nil => rfl
  | cons x l ih =>
    have h1 := h x (by simp)
    have h2 := ih fun y hy => h y (by simp [hy])
    simp only [List.map_cons, List.sum_cons, List.length_cons] at h2 ⊢
    omega
theorem minD_len {d : DfaD} (hd : dfaOk d.next d.ends = true) : (minD d).next.length ≤ d.next.length ∧ (minD d).ends.length = (minD d).next.length ∧ ((minD d).next.map List.length).sum ≤ 120 := by
  have h := small_min (fine_of hd)
  have hl := dfaOk_len hd
  have ht := trim_ok hd
  have hf := fold_ok ht.1
  have h2 := trim_ok hf
  have hfl := (fold_facts (fine_of ht.1)).2.1
  have e : minD d = trimD (foldD (trimD d)) := h.symm
  rw [e]
  have h3 := dfaOk_len h2.1
  have h4 := sum_rows3'' (xss := (trimD (foldD (trimD d))).next) fun x hx => by
    obtain ⟨i, hi, e⟩ := List.getElem_of_mem hx
    have := (dfaOk_row h2.1 hi).1
    rw [getD_at hi, e] at this
    exact this
  refine ⟨by omega, h3.2.2, by omega⟩
def DfaV (B H : Nat) (v1 v2 : Value) (D : DfaD) : Ent := ⟨fun k => B ≤ k ∧ k < H, fun u => ∃ w : World, w.heap.size = H ∧ DfaR B w (.agg #[v1, v2]) D ∧ ∀ k, B ≤ k → k < H → u.heap[k]? = w.heap[k]?,
  fun _ _ ⟨w, h1, h2, h3⟩ hk => ⟨w, h1, h2, fun k p q => (hk k ⟨p, q⟩).trans (h3 k p q)⟩⟩
theorem St.dfaV {w0 w w' : World} {L : List Ent} (h : St w0 w L) (hb : Below w.heap.size w w') {v1 v2 : Value} {D : DfaD} (hr : DfaR w.heap.size w' (.agg #[v1, v2]) D) : St w0 w' (L ++ [DfaV w.heap.size w'.heap.size v1 v2 D]) :=
  h.add hb _ ⟨w', rfl, hr, fun _ _ _ => rfl⟩ fun _ hk => hk
theorem isW_mk {c : Nat} {w : List Nat} (hc : c < 3) (h : isW w) : isW (c :: w) := fun b hb => by
  rcases List.mem_cons.1 hb with rfl | hb
  · exact hc
  · exact h b hb
theorem cl_run {d : DfaD} (hd : fine d) : ∀ (w : List Nat) {s t : Nat}, isW w → s < d.next.length → t < d.next.length → clD d s = clD d t → den d (runD d (s : Int) w) = den d (runD d (t : Int) w)
  | [], s, t, _, hs, ht, h => by
    rw [runD_nil, runD_nil, den_nat, den_nat]
    exact clEnd_ends hs ht h
  | c :: w, s, t, hw, hs, ht, h => by
    obtain ⟨h1, h2⟩ := isW_cons hw
    obtain ⟨h3, h4⟩ := fine_nx hd hs h1
    obtain ⟨h5, h6⟩ := fine_nx hd ht h1
    rw [runD_cons, runD_cons, h4, h6]
    exact cl_run hd w h2 h3 h5 (clEnd_eq (fun s c hs hc => (fine_nx hd hs hc).1) hs ht h c h1)
theorem run_clAt {d : DfaD} (hd : fine d) : ∀ (i : Nat) {s t : Nat}, s < d.next.length → t < d.next.length → (∀ w, isW w → den d (runD d (s : Int) w) = den d (runD d (t : Int) w)) → clAt d.next.length (nxD d) (enD d) i s = clAt d.next.length (nxD d) (enD d) i t
  | 0, s, t, hs, ht, h => by
    refine (cl0_eq hs ht).2 ?_
    have := h [] isW_nil
    rwa [runD_nil, runD_nil, den_nat, den_nat] at this
  | i + 1, s, t, hs, ht, h => by
    refine (refine_eq hs ht).2 ((sameAt_iff _).2 ⟨run_clAt hd i hs ht h, fun c hc => ?_⟩)
    obtain ⟨h3, h4⟩ := fine_nx hd hs hc
    obtain ⟨h5, h6⟩ := fine_nx hd ht hc
    refine run_clAt hd i h3 h5 fun w hw => ?_
    have := h (c :: w) (isW_mk hc hw)
    rwa [runD_cons, runD_cons, h4, h6] at this
theorem run_cl {d : DfaD} (hd : fine d) {s t : Nat} (hs : s < d.next.length) (ht : t < d.next.length) (h : ∀ w, isW w → den d (runD d (s : Int) w) = den d (runD d (t : Int) w)) : clD d s = clD d t := run_clAt hd _ hs ht h
theorem cl_self {d : DfaD} (hd : fine d) {s : Nat} (hs : s < d.next.length) {w : List Nat} (hw : isW w) : den d (runD d ((clD d s : Nat) : Int) w) = den d (runD d (s : Int) w) :=
  cl_run hd w hw (clD_lt hs) hs (clD_le s hs).2
theorem minD_at {d : DfaD} (hd : fine d) {K : Nat} (hK : d.next.length ≤ K) : minD d = numDfa (nxM d) (den d) (bat (nxM d) ((clD d 0 : Nat) : Int) K).met := by
  unfold minD
  rw [bat_done (metM_facts hd _).2 hK]
theorem min_canon {x y : DfaD} (hx : fine x) (hy : fine y) (h : ∀ w, isW w → accD x w = accD y w) : minD x = minD y := by
  obtain ⟨K, hK⟩ : ∃ K, K = x.next.length + y.next.length := ⟨_, rfl⟩
  rw [minD_at hx (show x.next.length ≤ K by omega), minD_at hy (show y.next.length ≤ K by omega)]
  have lx : 0 < x.next.length := hx.1
  have ly : 0 < y.next.length := hy.1
  let nq : Int × Int → Nat → Int × Int := fun p c => (nxM x p.1 c, nxM y p.2 c)
  let Q : Int × Int → Prop := fun p => ∃ s t : Nat, p = ((s : Int), (t : Int)) ∧ s < x.next.length ∧ t < y.next.length ∧ clD x s = s ∧ clD y t = t ∧ ∀ w, isW w → den x (runD x (s : Int) w) = den y (runD y (t : Int) w)
  let a : Int × Int := (((clD x 0 : Nat) : Int), ((clD y 0 : Nat) : Int))
  have h0 : Q a := ⟨clD x 0, clD y 0, rfl, clD_lt lx, clD_lt ly, (clD_le 0 lx).2, (clD_le 0 ly).2, fun w hw => by
    rw [cl_self hx lx hw, cl_self hy ly hw]
    exact h w hw⟩
  have hv : ∀ p c, c < 3 → Q p → Q (nq p c) := by
    rintro p c hc ⟨s, t, rfl, hs, ht, -, -, hr⟩
    obtain ⟨h3, h4⟩ := fine_nx hx hs hc
    obtain ⟨h5, h6⟩ := fine_nx hy ht hc
    refine ⟨clD x (nxD x s c), clD y (nxD y t c), by simp [nq, nxM], clD_lt h3, clD_lt h5, (clD_le _ h3).2, (clD_le _ h5).2, fun w hw => ?_⟩
    rw [cl_self hx h3 hw, cl_self hy h5 hw]
    have := hr (c :: w) (isW_mk hc hw)
    rwa [runD_cons, runD_cons, h4, h6] at this
  have f1 : ∀ p q, Q p → Q q → p.1 = q.1 → p = q := by
    rintro p q ⟨s, t, rfl, hs, ht, -, e1, r1⟩ ⟨s', t', rfl, hs', ht', -, e2, r2⟩ he
    simp only [Int.ofNat_inj] at he
    subst he
    have := run_cl hy ht ht' fun w hw => (r1 w hw).symm.trans (r2 w hw)
    rw [e1, e2] at this
    rw [this]
  have f2 : ∀ p q, Q p → Q q → p.2 = q.2 → p = q := by
    rintro p q ⟨s, t, rfl, hs, ht, e1, -, r1⟩ ⟨s', t', rfl, hs', ht', e2, -, r2⟩ he
    simp only [Int.ofNat_inj] at he
    subst he
    have := run_cl hx hs hs' fun w hw => (r1 w hw).trans (r2 w hw).symm
    rw [e1, e2] at this
    rw [this]
  have m1 := numDfa_mapQ (nx := nq) (nx' := nxM x) (a := a) (f := Prod.fst) (Q := Q) (en := fun p => den x p.1) (en' := den x) (K := K) h0 hv f1 (fun _ _ _ _ => rfl) (fun _ _ => rfl)
  have m2 := numDfa_mapQ (nx := nq) (nx' := nxM y) (a := a) (f := Prod.snd) (Q := Q) (en := fun p => den x p.1) (en' := den y) (K := K) h0 hv f2 (fun _ _ _ _ => rfl) (fun p hp => by
    obtain ⟨s, t, rfl, -, -, -, -, r⟩ := hp
    exact (r [] isW_nil).symm)
  exact m1.trans m2.symm
end Go.Proofs.Ythhbjkgchabfmaa
