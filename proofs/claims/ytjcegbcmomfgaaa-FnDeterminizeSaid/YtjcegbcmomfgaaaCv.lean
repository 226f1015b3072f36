/-
  The walk over the reference's l8List.
  Conditions: the flags read as such; at most 40.
  Closing a set of states, plain: the smallest closed set; sets as lists and back.
  No condition: this text speaks of no program.
-/
import Derived.Test.YtjcegbcmomfgaaaNk
import Derived.Test.YtjcegbcmomfgaaaS8
import Derived.Test.YtjcegbcmomfgaaaS9
namespace Go.Proofs.Ytjcegbcmomfgaaa
open Go.RowKit

set_option maxRecDepth 100000 in
set_option maxHeartbeats 1600000 in
theorem l8List_any (d : DfaD) (v : Value) (w : World) (hl : d.ends.length ≤ 40) (h : Bools 0 w v d.ends) :
    Calls Try.prog 58 #[v] w fun e w' => ∃ a c, e = .returned (.slice a (eds d d.ends.length).length c) ∧ St w w' [Ent.row 3 1 (.slice a (eds d d.ends.length).length c) (eds d d.ends.length).length (intCells (eds d d.ends.length))] := by
  obtain ⟨n, hn⟩ : ∃ n, n = d.ends.length := ⟨_, rfl⟩
  obtain ⟨a2, c2, rfl, hc3, hc4, hr2⟩ := h.form
  rw [← hn] at hc3 hr2 hl
  rw [← hn]
  obtain ⟨j0, hj, hy0, hy1, hy2⟩ := info_parts Try.infoInt
  have hS0 := ((St.start w).alloc _ rfl #[] 3).boxrow 0 0 1 [] rfl rfl (Nat.zero_le _)
  have Hr := Lib.hid hr2
  have HhS0 := Lib.hid hS0; clear hS0
  have Hhn := Lib.hid hn; clear hn
  have Hhj := Lib.hid hj; clear hj
  have Hhy0 := Lib.hid hy0; clear hy0
  have Hhy1 := Lib.hid hy1; clear hy1
  have Hhy2 := Lib.hid hy2; clear hy2
  clear hr2 h
  go_enter Try.func58, Try.ntmps58
  go_wp2
  go_loopw [3, 4] (fun ov i wr => ∃ (k c : Nat) (a : Option Addr), i = .int .i64 k ∧ ov = .slice a (eds d k).length c ∧ k ≤ n ∧ St w wr [Ent.row 3 1 (.slice a (eds d k).length c) (eds d k).length (intCells (eds d k))])
    (fun _ i _ => n - (intOf i).toNat)
  case atStart => exact ⟨0, 0, _, rfl, rfl, Nat.zero_le _, HhS0.out⟩
  case round =>
    obtain ⟨k, c, a, rfl, rfl, hk, hS⟩ := hrel
    obtain ⟨E, hE⟩ : ∃ E, E = eds d k := ⟨_, rfl⟩
    have hel := eds_len d k
    rw [← hE] at hS hel
    by_cases hlt : k < n
    · have hlt2 : (k : Int) < n := by omega
      obtain ⟨b2, o2, rfl, -, hb2, hcs⟩ := Hr.out (by omega)
      have k2 := (bcell hS.bel b2 _ hb2).trans (hcs k hlt)
      have hele : E.length ≤ 40 := by omega
      have HhE := Lib.hid hE; clear hE
      have HhS := Lib.hid hS; clear hS
      clear hcs hel
      cases hz : d.ends.getD k false with
      | false =>
        rw [hz] at k2
        have hE1 : eds d (k + 1) = E := by rw [HhE.out]; show (if d.ends.getD k false = true then _ else _) = _; rw [hz]; rfl
        have HhE1 := Lib.hid hE1; clear hE1
        have Hhz := Lib.hid hz; clear hz
        go_wp2
        go_roundw
        case rel =>
          refine ⟨k + 1, c, a, by go_num, by rw [HhE1.out, HhE.out], by omega, ?_⟩
          rw [HhE1.out]
          exact HhS.out
        case measure => simp [intOf]; omega
      | true =>
        rw [hz] at k2
        have hE1 : eds d (k + 1) = E ++ [(k : Int)] := by rw [HhE.out]; show (if d.ends.getD k false = true then _ else _) = _; rw [hz]; rfl
        have hSa := HhS.out.alloc_ (.cells #[.int .i64 k] 3)
        have hRw := hSa.row 0 rfl
        rw [← HhE.out]
        have HhSa := Lib.hid hSa; clear hSa
        have HhRw := Lib.hid hRw; clear hRw
        have HhE1 := Lib.hid hE1; clear hE1
        have Hhz := Lib.hid hz; clear hz
        go_wp2_with (at_builtin; refine wpList_append_lies _ rfl _ _ _ rfl _ 3 j0 (.int .i64 0) 1 8 Try.underlying24 Hhj.out Hhy0.out Hhy1.out Hhy2.out rfl (by omega) _ E.length _ rfl HhRw.out ⟨wr.heap.size, 0, none⟩ 1 1 [.int .i64 k] rfl rfl (World.news_of_block (heap_alloc_new wr _)) on_i (by omega) (by unfold maxLen; omega) (by omega) HhSa.out.size _ rfl ?_; intro g6 c6 w6 hown6 hgrow6 hat6 hlt6; have HS6 := Lib.hid (HhSa.out.app 0 rfl hown6 hgrow6 hat6); clear hown6 hgrow6 hat6 hlt6)
        go_roundw
        case rel =>
          have hl1 : (eds d (k + 1)).length = E.length + 1 := by rw [HhE1.out]; simp
          refine ⟨k + 1, c6, some ⟨g6, 0, none⟩, by go_num, by rw [hl1], by omega, ?_⟩
          rw [hl1, HhE1.out, intC_sn]
          exact HS6.out
        case measure => simp [intOf]; omega
    · obtain rfl : k = n := by omega
      have hge : (k : Int) ≤ k := Int.le_refl _
      have HhS := Lib.hid hS; clear hS
      rw [← hE]
      have HhE := Lib.hid hE; clear hE
      clear hel
      go_wp2
      go_ret
      rw [← HhE.out]
      exact ⟨a, c, rfl, HhS.out⟩

theorem eds_flags (m v : Nat) : ∀ k, k ≤ m → eds ⟨[], flags m v⟩ k = members k v
  | 0, _ => rfl
  | k + 1, h => by
    show (if (flags m v).getD k false = true then _ else _) = _
    rw [flags_getD (by omega), members_succ, eds_flags m v k (by omega)]
    cases v.testBit k <;> simp
/-- A list of numbers, in the call's own blocks. -/
def RL (F : List Int) (w : World) (e : Ending) (w' : World) : Prop := ∃ a c, e = .returned (.slice a F.length c) ∧ St w w' [Ent.row 3 1 (.slice a F.length c) F.length (intCells F)]
theorem l8Members_any (m x : Nat) (v : Value) (w : World) (hm : m ≤ 40) (h : Bools 0 w v (flags m x)) :
    Calls Try.prog 58 #[v] w fun e w' => RL (members m x) w e w' := by
  have h1 := l8List_any ⟨[], flags m x⟩ v w (by simp only [flags_len]; omega) h
  simp only [flags_len, eds_flags m x m (Nat.le_refl _)] at h1
  exact h1
/-- The states to which moves without a letter lead, as a list. -/
def closeL (n : NfaD) (L : List Int) : List Int := if nfaOk n = true ∧ stOk L n.states = true then members 40 (clV 40 n.moves (setV L)) else []
theorem closeL_bad {n : NfaD} {L : List Int} (h : nfaOk n = false ∨ stOk L n.states = false) : closeL n L = [] := by
  unfold closeL
  rw [if_neg]
  rintro ⟨h1, h2⟩
  rcases h with h | h
  · rw [h] at h1; cases h1
  · rw [h] at h2; cases h2
theorem closeL_ok {n : NfaD} {L : List Int} (h1 : nfaOk n = true) (h2 : stOk L n.states = true) : closeL n L = members 40 (clV 40 n.moves (setV L)) := if_pos ⟨h1, h2⟩
theorem RL_new {w w' : World} {Ls : List Ent} (h : St w w' Ls) : RL [] w (.returned (.slice (some ⟨w'.heap.size, 0, none⟩) 0 0)) (w'.alloc (.cells #[] 3)) := by
  have h1 := ((h.pick [] (by decide)).alloc _ rfl #[] 3).boxrow 0 0 1 [] rfl rfl (Nat.zero_le _)
  exact ⟨_, 0, rfl, h1⟩
theorem RL_nil {w w' : World} (h : St w w' []) : RL [] w (.returned (.slice none 0 0)) w' := ⟨none, 0, rfl, h.nilRow 3 1⟩
end Go.Proofs.Ytjcegbcmomfgaaa
namespace Go.Proofs.Ytjcegbcmomfgaaa
open Go.RowKit

def subV (v u : Nat) : Prop := ∀ s, v.testBit s = true → u.testBit s = true
theorem subV_refl (v : Nat) : subV v v := fun _ h => h
theorem subV_trans {a b c : Nat} (h : subV a b) (h' : subV b c) : subV a c := fun s hs => h' s (h s hs)
theorem subV_eq {a b : Nat} (h : subV a b) (h' : subV b a) : a = b := by
  apply Nat.eq_of_testBit_eq
  intro i
  have h1 := h i
  have h2 := h' i
  cases ha : a.testBit i <;> cases hb : b.testBit i <;> simp_all
theorem subV_adj (v s : Nat) : subV v (adj v s) := fun t ht => by rw [has_adj, ht]; rfl
theorem clMove_sub (v : Nat) (m : Int × Int × Int) : subV v (clMove v m) := by
  unfold clMove
  split
  · exact subV_adj _ _
  · exact subV_refl _
theorem clFold_sub : ∀ (ms : List (Int × Int × Int)) (v : Nat), subV v (ms.foldl clMove v)
  | [], v => subV_refl v
  | m :: ms, v => subV_trans (clMove_sub v m) (clFold_sub ms _)
theorem clIt_sub (ms : List (Int × Int × Int)) (v : Nat) : ∀ k, subV v (clIt ms v k)
  | 0 => subV_refl v
  | k + 1 => subV_trans (clIt_sub ms v k) (clFold_sub ms _)
/-- A set out of which no move without a letter leads. -/
def closedV (ms : List (Int × Int × Int)) (u : Nat) : Prop := ∀ m ∈ ms, m.2.1 = -1 → u.testBit m.1.toNat = true → u.testBit m.2.2.toNat = true
theorem clMove_in {ms : List (Int × Int × Int)} {u v : Nat} (hu : closedV ms u) (h : subV v u) {m : Int × Int × Int} (hm : m ∈ ms) : subV (clMove v m) u := by
  unfold clMove
  split
  · rename_i hc
    simp only [Bool.and_eq_true, decide_eq_true_eq] at hc
    intro s hs
    rw [has_adj, Bool.or_eq_true] at hs
    rcases hs with hs | hs
    · exact h s hs
    · rw [← of_decide_eq_true hs]
      exact hu m hm hc.1.1 (h _ hc.1.2)
  · exact h
theorem clFold_in {ms : List (Int × Int × Int)} {u : Nat} (hu : closedV ms u) : ∀ (l : List (Int × Int × Int)) (v : Nat), (∀ m ∈ l, m ∈ ms) → subV v u → subV (l.foldl clMove v) u
  | [], _, _, h => h
  | m :: l, v, hl, h => clFold_in hu l _ (fun x hx => hl x (by simp [hx])) (clMove_in hu h (hl m (by simp)))
theorem clIt_in {ms : List (Int × Int × Int)} {u v : Nat} (hu : closedV ms u) (h : subV v u) : ∀ k, subV (clIt ms v k) u
  | 0 => h
  | k + 1 => clFold_in hu ms _ (fun _ hx => hx) (clIt_in hu h k)
theorem clV_fix {n : Nat} {ms : List (Int × Int × Int)} (h : mvIn n ms) (v : Nat) : clPass ms (clV n ms v) = clV n ms v := by
  rcases clIt_drop h v n with h1 | h1
  · exact h1
  · have := clr_le n v
    omega
theorem fold_fix : ∀ {l : List (Int × Int × Int)} {v : Nat}, l.foldl clMove v = v → ∀ m ∈ l, clMove v m = v
  | [], _, _, _, hm => by cases hm
  | m :: l, v, h, x, hx => by
    have h1 : clMove v m = v := subV_eq (by have := clFold_sub l (clMove v m); rw [List.foldl_cons] at h; rw [h] at this; exact this) (clMove_sub v m)
    rw [List.foldl_cons, h1] at h
    rcases List.mem_cons.1 hx with rfl | hx
    · exact h1
    · exact fold_fix h x hx
theorem clV_closed {n : Nat} {ms : List (Int × Int × Int)} (h : mvIn n ms) (v : Nat) : closedV ms (clV n ms v) := by
  intro m hm hl hf
  have h1 := fold_fix (clV_fix h v) m hm
  cases ht : (clV n ms v).testBit m.2.2.toNat with
  | true => rfl
  | false =>
    exfalso
    unfold clMove at h1
    rw [if_pos (by simp [hl, hf, ht])] at h1
    have := has_adj (clV n ms v) m.2.2.toNat m.2.2.toNat
    rw [h1, ht] at this
    simp at this
theorem clV_sub (n : Nat) (ms : List (Int × Int × Int)) (v : Nat) : subV v (clV n ms v) := clIt_sub ms v n
theorem clV_in {n : Nat} {ms : List (Int × Int × Int)} {u v : Nat} (hu : closedV ms u) (h : subV v u) : subV (clV n ms v) u := clIt_in hu h n
theorem clV_idem {n : Nat} {ms : List (Int × Int × Int)} {u : Nat} (hu : closedV ms u) : clV n ms u = u := subV_eq (clV_in hu (subV_refl u)) (clV_sub n ms u)

theorem setV_has : ∀ (l : List Int) (v t : Nat), (l.foldl (fun v s => adj v s.toNat) v).testBit t = (v.testBit t || l.any fun s => decide (s.toNat = t))
  | [], v, t => by simp
  | s :: l, v, t => by
    rw [List.foldl_cons, setV_has l, has_adj, List.any_cons, Bool.or_assoc]
theorem setV_bit (l : List Int) (t : Nat) : (setV l).testBit t = l.any fun s => decide (s.toNat = t) := by
  unfold setV
  rw [setV_has]
  simp
theorem setV_mem {l : List Int} {x : Int} (hx : x ∈ l) : (setV l).testBit x.toNat = true := by
  rw [setV_bit, List.any_eq_true]
  exact ⟨x, hx, by simp⟩
theorem mem_members {n v : Nat} {x : Int} : x ∈ members n v ↔ ∃ t, t < n ∧ v.testBit t = true ∧ x = (t : Int) := by
  unfold members
  simp only [List.mem_map, List.mem_filter, List.mem_range]
  constructor
  · rintro ⟨t, ⟨h1, h2⟩, rfl⟩
    exact ⟨t, h1, h2, rfl⟩
  · rintro ⟨t, h1, h2, rfl⟩
    exact ⟨t, ⟨h1, h2⟩, rfl⟩
theorem setV_members {n v : Nat} (hv : v < 2 ^ n) : setV (members n v) = v := by
  apply Nat.eq_of_testBit_eq
  intro t
  rw [setV_bit]
  cases ht : v.testBit t with
  | true =>
    rw [List.any_eq_true]
    have hn : t < n := by
      rcases Nat.lt_or_ge t n with h | h
      · exact h
      · rw [Nat.testBit_lt_two_pow (Nat.lt_of_lt_of_le hv (Nat.pow_le_pow_right (by omega) h))] at ht
        cases ht
    exact ⟨(t : Int), mem_members.2 ⟨t, hn, ht, rfl⟩, by simp⟩
  | false =>
    rw [List.any_eq_false]
    rintro x hx
    obtain ⟨u, -, hu, rfl⟩ := mem_members.1 hx
    intro he
    have : u = t := by simpa using he
    subst this
    rw [hu] at ht
    cases ht
theorem members_in {n v : Nat} : inN n (members n v) := fun s hs => by
  obtain ⟨t, ht, -, rfl⟩ := mem_members.1 hs
  omega
theorem members_sorted (n v : Nat) : (members n v).Pairwise (· < ·) := by
  unfold members
  rw [List.pairwise_map]
  exact (List.Pairwise.filter _ List.pairwise_lt_range).imp fun h => by simpa using h
theorem members_at {n v j : Nat} (hj : j + 1 < (members n v).length) : (members n v).getD j 0 < (members n v).getD (j + 1) 0 := by
  have h := List.pairwise_iff_getElem.1 (members_sorted n v) j (j + 1) (by omega) hj (by omega)
  simp only [List.getD_eq_getElem?_getD, List.getElem?_eq_getElem hj, List.getElem?_eq_getElem (show j < (members n v).length by omega), Option.getD_some]
  exact h
theorem stOk_members {n v m : Nat} (hv : v < 2 ^ m) (hm : m ≤ n) : stOk (members n v) (m : Int) = true := by
  rw [members_more hv hm]
  unfold stOk
  rw [List.all_eq_true]
  intro j hj
  have hj := List.mem_range.1 hj
  unfold okAt
  have h1 := members_in (n := m) (v := v) ((members m v).getD j 0) (by rw [List.getD_eq_getElem?_getD, List.getElem?_eq_getElem hj]; exact List.getElem_mem hj)
  rw [Bool.and_eq_true, Bool.or_eq_true]
  refine ⟨by unfold inB; rw [Bool.and_eq_true]; exact ⟨decide_eq_true h1.1, decide_eq_true (by omega)⟩, ?_⟩
  cases j with
  | zero => left; simp
  | succ j =>
    right
    have := members_at hj
    rw [show j + 1 - 1 = j from by omega]
    exact decide_eq_true this
theorem members_len (n v : Nat) : (members n v).length ≤ n := by
  unfold members
  rw [List.length_map]
  exact Nat.le_trans (List.length_filter_le _ _) (by simp)
/-- Closing a list of states: what is closed, and what stays. -/
theorem closeL_facts {n : NfaD} {L : List Int} (h1 : nfaOk n = true) (h2 : stOk L n.states = true) : ∃ X : Nat, closeL n L = members 40 X ∧ X < 2 ^ 40 ∧ (∀ x ∈ L, X.testBit x.toNat = true) ∧ closedV n.moves X ∧ closeL n (members 40 X) = members 40 X := by
  obtain ⟨m, hm, hm40, hmv, -⟩ := nfaOk_facts h1
  have h2' := h2
  rw [hm] at h2'
  have hmv40 := mvIn_40 hmv hm40
  have hX : clV 40 n.moves (setV L) < 2 ^ m := clIt_lt hmv (setV_lt (stOk_facts h2').1) 40
  have hX40 : clV 40 n.moves (setV L) < 2 ^ 40 := Nat.lt_of_lt_of_le hX (Nat.pow_le_pow_right (by omega) hm40)
  refine ⟨_, closeL_ok h1 h2, hX40, fun x hx => clV_sub _ _ _ _ (setV_mem hx), clV_closed hmv40 _, ?_⟩
  rw [closeL_ok h1 (by rw [hm]; exact stOk_members hX hm40), setV_members hX40, clV_idem (clV_closed hmv40 _)]
end Go.Proofs.Ytjcegbcmomfgaaa
