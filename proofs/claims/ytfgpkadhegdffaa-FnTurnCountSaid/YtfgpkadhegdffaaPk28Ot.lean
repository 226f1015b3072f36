/-
  The walks over the program's leading and DfaStarts; what they answer, plain.
  Condition: the automaton reads as such.
-/
import Derived.Test.YtfgpkadhegdffaaPk27Cmb
namespace Go.Proofs.Ytfgpkadhegdffaa
open Go.RowKit
def canEnd (d : DfaD) (s : Nat) : Prop := ∃ w, isW w ∧ den d (runD d (s : Int) w) = true
theorem not_nodup {α : Type} [DecidableEq α] : ∀ {l : List α}, ¬ l.Nodup → ∃ (i j : Nat) (hj : j < l.length) (hi : i < j), l[i]'(Nat.lt_trans hi hj) = l[j]
  | [], h => absurd List.nodup_nil h
  | x :: l, h => by
    rw [List.nodup_cons] at h
    by_cases hx : x ∈ l
    · obtain ⟨j, hj, e⟩ := List.getElem_of_mem hx
      exact ⟨0, j + 1, by simp only [List.length_cons]; omega, by omega, by simpa using e.symm⟩
    · obtain ⟨i, j, hj, hi, e⟩ := not_nodup (l := l) fun hn => h ⟨hx, hn⟩
      exact ⟨i + 1, j + 1, by simp only [List.length_cons]; omega, by omega, by simpa using e⟩
theorem short_word {d : DfaD} (hd : fine d) {s : Nat} (hs : s < d.next.length) : ∀ (n : Nat) (w : List Nat), w.length ≤ n → isW w → den d (runD d (s : Int) w) = true → ∃ w', w'.length < d.next.length ∧ isW w' ∧ den d (runD d (s : Int) w') = true
  | n, w, hn, hw, he => by
    by_cases hl : w.length < d.next.length
    · exact ⟨w, hl, hw, he⟩
    · have key : ∀ i, ∃ t : Nat, t < d.next.length ∧ runD d (s : Int) (w.take i) = (t : Int) := fun i => runD_nat hd _ (isW_take hw i) hs
      have hnd : ¬ ((List.range (w.length + 1)).map fun i => runD d (s : Int) (w.take i)).Nodup := fun h => by
        have := nodup_le (m := (List.range d.next.length).map fun (i : Nat) => (i : Int)) h fun x hx => by
          obtain ⟨i, -, rfl⟩ := List.mem_map.1 hx
          obtain ⟨t, ht, e⟩ := key i
          rw [e]
          exact List.mem_map.2 ⟨t, List.mem_range.2 ht, rfl⟩
        simp only [List.length_map, List.length_range] at this
        omega
      obtain ⟨i, j, hj, hij, e⟩ := not_nodup hnd
      simp only [List.length_map, List.length_range] at hj
      simp only [List.getElem_map, List.getElem_range] at e
      have hr : runD d (s : Int) (w.take i ++ w.drop j) = runD d (s : Int) w := by
        rw [runD_app, e, ← runD_app, List.take_append_drop]
      have hlen : (w.take i ++ w.drop j).length < w.length := by
        rw [List.length_append, List.length_take, List.length_drop]
        omega
      cases n with
      | zero => omega
      | succ n => exact short_word hd hs n (w.take i ++ w.drop j) (by omega) (isW_append (isW_take hw i) (isW_drop hw j)) (by rw [hr]; exact he)
structure LdI (d : DfaD) (F : List Bool) (r s0 c0 : Nat) : Prop where
  len : F.length = d.next.length
  sound : ∀ s, s < d.next.length → F.getD s false = true → canEnd d s
  old : ∀ s w, s < d.next.length → isW w → w.length ≤ r → den d (runD d (s : Int) w) = true → F.getD s false = true
  done : ∀ s w, s < s0 → s < d.next.length → isW w → w.length ≤ r + 1 → den d (runD d (s : Int) w) = true → F.getD s false = true
  now : ∀ c w, c < c0 → c < 3 → isW w → w.length ≤ r → den d (runD d (s0 : Int) (c :: w)) = true → F.getD s0 false = true
theorem LdI.start {d : DfaD} (hd : dfaOk d.next d.ends = true) : LdI d d.ends 0 0 0 := by
  have hl := dfaOk_len hd
  refine ⟨hl.2.2, fun s hs h => ⟨[], isW_nil, by rw [runD_nil, den_nat]; exact h⟩, fun s w hs hw hl h => ?_, fun s w hs => absurd hs (by omega), fun c w hc => absurd hc (by omega)⟩
  have : w = [] := List.length_eq_zero_iff.1 (by omega)
  subst this
  rw [runD_nil, den_nat] at h
  exact h
theorem LdI.round {d : DfaD} {F : List Bool} {r : Nat} (h : LdI d F r d.next.length 0) : LdI d F (r + 1) 0 0 :=
  ⟨h.len, h.sound, fun s w hs hw hl he => h.done s w hs hs hw hl he, fun s w hs => absurd hs (by omega), fun c w hc => absurd hc (by omega)⟩
structure LdE (d : DfaD) (F : List Bool) : Prop where
  len : F.length = d.next.length
  iff : ∀ s, s < d.next.length → (F.getD s false = true ↔ canEnd d s)
theorem LdI.all {d : DfaD} (hd : dfaOk d.next d.ends = true) {F : List Bool} (h : LdI d F d.next.length 0 0) : LdE d F :=
  ⟨h.len, fun s hs => ⟨h.sound s hs, fun ⟨w, hw, he⟩ => by
    obtain ⟨w', h1, h2, h3⟩ := short_word (fine_of hd) hs w.length w (Nat.le_refl _) hw he
    exact h.old s w' hs h2 (by omega) h3⟩⟩
theorem row_len {d : DfaD} {w : World} {b1 o1 cv b2 o2 cw : Nat} (h : DfaC w d b1 o1 cv b2 o2 cw) {u : World} (hb : Below w.heap.size w u) {i : Nat} (hi : i < d.next.length) : ∃ b3 o3 c3, 3 ≤ c3 ∧ c3 ≤ 9223372036854775807 ∧ u.cell? ⟨b1, o1 + i, none⟩ = some (.slice (some ⟨b3, o3, none⟩) 3 c3) ∧ ∀ (u' : World), Below w.heap.size w u' → ∀ c, c < 3 → u'.cell? ⟨b3, o3 + c, none⟩ = some (.int .i64 (nxD d i c : Nat)) := by
  obtain ⟨b3, o3, c3, h0, h1, h2, h3, h4⟩ := h.row i hi
  exact ⟨b3, o3, c3, h1, h2, (bcell hb b1 _ h.hb1).trans h3, fun u' hb' c hc => (bcell hb' b3 _ h0).trans (h4 c hc)⟩
def cwN (d : DfaD) (l s : Nat) : Nat := cntD d l (s : Int)
def psN (d : DfaD) (l s : Nat) : Nat → Nat
  | 0 => 0
  | c + 1 => psN d l s c + cwN d l (nxD d s c)
theorem cwN_le {d : DfaD} {l s : Nat} (h : l ≤ 30) : cwN d l s ≤ 205891132094649 := cntD_small h
theorem psN_le {d : DfaD} {l s : Nat} (h : l ≤ 30) : ∀ c, psN d l s c ≤ c * 205891132094649
  | 0 => by simp [psN]
  | c + 1 => by
    have := psN_le (d := d) (s := s) h c
    have := cwN_le (d := d) (s := nxD d s c) h
    show psN d l s c + cwN d l (nxD d s c) ≤ _
    omega
theorem cwN_zero (d : DfaD) (s : Nat) : cwN d 0 s = if enD d s = true then 1 else 0 := by
  show cntD d 0 (s : Int) = _
  rw [cntD_zero, den_nat]
theorem cwN_succ {d : DfaD} {l s : Nat} (h : ∀ c, c < 3 → dnx d (s : Int) c = (nxD d s c : Nat)) : cwN d (l + 1) s = psN d l s 3 := by
  show cntD d (l + 1) (s : Int) = 0 + cwN d l (nxD d s 0) + cwN d l (nxD d s 1) + cwN d l (nxD d s 2)
  rw [cntD_succ, h 0 (by omega), h 1 (by omega), h 2 (by omega), Nat.zero_add]
  rfl
def arrC (vs : List Value) : Array Value := (vs ++ List.replicate (31 - vs.length) (Value.slice none 0 0)).toArray
theorem arrC_at {vs : List Value} {l : Nat} (h : l < vs.length) : (arrC vs)[l]? = some (vs.getD l undef) := by
  unfold arrC
  rw [List.getElem?_toArray, List.getElem?_append_left h]
  simp [h]
theorem arrC_nil {vs : List Value} (h : vs.length < 31) : (arrC vs)[vs.length]? = some (.slice none 0 0) := by
  unfold arrC
  rw [List.getElem?_toArray, List.getElem?_append_right (Nat.le_refl _), Nat.sub_self, List.getElem?_replicate, if_pos (by omega)]
theorem arrC_set {vs : List Value} (h : vs.length < 31) (v : Value) : (arrC vs).setIfInBounds vs.length v = arrC (vs ++ [v]) := by
  unfold arrC
  rw [List.setIfInBounds_toArray, List.set_append_right _ _ (Nat.le_refl _), Nat.sub_self, show 31 - vs.length = (31 - (vs ++ [v]).length) + 1 by rw [List.length_append, List.length_singleton]; omega, List.replicate_succ, List.set_cons_zero, List.append_assoc]
  rfl
theorem arrC_end {vs : List Value} (h : vs.length = 31) : arrC vs = vs.toArray := by
  unfold arrC
  rw [h]
  simp
def CMem (d : DfaD) (X : Ent) (vs : List Value) (k : Nat) : Prop := vs.length = k ∧ ∀ l, l < k → ∃ b, vs.getD l undef = .slice (some ⟨b, 0, none⟩) d.next.length d.next.length ∧
  X.inn (Ent.row 3 1 (.slice (some ⟨b, 0, none⟩) d.next.length d.next.length) d.next.length (intCells (clsL d.next.length (cwN d l))))
theorem CMem.snoc {d : DfaD} {X : Ent} {vs : List Value} {k b : Nat} (h : CMem d X vs k) : CMem d (Ent.all [X, Ent.row 3 1 (.slice (some ⟨b, 0, none⟩) d.next.length d.next.length) d.next.length (intCells (clsL d.next.length (cwN d k)))]) (vs ++ [.slice (some ⟨b, 0, none⟩) d.next.length d.next.length]) (k + 1) := by
  obtain ⟨hl, hc⟩ := h
  subst hl
  refine ⟨by simp, fun l hlt => ?_⟩
  by_cases hin : l < vs.length
  · obtain ⟨b', e, hi⟩ := hc l hin
    refine ⟨b', ?_, Ent.inn_all (x := X) (by simp) hi⟩
    rw [← e]
    simp only [List.getD_eq_getElem?_getD]
    rw [List.getElem?_append_left hin]
  · obtain rfl : l = vs.length := by omega
    exact ⟨b, by simp, Ent.inn_all (x := Ent.row _ _ _ _ _) (by simp) (Ent.inn_refl _)⟩
theorem CMem.one {d : DfaD} {X : Ent} {vs : List Value} {k : Nat} (h : CMem d X vs k) : ∀ v ∈ vs, v.oneCell' = true := fun v hv => by
  obtain ⟨i, hi, rfl⟩ := List.mem_iff_getElem.1 hv
  obtain ⟨b, e, -⟩ := h.2 i (by rw [← h.1]; exact hi)
  have e2 : vs.getD i undef = vs[i] := by simp [hi]
  rw [← e2, e]
  rfl
def RCnt (d : DfaD) (w : World) (e : Ending) (w' : World) : Prop := ∃ vs X, e = .returned (.agg vs.toArray) ∧ CMem d X vs 31 ∧ St w w' [X]
set_option maxRecDepth 100000 in
set_option maxHeartbeats 8000000 in
theorem counts_any (d : DfaD) (v : Value) (w : World) (hd : dfaOk d.next d.ends = true) (h : DfaR 0 w v d) :
    Calls Try.prog 38 #[v] w fun e w' => RCnt d w e w' := by
  obtain ⟨b1, o1, cv, b2, o2, cw, rfl, hC⟩ := dfa_open hd h
  obtain ⟨L, hL⟩ : ∃ L, L = d.next.length := ⟨_, rfl⟩
  obtain ⟨i0, hi, hz0, hz1, hz2⟩ := info_parts Try.infoInt
  have hl2 := hC.l2
  have hl1 := hC.l1
  have hc1 := hC.c1
  have hc2 := hC.c2
  rw [← hL] at hl1 hl2 hc1 hc2
  rw [← hL]
  have hS0 := (((St.start w).alloc _ rfl #[.slice (some ⟨b1, o1, none⟩) L cv, .slice (some ⟨b2, o2, none⟩) L cw] 30).alloc (w.heap.size + 1) (by simp) (arrC []) 61).alloc (w.heap.size + 1 + 1) (by simp) (arrC []) 61
  have HS0 := Lib.hid ((hS0.add (Below.refl _ _) Ent.nil trivial (fun k hk => hk.elim)).pick [0, 2, 3, 1] (by decide))
  have HC := Lib.hid hC
  have Hhd := Lib.hid hd; clear hd
  have HhL := Lib.hid hL; clear hL
  have Hhi := Lib.hid hi; clear hi
  have Hhz0 := Lib.hid hz0; clear hz0
  have Hhz1 := Lib.hid hz1; clear hz1
  have Hhz2 := Lib.hid hz2; clear hz2
  clear hS0 h hC
  go_enter Try.func38, Try.ntmps38
  go_wp2
  go_loopw [9] (fun i wr => ∃ (k : Nat) (vs : List Value) (X : Ent), i = .int .i64 (k : Int) ∧ k ≤ 31 ∧ CMem d X vs k ∧ St w wr [Ent.box w.heap.size #[.slice (some ⟨b1, o1, none⟩) L cv, .slice (some ⟨b2, o2, none⟩) L cw] 30, Ent.box (w.heap.size + 1 + 1) (arrC vs) 61, X, Ent.box (w.heap.size + 1) (arrC []) 61]) (fun i _ => 31 - (intOf i).toNat)
  case atStart => exact ⟨0, [], Ent.nil, rfl, Nat.zero_le _, ⟨rfl, fun l hl => absurd hl (by omega)⟩, HS0.out⟩
  case round =>
    obtain ⟨k, vs, X, rfl, hk, hM, hS⟩ := hrel
    have hvl := hM.1
    by_cases hlt : k < 31
    · have hlt2 : (k : Int) < 31 := by omega
      have e0 := hS.cell (v := .slice (some ⟨b1, o1, none⟩) L cv) 0 0 rfl rfl
      have HS1 := Lib.hid hS
      have HM := Lib.hid hM
      clear hS hM
      obtain ⟨wo, hwo⟩ : ∃ wo : World, wo = wr := ⟨_, rfl⟩
      subst hwo
      have hsa := arrC_set (vs := vs) (by omega) (.slice (some ⟨wo.heap.size, 0, none⟩) L L)
      rw [hvl] at hsa
      have hnil := arrC_nil (vs := vs) (by omega)
      rw [hvl] at hnil
      have Hnil := Lib.hid hnil
      have Hsa := Lib.hid hsa
      have Hhvl := Lib.hid hvl; clear hvl
      clear hsa hnil
      go_wp2_with (at_make; go_loud (refine wpList_make_full _ rfl _ _ 60 rfl _ 3 i0 (.int .i64 0) 1 Try.underlying60 Hhi.out Hhz0.out Hhz1.out .i64 .i64 _ _ L rfl rfl rfl rfl (by rw [Hhz2.out]; omega) (by unfold maxLen; omega) (Nat.le_refl _) ?_; intro w1 hown hgrow; have HS2 := Lib.hid (HS1.out.made ((Below.refl _ _).grown hgrow (Nat.le_refl _) (fun _ h => by cases h)) (made_ints (cwN d k) hown)); have k0 := HS2.out.cell (v := .slice none 0 0) 1 k rfl Hnil.out; have f0 := HS2.out.fr 1 k rfl; have hS3 := HS2.out.set 1 rfl k (.slice (some ⟨wo.heap.size, 0, none⟩) L L); rw [Hsa.out] at hS3; have HS3 := Lib.hid (show St w _ [Ent.box w.heap.size #[.slice (some ⟨b1, o1, none⟩) L cv, .slice (some ⟨b2, o2, none⟩) L cw] 30, Ent.box (w.heap.size + 1 + 1) (arrC (vs ++ [.slice (some ⟨wo.heap.size, 0, none⟩) L L])) 61, X, Ent.box (w.heap.size + 1) (arrC []) 61, Ent.row 3 1 (.slice (some ⟨wo.heap.size, 0, none⟩) L L) L (intCells (padL L 0 (cwN d k)))] from hS3); have e1 := HS3.out.cell (v := .slice (some ⟨b1, o1, none⟩) L cv) 0 0 rfl rfl; clear hown hgrow hS3))
      clear e0
      obtain ⟨g, hg⟩ : ∃ g, g = wo.heap.size := ⟨_, rfl⟩
      rw [← hg] at HS3 ⊢
      have Hhg := Lib.hid hg; clear hg
      go_loopw [21] (fun i wr => ∃ s : Nat, i = .int .i64 (s : Int) ∧ s ≤ L ∧ St w wr [Ent.box w.heap.size #[.slice (some ⟨b1, o1, none⟩) L cv, .slice (some ⟨b2, o2, none⟩) L cw] 30, Ent.box (w.heap.size + 1 + 1) (arrC (vs ++ [.slice (some ⟨g, 0, none⟩) L L])) 61, X, Ent.box (w.heap.size + 1) (arrC []) 61, Ent.row 3 1 (.slice (some ⟨g, 0, none⟩) L L) L (intCells (padL L s (cwN d k)))]) (fun i _ => L - (intOf i).toNat)
      case atStart => exact ⟨0, rfl, Nat.zero_le _, HS3.out⟩
      case round =>
        obtain ⟨s, rfl, hs, hS⟩ := hrel
        by_cases hslt : s < L
        · have hslt2 : (s : Int) < L := by omega
          have hsL : s < d.next.length := by rw [← HhL.out]; exact hslt
          obtain ⟨b3, o3, c3, hc31, hc32, k3, k4⟩ := row_len HC.out hS.bel hsL
          have K4 := Lib.hid k4
          clear k4
          obtain ⟨wm, hwm⟩ : ∃ wm : World, wm = wr := ⟨_, rfl⟩
          by_cases hk0 : k = 0
          · have hk1 : ((k : Int) == 0) = true := by simp; omega
            have k5 := (bcell hS.bel b2 (o2 + s) HC.out.hb2).trans (HC.out.en s hsL)
            have e2 := hS.cell (v := .slice (some ⟨b2, o2, none⟩) L cw) 0 1 rfl rfl
            have e4 := hS.cell (v := .slice (some ⟨g, 0, none⟩) L L) 1 0 rfl (by
              rw [arrC_at (by simp)]
              have := Hhvl.out
              have : vs = [] := List.eq_nil_of_length_eq_zero (by omega)
              subst this
              rfl)
            rw [padL_T _ hslt] at hS
            have hz : cwN d k s = if enD d s = true then 1 else 0 := by rw [hk0]; exact cwN_zero d s
            obtain ⟨x, hx⟩ : ∃ x, enD d s = x := ⟨_, rfl⟩
            rw [hx] at k5 hz
            have Hhx := Lib.hid hx; clear hx
            cases x
            · have hend := padT_end (n := L) (s := s) (cwN d k)
              rw [hz, if_neg (by simp)] at hend
              rw [hend] at hS
              have HS := Lib.hid hS
              have Hhz := Lib.hid hz; clear hz
              have Hhk0 := Lib.hid hk0; clear hk0
              clear hS hend
              go_wp2
              go_roundw
              case rel => exact ⟨s + 1, by go_num, by omega, HS.out⟩
              case measure => simp [intOf]; omega
            · have f0 := hS.rfr 4 s rfl
              have k0 := hS.rcell (v := .int .i64 0) 4 s rfl (by omega) (padT_at (n := L) (cwN d k) 0)
              have hS3 := hS.store 4 rfl s (.int .i64 1)
              have hset := padT_set (n := L) (s := s) (cwN d k) 0 1
              have hend := padT_end (n := L) (s := s) (cwN d k)
              rw [hz, if_pos rfl] at hend
              rw [show (.int .i64 1 : Value) = .int .i64 ((1 : Nat) : Int) from rfl] at hS3
              simp only [List.set_cons_succ, List.set_cons_zero] at hS3
              rw [hset, hend] at hS3
              have HS := Lib.hid hS3
              have Hhz := Lib.hid hz; clear hz
              have Hhk0 := Lib.hid hk0; clear hk0
              clear hS hend hS3 hset
              go_wp2
              go_roundw
              case rel => exact ⟨s + 1, by go_num, by omega, HS.out⟩
              case measure => simp [intOf]; omega
          · obtain ⟨l, hkl⟩ : ∃ l, k = l + 1 := ⟨k - 1, by omega⟩
            have hk1 : ((k : Int) == 0) = false := by simp; omega
            rw [padL_T _ hslt] at hS
            have HS5 := Lib.hid hS
            have hsub : IntKind.i64.wrap ((k : Int) - 1) = ((l : Nat) : Int) := by rw [IntWalk.i64_in _ (by omega)]; omega
            have hll : l < 31 := by omega
            have hll2 : (l : Int) < 31 := by omega
            have hl30 : l ≤ 30 := by omega
            have hps3 : psN d l s 3 = cwN d k s := by rw [hkl]; exact (cwN_succ (fun c hc => HC.out.dx s c hsL hc)).symm
            obtain ⟨gl, hgl, hin⟩ := HM.out.2 l (by omega)
            rw [← HhL.out] at hgl hin
            have hal : (arrC (vs ++ [.slice (some ⟨g, 0, none⟩) L L]))[l]? = some (.slice (some ⟨gl, 0, none⟩) L L) := by
              rw [arrC_at (by rw [List.length_append, Hhvl.out]; omega), ← hgl]
              simp only [List.getD_eq_getElem?_getD]
              rw [List.getElem?_append_left (by rw [Hhvl.out]; omega)]
            have hak : (arrC (vs ++ [.slice (some ⟨g, 0, none⟩) L L]))[k]? = some (.slice (some ⟨g, 0, none⟩) L L) := by
              rw [arrC_at (by rw [List.length_append, Hhvl.out]; simp)]
              have hv := Hhvl.out
              subst hv
              simp
            have Hal := Lib.hid hal
            have Hak := Lib.hid hak
            have Hin := Lib.hid hin
            have Hps3 := Lib.hid hps3
            have Hhkl := Lib.hid hkl; clear hkl
            clear hS hgl hin hal hak hps3 hk0 hlt
            subst hwm
            go_wp2
            go_loopw [39] (fun i wr => ∃ c : Nat, i = .int .i64 (c : Int) ∧ c ≤ 3 ∧ St w wr [Ent.box w.heap.size #[.slice (some ⟨b1, o1, none⟩) L cv, .slice (some ⟨b2, o2, none⟩) L cw] 30, Ent.box (w.heap.size + 1 + 1) (arrC (vs ++ [.slice (some ⟨g, 0, none⟩) L L])) 61, X, Ent.box (w.heap.size + 1) (arrC []) 61, Ent.row 3 1 (.slice (some ⟨g, 0, none⟩) L L) L (intCells (padT L s (cwN d k) (psN d l s c)))]) (fun i _ => 3 - (intOf i).toNat)
            case atStart => exact ⟨0, rfl, Nat.zero_le _, HS5.out⟩
            case round =>
              obtain ⟨c, rfl, hc, hS⟩ := hrel
              by_cases hc3 : c < 3
              · have hc3I : (c : Int) < 3 := by omega
                have k5 := K4.out wr hS.bel c hc3
                have htL := HC.out.lt s c hsL hc3
                have hps : psN d l s (c + 1) = psN d l s c + cwN d l (nxD d s c) := rfl
                have hb1 := cwN_le (d := d) (l := l) (s := nxD d s c) hl30
                have hb2 := psN_le (d := d) (l := l) (s := s) hl30 c
                have hset := padT_set (n := L) (s := s) (cwN d k) (psN d l s c) (psN d l s (c + 1))
                have r1 := hS.innRcell 2 (nxD d s c) rfl Hin.out (by rw [HhL.out]; omega) (clsL_cell (cwN d l) (by rw [HhL.out]; exact htL))
                have r2 := hS.rcell (v := .int .i64 ((psN d l s c : Nat) : Int)) 4 s rfl (by omega) (padT_at (cwN d k) (psN d l s c))
                rw [hps] at hset
                obtain ⟨t, ht⟩ : ∃ t, nxD d s c = t := ⟨_, rfl⟩
                rw [ht, ← HhL.out] at htL
                rw [ht] at k5 hps hb1 hset r1
                have htLI : (t : Int) < L := by omega
                have a1 := hS.cell (v := .slice (some ⟨gl, 0, none⟩) L L) 1 l rfl Hal.out
                have a2 := hS.cell (v := .slice (some ⟨g, 0, none⟩) L L) 1 k rfl Hak.out
                have f2 := hS.rfr 4 s rfl
                obtain ⟨x, hx⟩ : ∃ x, cwN d l t = x := ⟨_, rfl⟩
                obtain ⟨y, hy⟩ : ∃ y, psN d l s c = y := ⟨_, rfl⟩
                rw [hx] at r1 hps hb1 hset
                rw [hy] at r2 hps hb2 hset hS
                have hS6 := hS.store 4 rfl s (.int .i64 ((y : Int) + (x : Int)))
                rw [show ((y + x : Nat) : Int) = (y : Int) + (x : Int) by omega, ← hps] at hset
                simp only [List.set_cons_succ, List.set_cons_zero] at hS6
                rw [hset] at hS6
                have hw9 : IntKind.i64.wrap ((y : Int) + (x : Int)) = (y : Int) + (x : Int) := IntWalk.i64_in _ (by omega)
                have HS6 := Lib.hid hS6
                have Hhps := Lib.hid hps; clear hps
                have Hhx := Lib.hid hx; clear hx
                have Hhy := Lib.hid hy; clear hy
                have Hht := Lib.hid ht; clear ht
                clear hS hS6 hset hslt hk1
                go_wp2
                go_region
                go_wp2
                go_roundw
                case rel => exact ⟨c + 1, by go_num, by omega, HS6.out.drewN _⟩
                case measure => simp [intOf]; omega
              · obtain rfl : c = 3 := by omega
                rw [Hps3.out, padT_end] at hS
                have HS6 := Lib.hid hS
                clear hS
                go_wp2
                go_roundw
                case rel => exact ⟨s + 1, by go_num, by omega, HS6.out⟩
                case measure => simp [intOf]; omega
        · obtain rfl : s = L := by omega
          rw [padL_end] at hS
          have HS6 := Lib.hid ((hS.pick [0, 1, 3, 2, 4] (by decide)).pack (A := [Ent.box w.heap.size #[.slice (some ⟨b1, o1, none⟩) s cv, .slice (some ⟨b2, o2, none⟩) s cw] 30, Ent.box (w.heap.size + 1 + 1) (arrC (vs ++ [.slice (some ⟨g, 0, none⟩) s s])) 61, Ent.box (w.heap.size + 1) (arrC []) 61]) (R := [X, Ent.row 3 1 (.slice (some ⟨g, 0, none⟩) s s) s (intCells (clsL s (cwN d k)))]))
          clear hS
          go_wp2
          go_roundw
          case rel =>
            have hM2 : CMem d (Ent.all [X, Ent.row 3 1 (.slice (some ⟨g, 0, none⟩) s s) s (intCells (clsL s (cwN d k)))]) (vs ++ [.slice (some ⟨g, 0, none⟩) s s]) (k + 1) := by
              have := HM.out.snoc (b := g)
              rw [← HhL.out] at this
              exact this
            exact ⟨k + 1, vs ++ [Value.slice (some ⟨g, 0, none⟩) s s], Ent.all [X, Ent.row 3 1 (.slice (some ⟨g, 0, none⟩) s s) s (intCells (clsL s (cwN d k)))], by go_num, by omega, hM2, HS6.out.pick [0, 1, 3, 2] (by decide)⟩
          case measure => simp [intOf]; omega
    · obtain rfl : k = 31 := by omega
      rw [arrC_end hvl] at hS
      have HS7 := Lib.hid hS
      clear hS
      rename_i hK0
      have HK := Lib.hid hK0
      clear hK0
      go_wp2
      refine HK.out _ _ ?_
      have hI : (Try.prog.info? 61).map (·.size) = some 31 := by kernel_rfl
      refine wp_seq ?_
      refine wp_region_list ?_
      refine wpList_loadAll rfl 61 _ rfl (w.heap.size + 1 + 1) rfl 61 vs.toArray _ (HS7.out.box 1 rfl) Try.underlying61 rfl (by rw [hI]; simp [hvl]) ?_
      refine wpList_storeAll rfl 61 _ _ rfl (w.heap.size + 1) 61 (arrC []) vs.toArray rfl rfl (HS7.out.box 3 rfl) (by rw [hI]; simp [hvl]) (by simp [hvl, arrC]) (fun v hv => hM.one v (by simpa using hv)) ?_
      refine wpList_nil ?_
      have HS8 := Lib.hid (HS7.out.setAll 3 rfl vs.toArray)
      show Code.wp Try.prog Code.ret _ _ _
      go_wp2
      refine bodyPost_ret (v := .agg vs.toArray) (results_cellAll Try.results38 _ _ _ (w.heap.size + 1) 61 vs.toArray _ rfl (HS8.out.box 3 rfl) Try.underlying61 rfl (by rw [hI]; simp [hvl])) rfl ?_
      exact ⟨vs, X, rfl, hM, HS8.out.pick [2] (by decide)⟩
def cwA (d : DfaD) (n : Int) : Int := if dfaOk d.next d.ends = true ∧ 0 ≤ n ∧ n ≤ 30 then ((cntD d n.toNat 0 : Nat) : Int) else -1
theorem cwA_no {d : DfaD} {n : Int} (h : dfaOk d.next d.ends = false ∨ inB n 0 30 = false) : cwA d n = -1 := by
  unfold cwA
  rw [if_neg]
  rintro ⟨h1, h2, h3⟩
  rcases h with h | h
  · rw [h] at h1; cases h1
  · unfold inB at h
    simp at h
    omega
theorem idx31 (w : World) {cs : Array Value} {m : Nat} (hm : m < 31) {x : Value} (hx : cs[m]? = some x) : (Instr.index 61 (.agg cs) (.int .i64 (m : Int))).run Try.prog w = .ok x w := by
  have h1 : (0 : Int) ≤ (m : Int) ∧ (m : Int) < ((31 : Nat) : Int) := by omega
  simp [Instr.index, run_underlying Try.underlying61, asIntOf, go_sem, part, isAgg, run_underlying Try.underlying60, hx]
  omega
set_option maxRecDepth 100000 in
set_option maxHeartbeats 8000000 in
theorem implCountWords_any (d : DfaD) (n : Int) (v : Value) (w : World) (h : DfaR 0 w v d) (r : Int) (hr : cwA d n = r) :
    Calls Try.prog 13 #[v, .int .i64 n] w fun e w' => e = .returned (.int .i64 r) ∧ Below w.heap.size w w' := by
  have H := Lib.hid h
  obtain ⟨v1, v2, rfl, g1, g2⟩ := h
  have HS0 := Lib.hid ((St.start w).alloc _ rfl #[v1, v2] 30)
  have e0 := HS0.out.cell (v := v1) 0 0 rfl rfl
  have e1 := HS0.out.cell (v := v2) 0 1 rfl rfl
  clear g1 g2
  cases hd : dfaOk d.next d.ends
  · rw [cwA_no (Or.inl hd)] at hr
    subst hr
    have Hhd := Lib.hid hd; clear hd
    go_enter Try.func13, Try.ntmps13
    go_wp2_with fail
    refine (implDfaValid_any d _ _ (H.out.below HS0.out.bel) _ Hhd.out).mono ?_
    rintro e w1 ⟨rfl, hb1⟩
    have HS1 := Lib.hid (HS0.out.call hb1)
    clear hb1 e0 e1
    go_wp2
    go_ret
    exact ⟨rfl, HS1.out.bel⟩
  cases hin : inB n 0 30
  · rw [cwA_no (Or.inr hin)] at hr
    subst hr
    have Hhd := Lib.hid hd; clear hd
    have Hhin := Lib.hid hin; clear hin
    go_enter Try.func13, Try.ntmps13
    go_wp2_with fail
    refine (implDfaValid_any d _ _ (H.out.below HS0.out.bel) _ Hhd.out).mono ?_
    rintro e w1 ⟨rfl, hb1⟩
    have HS1 := Lib.hid (HS0.out.call hb1)
    clear hb1 e0 e1
    go_wp2_with (go_at_call 37; refine (within_any _ _ _ _ _ Hhin.out).mono ?_; rintro e w' ⟨rfl, rfl⟩)
    go_ret
    exact ⟨rfl, HS1.out.bel⟩
  · have hb : 0 ≤ n ∧ n ≤ 30 := by
      have h2 := hin
      unfold inB at h2
      simp at h2
      exact h2
    obtain ⟨m, rfl⟩ := Int.eq_ofNat_of_zero_le hb.1
    have hr2 : ((cwN d m 0 : Nat) : Int) = r := by
      rw [← hr]
      unfold cwA
      rw [if_pos ⟨hd, hb⟩]
      rfl
    have hm : m ≤ 30 := by omega
    have hm2 : m < 31 := by omega
    have hl := (dfaOk_len hd).1
    have Hhd := Lib.hid hd; clear hd
    have Hhin := Lib.hid hin; clear hin
    have Hhr2 := Lib.hid hr2; clear hr2
    clear hr hb
    go_enter Try.func13, Try.ntmps13
    go_wp2_with fail
    refine (implDfaValid_any d _ _ (H.out.below HS0.out.bel) _ Hhd.out).mono ?_
    rintro e w1 ⟨rfl, hb1⟩
    have HS1 := Lib.hid (HS0.out.call hb1)
    clear hb1 e0 e1
    have e0 := HS1.out.cell (v := v1) 0 0 rfl rfl
    have e1 := HS1.out.cell (v := v2) 0 1 rfl rfl
    go_wp2_with (go_at_call 37; refine (within_any _ _ _ _ _ Hhin.out).mono ?_; rintro e w' ⟨rfl, rfl⟩)
    refine (counts_any d _ _ Hhd.out (H.out.below HS1.out.bel)).mono ?_
    rintro e w2 ⟨vs, X, rfl, hM, hS⟩
    obtain ⟨b, hv, hi⟩ := hM.2 m hm2
    have k0 := hS.innRcell 0 0 rfl hi (by omega) (clsL_cell (cwN d m) (by omega))
    rw [Hhr2.out] at k0
    have HS2 := Lib.hid (HS1.out.call hS.bel)
    have hvl := hM.1
    have hix : vs.toArray[m]? = some (.slice (some ⟨b, 0, none⟩) d.next.length d.next.length) := by
      rw [List.getElem?_toArray, ← hv]
      simp [hvl, hm2]
    have hrx := idx31 w2 hm2 hix
    clear e0 e1 hS hM hi hv hix
    go_wp2
    go_ret
    exact ⟨rfl, HS2.out.bel⟩
theorem rowTo_any (t : Int) (B : Nat) (w : World) (hB : w.heap.size = B) : Calls Try.prog 100 #[.int .i64 t] w fun e w' => e = .returned (.slice (some ⟨B, 0, none⟩) 3 3) ∧ w' = w.alloc (.cells #[.int .i64 t, .int .i64 t, .int .i64 t] 3) := by
  subst hB
  go_enter Try.func100, Try.ntmps100
  go_wp2
  go_ret
  exact ⟨rfl, rfl⟩
theorem ints_row {w0 w : World} {L : List Ent} (h : St w0 w L) (i : Nat) {e : Nat} {v : Value} {n : Nat} {l : List Int} (hx : L[i]? = some (Ent.row e 1 v n (intCells l))) : Ints w0.heap.size w v l := by
  have h2 := h.row i hx
  have hn : n = l.length := by have := h2.1; simp [intCells] at this; omega
  subst hn
  exact (own_of_row h2).sl (by omega)
theorem sl_row {w0 w : World} {L : List Ent} (h : St w0 w L) (i : Nat) {e : Nat} {v : Value} {n : Nat} {cs : List Value} (hx : L[i]? = some (Ent.row e 1 v n cs)) : Sl w0.heap.size w v n 1 cs := (own_of_row (h.row i hx)).sl (by omega)
theorem bools_row {w0 w : World} {L : List Ent} (h : St w0 w L) (i : Nat) {e : Nat} {v : Value} {n : Nat} {l : List Bool} (hx : L[i]? = some (Ent.row e 1 v n (boolCells l))) : Bools w0.heap.size w v l := by
  have h2 := h.row i hx
  have hn : n = l.length := by have := h2.1; simp [boolCells] at this; omega
  subst hn
  exact (own_of_row h2).sl (by omega)
set_option maxRecDepth 100000 in
set_option maxHeartbeats 4000000 in
theorem implLeaf1_any (w : World) : Calls Try.prog 69 #[.agg #[.int .i64 1, .int .i64 0]] w fun e w' => RDs noneD w e w' := by
  have hS0 := ((St.start w).alloc _ rfl #[.int .i64 1, .int .i64 0] 39).alloc (w.heap.size + 1) (by simp) #[.slice none 0 0, .slice none 0 0] 30
  have HhS0 := Lib.hid hS0; clear hS0
  go_enter Try.func69, Try.ntmps69
  have e0 := HhS0.out.cell (v := .int .i64 1) 0 0 rfl rfl
  go_wp2_with fail
  refine (rowTo_any 0 (w.heap.size + 1 + 1) _ (by simp)).mono ?_
  rintro e w1 ⟨rfl, rfl⟩
  clear e0
  go_wp2
  have hq := (((((St.start w).alloc _ rfl #[.int .i64 1, .int .i64 0] 39).alloc (w.heap.size + 1) (by simp) #[.slice (some ⟨w.heap.size + 1 + 1 + 1, 0, none⟩) 1 1, .slice (some ⟨w.heap.size + 1 + 1 + 1 + 1, 0, none⟩) 1 1] 30).alloc (w.heap.size + 1 + 1) (by simp) #[.int .i64 0, .int .i64 0, .int .i64 0] 3).alloc (w.heap.size + 1 + 1 + 1) (by simp) #[.slice (some ⟨w.heap.size + 1 + 1, 0, none⟩) 3 3] 60).alloc (w.heap.size + 1 + 1 + 1 + 1) (by simp) #[.bool false] 4
  refine bodyPost_ret (v := .agg #[.slice (some ⟨w.heap.size + 1 + 1 + 1, 0, none⟩) 1 1, .slice (some ⟨w.heap.size + 1 + 1 + 1 + 1, 0, none⟩) 1 1]) (by simp [results, Try.results69, go_sem]) rfl ?_
  have hr := ((hq.boxrow 2 3 1 (intCells [0, 0, 0]) rfl rfl (by decide)).boxrow 3 1 1 [.slice (some ⟨w.heap.size + 1 + 1, 0, none⟩) 3 3] rfl rfl (by decide)).boxrow 4 1 1 (boolCells [false]) rfl rfl (by decide)
  refine ⟨_, _, _, _, rfl, ⟨_, _, rfl, ⟨_, sl_row hr 3 rfl, fun i hi => ?_⟩, bools_row hr 4 rfl⟩, hq.bel⟩
  obtain rfl : i = 0 := by have : i < 1 := hi; omega
  exact ints_row hr 2 rfl
set_option maxRecDepth 100000 in
set_option maxHeartbeats 4000000 in
theorem implLeaf2_any (w : World) : Calls Try.prog 69 #[.agg #[.int .i64 2, .int .i64 0]] w fun e w' => RDs oneD w e w' := by
  have hS0 := ((St.start w).alloc _ rfl #[.int .i64 2, .int .i64 0] 39).alloc (w.heap.size + 1) (by simp) #[.slice none 0 0, .slice none 0 0] 30
  have HhS0 := Lib.hid hS0; clear hS0
  go_enter Try.func69, Try.ntmps69
  have e0 := HhS0.out.cell (v := .int .i64 2) 0 0 rfl rfl
  go_wp2_with fail
  refine (rowTo_any 1 (w.heap.size + 1 + 1) _ (by simp)).mono ?_
  rintro e w1 ⟨rfl, rfl⟩
  go_wp2_with fail
  refine (rowTo_any 1 (w.heap.size + 1 + 1 + 1) _ (by simp)).mono ?_
  rintro e w1 ⟨rfl, rfl⟩
  clear e0
  go_wp2
  have hq := ((((((St.start w).alloc _ rfl #[.int .i64 2, .int .i64 0] 39).alloc (w.heap.size + 1) (by simp) #[.slice (some ⟨w.heap.size + 1 + 1 + 1 + 1, 0, none⟩) 2 2, .slice (some ⟨w.heap.size + 1 + 1 + 1 + 1 + 1, 0, none⟩) 2 2] 30).alloc (w.heap.size + 1 + 1) (by simp) #[.int .i64 1, .int .i64 1, .int .i64 1] 3).alloc (w.heap.size + 1 + 1 + 1) (by simp) #[.int .i64 1, .int .i64 1, .int .i64 1] 3).alloc (w.heap.size + 1 + 1 + 1 + 1) (by simp) #[.slice (some ⟨w.heap.size + 1 + 1, 0, none⟩) 3 3, .slice (some ⟨w.heap.size + 1 + 1 + 1, 0, none⟩) 3 3] 60).alloc (w.heap.size + 1 + 1 + 1 + 1 + 1) (by simp) #[.bool true, .bool false] 4
  refine bodyPost_ret (v := .agg #[.slice (some ⟨w.heap.size + 1 + 1 + 1 + 1, 0, none⟩) 2 2, .slice (some ⟨w.heap.size + 1 + 1 + 1 + 1 + 1, 0, none⟩) 2 2]) (by simp [results, Try.results69, go_sem]) rfl ?_
  have hr := (((hq.boxrow 2 3 1 (intCells [1, 1, 1]) rfl rfl (by decide)).boxrow 3 3 1 (intCells [1, 1, 1]) rfl rfl (by decide)).boxrow 4 2 1 [.slice (some ⟨w.heap.size + 1 + 1, 0, none⟩) 3 3, .slice (some ⟨w.heap.size + 1 + 1 + 1, 0, none⟩) 3 3] rfl rfl (by decide)).boxrow 5 2 1 (boolCells [true, false]) rfl rfl (by decide)
  refine ⟨_, _, _, _, rfl, ⟨_, _, rfl, ⟨_, sl_row hr 4 rfl, fun i hi => ?_⟩, bools_row hr 5 rfl⟩, hq.bel⟩
  have hi : i < 2 := hi
  obtain rfl | rfl : i = 0 ∨ i = 1 := by omega
  · exact ints_row hr 2 rfl
  · exact ints_row hr 3 rfl
set_option maxRecDepth 100000 in
set_option maxHeartbeats 4000000 in
theorem implLeaf30_any (D : DfaD) (hD : minD ⟨[[1, 2, 2], [2, 2, 2], [2, 2, 2]], [false, true, false]⟩ = D) (w : World) : Calls Try.prog 69 #[.agg #[.int .i64 3, .int .i64 0]] w fun e w' => RDs D w e w' := by
  have hS0 := ((St.start w).alloc _ rfl #[.int .i64 3, .int .i64 0] 39).alloc (w.heap.size + 1) (by simp) #[.slice none 0 0, .slice none 0 0] 30
  have hok : dfaOk [[1, 2, 2], [2, 2, 2], [2, 2, 2]] [false, true, false] = true := by decide
  have HhS0 := Lib.hid hS0; clear hS0
  have HhD := Lib.hid hD; clear hD
  have Hhok := Lib.hid hok; clear hok
  go_enter Try.func69, Try.ntmps69
  have e0 := HhS0.out.cell (v := .int .i64 3) 0 0 rfl rfl
  have e1 := HhS0.out.cell (v := .int .i64 0) 0 1 rfl rfl
  go_wp2_with fail
  refine (rowTo_any 2 (w.heap.size + 1 + 1) _ (by simp)).mono ?_
  rintro e w1 ⟨rfl, rfl⟩
  go_wp2_with fail
  refine (rowTo_any 2 (w.heap.size + 1 + 1 + 1) _ (by simp)).mono ?_
  rintro e w1 ⟨rfl, rfl⟩
  go_wp2_with fail
  refine (rowTo_any 2 (w.heap.size + 1 + 1 + 1 + 1) _ (by simp)).mono ?_
  rintro e w1 ⟨rfl, rfl⟩
  have hS3 := ((((HhS0.out.alloc (w.heap.size + 1 + 1) (by simp) #[.int .i64 1, .int .i64 2, .int .i64 2] 3).alloc (w.heap.size + 1 + 1 + 1) (by simp) #[.int .i64 2, .int .i64 2, .int .i64 2] 3).alloc (w.heap.size + 1 + 1 + 1 + 1) (by simp) #[.int .i64 2, .int .i64 2, .int .i64 2] 3).alloc (w.heap.size + 1 + 1 + 1 + 1 + 1) (by simp) #[.slice (some ⟨w.heap.size + 1 + 1, 0, none⟩) 3 3, .slice (some ⟨w.heap.size + 1 + 1 + 1, 0, none⟩) 3 3, .slice (some ⟨w.heap.size + 1 + 1 + 1 + 1, 0, none⟩) 3 3] 60).alloc (w.heap.size + 1 + 1 + 1 + 1 + 1 + 1) (by simp) #[.bool false, .bool true, .bool false] 4
  have hr := ((((hS3.boxrow 2 3 1 (intCells [1, 2, 2]) rfl rfl (by decide)).boxrow 3 3 1 (intCells [2, 2, 2]) rfl rfl (by decide)).boxrow 4 3 1 (intCells [2, 2, 2]) rfl rfl (by decide)).boxrow 5 3 1 [.slice (some ⟨w.heap.size + 1 + 1, 0, none⟩) 3 3, .slice (some ⟨w.heap.size + 1 + 1 + 1, 0, none⟩) 3 3, .slice (some ⟨w.heap.size + 1 + 1 + 1 + 1, 0, none⟩) 3 3] rfl rfl (by decide)).boxrow 6 3 1 (boolCells [false, true, false]) rfl rfl (by decide)
  have hR : DfaR 0 _ (.agg #[.slice (some ⟨w.heap.size + 1 + 1 + 1 + 1 + 1, 0, none⟩) 3 3, .slice (some ⟨w.heap.size + 1 + 1 + 1 + 1 + 1 + 1, 0, none⟩) 3 3]) ⟨[[1, 2, 2], [2, 2, 2], [2, 2, 2]], [false, true, false]⟩ := ⟨_, _, rfl, ⟨_, (sl_row hr 5 rfl).mono (Nat.zero_le _), fun i hi => by
    have hi : i < 3 := hi
    obtain rfl | rfl | rfl : i = 0 ∨ i = 1 ∨ i = 2 := by omega
    · exact Sl.mono (ints_row hr 2 rfl) (Nat.zero_le _)
    · exact Sl.mono (ints_row hr 3 rfl) (Nat.zero_le _)
    · exact Sl.mono (ints_row hr 4 rfl) (Nat.zero_le _)⟩, Sl.mono (bools_row hr 6 rfl) (Nat.zero_le _)⟩
  have HS3 := Lib.hid hS3
  have HR := Lib.hid hR
  clear hS3 hr hR e0 e1
  go_wp2_with fail
  refine (implMin_any _ _ _ Hhok.out HR.out).mono ?_
  rintro e w5 ⟨a1, c1, a2, c2, rfl, hown, hb5⟩
  rw [HhD.out] at hown
  rw [HhD.out]
  have HS4 := Lib.hid (HS3.out.call hb5)
  have HDr := Lib.hid hown.r
  have hB1 := (HS3.out.boxlt 1 rfl).2
  have hsz := HS3.out.size
  have f0 := HS4.out.fr 1 0 rfl
  have f1 := HS4.out.fr 1 1 rfl
  have k0 := HS4.out.cell (v := .slice none 0 0) 1 0 rfl rfl
  have k1 := HS4.out.cell (v := .slice none 0 0) 1 1 rfl rfl
  clear hown hb5
  go_wp2
  have hq := (HS4.out.set 1 rfl 0 (.slice a1 D.next.length c1)).set 1 rfl 1 (.slice a2 D.ends.length c2)
  have q0 := hq.cell (v := .slice a1 D.next.length c1) 1 0 rfl rfl
  have q1 := hq.cell (v := .slice a2 D.ends.length c2) 1 1 rfl rfl
  refine bodyPost_ret (v := .agg #[.slice a1 D.next.length c1, .slice a2 D.ends.length c2]) (by simp [results, Try.results69, go_sem, q0, q1]) rfl ?_
  exact ⟨a1, c1, a2, c2, rfl, ((HDr.out.far hB1 0 _).far hB1 1 _).mono hsz, hq.bel⟩
set_option maxRecDepth 100000 in
set_option maxHeartbeats 4000000 in
theorem implLeaf31_any (D : DfaD) (hD : minD ⟨[[2, 1, 2], [2, 2, 2], [2, 2, 2]], [false, true, false]⟩ = D) (w : World) : Calls Try.prog 69 #[.agg #[.int .i64 3, .int .i64 1]] w fun e w' => RDs D w e w' := by
  have hS0 := ((St.start w).alloc _ rfl #[.int .i64 3, .int .i64 1] 39).alloc (w.heap.size + 1) (by simp) #[.slice none 0 0, .slice none 0 0] 30
  have hok : dfaOk [[2, 1, 2], [2, 2, 2], [2, 2, 2]] [false, true, false] = true := by decide
  have HhS0 := Lib.hid hS0; clear hS0
  have HhD := Lib.hid hD; clear hD
  have Hhok := Lib.hid hok; clear hok
  go_enter Try.func69, Try.ntmps69
  have e0 := HhS0.out.cell (v := .int .i64 3) 0 0 rfl rfl
  have e1 := HhS0.out.cell (v := .int .i64 1) 0 1 rfl rfl
  go_wp2_with fail
  refine (rowTo_any 2 (w.heap.size + 1 + 1) _ (by simp)).mono ?_
  rintro e w1 ⟨rfl, rfl⟩
  go_wp2_with fail
  refine (rowTo_any 2 (w.heap.size + 1 + 1 + 1) _ (by simp)).mono ?_
  rintro e w1 ⟨rfl, rfl⟩
  go_wp2_with fail
  refine (rowTo_any 2 (w.heap.size + 1 + 1 + 1 + 1) _ (by simp)).mono ?_
  rintro e w1 ⟨rfl, rfl⟩
  have hS3 := ((((HhS0.out.alloc (w.heap.size + 1 + 1) (by simp) #[.int .i64 2, .int .i64 1, .int .i64 2] 3).alloc (w.heap.size + 1 + 1 + 1) (by simp) #[.int .i64 2, .int .i64 2, .int .i64 2] 3).alloc (w.heap.size + 1 + 1 + 1 + 1) (by simp) #[.int .i64 2, .int .i64 2, .int .i64 2] 3).alloc (w.heap.size + 1 + 1 + 1 + 1 + 1) (by simp) #[.slice (some ⟨w.heap.size + 1 + 1, 0, none⟩) 3 3, .slice (some ⟨w.heap.size + 1 + 1 + 1, 0, none⟩) 3 3, .slice (some ⟨w.heap.size + 1 + 1 + 1 + 1, 0, none⟩) 3 3] 60).alloc (w.heap.size + 1 + 1 + 1 + 1 + 1 + 1) (by simp) #[.bool false, .bool true, .bool false] 4
  have hr := ((((hS3.boxrow 2 3 1 (intCells [2, 1, 2]) rfl rfl (by decide)).boxrow 3 3 1 (intCells [2, 2, 2]) rfl rfl (by decide)).boxrow 4 3 1 (intCells [2, 2, 2]) rfl rfl (by decide)).boxrow 5 3 1 [.slice (some ⟨w.heap.size + 1 + 1, 0, none⟩) 3 3, .slice (some ⟨w.heap.size + 1 + 1 + 1, 0, none⟩) 3 3, .slice (some ⟨w.heap.size + 1 + 1 + 1 + 1, 0, none⟩) 3 3] rfl rfl (by decide)).boxrow 6 3 1 (boolCells [false, true, false]) rfl rfl (by decide)
  have hR : DfaR 0 _ (.agg #[.slice (some ⟨w.heap.size + 1 + 1 + 1 + 1 + 1, 0, none⟩) 3 3, .slice (some ⟨w.heap.size + 1 + 1 + 1 + 1 + 1 + 1, 0, none⟩) 3 3]) ⟨[[2, 1, 2], [2, 2, 2], [2, 2, 2]], [false, true, false]⟩ := ⟨_, _, rfl, ⟨_, (sl_row hr 5 rfl).mono (Nat.zero_le _), fun i hi => by
    have hi : i < 3 := hi
    obtain rfl | rfl | rfl : i = 0 ∨ i = 1 ∨ i = 2 := by omega
    · exact Sl.mono (ints_row hr 2 rfl) (Nat.zero_le _)
    · exact Sl.mono (ints_row hr 3 rfl) (Nat.zero_le _)
    · exact Sl.mono (ints_row hr 4 rfl) (Nat.zero_le _)⟩, Sl.mono (bools_row hr 6 rfl) (Nat.zero_le _)⟩
  have HS3 := Lib.hid hS3
  have HR := Lib.hid hR
  clear hS3 hr hR e0 e1
  go_wp2_with fail
  refine (implMin_any _ _ _ Hhok.out HR.out).mono ?_
  rintro e w5 ⟨a1, c1, a2, c2, rfl, hown, hb5⟩
  rw [HhD.out] at hown
  rw [HhD.out]
  have HS4 := Lib.hid (HS3.out.call hb5)
  have HDr := Lib.hid hown.r
  have hB1 := (HS3.out.boxlt 1 rfl).2
  have hsz := HS3.out.size
  have f0 := HS4.out.fr 1 0 rfl
  have f1 := HS4.out.fr 1 1 rfl
  have k0 := HS4.out.cell (v := .slice none 0 0) 1 0 rfl rfl
  have k1 := HS4.out.cell (v := .slice none 0 0) 1 1 rfl rfl
  clear hown hb5
  go_wp2
  have hq := (HS4.out.set 1 rfl 0 (.slice a1 D.next.length c1)).set 1 rfl 1 (.slice a2 D.ends.length c2)
  have q0 := hq.cell (v := .slice a1 D.next.length c1) 1 0 rfl rfl
  have q1 := hq.cell (v := .slice a2 D.ends.length c2) 1 1 rfl rfl
  refine bodyPost_ret (v := .agg #[.slice a1 D.next.length c1, .slice a2 D.ends.length c2]) (by simp [results, Try.results69, go_sem, q0, q1]) rfl ?_
  exact ⟨a1, c1, a2, c2, rfl, ((HDr.out.far hB1 0 _).far hB1 1 _).mono hsz, hq.bel⟩
set_option maxRecDepth 100000 in
set_option maxHeartbeats 4000000 in
theorem implLeaf32_any (D : DfaD) (hD : minD ⟨[[2, 2, 1], [2, 2, 2], [2, 2, 2]], [false, true, false]⟩ = D) (w : World) : Calls Try.prog 69 #[.agg #[.int .i64 3, .int .i64 2]] w fun e w' => RDs D w e w' := by
  have hS0 := ((St.start w).alloc _ rfl #[.int .i64 3, .int .i64 2] 39).alloc (w.heap.size + 1) (by simp) #[.slice none 0 0, .slice none 0 0] 30
  have hok : dfaOk [[2, 2, 1], [2, 2, 2], [2, 2, 2]] [false, true, false] = true := by decide
  have HhS0 := Lib.hid hS0; clear hS0
  have HhD := Lib.hid hD; clear hD
  have Hhok := Lib.hid hok; clear hok
  go_enter Try.func69, Try.ntmps69
  have e0 := HhS0.out.cell (v := .int .i64 3) 0 0 rfl rfl
  have e1 := HhS0.out.cell (v := .int .i64 2) 0 1 rfl rfl
  go_wp2_with fail
  refine (rowTo_any 2 (w.heap.size + 1 + 1) _ (by simp)).mono ?_
  rintro e w1 ⟨rfl, rfl⟩
  go_wp2_with fail
  refine (rowTo_any 2 (w.heap.size + 1 + 1 + 1) _ (by simp)).mono ?_
  rintro e w1 ⟨rfl, rfl⟩
  go_wp2_with fail
  refine (rowTo_any 2 (w.heap.size + 1 + 1 + 1 + 1) _ (by simp)).mono ?_
  rintro e w1 ⟨rfl, rfl⟩
  have hS3 := ((((HhS0.out.alloc (w.heap.size + 1 + 1) (by simp) #[.int .i64 2, .int .i64 2, .int .i64 1] 3).alloc (w.heap.size + 1 + 1 + 1) (by simp) #[.int .i64 2, .int .i64 2, .int .i64 2] 3).alloc (w.heap.size + 1 + 1 + 1 + 1) (by simp) #[.int .i64 2, .int .i64 2, .int .i64 2] 3).alloc (w.heap.size + 1 + 1 + 1 + 1 + 1) (by simp) #[.slice (some ⟨w.heap.size + 1 + 1, 0, none⟩) 3 3, .slice (some ⟨w.heap.size + 1 + 1 + 1, 0, none⟩) 3 3, .slice (some ⟨w.heap.size + 1 + 1 + 1 + 1, 0, none⟩) 3 3] 60).alloc (w.heap.size + 1 + 1 + 1 + 1 + 1 + 1) (by simp) #[.bool false, .bool true, .bool false] 4
  have hr := ((((hS3.boxrow 2 3 1 (intCells [2, 2, 1]) rfl rfl (by decide)).boxrow 3 3 1 (intCells [2, 2, 2]) rfl rfl (by decide)).boxrow 4 3 1 (intCells [2, 2, 2]) rfl rfl (by decide)).boxrow 5 3 1 [.slice (some ⟨w.heap.size + 1 + 1, 0, none⟩) 3 3, .slice (some ⟨w.heap.size + 1 + 1 + 1, 0, none⟩) 3 3, .slice (some ⟨w.heap.size + 1 + 1 + 1 + 1, 0, none⟩) 3 3] rfl rfl (by decide)).boxrow 6 3 1 (boolCells [false, true, false]) rfl rfl (by decide)
  have hR : DfaR 0 _ (.agg #[.slice (some ⟨w.heap.size + 1 + 1 + 1 + 1 + 1, 0, none⟩) 3 3, .slice (some ⟨w.heap.size + 1 + 1 + 1 + 1 + 1 + 1, 0, none⟩) 3 3]) ⟨[[2, 2, 1], [2, 2, 2], [2, 2, 2]], [false, true, false]⟩ := ⟨_, _, rfl, ⟨_, (sl_row hr 5 rfl).mono (Nat.zero_le _), fun i hi => by
    have hi : i < 3 := hi
    obtain rfl | rfl | rfl : i = 0 ∨ i = 1 ∨ i = 2 := by omega
    · exact Sl.mono (ints_row hr 2 rfl) (Nat.zero_le _)
    · exact Sl.mono (ints_row hr 3 rfl) (Nat.zero_le _)
    · exact Sl.mono (ints_row hr 4 rfl) (Nat.zero_le _)⟩, Sl.mono (bools_row hr 6 rfl) (Nat.zero_le _)⟩
  have HS3 := Lib.hid hS3
  have HR := Lib.hid hR
  clear hS3 hr hR e0 e1
  go_wp2_with fail
  refine (implMin_any _ _ _ Hhok.out HR.out).mono ?_
  rintro e w5 ⟨a1, c1, a2, c2, rfl, hown, hb5⟩
  rw [HhD.out] at hown
  rw [HhD.out]
  have HS4 := Lib.hid (HS3.out.call hb5)
  have HDr := Lib.hid hown.r
  have hB1 := (HS3.out.boxlt 1 rfl).2
  have hsz := HS3.out.size
  have f0 := HS4.out.fr 1 0 rfl
  have f1 := HS4.out.fr 1 1 rfl
  have k0 := HS4.out.cell (v := .slice none 0 0) 1 0 rfl rfl
  have k1 := HS4.out.cell (v := .slice none 0 0) 1 1 rfl rfl
  clear hown hb5
  go_wp2
  have hq := (HS4.out.set 1 rfl 0 (.slice a1 D.next.length c1)).set 1 rfl 1 (.slice a2 D.ends.length c2)
  have q0 := hq.cell (v := .slice a1 D.next.length c1) 1 0 rfl rfl
  have q1 := hq.cell (v := .slice a2 D.ends.length c2) 1 1 rfl rfl
  refine bodyPost_ret (v := .agg #[.slice a1 D.next.length c1, .slice a2 D.ends.length c2]) (by simp [results, Try.results69, go_sem, q0, q1]) rfl ?_
  exact ⟨a1, c1, a2, c2, rfl, ((HDr.out.far hB1 0 _).far hB1 1 _).mono hsz, hq.bel⟩
theorem implLeaf_any (k l : Int) (w : World) (hok : pOk (k, l) = true) (h0 : pNeeds (k, l) = 0) (D : DfaD) (hD : leafQ (k, l) = D) : Calls Try.prog 69 #[.agg #[.int .i64 k, .int .i64 l]] w fun e w' => RDs D w e w' := by
  have hk : (k = 1 ∧ l = 0) ∨ (k = 2 ∧ l = 0) ∨ (k = 3 ∧ 0 ≤ l ∧ l ≤ 2) := by
    unfold pNeeds at h0
    rw [if_pos hok] at h0
    simp only [pOk, inB, Bool.and_eq_true, Bool.or_eq_true, decide_eq_true_eq, Bool.not_eq_true', decide_eq_false_iff_not] at hok
    split at h0
    · omega
    · split at h0 <;> omega
  subst hD
  rcases hk with ⟨rfl, rfl⟩ | ⟨rfl, rfl⟩ | ⟨rfl, h1, h2⟩
  · exact implLeaf1_any w
  · exact implLeaf2_any w
  · obtain ⟨c, rfl⟩ : ∃ c : Nat, l = (c : Int) := ⟨l.toNat, by omega⟩
    obtain rfl | rfl | rfl : c = 0 ∨ c = 1 ∨ c = 2 := by omega
    · exact implLeaf30_any _ rfl w
    · exact implLeaf31_any _ rfl w
    · exact implLeaf32_any _ rfl w
theorem notC_snoc {l : List Bool} {k : Nat} (hk : k < l.length) {y : Bool} (hy : (!l.getD k false) = y) : boolCells ((l.take (k + 1)).map (!·)) = boolCells ((l.take k).map (!·)) ++ [.bool y] := by
  have e : l.getD k false = l[k] := by simp [hk]
  rw [e] at hy
  rw [List.take_succ_eq_append_getElem hk, List.map_append]
  show boolCells ((l.take k).map (!·) ++ [!l[k]]) = _
  rw [boolC_sn, hy]
theorem flB_true (d : DfaD) : flB true d = ⟨d.next, d.ends.map (!·)⟩ := by
  unfold flB
  congr 1
  exact List.map_congr_left fun x _ => by cases x <;> rfl
set_option maxRecDepth 100000 in
set_option maxHeartbeats 4000000 in
theorem implOtherS_any (d : DfaD) (v1 v2 : Value) (w : World) (hd : dfaOk d.next d.ends = true) (h : DfaR 0 w (.agg #[v1, v2]) d) :
    Calls Try.prog 70 #[.agg #[v1, v2]] w fun e w' => ∃ u2, e = .returned (.agg #[v1, u2]) ∧ Bools w.heap.size w' u2 (flB true d).ends ∧ Below w.heap.size w w' := by
  rw [flB_true]
  obtain ⟨L, hL⟩ : ∃ L, L = d.ends.length := ⟨_, rfl⟩
  have hl := dfaOk_len hd
  have hL40 : L ≤ 40 := by omega
  obtain ⟨_, _, hv, q1, q2⟩ := h
  simp only [Value.agg.injEq, Array.mk.injEq, List.cons.injEq, and_true] at hv
  obtain ⟨rfl, rfl⟩ := hv
  obtain ⟨a1, c1, rfl, hca, hcb, -⟩ := q1.formI
  have hS0 := (((St.start w).alloc w.heap.size rfl #[.slice a1 d.next.length c1, v2] 30).alloc (w.heap.size + 1) (by simp) #[.slice none 0 0, .slice none 0 0] 30).alloc (w.heap.size + 1 + 1) (by simp) #[.slice a1 d.next.length c1, .slice none 0 0] 30
  have HS0 := Lib.hid (hS0.nilRow 4 1)
  obtain ⟨a2, c2, rfl, hc1, hc2, hr2⟩ := q2.form
  rw [← hL] at hc1 hr2
  rw [← hL] at HS0
  obtain ⟨i0, hi, hz0, hz1, hz2⟩ := info_parts Try.infoBool
  have Hr := Lib.hid hr2
  have e0 := hS0.cell (v := .slice a1 d.next.length c1) 0 0 rfl rfl
  have e1 := hS0.cell (v := .slice a2 d.ends.length c2) 0 1 rfl rfl
  rw [← hL] at e1
  rw [← hL]
  have Hhi := Lib.hid hi; clear hi
  have Hhz0 := Lib.hid hz0; clear hz0
  have Hhz1 := Lib.hid hz1; clear hz1
  have Hhz2 := Lib.hid hz2; clear hz2
  have HhL := Lib.hid hL; clear hL
  clear hr2 q1 q2 hl hS0
  go_enter Try.func70, Try.ntmps70
  go_wp2
  clear e0 e1
  go_loopw [5, 12] (fun _ i wr => ∃ (k c : Nat) (a : Option Addr), i = .int .i64 (k : Int) ∧ k ≤ L ∧ St w wr [Ent.box w.heap.size #[.slice a1 d.next.length c1, .slice a2 L c2] 30, Ent.box (w.heap.size + 1) #[.slice none 0 0, .slice none 0 0] 30, Ent.box (w.heap.size + 1 + 1) #[.slice a1 d.next.length c1, .slice a k c] 30, Ent.row 4 1 (.slice a k c) k (boolCells ((d.ends.take k).map (!·)))])
    (fun _ i _ => L - (intOf i).toNat)
  case atStart => exact ⟨0, 0, none, rfl, Nat.zero_le _, HS0.out⟩
  case round =>
    obtain ⟨k, c, a, rfl, hk, hS⟩ := hrel
    by_cases hlt : k < L
    · have hlt2 : (k : Int) < L := by omega
      obtain ⟨b2, o2, rfl, -, hb2, hcs⟩ := Hr.out (by omega)
      have k2 := (bcell hS.bel b2 _ hb2).trans (hcs k hlt)
      obtain ⟨x, hx⟩ : ∃ x, d.ends.getD k false = x := ⟨_, rfl⟩
      rw [hx] at k2
      obtain ⟨y, hy⟩ : ∃ y, (!x) = y := ⟨_, rfl⟩
      have hsn := notC_snoc (l := d.ends) (k := k) (by rw [← HhL.out]; exact hlt) (by rw [hx, hy])
      have HS := Lib.hid hS
      have HSa := Lib.hid (hS.alloc_ (.cells #[.bool y] 4))
      have HRw := Lib.hid (HSa.out.row 3 rfl)
      have x1 := hS.cell (v := .slice a k c) 2 1 rfl rfl
      have Hhx := Lib.hid hx; clear hx
      have Hhsn := Lib.hid hsn; clear hsn
      clear hcs hS
      go_wp2_with (at_builtin; refine wpList_append_lies _ rfl _ _ _ rfl _ 4 i0 (.bool false) 1 1 Try.underlying28 Hhi.out Hhz0.out Hhz1.out Hhz2.out rfl (by omega) _ k _ rfl HRw.out ⟨wr.heap.size, 0, none⟩ 1 1 [.bool y] rfl rfl (World.news_of_block (heap_alloc_new wr _)) one_bool (by omega) (by unfold maxLen; omega) (by omega) HSa.out.size _ rfl ?_; intro g6 c6 w6 hown6 hgrow6 hat6 hlt6; have HS6 := Lib.hid (HSa.out.app 3 rfl hown6 hgrow6 hat6); have y1 := HS6.out.cell (v := .slice a k c) 2 1 rfl rfl; have y2 := HS6.out.fr 2 1 rfl; clear hown6 hgrow6 hat6 hlt6)
      go_roundw
      case rel =>
        refine ⟨k + 1, c6, some ⟨g6, 0, none⟩, by go_num, by omega, ?_⟩
        rw [Hhsn.out]
        exact HS6.out.set 2 rfl 1 (.slice (some ⟨g6, 0, none⟩) (k + 1) c6)
      case measure => simp [intOf]; omega
    · obtain rfl : k = L := by omega
      have HSe := Lib.hid hS
      have t0 := hS.cell (v := .slice a1 d.next.length c1) 2 0 rfl rfl
      have t1 := hS.cell (v := .slice a k c) 2 1 rfl rfl
      have f0 := hS.fr 1 0 rfl
      have f1 := hS.fr 1 1 rfl
      have k0 := hS.cell (v := .slice none 0 0) 1 0 rfl rfl
      have k1 := hS.cell (v := .slice none 0 0) 1 1 rfl rfl
      clear hS
      go_wp2
      have hq := (HSe.out.set 1 rfl 0 (.slice a1 d.next.length c1)).set 1 rfl 1 (.slice a k c)
      have q0 := hq.cell (v := .slice a1 d.next.length c1) 1 0 rfl rfl
      have q1 := hq.cell (v := .slice a k c) 1 1 rfl rfl
      refine bodyPost_ret (v := .agg #[.slice a1 d.next.length c1, .slice a k c]) (by simp [results, Try.results70, go_sem, q0, q1]) rfl ?_
      refine ⟨.slice a k c, rfl, ?_, hq.bel⟩
      have hrow := hq.row 3 rfl
      have e : d.ends.take k = d.ends := by rw [HhL.out]; exact List.take_length
      rw [e] at hrow
      have e2 : k = (d.ends.map (!·)).length := by rw [List.length_map]; exact HhL.out
      exact (own_of_row hrow).sl (by omega) |> fun z => by rw [e2] at z; exact e2 ▸ z
end Go.Proofs.Ytfgpkadhegdffaa
