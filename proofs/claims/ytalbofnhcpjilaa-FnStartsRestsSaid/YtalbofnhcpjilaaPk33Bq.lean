/-
  The walks over the program's leading and DfaStarts; what they answer, plain.
  Condition: the automaton reads as such.
-/
import Derived.Test.YtalbofnhcpjilaaPk32Cmb
namespace Go.Proofs.Ytalbofnhcpjilaa
open Go.RowKit
def canEnd (d : DfaD) (s : Nat) : Prop := ∃ w, isW w ∧ den d (runD d (s : Int) w) = true
theorem not_nodup {α : Type} [DecidableEq α] : ∀ {l : List α}, ¬ l.Nodup → ∃ (i j : Nat) (hj : j < l.length) (hi : i < j), l[i]'(Nat.lt_trans hi hj) = l[j]
 | [], h => absurd List.nodup_nil h
 | x :: l, h => by
  rw [List.nodup_cons] at h
  by_cases hx : x ∈ l
  ·obtain ⟨j, hj, e⟩ := List.getElem_of_mem hx
   exact ⟨0, j + 1, by simp only [List.length_cons]; omega, by omega, by simpa using e.symm⟩
  ·obtain ⟨i, j, hj, hi, e⟩ := not_nodup (l := l) fun hn => h ⟨hx, hn⟩
   exact ⟨i + 1, j + 1, by simp only [List.length_cons]; omega, by omega, by simpa using e⟩
theorem short_word {d : DfaD} (hd : fine d) {s : Nat} (hs : s < d.next.length) : ∀ (n : Nat) (w : List Nat), w.length ≤ n → isW w → den d (runD d (s : Int) w) = true → ∃ w', w'.length < d.next.length ∧ isW w' ∧ den d (runD d (s : Int) w') = true
 | n, w, hn, hw, he => by
  by_cases hl : w.length < d.next.length
  ·exact ⟨w, hl, hw, he⟩
  ·have key : ∀ i, ∃ t : Nat, t < d.next.length ∧ runD d (s : Int) (w.take i) = (t : Int) := fun i => runD_nat hd _ (isW_take hw i) hs
   have hnd : ¬ ((List.range (w.length + 1)).map fun i => runD d (s : Int) (w.take i)).Nodup := fun h => by
    have := nodup_le (m := (List.range d.next.length).map fun (i : Nat) => (i : Int)) h fun x hx => by
     obtain ⟨i, -, rfl⟩ := List.mem_map.1 hx
     obtain ⟨t, ht, e⟩ := key i
     rw [e]
     exact List.mem_map.2 ⟨t, List.mem_range.2 ht, rfl⟩
    simp only [List.length_map, List.length_range] at this
    omega
   obtain ⟨i, j, hj, hij, e⟩ := not_nodup hnd
   simp only [List.length_map, List.length_range] at hj
   simp only [List.getElem_map, List.getElem_range] at e
   have hr : runD d (s : Int) (w.take i ++ w.drop j) = runD d (s : Int) w := by
    rw [runD_app, e, ← runD_app, List.take_append_drop]
   have hlen : (w.take i ++ w.drop j).length < w.length := by
    rw [List.length_append, List.length_take, List.length_drop]
    omega
   cases n with
   | zero => omega
   | succ n => exact short_word hd hs n (w.take i ++ w.drop j) (by omega) (isW_append (isW_take hw i) (isW_drop hw j)) (by rw [hr]; exact he)
structure LdI (d : DfaD) (F : List Bool) (r s0 c0 : Nat) : Prop where
 len : F.length = d.next.length
 sound : ∀ s, s < d.next.length → F.getD s false = true → canEnd d s
 old : ∀ s w, s < d.next.length → isW w → w.length ≤ r → den d (runD d (s : Int) w) = true → F.getD s false = true
 done : ∀ s w, s < s0 → s < d.next.length → isW w → w.length ≤ r + 1 → den d (runD d (s : Int) w) = true → F.getD s false = true
 now : ∀ c w, c < c0 → c < 3 → isW w → w.length ≤ r → den d (runD d (s0 : Int) (c :: w)) = true → F.getD s0 false = true
theorem LdI.start {d : DfaD} (hd : dfaOk d.next d.ends = true) : LdI d d.ends 0 0 0 := by
 have hl := dfaOk_len hd
 refine ⟨hl.2.2, fun s hs h => ⟨[], isW_nil, by rw [runD_nil, den_nat]; exact h⟩, fun s w hs hw hl h => ?_, fun s w hs => absurd hs (by omega), fun c w hc => absurd hc (by omega)⟩
 have : w = [] := List.length_eq_zero_iff.1 (by omega)
 subst this
 rw [runD_nil, den_nat] at h
 exact h
theorem getD_setB {F : List Bool} {s t : Nat} {b : Bool} (hs : s < F.length) : (F.set s b).getD t false = if s = t then b else F.getD t false := by
 rw [List.getD_eq_getElem?_getD, List.getElem?_set]
 split
 ·subst_vars
  simp
 ·rw [List.getD_eq_getElem?_getD]
theorem LdI.letter {d : DfaD} (hd : dfaOk d.next d.ends = true) {F : List Bool} {r s0 c0 : Nat} (h : LdI d F r s0 c0) (hs : s0 < d.next.length) (hc : c0 < 3) : LdI d (F.set s0 (F.getD s0 false || F.getD (nxD d s0 c0) false)) r s0 (c0 + 1) := by
 have hf := fine_of hd
 obtain ⟨hn, hx⟩ := fine_nx hf hs hc
 have hsF : s0 < F.length := by rw [h.len]; exact hs
 have mono : ∀ t, F.getD t false = true → (F.set s0 (F.getD s0 false || F.getD (nxD d s0 c0) false)).getD t false = true := fun t ht => by
  rw [getD_setB hsF]
  split
  ·rename_i e
   rw [e, ht]
   rfl
  ·exact ht
 refine ⟨by rw [List.length_set]; exact h.len, fun s hs' hF => ?_, fun s w hs' hw hl he => mono s (h.old s w hs' hw hl he), fun s w hs1 hs' hw hl he => mono s (h.done s w hs1 hs' hw hl he), fun c w hc' hc3 hw hl he => ?_⟩
 ·rw [getD_setB hsF] at hF
  split at hF
  ·rename_i e
   subst e
   rw [Bool.or_eq_true] at hF
   rcases hF with hF | hF
   ·exact h.sound _ hs hF
   ·obtain ⟨w, hw, he⟩ := h.sound _ hn hF
    refine ⟨c0 :: w, isW_mk hc hw, ?_⟩
    rw [runD_cons, hx]
    exact he
  ·exact h.sound s hs' hF
 ·by_cases hcc : c < c0
  ·exact mono _ (h.now c w hcc hc3 hw hl he)
  ·obtain rfl : c = c0 := by omega
   rw [getD_setB hsF, if_pos rfl, Bool.or_eq_true]
   right
   rw [runD_cons, hx] at he
   exact h.old _ w hn hw hl he
theorem LdI.state {d : DfaD} {F : List Bool} {r s0 : Nat} (h : LdI d F r s0 3) : LdI d F r (s0 + 1) 0 :=
 ⟨h.len, h.sound, h.old, fun s w hs hs' hw hl he => by
  by_cases e : s < s0
  ·exact h.done s w e hs' hw hl he
  ·obtain rfl : s = s0 := by omega
   cases w with
   | nil => exact h.old s [] hs' hw (Nat.zero_le _) he
   | cons c w =>
    obtain ⟨h1, h2⟩ := isW_cons hw
    exact h.now c w h1 h1 h2 (by simpa using hl) he, fun c w hc => absurd hc (by omega)⟩
theorem LdI.round {d : DfaD} {F : List Bool} {r : Nat} (h : LdI d F r d.next.length 0) : LdI d F (r + 1) 0 0 :=
 ⟨h.len, h.sound, fun s w hs hw hl he => h.done s w hs hs hw hl he, fun s w hs => absurd hs (by omega), fun c w hc => absurd hc (by omega)⟩
structure LdE (d : DfaD) (F : List Bool) : Prop where
 len : F.length = d.next.length
 iff : ∀ s, s < d.next.length → (F.getD s false = true ↔ canEnd d s)
theorem LdI.all {d : DfaD} (hd : dfaOk d.next d.ends = true) {F : List Bool} (h : LdI d F d.next.length 0 0) : LdE d F :=
 ⟨h.len, fun s hs => ⟨h.sound s hs, fun ⟨w, hw, he⟩ => by
  obtain ⟨w', h1, h2, h3⟩ := short_word (fine_of hd) hs w.length w (Nat.le_refl _) hw he
  exact h.old s w' hs h2 (by omega) h3⟩⟩
theorem boolC_at {F : List Bool} {i : Nat} (h : i < F.length) : (boolCells F)[i]? = some (.bool (F.getD i false)) := by
 simp [boolCells, h]
theorem boolC_set (F : List Bool) (i : Nat) (b : Bool) : (boolCells F).set i (.bool b) = boolCells (F.set i b) := by
 unfold boolCells
 rw [← List.map_set (f := fun x => Value.bool x)]
theorem one_bools {F : List Bool} : ∀ u ∈ boolCells F, u.oneCell' = true := fun u hu => by
 obtain ⟨x, -, rfl⟩ := List.mem_map.1 hu
 rfl
theorem row_len {d : DfaD} {w : World} {b1 o1 cv b2 o2 cw : Nat} (h : DfaC w d b1 o1 cv b2 o2 cw) {u : World} (hb : Below w.heap.size w u) {i : Nat} (hi : i < d.next.length) : ∃ b3 o3 c3, 3 ≤ c3 ∧ c3 ≤ 9223372036854775807 ∧ u.cell? ⟨b1, o1 + i, none⟩ = some (.slice (some ⟨b3, o3, none⟩) 3 c3) ∧ ∀ (u' : World), Below w.heap.size w u' → ∀ c, c < 3 → u'.cell? ⟨b3, o3 + c, none⟩ = some (.int .i64 (nxD d i c : Nat)) := by
 obtain ⟨b3, o3, c3, h0, h1, h2, h3, h4⟩ := h.row i hi
 exact ⟨b3, o3, c3, h1, h2, (bcell hb b1 _ h.hb1).trans h3, fun u' hb' c hc => (bcell hb' b3 _ h0).trans (h4 c hc)⟩
set_option maxRecDepth 100000 in
set_option maxHeartbeats 8000000 in
theorem implLeading_any (d : DfaD) (v : Value) (w : World) (hd : dfaOk d.next d.ends = true) (h : DfaR 0 w v d) :
  Calls Try.prog 76 #[v] w fun e w' => ∃ F a c, LdE d F ∧ e = .returned (.slice a F.length c) ∧ Bools w.heap.size w' (.slice a F.length c) F ∧ Below w.heap.size w w' := by
 have Hr := Lib.hid (show ∀ u : World, Below w.heap.size w u → Bools 0 u (match v with | .agg vs => vs.getD 1 undef | _ => undef) d.ends from fun u hb => by
  obtain ⟨v1, v2, rfl, -, q2⟩ := h
  exact Sl.below q2 hb)
 obtain ⟨b1, o1, cv, b2, o2, cw, rfl, hC⟩ := dfa_open hd h
 obtain ⟨L, hL⟩ : ∃ L, L = d.next.length := ⟨_, rfl⟩
 obtain ⟨i0, hi, hz0, hz1, hz2⟩ := info_parts Try.infoBool
 have hl2 := hC.l2
 have hl1 := hC.l1
 have hle := hC.le
 have hc1 := hC.c1
 have hc2 := hC.c2
 have hS0 := (St.start w).alloc _ rfl #[.slice (some ⟨b1, o1, none⟩) L cv, .slice (some ⟨b2, o2, none⟩) L cw] 27
 have hst := LdI.start hd
 have hEn := fun (u : World) (hb : Below w.heap.size w u) => (show Sl 0 u (.slice (some ⟨b2, o2, none⟩) L cw) L 1 (boolCells d.ends) from by
  have := Hr.out u hb
  unfold Bools at this
  rw [hle] at this
  rw [hL]
  exact this)
 rw [← hL] at hl1 hl2 hle hc1 hc2
 rw [← hL]
 have HC := Lib.hid hC
 have HEn := Lib.hid hEn
 have Hhd := Lib.hid hd; clear hd
 have HhL := Lib.hid hL; clear hL
 have Hhi := Lib.hid hi; clear hi
 have Hhz0 := Lib.hid hz0; clear hz0
 have Hhz1 := Lib.hid hz1; clear hz1
 have Hhz2 := Lib.hid hz2; clear hz2
 have Hhst := Lib.hid hst; clear hst
 have Hhle := Lib.hid hle; clear hle
 have HSe := Lib.hid ((hS0.alloc (w.heap.size + 1) (by simp) #[] 4).boxrow 1 0 1 [] rfl rfl (by unfold maxLen; omega))
 have HS0 := Lib.hid hS0
 clear h hC hS0 hEn Hr
 go_enter Try.func76, Try.ntmps76
 have e0 := HSe.out.cell (v := .slice (some ⟨b1, o1, none⟩) L cv) 0 0 rfl rfl
 have e1 := HSe.out.cell (v := .slice (some ⟨b2, o2, none⟩) L cw) 0 1 rfl rfl
 go_upto_block 0 with (at_builtin; refine wpList_append_sl _ rfl _ _ _ rfl _ 4 i0 (.bool false) 1 1 Try.underlying25 Hhi.out Hhz0.out Hhz1.out Hhz2.out rfl (by omega) (.slice (some ⟨w.heap.size + 1, 0, none⟩) 0 0) 0 [] rfl (HSe.out.row 1 rfl) (.slice (some ⟨b2, o2, none⟩) L cw) L (boolCells d.ends) rfl (HEn.out _ HSe.out.bel) one_bools (by unfold maxLen; omega) (by omega) HSe.out.size ?_; intro a6 c6 w6 hown6 hgrow6 hat6; have hS6 := HSe.out.appS 1 rfl hown6 hgrow6 hat6; simp only [Nat.zero_add, List.nil_append] at hS6; have HS6 := Lib.hid hS6; clear hown6 hgrow6 hat6 hS6; have e0 := HS6.out.cell (v := .slice (some ⟨b1, o1, none⟩) L cv) 0 0 rfl rfl)
 obtain ⟨g, c7, he⟩ := HS6.out.rowform 1 rfl (by omega)
 simp only [Value.slice.injEq, true_and] at he
 obtain ⟨rfl, rfl⟩ := he
 obtain ⟨hcc, hcm⟩ := HS6.out.rowcap 1 rfl
 clear e1
 go_wp2
 go_loopw [15] (fun i wr => ∃ (r : Nat) (F : List Bool), i = .int .i64 (r : Int) ∧ r ≤ L ∧ LdI d F r 0 0 ∧ St w wr [Ent.box w.heap.size #[.slice (some ⟨b1, o1, none⟩) L cv, .slice (some ⟨b2, o2, none⟩) L cw] 27, Ent.row 4 1 (.slice (some ⟨g, 0, none⟩) L c6) L (boolCells F)]) (fun i _ => L - (intOf i).toNat)
 case atStart => exact ⟨0, d.ends, rfl, Nat.zero_le _, Hhst.out, HS6.out⟩
 case round =>
  obtain ⟨r, F, rfl, hr, hI, hS⟩ := hrel
  have HI := Lib.hid hI
  by_cases hlt : r < L
  ·have hlt2 : (r : Int) < L := by omega
   have e0 := hS.cell (v := .slice (some ⟨b1, o1, none⟩) L cv) 0 0 rfl rfl
   have HS := Lib.hid hS
   clear hS hI
   obtain ⟨wo, hwo⟩ : ∃ wo : World, wo = wr := ⟨_, rfl⟩
   subst hwo
   go_upto_block 2 with fail
   go_wp2
   go_loopw [20] (fun i wr => ∃ (s : Nat) (F : List Bool), i = .int .i64 (s : Int) ∧ s ≤ L ∧ LdI d F r s 0 ∧ St w wr [Ent.box w.heap.size #[.slice (some ⟨b1, o1, none⟩) L cv, .slice (some ⟨b2, o2, none⟩) L cw] 27, Ent.row 4 1 (.slice (some ⟨g, 0, none⟩) L c6) L (boolCells F)]) (fun i _ => L - (intOf i).toNat)
   case atStart => exact ⟨0, F, rfl, Nat.zero_le _, HI.out, HS.out⟩
   case round =>
    obtain ⟨s, F2, rfl, hs, hI, hS⟩ := hrel
    have HI2 := Lib.hid hI
    by_cases hslt : s < L
    ·have hslt2 : (s : Int) < L := by omega
     obtain ⟨b3, o3, c3, hc31, hc32, k3, k4⟩ := row_len HC.out hS.bel (i := s) (by rw [← HhL.out]; exact hslt)
     have K4 := Lib.hid k4
     have HS2 := Lib.hid hS
     clear hS hI k4 hlt
     obtain ⟨wm, hwm⟩ : ∃ wm : World, wm = wr := ⟨_, rfl⟩
     subst hwm
     go_upto_block 4 with fail
     go_wp2
     go_loopw [27] (fun i wr => ∃ (c : Nat) (F : List Bool), i = .int .i64 (c : Int) ∧ c ≤ 3 ∧ LdI d F r s c ∧ St w wr [Ent.box w.heap.size #[.slice (some ⟨b1, o1, none⟩) L cv, .slice (some ⟨b2, o2, none⟩) L cw] 27, Ent.row 4 1 (.slice (some ⟨g, 0, none⟩) L c6) L (boolCells F)]) (fun i _ => 3 - (intOf i).toNat)
     case atStart => exact ⟨0, F2, rfl, Nat.zero_le _, HI2.out, HS2.out⟩
     case round =>
      obtain ⟨c, F3, rfl, hc, hI, hS⟩ := hrel
      by_cases hc3 : c < 3
      ·have hc3I : (c : Int) < 3 := by omega
       have hsL : s < d.next.length := by rw [← HhL.out]; exact hslt
       have hI2 := hI.letter Hhd.out hsL hc3
       have k5 := K4.out wr hS.bel c hc3
       have hFl : F3.length = L := by rw [hI.len, HhL.out]
       obtain ⟨t, ht⟩ : ∃ t, nxD d s c = t := ⟨_, rfl⟩
       have htL : t < L := by rw [← ht, HhL.out]; exact HC.out.lt s c hsL hc3
       rw [ht] at k5 hI2
       have htLI : (t : Int) < L := by omega
       have hx0 : (boolCells F3)[s]? = some (.bool (F3.getD s false)) := boolC_at (by omega)
       have hy0 : (boolCells F3)[t]? = some (.bool (F3.getD t false)) := boolC_at (by omega)
       obtain ⟨x, hx⟩ : ∃ x, F3.getD s false = x := ⟨_, rfl⟩
       obtain ⟨y, hy⟩ : ∃ y, F3.getD t false = y := ⟨_, rfl⟩
       rw [hx] at hx0 hI2
       rw [hy] at hy0 hI2
       have r0 := hS.rcell (v := .bool x) 1 s rfl (by omega) hx0
       have r1 := hS.rcell (v := .bool y) 1 t rfl (by omega) hy0
       have f0 := hS.rfr 1 s rfl
       have HS3 := Lib.hid hS
       have HI3 := Lib.hid hI2
       clear hS hI hI2 hx hy hx0 hy0 hsL ht hFl
       cases x
       ·have hS4 := HS3.out.store 1 rfl s (.bool y)
        rw [boolC_set] at hS4
        have HS4 := Lib.hid hS4
        clear hS4
        go_wp2
        go_roundw
        case rel => exact ⟨c + 1, F3.set s (false || y), by go_num, by omega, HI3.out, by rw [Bool.false_or]; exact HS4.out⟩
        case measure => simp [intOf]; omega
       ·have hS4 := HS3.out.store 1 rfl s (.bool true)
        rw [boolC_set] at hS4
        have HS4 := Lib.hid hS4
        clear hS4
        go_wp2
        go_roundw
        case rel => exact ⟨c + 1, F3.set s (true || y), by go_num, by omega, HI3.out, by rw [Bool.true_or]; exact HS4.out⟩
        case measure => simp [intOf]; omega
      ·obtain rfl : c = 3 := by omega
       have HI3 := Lib.hid hI.state
       have HS3 := Lib.hid hS
       clear hI hS
       go_wp2
       go_roundw
       case rel => exact ⟨s + 1, F3, by go_num, by omega, HI3.out, HS3.out⟩
       case measure => simp [intOf]; omega
    ·obtain rfl : s = L := by omega
     have hI3 : LdI d F2 r d.next.length 0 := by rw [← HhL.out]; exact hI
     have HI3 := Lib.hid hI3.round
     have HS3 := Lib.hid hS
     clear hI hS hI3 hslt
     go_wp2
     go_roundw
     case rel => exact ⟨r + 1, F2, by go_num, by omega, HI3.out, HS3.out⟩
     case measure => simp [intOf]; omega
  ·obtain rfl : r = L := by omega
   have hI3 : LdI d F d.next.length 0 0 := by rw [← HhL.out]; exact hI
   have hE := hI3.all Hhd.out
   have hFl : F.length = r := by rw [hE.len, HhL.out]
   have HS3 := Lib.hid hS
   have HE := Lib.hid hE
   have HhFl := Lib.hid hFl; clear hFl
   clear hI hS hI3 hE hlt
   go_wp2
   go_ret
   refine ⟨F, some ⟨g, 0, none⟩, c6, HE.out, by rw [HhFl.out]; rfl, ?_, HS3.out.bel⟩
   have h2 := (own_of_row (HS3.out.row 1 rfl)).sl (by omega)
   unfold Bools
   rw [HhFl.out]
   exact h2
def FlX (d : DfaD) (F : List Bool) (B H : Nat) (v : Value) : Ent := ⟨fun k => B ≤ k ∧ k < H, fun u => LdE d F ∧ ∃ w : World, w.heap.size = H ∧ Bools B w v F ∧ ∀ k, B ≤ k → k < H → u.heap[k]? = w.heap[k]?,
 fun _ _ ⟨h0, w, h1, h2, h3⟩ hk => ⟨h0, w, h1, h2, fun k p q => (hk k ⟨p, q⟩).trans (h3 k p q)⟩⟩
theorem St.flX {w0 w w' : World} {L : List Ent} (h : St w0 w L) (hb : Below w.heap.size w w') {v : Value} {d : DfaD} {F : List Bool} (he : LdE d F) (hr : Bools w.heap.size w' v F) : St w0 w' (L ++ [FlX d F w.heap.size w'.heap.size v]) :=
 h.add hb _ ⟨he, w', rfl, hr, fun _ _ _ => rfl⟩ fun _ hk => hk
theorem St.flXr {w0 w : World} {L : List Ent} (h : St w0 w L) (i : Nat) {B H : Nat} {v : Value} {d : DfaD} {F : List Bool} (hx : L[i]? = some (FlX d F B H v)) : LdE d F ∧ Bools 0 w v F := by
 obtain ⟨⟨h0, w', h1, h2, h5⟩, hf⟩ := h.has i _ hx
 refine ⟨h0, ?_⟩
 by_cases hlt : B < H
 ·have hs : w'.heap.size ≤ w.heap.size := by
   have : H - 1 < w.heap.size := (hf (H - 1) (show B ≤ H - 1 ∧ H - 1 < H by omega)).2
   omega
  exact Sl.keptJ h2 (Nat.zero_le _) hs fun k p q => h5 k p (by omega)
 ·obtain ⟨g1, a, cap, g2, g3, g4, g5⟩ := h2
  refine ⟨g1, a, cap, g2, g3, g4, fun hn => ?_⟩
  obtain ⟨b, off, -, p, q, -⟩ := g5 hn
  omega
def RStarts (d : DfaD) (w : World) (e : Ending) (w' : World) : Prop := ∃ F, LdE d F ∧ RDs (minD ⟨d.next, F⟩) w e w'
theorem flags_ok {d : DfaD} (hd : dfaOk d.next d.ends = true) {F : List Bool} (h : F.length = d.next.length) : dfaOk d.next F = true := by
 have hl := dfaOk_len hd
 exact dfaOk_of hl.1 hl.2.1 h fun i hi => dfaOk_row hd hi
set_option maxRecDepth 100000 in
set_option maxHeartbeats 8000000 in
theorem implStarts_anyD (d : DfaD) (v : Value) (w : World) (hd : dfaOk d.next d.ends = true) (h : DfaR 0 w v d) :
  Calls Try.prog 32 #[v] w fun e w' => RStarts d w e w' := by
 have H := Lib.hid h
 obtain ⟨v1, v2, rfl, g1, g2⟩ := h
 obtain ⟨a1, c1, rfl, hc1, hc2, -⟩ := g1.formI
 have hS0 := ((St.start w).alloc _ rfl #[.slice a1 d.next.length c1, v2] 27).alloc (w.heap.size + 1) (by simp) #[.slice none 0 0, .slice none 0 0] 27
 have e0 := hS0.cell (v := .slice a1 d.next.length c1) 0 0 rfl rfl
 have e1 := hS0.cell (v := v2) 0 1 rfl rfl
 have Hg := Lib.hid g1
 have HhS0 := Lib.hid hS0; clear hS0
 have Hhd := Lib.hid hd; clear hd
 clear g1 g2
 go_enter Try.func32, Try.ntmps32
 go_wp2_with fail
 refine (implDfaValid_any d _ _ (H.out.below HhS0.out.bel) _ Hhd.out).mono ?_
 rintro e w1 ⟨rfl, hb1⟩
 have HS1 := Lib.hid (HhS0.out.call hb1)
 clear hb1 e0 e1
 go_wp2
 refine wp_region_any (by kernel_rfl) ?_
 refine wpAny_invA (fun A listed a w' => ∃ (l0 l1 l2 l3 l4 l5 l6 : Bool) (F : List Bool) (fa : Option Addr) (fc : Nat) (B1 : Nat) (H1 : Nat) (m1 : Option Addr) (m2 : Nat) (m3 : Option Addr) (m4 : Nat) (BB : Nat) (HH : Nat), listed = #[l0, l1, l2, l3, l4, l5, l6] ∧ (l4 = true → l3 = true) ∧ (l5 = true → l3 = true) ∧ (l6 = true → l3 = true ∧ l5 = true) ∧
   a = ⟨((((((A.tmps.setIfInBounds 7 (if l0 = true then .pointer (some ⟨w.heap.size, 0, none⟩) else A.tmps.getD 7 undef)).setIfInBounds 8 (if l1 = true then .slice a1 d.next.length c1 else A.tmps.getD 8 undef)).setIfInBounds 9 (if l2 = true then .agg #[.slice a1 d.next.length c1, v2] else A.tmps.getD 9 undef)).setIfInBounds 10 (if l3 = true then .slice fa F.length fc else A.tmps.getD 10 undef)).setIfInBounds 11 (if l4 = true then .agg #[.slice a1 d.next.length c1, .slice fa F.length fc] else A.tmps.getD 11 undef)).setIfInBounds 12 (if l5 = true then .agg #[.slice m1 (minD ⟨d.next, F⟩).next.length m2, .slice m3 (minD ⟨d.next, F⟩).ends.length m4] else A.tmps.getD 12 undef)), A.defers⟩ ∧
   St w w' [Ent.box w.heap.size #[.slice a1 d.next.length c1, v2] 27, (if l6 = true then Ent.box (w.heap.size + 1) #[.slice m1 (minD ⟨d.next, F⟩).next.length m2, .slice m3 (minD ⟨d.next, F⟩).ends.length m4] 27 else Ent.box (w.heap.size + 1) #[.slice none 0 0, .slice none 0 0] 27), (if l3 = true then FlX d F B1 H1 (.slice fa F.length fc) else Ent.nil), (if l5 = true then DfaX w.heap.size BB HH (.slice m1 (minD ⟨d.next, F⟩).next.length m2) (.slice m3 (minD ⟨d.next, F⟩).ends.length m4) (minD ⟨d.next, F⟩) else Ent.nil)]) ?_ ?_ ?_
 ·rintro listed a w' ⟨l0, l1, l2, l3, l4, l5, l6, F, fa, fc, B1, H1, m1, m2, m3, m4, BB, HH, rfl, hd4, hd5, hd6, rfl, hS⟩ i hi
  obtain ⟨hun, o, ho, hall⟩ := mem_ready.1 hi
  have hlt := (Array.getElem?_eq_some_iff.1 ho).1
  refine wpOp_step ho (fun K hK => ?_)
  clear hi
  have HS := Lib.hid hS
  clear hS
  simp only [List.setIfInBounds_toArray, List.set_cons_zero, List.set_cons_succ, Array.getD_eq_getD_getElem?, List.getElem?_toArray, List.getElem?_cons_zero, List.getElem?_cons_succ, Option.getD_some]
  obtain h | h | h | h | h | h | h : i = 0 ∨ i = 1 ∨ i = 2 ∨ i = 3 ∨ i = 4 ∨ i = 5 ∨ i = 6 := by simp at hlt; omega
  all_goals subst h
  all_goals simp only [List.getElem?_toArray, List.getElem?_cons_zero, List.getElem?_cons_succ, Option.some.injEq] at ho
  all_goals subst ho
  all_goals simp [Region.binds] at hun hall
  ·subst hun
   go_simp
   exact hK _ _ ⟨true, l1, l2, l3, l4, l5, l6, F, fa, fc, B1, H1, m1, m2, m3, m4, BB, HH, rfl, hd4, hd5, hd6, (by simp), HS.out⟩
  ·obtain rfl := hall
   subst hun
   have e0 := HS.out.cell (v := .slice a1 d.next.length c1) 0 0 rfl rfl
   go_simp
   exact hK _ _ ⟨true, true, l2, l3, l4, l5, l6, F, fa, fc, B1, H1, m1, m2, m3, m4, BB, HH, rfl, hd4, hd5, hd6, (by simp), HS.out⟩
  ·subst hun
   have e0 := HS.out.cell (v := .slice a1 d.next.length c1) 0 0 rfl rfl
   have e1 := HS.out.cell (v := v2) 0 1 rfl rfl
   go_simp
   exact hK _ _ ⟨l0, l1, true, l3, l4, l5, l6, F, fa, fc, B1, H1, m1, m2, m3, m4, BB, HH, rfl, hd4, hd5, hd6, (by simp), HS.out⟩
  ·obtain rfl := hall
   subst hun
   obtain rfl : l4 = false := by cases l4 with | false => rfl | true => simpa using hd4 rfl
   obtain rfl : l5 = false := by cases l5 with | false => rfl | true => simpa using hd5 rfl
   obtain rfl : l6 = false := offL hd6 rfl
   go_simp
   go_at_call 76
   refine (implLeading_any d _ _ Hhd.out (H.out.below HS.out.bel)).mono ?_
   rintro e u1 ⟨Fz, faz, fcz, hE, rfl, hF, hb⟩
   have hS2 := (HS.out.flX hb hE hF).pick [0, 1, 4, 3] (by decide)
   have HhS2 := Lib.hid hS2; clear hS2
   go_simp
   exact hK _ _ ⟨l0, l1, true, true, false, false, false, Fz, faz, fcz, _, _, m1, m2, m3, m4, BB, HH, rfl, by simp, by simp, by simp, (by simp), HhS2.out⟩
  ·obtain ⟨rfl, rfl⟩ := hall
   subst hun
   go_simp
   exact hK _ _ ⟨l0, true, l2, true, true, l5, l6, F, fa, fc, B1, H1, m1, m2, m3, m4, BB, HH, rfl, by simp, hd5, hd6, (by simp), HS.out⟩
  ·obtain ⟨rfl, rfl⟩ := hall
   subst hun
   obtain rfl : l6 = false := offR hd6 rfl
   go_simp
   go_at_call 77
   refine (implMin_any ⟨d.next, F⟩ _ _ (flags_ok Hhd.out (HS.out.flXr 2 rfl).1.len) ⟨_, _, rfl, Hg.out.below HS.out.bel, (HS.out.flXr 2 rfl).2⟩).mono ?_
   rintro e u1 ⟨z1, z2, z3, z4, rfl, hown, hb⟩
   have hS2 := (HS.out.dfaX hb hown.r).pick [0, 1, 2, 4] (by decide)
   have HhS2 := Lib.hid hS2; clear hS2
   go_simp
   exact hK _ _ ⟨l0, l1, l2, true, true, true, false, F, fa, fc, B1, H1, z1, z2, z3, z4, _, _, rfl, by simp, by simp, by simp, (by simp), HhS2.out⟩
  ·obtain ⟨rfl, rfl, rfl, rfl, rfl, rfl, -⟩ := hall
   subst hun
   have f0 := HS.out.fr 1 0 rfl
   have k0 := HS.out.cell (v := .slice none 0 0) 1 0 rfl rfl
   have f1 := HS.out.fr 1 1 rfl
   have k1 := HS.out.cell (v := .slice none 0 0) 1 1 rfl rfl
   go_simp
   exact hK _ _ ⟨true, true, true, true, true, true, true, F, fa, fc, B1, H1, m1, m2, m3, m4, BB, HH, rfl, by simp, by simp, by simp, (by simp), ((HS.out.set 1 rfl 0 (.slice m1 (minD ⟨d.next, F⟩).next.length m2)).set 1 rfl 1 (.slice m3 (minD ⟨d.next, F⟩).ends.length m4))⟩
 ·rintro listed a w' ⟨l0, l1, l2, l3, l4, l5, l6, F, fa, fc, B1, H1, m1, m2, m3, m4, BB, HH, rfl, hd4, hd5, hd6, rfl, hS⟩ hr
  have hall := ready_nilM (by kernel_rfl) rfl hr
  obtain rfl : l0 = true := by simpa using hall 0 (by simp)
  obtain rfl : l1 = true := by simpa using hall 1 (by simp)
  obtain rfl : l2 = true := by simpa using hall 2 (by simp)
  obtain rfl : l3 = true := by simpa using hall 3 (by simp)
  obtain rfl : l4 = true := by simpa using hall 4 (by simp)
  obtain rfl : l5 = true := by simpa using hall 5 (by simp)
  obtain rfl : l6 = true := by simpa using hall 6 (by simp)
  clear hall hr hd4 hd5 hd6
  simp only [↓reduceIte] at hS ⊢
  simp only [List.setIfInBounds_toArray, List.set_cons_zero, List.set_cons_succ]
  have HS9 := Lib.hid hS
  clear hS
  have q0 := HS9.out.cell (v := .slice m1 (minD ⟨d.next, F⟩).next.length m2) 1 0 rfl rfl
  have q1 := HS9.out.cell (v := .slice m3 (minD ⟨d.next, F⟩).ends.length m4) 1 1 rfl rfl
  go_wp2
  refine bodyPost_ret (v := .agg #[.slice m1 (minD ⟨d.next, F⟩).next.length m2, .slice m3 (minD ⟨d.next, F⟩).ends.length m4]) (by simp [results, Try.results32, go_sem, q0, q1]) rfl ?_
  exact ⟨F, (HS9.out.flXr 2 rfl).1, _, _, _, _, rfl, HS9.out.dfaXr 3 rfl, HS9.out.bel⟩
 ·refine ⟨false, false, false, false, false, false, false, [], none, 0, 0, 0, none, 0, none, 0, 0, 0, rfl, by simp, by simp, by simp, (by simp), ?_⟩
  exact HS1.out.drew.pick [0, 1, 2, 3] (by decide)
theorem LdE.ex (d : DfaD) : ∃ F, LdE d F :=
 ⟨(List.range d.next.length).map fun s => @decide (canEnd d s) (Classical.propDecidable _), by simp, fun s hs => by
   rw [List.getD_eq_getElem?_getD, List.getElem?_map, List.getElem?_range hs]
   simp⟩
theorem LdE.uniq {d : DfaD} {F G : List Bool} (h : LdE d F) (h' : LdE d G) : F = G := by
 refine List.ext_getElem (by rw [h.len, h'.len]) fun i h1 h2 => ?_
 have hi : i < d.next.length := by rw [← h.len]; exact h1
 have e := (h.iff i hi).trans (h'.iff i hi).symm
 have e1 : F.getD i false = F[i] := by simp [h1]
 have e2 : G.getD i false = G[i] := by simp [h2]
 rw [e1, e2] at e
 exact Bool.eq_iff_iff.2 e
theorem implStartsF_any (d : DfaD) (F : List Bool) (hF : LdE d F) (M : DfaD) (hM : minD ⟨d.next, F⟩ = M) (v : Value) (w : World) (hd : dfaOk d.next d.ends = true) (h : DfaR 0 w v d) :
  Calls Try.prog 32 #[v] w fun e w' => RDs M w e w' :=
 (implStarts_anyD d v w hd h).mono fun e w' ⟨G, hG, hr⟩ => by
  rw [hG.uniq hF, hM] at hr
  exact hr
theorem starts_acc {d : DfaD} (hd : dfaOk d.next d.ends = true) {F : List Bool} (hF : LdE d F) {w : List Nat} (hw : isW w) : accD (minD ⟨d.next, F⟩) w = true ↔ ∃ u, isW u ∧ accD d (w ++ u) = true := by
 have hok := flags_ok hd hF.len
 rw [min_acc (fine_of hok) hw]
 have hl := dfaOk_len hd
 obtain ⟨t, ht, hr⟩ := runD_nat (fine_of hd) w (s := 0) hw (by omega)
 have hr : runD d 0 w = (t : Int) := hr
 have e : accD ⟨d.next, F⟩ w = F.getD t false := by
  show den ⟨d.next, F⟩ (runD d 0 w) = _
  rw [hr]
  exact den_nat _ _
 rw [e, hF.iff t ht]
 constructor
 ·rintro ⟨u, hu, he⟩
  refine ⟨u, hu, ?_⟩
  show den d (runD d 0 (w ++ u)) = true
  rw [runD_app, hr]
  exact he
 ·rintro ⟨u, hu, he⟩
  have he : den d (runD d 0 (w ++ u)) = true := he
  rw [runD_app, hr] at he
  exact ⟨u, hu, he⟩
set_option maxRecDepth 100000 in
set_option maxHeartbeats 4000000 in
theorem nfaOfI_any (d : DfaD) (v : Value) (w : World) (hd : dfaOk d.next d.ends = true) (h : DfaR 0 w v d) :
  Calls Try.prog 28 #[v] w fun e w' => RNfaS (nfaOf d) w e w' := by
 have H := Lib.hid h
 obtain ⟨v1, v2, rfl, g1, g2⟩ := h
 have hS0 := ((St.start w).alloc _ rfl #[v1, v2] 27).alloc (w.heap.size + 1) (by simp) #[.int .i64 0, .slice none 0 0, .slice none 0 0, .slice none 0 0] 50
 have e0 := hS0.cell (v := v1) 0 0 rfl rfl
 have e1 := hS0.cell (v := v2) 0 1 rfl rfl
 have hno := fun (u : World) (hu : Below w.heap.size w u) => implNfa_any d (.agg #[v1, v2]) u hd (H.out.below hu)
 obtain ⟨N, hN⟩ : ∃ N, nfaOf d = N := ⟨_, rfl⟩
 rw [hN] at hno
 rw [hN]
 have Hno := Lib.hid hno
 have Hhd := Lib.hid hd; clear hd
 have HhN := Lib.hid hN; clear hN
 have HhS0 := Lib.hid hS0; clear hS0
 clear g1 g2 hno
 go_enter Try.func28, Try.ntmps28
 go_wp2_with fail
 refine (implDfaValid_any d _ _ (H.out.below HhS0.out.bel) _ Hhd.out).mono ?_
 rintro e w1 ⟨rfl, hb1⟩
 have HS1 := Lib.hid (HhS0.out.call hb1)
 clear hb1 e0 e1
 have e0 := HS1.out.cell (v := v1) 0 0 rfl rfl
 have e1 := HS1.out.cell (v := v2) 0 1 rfl rfl
 go_wp2_with fail
 refine (Hno.out _ HS1.out.bel).mono ?_
 rintro e w2 ⟨a1, c1, a2, c2, a3, c3, rfl, hS'⟩
 have HS2 := Lib.hid (HS1.out.cat hS')
 clear hS' e0 e1
 have f0 := HS2.out.fr 1 0 rfl
 have k0 := HS2.out.cell (v := .int .i64 0) 1 0 rfl rfl
 have f1 := HS2.out.fr 1 1 rfl
 have k1 := HS2.out.cell (v := .slice none 0 0) 1 1 rfl rfl
 have f2 := HS2.out.fr 1 2 rfl
 have k2 := HS2.out.cell (v := .slice none 0 0) 1 2 rfl rfl
 have f3 := HS2.out.fr 1 3 rfl
 have k3 := HS2.out.cell (v := .slice none 0 0) 1 3 rfl rfl
 have HS3 := Lib.hid ((((HS2.out.set 1 rfl 0 (.int .i64 N.states)).set 1 rfl 1 (.slice a1 N.moves.length c1)).set 1 rfl 2 (.slice a2 N.firsts.length c2)).set 1 rfl 3 (.slice a3 N.ends.length c3))
 have q0 := HS3.out.cell (v := .int .i64 N.states) 1 0 rfl rfl
 have q1 := HS3.out.cell (v := .slice a1 N.moves.length c1) 1 1 rfl rfl
 have q2 := HS3.out.cell (v := .slice a2 N.firsts.length c2) 1 2 rfl rfl
 have q3 := HS3.out.cell (v := .slice a3 N.ends.length c3) 1 3 rfl rfl
 go_wp2
 refine bodyPost_ret (v := .agg #[.int .i64 N.states, .slice a1 N.moves.length c1, .slice a2 N.firsts.length c2, .slice a3 N.ends.length c3]) (by simp [results, Try.results28, go_sem, q0, q1, q2, q3]) rfl ?_
 exact ⟨a1, c1, a2, c2, a3, c3, rfl, HS3.out.pick [2, 3, 4] (by decide)⟩
def nfaQ (d : DfaD) : NfaD := if dfaOk d.next d.ends = true then nfaOf d else ⟨0, [], [], []⟩
set_option maxRecDepth 100000 in
set_option maxHeartbeats 4000000 in
theorem implNfaOfQ_any (d : DfaD) (N : NfaD) (hN : nfaQ d = N) (v : Value) (w : World) (h : DfaR 0 w v d) :
  Calls Try.prog 28 #[v] w fun e w' => RNfaS N w e w' := by
 cases hok : dfaOk d.next d.ends
 case true =>
  rw [nfaQ, if_pos hok] at hN
  subst hN
  exact nfaOfI_any d v w hok h
 obtain rfl : N = ⟨0, [], [], []⟩ := by rw [← hN, nfaQ, if_neg (by rw [hok]; simp)]
 have H := Lib.hid h
 obtain ⟨v1, v2, rfl, g1, g2⟩ := h
 have hS0 := ((St.start w).alloc _ rfl #[v1, v2] 27).alloc (w.heap.size + 1) (by simp) #[.int .i64 0, .slice none 0 0, .slice none 0 0, .slice none 0 0] 50
 have e0 := hS0.cell (v := v1) 0 0 rfl rfl
 have e1 := hS0.cell (v := v2) 0 1 rfl rfl
 have HhS0 := Lib.hid hS0; clear hS0
 have Hhok := Lib.hid hok; clear hok
 clear g1 g2 hN
 go_enter Try.func28, Try.ntmps28
 go_wp2_with fail
 refine (implDfaValid_any d _ _ (H.out.below HhS0.out.bel) _ Hhok.out).mono ?_
 rintro e w1 ⟨rfl, hb1⟩
 have HS1 := Lib.hid (HhS0.out.call hb1)
 clear hb1 e0 e1
 have f0 := HS1.out.fr 1 0 rfl
 have k0 := HS1.out.cell (v := .int .i64 0) 1 0 rfl rfl
 have f1 := HS1.out.fr 1 1 rfl
 have k1 := HS1.out.cell (v := .slice none 0 0) 1 1 rfl rfl
 have f2 := HS1.out.fr 1 2 rfl
 have k2 := HS1.out.cell (v := .slice none 0 0) 1 2 rfl rfl
 have f3 := HS1.out.fr 1 3 rfl
 have k3 := HS1.out.cell (v := .slice none 0 0) 1 3 rfl rfl
 have HS3 := Lib.hid ((((HS1.out.set 1 rfl 0 (.int .i64 0)).set 1 rfl 1 (.slice none 0 0)).set 1 rfl 2 (.slice none 0 0)).set 1 rfl 3 (.slice none 0 0))
 have q0 := HS3.out.cell (v := .int .i64 0) 1 0 rfl rfl
 have q1 := HS3.out.cell (v := .slice none 0 0) 1 1 rfl rfl
 have q2 := HS3.out.cell (v := .slice none 0 0) 1 2 rfl rfl
 have q3 := HS3.out.cell (v := .slice none 0 0) 1 3 rfl rfl
 go_wp2
 refine bodyPost_ret (v := .agg #[.int .i64 0, .slice none 0 0, .slice none 0 0, .slice none 0 0]) (by simp [results, Try.results28, go_sem, q0, q1, q2, q3]) rfl ?_
 exact ⟨none, 0, none, 0, none, 0, rfl, (((HS3.out.pick [] (by decide)).nilRow _ 3).nilRow _ 1).nilRow _ 1⟩
def turnL (n : NfaD) : NfaD := if nfaOk n = true then turnN n else zeN
theorem turnL_bad {n : NfaD} (h : nfaOk n = false) : turnL n = zeN := by unfold turnL; rw [h]; rfl
theorem turnL_ok {n : NfaD} (h : nfaOk n = true) : turnL n = turnN n := if_pos h
set_option maxRecDepth 100000 in
set_option maxHeartbeats 4000000 in
theorem implTurnNfa_any (n : NfaD) (v : Value) (w : World) (h : NfaR 0 w v n) :
  Calls Try.prog 27 #[v] w fun e w' => RNfaS (turnL n) w e w' := by
 have H := Lib.hid h
 obtain ⟨v1, v2, v3, rfl, g1, g2, g3, -, -⟩ := h
 have G1 := Lib.hid g1
 have G2 := Lib.hid g2
 have G3 := Lib.hid g3
 have hS0 := ((St.start w).alloc _ rfl #[.int .i64 n.states, v1, v2, v3] 50).alloc (w.heap.size + 1) (by simp) #[.int .i64 0, .slice none 0 0, .slice none 0 0, .slice none 0 0] 50
 have HhS0 := Lib.hid hS0; clear hS0
 clear g1 g2 g3
 cases hok : nfaOk n
 ·rw [turnL_bad hok]
  have Hhok := Lib.hid hok; clear hok
  go_enter Try.func27, Try.ntmps27
  go_wp2_with fail
  refine (implNfaValid_any n _ _ (H.out.below HhS0.out.bel) _ Hhok.out).mono ?_
  rintro e w1 ⟨rfl, hb1⟩
  have HS1 := Lib.hid (HhS0.out.call hb1)
  clear hb1
  have k0 := HS1.out.cell (v := .int .i64 0) 1 0 rfl rfl
  have k1 := HS1.out.cell (v := .slice none 0 0) 1 1 rfl rfl
  have k2 := HS1.out.cell (v := .slice none 0 0) 1 2 rfl rfl
  have k3 := HS1.out.cell (v := .slice none 0 0) 1 3 rfl rfl
  have f0 := HS1.out.fr 1 0 rfl
  have f1 := HS1.out.fr 1 1 rfl
  have f2 := HS1.out.fr 1 2 rfl
  have f3 := HS1.out.fr 1 3 rfl
  have HS2 := Lib.hid ((((HS1.out.set 1 rfl 0 (.int .i64 0)).set 1 rfl 1 (.slice none 0 0)).set 1 rfl 2 (.slice none 0 0)).set 1 rfl 3 (.slice none 0 0))
  have q0 := HS2.out.cell (v := .int .i64 0) 1 0 rfl rfl
  have q1 := HS2.out.cell (v := .slice none 0 0) 1 1 rfl rfl
  have q2 := HS2.out.cell (v := .slice none 0 0) 1 2 rfl rfl
  have q3 := HS2.out.cell (v := .slice none 0 0) 1 3 rfl rfl
  go_wp2
  refine bodyPost_ret (v := .agg #[.int .i64 0, .slice none 0 0, .slice none 0 0, .slice none 0 0]) (by simp [results, Try.results27, go_sem, q0, q1, q2, q3]) rfl ?_
  exact ⟨none, 0, none, 0, none, 0, rfl, (((HS2.out.pick [] (by decide)).nilRow 124 3).nilRow 3 1).nilRow 3 1⟩
 ·rw [turnL_ok hok]
  obtain ⟨m, -, hm40, -, hml, -, hfl, -, hel⟩ := nfaOk_facts hok
  obtain ⟨T, hT⟩ : ∃ T, turnN n = T := ⟨_, rfl⟩
  rw [hT]
  have Htn := Lib.hid (fun (u : World) (hu : Below w.heap.size w u) => implTurn_any n v1 v2 v3 u (by omega) (by omega) (by omega) (G1.out.below hu) (G2.out.below hu) (G3.out.below hu))
  rw [hT] at Htn
  have Hhok := Lib.hid hok; clear hok
  have HhT := Lib.hid hT; clear hT
  go_enter Try.func27, Try.ntmps27
  go_wp2_with fail
  refine (implNfaValid_any n _ _ (H.out.below HhS0.out.bel) _ Hhok.out).mono ?_
  rintro e w1 ⟨rfl, hb1⟩
  have HS1 := Lib.hid (HhS0.out.call hb1)
  clear hb1
  have e0 := HS1.out.cell (v := .int .i64 n.states) 0 0 rfl rfl
  have e1 := HS1.out.cell (v := v1) 0 1 rfl rfl
  have e2 := HS1.out.cell (v := v2) 0 2 rfl rfl
  have e3 := HS1.out.cell (v := v3) 0 3 rfl rfl
  go_wp2_with fail
  refine (Htn.out _ HS1.out.bel).mono ?_
  rintro e w2 ⟨a1, c1, a2, c2, a3, c3, rfl, hS'⟩
  have HS2 := Lib.hid (HS1.out.cat hS')
  clear hS' e0 e1 e2 e3
  have k0 := HS2.out.cell (v := .int .i64 0) 1 0 rfl rfl
  have k1 := HS2.out.cell (v := .slice none 0 0) 1 1 rfl rfl
  have k2 := HS2.out.cell (v := .slice none 0 0) 1 2 rfl rfl
  have k3 := HS2.out.cell (v := .slice none 0 0) 1 3 rfl rfl
  have f0 := HS2.out.fr 1 0 rfl
  have f1 := HS2.out.fr 1 1 rfl
  have f2 := HS2.out.fr 1 2 rfl
  have f3 := HS2.out.fr 1 3 rfl
  have HS3 := Lib.hid ((((HS2.out.set 1 rfl 0 (.int .i64 T.states)).set 1 rfl 1 (.slice a1 T.moves.length c1)).set 1 rfl 2 (.slice a2 T.firsts.length c2)).set 1 rfl 3 (.slice a3 T.ends.length c3))
  have q0 := HS3.out.cell (v := .int .i64 T.states) 1 0 rfl rfl
  have q1 := HS3.out.cell (v := .slice a1 T.moves.length c1) 1 1 rfl rfl
  have q2 := HS3.out.cell (v := .slice a2 T.firsts.length c2) 1 2 rfl rfl
  have q3 := HS3.out.cell (v := .slice a3 T.ends.length c3) 1 3 rfl rfl
  go_wp2
  refine bodyPost_ret (v := .agg #[.int .i64 T.states, .slice a1 T.moves.length c1, .slice a2 T.firsts.length c2, .slice a3 T.ends.length c3]) (by simp [results, Try.results27, go_sem, q0, q1, q2, q3]) rfl ?_
  exact ⟨a1, c1, a2, c2, a3, c3, rfl, HS3.out.pick [2, 3, 4] (by decide)⟩
theorem cut_one (s : List Nat) (k : Nat) (hk : k < s.length) : ∀ w' : World, (Instr.slice 9 (.string (txB s)) (some (.int .i64 (k : Int))) (some (.int .i64 ((k : Int) + 1))) none).run Try.prog w' = .ok (.string (txB [s.getD k 0])) w' := fun w' => by
 have e : (txB s).extract k (k + 1) = txB [s.getD k 0] := by
  apply ByteArray.ext
  simp only [txB, ByteArray.data_extract, List.extract_toArray, List.extract_eq_take_drop]
  rw [List.drop_eq_getElem_cons (by simpa using hk), show k + 1 - k = 1 by omega]
  simp [hk]
 rw [run_slice_string w' 9 (txB s) .i64 .i64 k ((k : Int) + 1) Try.underlying9 (by omega) (by omega) (by rw [txB_size]; omega), show ((k : Int) + 1).toNat = k + 1 by omega, Int.toNat_natCast, e]
set_option maxRecDepth 100000 in
set_option maxHeartbeats 4000000 in
theorem turnWord_any (l : List Nat) (w : World) (ht : isT l) (hwd : wdOk l = true) :
  Calls Try.prog 33 #[.string (txB l)] w fun e w' => e = .returned (.string (txB l.reverse)) ∧ w = w' := by
 have hl8 := (wdOk_iff.1 hwd).2
 have hsz := txB_size l
 have Hht := Lib.hid ht; clear ht
 have Hhwd := Lib.hid hwd; clear hwd
 go_enter Try.func33, Try.ntmps33
 go_wp2_with (go_at_call 74; refine (implWordValid_any l _ Hht.out (by omega) _ Hhwd.out).mono ?_; rintro e w' ⟨rfl, rfl⟩)
 go_loopw [3, 10] (fun vo i wr => ∃ k : Nat, i = .int .i64 k ∧ vo = .string (txB (l.take k).reverse) ∧ k ≤ l.length ∧ w = wr) (fun _ i _ => l.length - (intOf i).toNat)
 case atStart => exact ⟨0, rfl, rfl, Nat.zero_le _, rfl⟩
 case round =>
  obtain ⟨k, rfl, rfl, hk, rfl⟩ := hrel
  by_cases hlt : k < l.length
  ·have hkI : (k : Int) < l.length := by omega
   have hcut := cut_one l k hlt
   obtain ⟨b, hb⟩ : ∃ b, b = l.getD k 0 := ⟨_, rfl⟩
   have htk : (l.take (k + 1)).reverse = b :: (l.take k).reverse := by
    rw [List.take_succ_eq_append_getElem hlt, List.reverse_append, hb]
    simp [hlt]
   obtain ⟨R, hR⟩ : ∃ R, R = (l.take k).reverse := ⟨_, rfl⟩
   have hRl : R.length ≤ 8 := by rw [hR, List.length_reverse, List.length_take]; omega
   rw [← hb] at hcut
   rw [← hR] at htk
   rw [← hR]
   obtain ⟨hadd, hnlt⟩ := add_tx [b] (txB R) (by simp) (by rw [txB_size]; omega)
   have hcat : txB [b] ++ txB R = txB (b :: R) := by rw [txB_append]; rfl
   rw [hcat] at hadd
   have Hhcat := Lib.hid hcat; clear hcat
   have Hhb := Lib.hid hb; clear hb
   have Hhtk := Lib.hid htk; clear htk
   have HhR := Lib.hid hR; clear hR
   go_wp2
   go_roundw
   case rel => exact ⟨k + 1, by go_num, by rw [Hhtk.out], by omega, trivial⟩
   case measure => simp [intOf]; omega
  ·obtain rfl : k = l.length := by omega
   rw [List.take_length]
   go_wp2
   go_ret
   exact ⟨rfl, rfl⟩
end Go.Proofs.Ytalbofnhcpjilaa
namespace Go.Proofs.Ytalbofnhcpjilaa
structure Bs40 where
 (b0 b1 b2 b3 b4 b5 b6 b7 b8 b9 b10 b11 b12 b13 b14 b15 b16 b17 b18 b19 b20 b21 b22 b23 b24 b25 b26 b27 b28 b29 b30 b31 b32 b33 b34 b35 b36 b37 b38 b39 : Bool)
end Go.Proofs.Ytalbofnhcpjilaa
