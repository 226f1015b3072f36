/-
  The walks over the program's leading and DfaStarts; what they answer, plain.
  Condition: the automaton reads as such.
-/
import Derived.Test.YtalbofnhcpjilaaPk23Dr
import Derived.Test.YtalbofnhcpjilaaPk30Cmb
namespace Go.Proofs.Ytalbofnhcpjilaa
open Go.RowKit
def canEnd (d : DfaD) (s : Nat) : Prop := ∃ w, isW w ∧ den d (runD d (s : Int) w) = true
theorem not_nodup {α : Type} [DecidableEq α] : ∀ {l : List α}, ¬ l.Nodup → ∃ (i j : Nat) (hj : j < l.length) (hi : i < j), l[i]'(Nat.lt_trans hi hj) = l[j]
  | [], h => absurd List.nodup_nil h
  | x :: l, h => by
    rw [List.nodup_cons] at h
    by_cases hx : x ∈ l
    · obtain ⟨j, hj, e⟩ := List.getElem_of_mem hx
      exact ⟨0, j + 1, by simp only [List.length_cons]; omega, by omega, by simpa using e.symm⟩
    · obtain ⟨i, j, hj, hi, e⟩ := not_nodup (l := l) fun hn => h ⟨hx, hn⟩
      exact ⟨i + 1, j + 1, by simp only [List.length_cons]; omega, by omega, by simpa using e⟩
theorem short_word {d : DfaD} (hd : fine d) {s : Nat} (hs : s < d.next.length) : ∀ (n : Nat) (w : List Nat), w.length ≤ n → isW w → den d (runD d (s : Int) w) = true → ∃ w', w'.length < d.next.length ∧ isW w' ∧ den d (runD d (s : Int) w') = true
  | n, w, hn, hw, he => by
    by_cases hl : w.length < d.next.length
    · exact ⟨w, hl, hw, he⟩
    · have key : ∀ i, ∃ t : Nat, t < d.next.length ∧ runD d (s : Int) (w.take i) = (t : Int) := fun i => runD_nat hd _ (isW_take hw i) hs
      have hnd : ¬ ((List.range (w.length + 1)).map fun i => runD d (s : Int) (w.take i)).Nodup := fun h => by
        have := nodup_le (m := (List.range d.next.length).map fun (i : Nat) => (i : Int)) h fun x hx => by
          obtain ⟨i, -, rfl⟩ := List.mem_map.1 hx
          obtain ⟨t, ht, e⟩ := key i
          rw [e]
          exact List.mem_map.2 ⟨t, List.mem_range.2 ht, rfl⟩
        simp only [List.length_map, List.length_range] at this
        omega
      obtain ⟨i, j, hj, hij, e⟩ := not_nodup hnd
      simp only [List.length_map, List.length_range] at hj
      simp only [List.getElem_map, List.getElem_range] at e
      have hr : runD d (s : Int) (w.take i ++ w.drop j) = runD d (s : Int) w := by
        rw [runD_app, e, ← runD_app, List.take_append_drop]
      have hlen : (w.take i ++ w.drop j).length < w.length := by
        rw [List.length_append, List.length_take, List.length_drop]
        omega
      cases n with
      | zero => omega
      | succ n => exact short_word hd hs n (w.take i ++ w.drop j) (by omega) (isW_append (isW_take hw i) (isW_drop hw j)) (by rw [hr]; exact he)
structure LdI (d : DfaD) (F : List Bool) (r s0 c0 : Nat) : Prop where
  len : F.length = d.next.length
  sound : ∀ s, s < d.next.length → F.getD s false = true → canEnd d s
  old : ∀ s w, s < d.next.length → isW w → w.length ≤ r → den d (runD d (s : Int) w) = true → F.getD s false = true
  done : ∀ s w, s < s0 → s < d.next.length → isW w → w.length ≤ r + 1 → den d (runD d (s : Int) w) = true → F.getD s false = true
  now : ∀ c w, c < c0 → c < 3 → isW w → w.length ≤ r → den d (runD d (s0 : Int) (c :: w)) = true → F.getD s0 false = true
theorem LdI.start {d : DfaD} (hd : dfaOk d.next d.ends = true) : LdI d d.ends 0 0 0 := by
  have hl := dfaOk_len hd
  refine ⟨hl.2.2, fun s hs h => ⟨[], isW_nil, by rw [runD_nil, den_nat]; exact h⟩, fun s w hs hw hl h => ?_, fun s w hs => absurd hs (by omega), fun c w hc => absurd hc (by omega)⟩
  have : w = [] := List.length_eq_zero_iff.1 (by omega)
  subst this
  rw [runD_nil, den_nat] at h
  exact h
theorem LdI.round {d : DfaD} {F : List Bool} {r : Nat} (h : LdI d F r d.next.length 0) : LdI d F (r + 1) 0 0 :=
  ⟨h.len, h.sound, fun s w hs hw hl he => h.done s w hs hs hw hl he, fun s w hs => absurd hs (by omega), fun c w hc => absurd hc (by omega)⟩
structure LdE (d : DfaD) (F : List Bool) : Prop where
  len : F.length = d.next.length
  iff : ∀ s, s < d.next.length → (F.getD s false = true ↔ canEnd d s)
theorem LdI.all {d : DfaD} (hd : dfaOk d.next d.ends = true) {F : List Bool} (h : LdI d F d.next.length 0 0) : LdE d F :=
  ⟨h.len, fun s hs => ⟨h.sound s hs, fun ⟨w, hw, he⟩ => by
    obtain ⟨w', h1, h2, h3⟩ := short_word (fine_of hd) hs w.length w (Nat.le_refl _) hw he
    exact h.old s w' hs h2 (by omega) h3⟩⟩
theorem row_len {d : DfaD} {w : World} {b1 o1 cv b2 o2 cw : Nat} (h : DfaC w d b1 o1 cv b2 o2 cw) {u : World} (hb : Below w.heap.size w u) {i : Nat} (hi : i < d.next.length) : ∃ b3 o3 c3, 3 ≤ c3 ∧ c3 ≤ 9223372036854775807 ∧ u.cell? ⟨b1, o1 + i, none⟩ = some (.slice (some ⟨b3, o3, none⟩) 3 c3) ∧ ∀ (u' : World), Below w.heap.size w u' → ∀ c, c < 3 → u'.cell? ⟨b3, o3 + c, none⟩ = some (.int .i64 (nxD d i c : Nat)) := by
  obtain ⟨b3, o3, c3, h0, h1, h2, h3, h4⟩ := h.row i hi
  exact ⟨b3, o3, c3, h1, h2, (bcell hb b1 _ h.hb1).trans h3, fun u' hb' c hc => (bcell hb' b3 _ h0).trans (h4 c hc)⟩
def turnL (n : NfaD) : NfaD := if nfaOk n = true then turnN n else zeN
theorem turnL_bad {n : NfaD} (h : nfaOk n = false) : turnL n = zeN := by unfold turnL; rw [h]; rfl
theorem turnL_ok {n : NfaD} (h : nfaOk n = true) : turnL n = turnN n := if_pos h
set_option maxRecDepth 100000 in
set_option maxHeartbeats 4000000 in
theorem implTurnNfa_any (n : NfaD) (v : Value) (w : World) (h : NfaR 0 w v n) :
    Calls Try.prog 27 #[v] w fun e w' => RNfaS (turnL n) w e w' := by
  have H := Lib.hid h
  obtain ⟨v1, v2, v3, rfl, g1, g2, g3, -, -⟩ := h
  have G1 := Lib.hid g1
  have G2 := Lib.hid g2
  have G3 := Lib.hid g3
  have hS0 := ((St.start w).alloc _ rfl #[.int .i64 n.states, v1, v2, v3] 50).alloc (w.heap.size + 1) (by simp) #[.int .i64 0, .slice none 0 0, .slice none 0 0, .slice none 0 0] 50
  have HhS0 := Lib.hid hS0; clear hS0
  clear g1 g2 g3
  cases hok : nfaOk n
  · rw [turnL_bad hok]
    have Hhok := Lib.hid hok; clear hok
    go_enter Try.func27, Try.ntmps27
    go_wp2_with fail
    refine (implNfaValid_any n _ _ (H.out.below HhS0.out.bel) _ Hhok.out).mono ?_
    rintro e w1 ⟨rfl, hb1⟩
    have HS1 := Lib.hid (HhS0.out.call hb1)
    clear hb1
    have k0 := HS1.out.cell (v := .int .i64 0) 1 0 rfl rfl
    have k1 := HS1.out.cell (v := .slice none 0 0) 1 1 rfl rfl
    have k2 := HS1.out.cell (v := .slice none 0 0) 1 2 rfl rfl
    have k3 := HS1.out.cell (v := .slice none 0 0) 1 3 rfl rfl
    have f0 := HS1.out.fr 1 0 rfl
    have f1 := HS1.out.fr 1 1 rfl
    have f2 := HS1.out.fr 1 2 rfl
    have f3 := HS1.out.fr 1 3 rfl
    have HS2 := Lib.hid ((((HS1.out.set 1 rfl 0 (.int .i64 0)).set 1 rfl 1 (.slice none 0 0)).set 1 rfl 2 (.slice none 0 0)).set 1 rfl 3 (.slice none 0 0))
    have q0 := HS2.out.cell (v := .int .i64 0) 1 0 rfl rfl
    have q1 := HS2.out.cell (v := .slice none 0 0) 1 1 rfl rfl
    have q2 := HS2.out.cell (v := .slice none 0 0) 1 2 rfl rfl
    have q3 := HS2.out.cell (v := .slice none 0 0) 1 3 rfl rfl
    go_wp2
    refine bodyPost_ret (v := .agg #[.int .i64 0, .slice none 0 0, .slice none 0 0, .slice none 0 0]) (by simp [results, Try.results27, go_sem, q0, q1, q2, q3]) rfl ?_
    exact ⟨none, 0, none, 0, none, 0, rfl, (((HS2.out.pick [] (by decide)).nilRow 124 3).nilRow 3 1).nilRow 3 1⟩
  · rw [turnL_ok hok]
    obtain ⟨m, -, hm40, -, hml, -, hfl, -, hel⟩ := nfaOk_facts hok
    obtain ⟨T, hT⟩ : ∃ T, turnN n = T := ⟨_, rfl⟩
    rw [hT]
    have Htn := Lib.hid (fun (u : World) (hu : Below w.heap.size w u) => implTurn_any n v1 v2 v3 u (by omega) (by omega) (by omega) (G1.out.below hu) (G2.out.below hu) (G3.out.below hu))
    rw [hT] at Htn
    have Hhok := Lib.hid hok; clear hok
    have HhT := Lib.hid hT; clear hT
    go_enter Try.func27, Try.ntmps27
    go_wp2_with fail
    refine (implNfaValid_any n _ _ (H.out.below HhS0.out.bel) _ Hhok.out).mono ?_
    rintro e w1 ⟨rfl, hb1⟩
    have HS1 := Lib.hid (HhS0.out.call hb1)
    clear hb1
    have e0 := HS1.out.cell (v := .int .i64 n.states) 0 0 rfl rfl
    have e1 := HS1.out.cell (v := v1) 0 1 rfl rfl
    have e2 := HS1.out.cell (v := v2) 0 2 rfl rfl
    have e3 := HS1.out.cell (v := v3) 0 3 rfl rfl
    go_wp2_with fail
    refine (Htn.out _ HS1.out.bel).mono ?_
    rintro e w2 ⟨a1, c1, a2, c2, a3, c3, rfl, hS'⟩
    have HS2 := Lib.hid (HS1.out.cat hS')
    clear hS' e0 e1 e2 e3
    have k0 := HS2.out.cell (v := .int .i64 0) 1 0 rfl rfl
    have k1 := HS2.out.cell (v := .slice none 0 0) 1 1 rfl rfl
    have k2 := HS2.out.cell (v := .slice none 0 0) 1 2 rfl rfl
    have k3 := HS2.out.cell (v := .slice none 0 0) 1 3 rfl rfl
    have f0 := HS2.out.fr 1 0 rfl
    have f1 := HS2.out.fr 1 1 rfl
    have f2 := HS2.out.fr 1 2 rfl
    have f3 := HS2.out.fr 1 3 rfl
    have HS3 := Lib.hid ((((HS2.out.set 1 rfl 0 (.int .i64 T.states)).set 1 rfl 1 (.slice a1 T.moves.length c1)).set 1 rfl 2 (.slice a2 T.firsts.length c2)).set 1 rfl 3 (.slice a3 T.ends.length c3))
    have q0 := HS3.out.cell (v := .int .i64 T.states) 1 0 rfl rfl
    have q1 := HS3.out.cell (v := .slice a1 T.moves.length c1) 1 1 rfl rfl
    have q2 := HS3.out.cell (v := .slice a2 T.firsts.length c2) 1 2 rfl rfl
    have q3 := HS3.out.cell (v := .slice a3 T.ends.length c3) 1 3 rfl rfl
    go_wp2
    refine bodyPost_ret (v := .agg #[.int .i64 T.states, .slice a1 T.moves.length c1, .slice a2 T.firsts.length c2, .slice a3 T.ends.length c3]) (by simp [results, Try.results27, go_sem, q0, q1, q2, q3]) rfl ?_
    exact ⟨a1, c1, a2, c2, a3, c3, rfl, HS3.out.pick [2, 3, 4] (by decide)⟩
end Go.Proofs.Ytalbofnhcpjilaa
