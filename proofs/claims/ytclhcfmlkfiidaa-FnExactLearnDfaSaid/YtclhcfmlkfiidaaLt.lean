/-
  The walk over the program's learner as a whole: learn.
  Conditions: the language is a valid automaton and reads as such.
-/
import Derived.Test.YtclhcfmlkfiidaaLf
namespace Go.Proofs.Ytclhcfmlkfiidaa
open Go.RowKit

def hitD (d : DfaD) (g : DfaD) : Option (List Nat) := hitP d g
theorem hitD_eq (d g : DfaD) : hitD d g = hitK mostP d g := rfl
theorem hitP_swap (g d : DfaD) : hitP g d = hitD d g := by
  rw [hitD_eq]
  unfold hitP
  exact hit_swap _ _ _
theorem mostP_le : mostP ≤ 1600 := Nat.le_refl _
theorem hitD_says {d g : DfaD} {w : List Nat} (h : hitD d g = some w) : isW w ∧ accD d w ≠ accD g w := by
  rw [hitD_eq] at h
  exact hit_says h
theorem hitD_ok (d : DfaD) : hitOk d (hitD d) := fun _ _ _ h => hitD_says h
theorem hitK_len {K : Nat} {a b : DfaD} {w : List Nat} (h : hitK K a b = some w) : w.length ≤ K := by
  have hg := (bat_good (nx := stepP a b) (a := ((0, 0) : Int × Int)) K).2.1
  obtain ⟨i, hi, hw, -⟩ := firstHit_some (d := ((0, 0) : Int × Int)) hg h
  rw [← hw]
  exact bat_wlen (nx := stepP a b) (a := ((0, 0) : Int × Int)) K _ (memD (by omega))
theorem hitD_len {d g : DfaD} {w : List Nat} (h : hitD d g = some w) : w.length ≤ 1600 := by
  rw [hitD_eq] at h
  have := hitK_len h
  have := mostP_le
  omega
/-- The starts ahead of closing. -/
def preW (d : DfaD) : Nat → List (List Nat)
  | 0 => [[]]
  | j + 1 => (tabW d (hitD d) j).1
def resW (d : DfaD) (j : Nat) : List (List Nat) := (tabW d (hitD d) j).2
def staW (d : DfaD) (j : Nat) : List (List Nat) := (tabW d (hitD d) j).1
def gueW (d : DfaD) (j : Nat) : DfaD := gssW d (hitD d) j
theorem closeW_pre (d : DfaD) : ∀ j, closeW d (preW d j) (resW d j) = staW d j
  | 0 => rfl
  | _ + 1 => rfl
theorem nodup_take {α : Type} {l m : List α} (h : l <+: m) (hm : m.Nodup) : l.Nodup := by
  obtain ⟨t, rfl⟩ := h
  exact (List.nodup_append.1 hm).1
theorem resW_succ (d : DfaD) (j : Nat) {w : List Nat} (h : hitD d (gueW d j) = some w) : resW d (j + 1) = resW d j ++ [w.drop (cutW d (staW d j) (gueW d j) w + 1)] := by
  show (tabW d (hitD d) j).2 ++ _ = _
  have h' : hitD d (guessW d (tabW d (hitD d) j).1 (tabW d (hitD d) j).2) = some w := h
  simp only [h', Option.getD_some]
  rfl
structure LTab (d : DfaD) (j : Nat) : Prop where
  pre : LOk (preW d j)
  nd : ((preW d j).map (rowW d (resW d j))).Nodup
  re : okWs (resW d j)
  rl : (resW d j).length ≤ j + 1
  inv : LInv d (staW d j) (resW d j)
  st : LOk (staW d j)
theorem LTab.at {d : DfaD} (hd : dfaOk d.next d.ends = true) : ∀ j, (∀ i, i < j → (hitD d (gueW d i)).isSome = true) → LTab d j
  | 0, hy => by
    have hinv := (tab_inv hd (hitD_ok d) 0 hy).1
    have h0 : LOk [[]] := ⟨fun x hx => by simp at hx; subst hx; intro c hc; simp at hc, fun i hi => by
      obtain rfl : i = 0 := by simpa using hi
      simp⟩
    exact ⟨h0, by simp [preW], fun x hx => by simp [resW, tabW] at hx; subst hx; exact ⟨fun c hc => by simp at hc, by simp⟩, by simp [resW, tabW], hinv, LOk.kat h0 _⟩
  | j + 1, hy => by
    have ih := LTab.at hd j fun i hi => hy i (by omega)
    have hinv := (tab_inv hd (hitD_ok d) (j + 1) hy).1
    obtain ⟨w, hw⟩ := Option.isSome_iff_exists.1 (hy j (by omega))
    have hr := resW_succ d j hw
    have hww := (hitD_says hw).1
    have hpre : preW d (j + 1) <+: staW d (j + 1) := kat_pre (key := rowW d (resW d (j + 1))) (s0 := preW d (j + 1)) (Nat.zero_le (d.next.length + 1))
    refine ⟨ih.st, ?_, fun x hx => ?_, ?_, hinv, LOk.kat (s := preW d (j + 1)) ih.st _⟩
    · obtain ⟨t, ht⟩ := hpre
      have h1 := hinv.nd
      refine nodup_take (m := (staW d (j + 1)).map (rowW d (resW d (j + 1)))) ⟨t.map (rowW d (resW d (j + 1))), ?_⟩ h1
      rw [← List.map_append, ht]
    · rw [hr] at hx
      rcases List.mem_append.1 hx with hx | hx
      · exact ih.re x hx
      · simp only [List.mem_singleton] at hx
        subst hx
        refine ⟨isW_drop hww _, ?_⟩
        have := hitD_len hw
        rw [List.length_drop]
        omega
    · rw [hr, List.length_append, List.length_singleton]
      have := ih.rl
      omega

/-! The guesses in memory. -/
def Ent.sub (X y : Ent) : Prop := (∀ w, X.holds w → y.holds w) ∧ ∀ k, y.foot k → X.foot k
def valCells (p : Value × Value) : List Value := [p.1, p.2]
/-- The things X hold the automata gs, whose values are vals. -/
def GMem (X : Ent) (vals : List (Value × Value)) (gs : List DfaD) : Prop := vals.length = gs.length ∧ ∀ i, i < gs.length →
  ∃ a1 c1 a2 c2 vs, vals.getD i (undef, undef) = (.slice a1 (gs.getD i ⟨[], []⟩).next.length c1, .slice a2 (gs.getD i ⟨[], []⟩).next.length c2) ∧
    Ent.sub X (Ent.rows 44 3 (.slice a1 (gs.getD i ⟨[], []⟩).next.length c1) vs ((gs.getD i ⟨[], []⟩).next.map intCells)) ∧ Ent.sub X (Ent.row 4 1 (.slice a2 (gs.getD i ⟨[], []⟩).next.length c2) (gs.getD i ⟨[], []⟩).next.length (boolCells (gs.getD i ⟨[], []⟩).ends))
theorem GMem.nil (X : Ent) : GMem X [] [] := ⟨rfl, fun i hi => absurd hi (by simp)⟩
theorem GMem.snoc {X : Ent} {vals : List (Value × Value)} {gs : List DfaD} (h : GMem X vals gs) {g : DfaD} {a1 a2 : Option Addr} {c1 c2 : Nat} {vs : List Value} :
    GMem (Ent.all [X, Ent.rows 44 3 (.slice a1 g.next.length c1) vs (g.next.map intCells), Ent.row 4 1 (.slice a2 g.next.length c2) g.next.length (boolCells g.ends)]) (vals ++ [(.slice a1 g.next.length c1, .slice a2 g.next.length c2)]) (gs ++ [g]) := by
  refine ⟨by simp [h.1], fun i hi => ?_⟩
  simp only [List.length_append, List.length_singleton] at hi
  by_cases hin : i < gs.length
  · obtain ⟨p1, q1, p2, q2, us, e, s1, s2⟩ := h.2 i hin
    have e1 : (gs ++ [g]).getD i ⟨[], []⟩ = gs.getD i ⟨[], []⟩ := by simp only [List.getD_eq_getElem?_getD]; rw [List.getElem?_append_left hin]
    have e2 : (vals ++ [((Value.slice a1 g.next.length c1), (Value.slice a2 g.next.length c2))]).getD i (undef, undef) = vals.getD i (undef, undef) := by simp only [List.getD_eq_getElem?_getD]; rw [List.getElem?_append_left (by rw [h.1]; exact hin)]
    rw [e1, e2]
    exact ⟨p1, q1, p2, q2, us, e, ⟨fun w hw => s1.1 w (hw X (by simp)), fun k hk => ⟨X, by simp, s1.2 k hk⟩⟩, ⟨fun w hw => s2.1 w (hw X (by simp)), fun k hk => ⟨X, by simp, s2.2 k hk⟩⟩⟩
  · obtain rfl : i = gs.length := by omega
    have e1 : (gs ++ [g]).getD gs.length ⟨[], []⟩ = g := by simp
    have e2 : (vals ++ [((Value.slice a1 g.next.length c1), (Value.slice a2 g.next.length c2))]).getD gs.length (undef, undef) = ((Value.slice a1 g.next.length c1), (Value.slice a2 g.next.length c2)) := by rw [← h.1]; simp
    rw [e1, e2]
    exact ⟨a1, c1, a2, c2, vs, rfl, ⟨fun w hw => hw _ (by simp), fun k hk => ⟨_, by simp, hk⟩⟩, ⟨fun w hw => hw _ (by simp), fun k hk => ⟨_, by simp, hk⟩⟩⟩
theorem rows_dfaR {w : World} {a1 a2 : Option Addr} {n c1 c2 : Nat} {vs : List Value} {g : DfaD} (h1 : (Ent.rows 44 3 (.slice a1 n c1) vs (g.next.map intCells)).holds w) (h2 : (Ent.row 4 1 (.slice a2 n c2) n (boolCells g.ends)).holds w) : DfaR 0 w (.agg #[.slice a1 n c1, .slice a2 n c2]) g := by
  refine ⟨_, _, rfl, ?_, bools_of_row (show w.ownsRow 0 4 1 (.slice a2 n c2) n (boolCells g.ends) from h2)⟩
  obtain ⟨p1, p2, -⟩ := h1
  rw [List.length_map] at p1 p2
  refine ⟨vs, (own_of_row p1).sl (by omega), fun i hi => ?_⟩
  have := p2 i hi
  have e1 : (g.next.map intCells).getD i [] = intCells (g.next.getD i []) := by simp [hi]
  rw [e1] at this
  have := (own_of_row this).sl (by omega)
  simpa [Ints] using this
theorem Try.infoDfa : (Try.prog.info? 32).map (fun i => (i.zero, i.size, i.bytes)) = some (some (.agg #[.slice none 0 0, .slice none 0 0]), 2, 48) := by kernel_rfl
/-- What the learner hands back: the list of guesses. -/
def RLearn (d : DfaD) (J : Nat) (w : World) (e : Ending) (w' : World) : Prop := ∃ a c vals X, e = .returned (.slice a (J + 1) c) ∧ GMem X vals ((List.range (J + 1)).map (gueW d)) ∧ St w w' [Ent.row 32 2 (.slice a (J + 1) c) (J + 1) (vals.flatMap valCells), X]

set_option maxRecDepth 100000 in
set_option maxHeartbeats 8000000 in
theorem learn_any (d : DfaD) (J : Nat) (v : Value) (w : World) (hd : dfaOk d.next d.ends = true) (hno : (hitD d (gueW d J)).isSome = false) (hyes : ∀ i, i < J → (hitD d (gueW d i)).isSome = true) (h : DfaR 0 w v d) :
    Calls Try.prog 61 #[v] w fun e w' => RLearn d J w e w' := by
  obtain ⟨vn, ve, rfl, q1, q2⟩ := h
  have hl : DfaR 0 w (.agg #[vn, ve]) d := ⟨_, _, rfl, q1, q2⟩
  obtain ⟨i0, hi, hz0, hz1, hz2⟩ := info_parts Try.infoDfa
  have hS1 := (((St.start w).alloc _ rfl #[vn, ve] 32).alloc (w.heap.size + 1) (by simp) #[.string { data := #[] }] 9).alloc (w.heap.size + 1 + 1) (by simp) #[.string { data := #[] }] 9
  have hS2 := (hS1.boxrow 1 1 1 [.string { data := #[] }] rfl rfl (by unfold maxLen; omega)).boxrow 2 1 1 [.string { data := #[] }] rfl rfl (by unfold maxLen; omega)
  have hS3 := hS2.alloc (w.heap.size + 1 + 1 + 1) (by simp) #[vn, ve, .slice (some ⟨w.heap.size + 1, 0, none⟩) 1 1, .slice (some ⟨w.heap.size + 1 + 1, 0, none⟩) 1 1] 113
  have hS4 := ((hS3.nilRow 32 2).add (Below.refl _ _) Ent.nil trivial (fun k hk => hk.elim)).pick [3, 1, 2, 4, 5, 0] (by decide)
  have Hhd := Lib.hid hd; clear hd
  have Hhno := Lib.hid hno; clear hno
  have Hhyes := Lib.hid hyes; clear hyes
  have Hhl := Lib.hid hl; clear hl
  have Hhi := Lib.hid hi; clear hi
  have Hhz0 := Lib.hid hz0; clear hz0
  have Hhz1 := Lib.hid hz1; clear hz1
  have Hhz2 := Lib.hid hz2; clear hz2
  have HhS4 := Lib.hid hS4; clear hS4
  clear hS1 hS2 hS3 q1 q2
  go_enter Try.func61, Try.ntmps61
  go_wp2
  go_loopg [4] (J + 1) (fun gg gv wr => ∃ (j n m : Nat) (vs vr : Value) (a : Option Addr) (c : Nat) (vals : List (Value × Value)) (X : Ent), gg = J + 1 - j ∧ gv = .slice a j c ∧ j ≤ J ∧ GMem X vals ((List.range j).map (gueW d)) ∧
      St w wr [Ent.box (w.heap.size + 1 + 1 + 1) #[vn, ve, vs, vr] 113, Ent.row 9 1 vs n (wdCells (preW d j)), Ent.row 9 1 vr m (wdCells (resW d j)), Ent.row 32 2 (.slice a j c) j (vals.flatMap valCells), X, Ent.box w.heap.size #[vn, ve] 32])
  case atStart => exact ⟨0, 1, 1, _, _, none, 0, [], Ent.nil, rfl, rfl, Nat.zero_le _, GMem.nil _, HhS4.out⟩
  case round =>
    obtain ⟨j, n, m, vs, vr, a, c, vals, X, rfl, rfl, hj, hG, hS⟩ := hrel
    have hyj : ∀ i, i < j → (hitD d (gueW d i)).isSome = true := fun i hi => Hhyes.out i (by omega)
    have hT := LTab.at Hhd.out j hyj
    have hlt40 := tab_lt Hhd.out (hitD_ok d) (j := j) hyj
    have hcl := closeW_pre d j
    have hgok := guess_ok Hhd.out hT.inv
    have hSp := hS.pack (A := [Ent.box (w.heap.size + 1 + 1 + 1) #[vn, ve, vs, vr] 113, Ent.row 9 1 vs n (wdCells (preW d j)), Ent.row 9 1 vr m (wdCells (resW d j))]) (R := [Ent.row 32 2 (.slice a j c) j (vals.flatMap valCells), X, Ent.box w.heap.size #[vn, ve] 32])
    have HhS := Lib.hid hS; clear hS
    have HhG := Lib.hid hG; clear hG
    have HhT := Lib.hid hT; clear hT
    have Hhcl := Lib.hid hcl; clear hcl
    have Hhgok := Lib.hid hgok; clear hgok
    have Hhyj := Lib.hid hyj; clear hyj
    have HSp := Lib.hid hSp
    clear hSp
    go_wp2_with fail
    refine (lclose_any w _ _ d (preW d j) (resW d j) (w.heap.size + 1 + 1 + 1) n m vn ve vs vr Hhd.out HhT.out.pre HhT.out.nd HhT.out.re (by have := HhT.out.rl; omega) Hhl.out HSp.out).mono ?_
    rintro e w1 ⟨rfl, vs', n', hS1⟩
    rw [Hhcl.out] at hS1
    have hS2 := HhS.out.unpack (A := [Ent.box (w.heap.size + 1 + 1 + 1) #[vn, ve, vs, vr] 113, Ent.row 9 1 vs n (wdCells (preW d j)), Ent.row 9 1 vr m (wdCells (resW d j))]) (A' := [Ent.box (w.heap.size + 1 + 1 + 1) #[vn, ve, vs', vr] 113, Ent.row 9 1 vs' n' (wdCells (staW d j)), Ent.row 9 1 vr m (wdCells (resW d j))]) (R := [Ent.row 32 2 (.slice a j c) j (vals.flatMap valCells), X, Ent.box w.heap.size #[vn, ve] 32]) hS1
    have HhS2 := Lib.hid hS2; clear hS2
    clear hS1
    go_wp2_with fail
    have hsl : (staW d j).length ≤ 40 := by have := HhT.out.inv.le Hhd.out; have := dfaOk_len Hhd.out; omega
    refine (lguess_any d (staW d j) (resW d j) (w.heap.size + 1 + 1 + 1) vn ve vs' vr _ Hhd.out (HhT.out.st.okWs (by omega)) (by omega) HhT.out.re (by have := HhT.out.rl; omega) (HhS2.out.lmem 0 1 2 rfl rfl rfl Hhl.out)).mono ?_
    rintro e w2 ⟨a1, c1, a2, c2, us, rfl, hS'⟩
    obtain ⟨G, hGG⟩ : ∃ G, G = gueW d j := ⟨_, rfl⟩
    have hGW : guessW d (staW d j) (resW d j) = G := hGG.symm
    have hgl := guess_len d (staW d j) (resW d j)
    rw [hGW] at hS' hgl
    obtain ⟨n1, hn1⟩ : ∃ n1, n1 = (staW d j).length := ⟨_, rfl⟩
    rw [← hn1] at hgl hS'
    rw [← hn1]
    have hS4 := (HhS2.out.cat hS').alloc _ rfl #[.slice a1 n1 c1, .slice a2 n1 c2] 32
    have e0 := hS4.cell (v := .slice a1 n1 c1) 8 0 rfl rfl
    have e1 := hS4.cell (v := .slice a2 n1 c2) 8 1 rfl rfl
    have hS5 := hS4.alloc (w2.heap.size + 1) (by simp) #[.slice a1 n1 c1, .slice a2 n1 c2] 32
    have hRw := hS5.row 3 rfl
    have hbx := hS5.box 9 rfl
    have hgok' : dfaOk G.next G.ends = true := by rw [hGG]; exact Hhgok.out
    have HhS5 := Lib.hid hS5; clear hS5
    have HhRw := Lib.hid hRw; clear hRw
    have Hhbx := Lib.hid hbx; clear hbx
    have HhGG := Lib.hid hGG; clear hGG
    have HhGW := Lib.hid hGW; clear hGW
    have Hhgl := Lib.hid hgl; clear hgl
    have Hhn1 := Lib.hid hn1; clear hn1
    have Hhgok' := Lib.hid hgok'; clear hgok'
    clear hS' hS4
    go_wp2_with (at_builtin; refine wpList_append_lies _ rfl _ _ _ rfl _ 32 i0 (.agg #[.slice none 0 0, .slice none 0 0]) 2 48 Try.underlying73 Hhi.out Hhz0.out Hhz1.out Hhz2.out rfl (by omega) _ j _ rfl HhRw.out ⟨w2.heap.size + 1, 0, none⟩ 1 1 [.slice a1 n1 c1, .slice a2 n1 c2] rfl rfl (World.news_of_block Hhbx.out) (by intro u hu; simp at hu; rcases hu with rfl | rfl <;> rfl) (by omega) (by unfold maxLen; omega) (by omega) HhS5.out.size _ rfl ?_; intro g6 c6 w6 hown6 hgrow6 hat6 hlt6; have HS6 := Lib.hid (HhS5.out.app 3 rfl hown6 hgrow6 hat6); have y0 := HS6.out.cell (v := .slice a1 n1 c1) 8 0 rfl rfl; have y1 := HS6.out.cell (v := .slice a2 n1 c2) 8 1 rfl rfl; have y2 := HS6.out.cell (v := vn) 5 0 rfl rfl; have y3 := HS6.out.cell (v := ve) 5 1 rfl rfl; clear hown6 hgrow6 hat6 hlt6)
    clear e0 e1
    have hR6 := (HS6.out.has 6 _ rfl).1
    have hR7 := (HS6.out.has 7 _ rfl).1
    have hGR := rows_dfaR hR6 hR7
    refine (differ_any G d _ _ _ Hhgok'.out Hhd.out hGR (Hhl.out.below HS6.out.bel)).mono ?_
    rintro e w7 ⟨he, hb7⟩
    rw [hitP_swap] at he
    have hS7 := HS6.out.call hb7
    have HhS7 := Lib.hid hS7; clear hS7
    clear y0 y1 y2 y3 hR6 hR7 hGR hb7
    have hrng : (List.range (j + 1)).map (gueW d) = (List.range j).map (gueW d) ++ [G] := by rw [List.range_succ, List.map_append, HhGG.out]; rfl
    have Hhrng := Lib.hid hrng; clear hrng
    cases hh : hitD d G with
    | none =>
      rw [hh] at he
      have he' : e = .returned (.tuple #[.string { data := #[] }, .bool false]) := he
      clear he
      subst he'
      have hjJ : j = J := by
        rcases Nat.lt_or_ge j J with h | h
        · have := Hhyes.out j h
          rw [← HhGG.out, hh] at this
          cases this
        · omega
      subst hjJ
      have Hhh := Lib.hid hh; clear hh
      go_wp2
      go_ret
      have hq0 : St w w7 [Ent.row 32 2 (.slice (some ⟨g6, 0, none⟩) (j + 1) c6) (j + 1) (vals.flatMap valCells ++ [.slice a1 n1 c1, .slice a2 n1 c2]), X, Ent.rows 44 3 (.slice a1 n1 c1) us (G.next.map intCells), Ent.row 4 1 (.slice a2 n1 c2) n1 (boolCells G.ends)] := HhS7.out.pick [3, 4, 6, 7] (by decide)
      have hq := hq0.pack (A := [Ent.row 32 2 (.slice (some ⟨g6, 0, none⟩) (j + 1) c6) (j + 1) (vals.flatMap valCells ++ [.slice a1 n1 c1, .slice a2 n1 c2])]) (R := [X, Ent.rows 44 3 (.slice a1 n1 c1) us (G.next.map intCells), Ent.row 4 1 (.slice a2 n1 c2) n1 (boolCells G.ends)])
      have hgm := HhG.out.snoc (g := G) (a1 := a1) (a2 := a2) (c1 := c1) (c2 := c2) (vs := us)
      rw [Hhgl.out.1] at hgm
      refine ⟨some ⟨g6, 0, none⟩, c6, vals ++ [(.slice a1 n1 c1, .slice a2 n1 c2)], _, rfl, by rw [Hhrng.out]; exact hgm, ?_⟩
      rw [List.flatMap_append]
      exact hq
    | some wd =>
      rw [hh] at he
      have he' : e = .returned (.tuple #[.string (wdB wd), .bool true]) := he
      clear he
      subst he'
      have hjJ : j + 1 ≤ J := by
        rcases Nat.lt_or_ge j J with h | h
        · omega
        · obtain rfl : j = J := by omega
          have := Hhno.out
          rw [← HhGG.out, hh] at this
          cases this
      have hwd := hitD_says hh
      have hwl := hitD_len hh
      obtain ⟨hcut1, hcut2, hcut3⟩ := cut_at HhT.out.inv hwd.1 (by rw [HhGW.out]; exact hwd.2)
      rw [HhGW.out] at hcut1 hcut2 hcut3
      have hres := resW_succ d j (w := wd) (by rw [← HhGG.out]; exact hh)
      rw [← HhGG.out] at hres
      obtain rfl : n' = n1 := by have := (HhS7.out.row 1 rfl).1; simp at this; have := Hhn1.out; omega
      have Hhh := Lib.hid hh; clear hh
      have Hhwd := Lib.hid hwd; clear hwd
      have Hhcut1 := Lib.hid hcut1; clear hcut1
      have Hhcut2 := Lib.hid hcut2; clear hcut2
      have Hhcut3 := Lib.hid hcut3; clear hcut3
      have Hhres := Lib.hid hres; clear hres
      have hS8 : St w w7 [Ent.box (w.heap.size + 1 + 1 + 1) #[vn, ve, vs', vr] 113, Ent.row 9 1 vs' n' (wdCells (staW d j)), Ent.row 9 1 vr m (wdCells (resW d j)),
          Ent.row 32 2 (.slice (some ⟨g6, 0, none⟩) (j + 1) c6) (j + 1) (vals.flatMap valCells ++ [.slice a1 n' c1, .slice a2 n' c2]), Ent.box w.heap.size #[vn, ve] 32, Ent.box w2.heap.size #[.slice a1 n' c1, .slice a2 n' c2] 32, X, Ent.rows 44 3 (.slice a1 n' c1) us (G.next.map intCells), Ent.row 4 1 (.slice a2 n' c2) n' (boolCells G.ends)] := HhS7.out.pick [0, 1, 2, 3, 5, 8, 4, 6, 7] (by decide)
      have y0 := hS8.cell (v := .slice a1 n' c1) 5 0 rfl rfl
      have y1 := hS8.cell (v := .slice a2 n' c2) 5 1 rfl rfl
      have hGR := rows_dfaR (hS8.has 7 _ rfl).1 (hS8.has 8 _ rfl).1
      have hSp := hS8.pack (A := [Ent.box (w.heap.size + 1 + 1 + 1) #[vn, ve, vs', vr] 113, Ent.row 9 1 vs' n' (wdCells (staW d j)), Ent.row 9 1 vr m (wdCells (resW d j))]) (R := [Ent.row 32 2 (.slice (some ⟨g6, 0, none⟩) (j + 1) c6) (j + 1) (vals.flatMap valCells ++ [.slice a1 n' c1, .slice a2 n' c2]), Ent.box w.heap.size #[vn, ve] 32, Ent.box w2.heap.size #[.slice a1 n' c1, .slice a2 n' c2] 32, X, Ent.rows 44 3 (.slice a1 n' c1) us (G.next.map intCells), Ent.row 4 1 (.slice a2 n' c2) n' (boolCells G.ends)])
      have HSp2 := Lib.hid hSp
      have HS8 := Lib.hid hS8
      have HhGR := Lib.hid hGR; clear hGR
      clear hSp hS8
      go_wp2_with fail
      refine (lrefine_any w w7 _ d G (staW d j) (resW d j) wd (w.heap.size + 1 + 1 + 1) n' m vn ve vs' vr (.slice a1 n' c1) (.slice a2 n' c2) Hhd.out Hhgok'.out (by rw [Hhgl.out.1, Hhn1.out]) HhT.out.st HhT.out.re (by have := HhT.out.rl; omega) Hhwd.out.1 (by omega) Hhl.out HhGR.out Hhcut1.out Hhcut2.out Hhcut3.out HSp2.out).mono ?_
      rintro e w8 ⟨rfl, vr', m', hS9⟩
      rw [← Hhres.out] at hS9
      have hS10 := HS8.out.unpack (A := [Ent.box (w.heap.size + 1 + 1 + 1) #[vn, ve, vs', vr] 113, Ent.row 9 1 vs' n' (wdCells (staW d j)), Ent.row 9 1 vr m (wdCells (resW d j))]) (A' := [Ent.box (w.heap.size + 1 + 1 + 1) #[vn, ve, vs', vr'] 113, Ent.row 9 1 vs' n' (wdCells (staW d j)), Ent.row 9 1 vr' m' (wdCells (resW d (j + 1)))]) (R := [Ent.row 32 2 (.slice (some ⟨g6, 0, none⟩) (j + 1) c6) (j + 1) (vals.flatMap valCells ++ [.slice a1 n' c1, .slice a2 n' c2]), Ent.box w.heap.size #[vn, ve] 32, Ent.box w2.heap.size #[.slice a1 n' c1, .slice a2 n' c2] 32, X, Ent.rows 44 3 (.slice a1 n' c1) us (G.next.map intCells), Ent.row 4 1 (.slice a2 n' c2) n' (boolCells G.ends)]) hS9
      have hS11 : St w w8 [Ent.box (w.heap.size + 1 + 1 + 1) #[vn, ve, vs', vr'] 113, Ent.row 9 1 vs' n' (wdCells (staW d j)), Ent.row 9 1 vr' m' (wdCells (resW d (j + 1))),
          Ent.row 32 2 (.slice (some ⟨g6, 0, none⟩) (j + 1) c6) (j + 1) (vals.flatMap valCells ++ [.slice a1 n' c1, .slice a2 n' c2]), Ent.box w.heap.size #[vn, ve] 32, X, Ent.rows 44 3 (.slice a1 n' c1) us (G.next.map intCells), Ent.row 4 1 (.slice a2 n' c2) n' (boolCells G.ends)] := hS10.pick [0, 1, 2, 3, 4, 6, 7, 8] (by decide)
      have hS12 := hS11.pack (A := [Ent.box (w.heap.size + 1 + 1 + 1) #[vn, ve, vs', vr'] 113, Ent.row 9 1 vs' n' (wdCells (staW d j)), Ent.row 9 1 vr' m' (wdCells (resW d (j + 1))),
          Ent.row 32 2 (.slice (some ⟨g6, 0, none⟩) (j + 1) c6) (j + 1) (vals.flatMap valCells ++ [.slice a1 n' c1, .slice a2 n' c2]), Ent.box w.heap.size #[vn, ve] 32]) (R := [X, Ent.rows 44 3 (.slice a1 n' c1) us (G.next.map intCells), Ent.row 4 1 (.slice a2 n' c2) n' (boolCells G.ends)])
      have HS12 := Lib.hid hS12
      clear hS9 hS10 hS11 hS12 y0 y1
      go_wp2
      go_roundg (J + 1 - (j + 1))
      case measure => omega
      case rel =>
        have hgm := HhG.out.snoc (g := G) (a1 := a1) (a2 := a2) (c1 := c1) (c2 := c2) (vs := us)
        rw [Hhgl.out.1] at hgm
        refine ⟨j + 1, n', m', vs', vr', some ⟨g6, 0, none⟩, c6, vals ++ [(.slice a1 n' c1, .slice a2 n' c2)], _, rfl, rfl, hjJ, by rw [Hhrng.out]; exact hgm, ?_⟩
        rw [List.flatMap_append]
        exact HS12.out.pick [0, 1, 2, 3, 5, 4] (by decide)
end Go.Proofs.Ytclhcfmlkfiidaa
