/-
  The walk over impl's firstWord: the first word of an automaton in breadth.
  Conditions: the automaton reads as such; every row has three entries, all of them states; there are as many truth values as rows, from 1 to 100000.
  The walks over impl's firstPair, differ, SameLanguage and MakePairs.
  Conditions: the automata read as such; for the first two they are valid.
  The word by which two automata differ, plain: the same from both sides; what it says.
  No condition: this text speaks of no program.
  Smallest automata, plain: states of one class are those with the same words behind them; two automata with the same language have the same smallest automaton.
  No condition: this text speaks of no program.
-/
import Derived.Test.YthhbjkgchabfmaaPk21My
import Derived.Test.YthhbjkgchabfmaaPk23Fw
import Derived.Test.YthhbjkgchabfmaaPk26Wd
namespace Go.Proofs.Ythhbjkgchabfmaa
open Go.RowKit

def wordRes (o : Option (List Nat)) : Ending := match o with
  | some l => .returned (.tuple #[.string (wdB l), .bool true])
  | none => .returned (.tuple #[.string { data := #[] }, .bool false])
theorem Try.infoStr : (Try.prog.info? 9).map (fun i => (i.zero, i.size, i.bytes)) = some (some (.string { data := #[] }), 1, 16) := by kernel_rfl

theorem bat_range {d : DfaD} (hd : fine d) (k : Nat) : ∀ x ∈ (bat (dnx d) 0 k).met, 0 ≤ x ∧ x < d.next.length := by
  obtain ⟨h1, _, _, h4⟩ := hd
  refine bat_all (Q := fun x : Int => 0 ≤ x ∧ x < (d.next.length : Int)) (by omega) (fun x c hc hx => ?_) k
  exact (h4 x.toNat (by omega)).2 c hc
theorem bpart_range {d : DfaD} (hd : fine d) {k n : Nat} (hk : k < (bat (dnx d) 0 k).met.length) (hn : n ≤ 3) : ∀ x ∈ (bpart (dnx d) 0 k n).met, 0 ≤ x ∧ x < d.next.length := by
  obtain ⟨h1, _, _, h4⟩ := hd
  refine bpart_all (Q := fun x : Int => 0 ≤ x ∧ x < (d.next.length : Int)) (by omega) (fun x c hc hx => ?_) hk hn
  exact (h4 x.toNat (by omega)).2 c hc
theorem nodup_range {l : List Int} {n : Nat} (hn : l.Nodup) (h : ∀ x ∈ l, 0 ≤ x ∧ x < n) : l.length ≤ n := by
  have := nodup_le (m := upInts n) hn fun x hx => by
    obtain ⟨h1, h2⟩ := h x hx
    obtain ⟨y, rfl⟩ := Int.eq_ofNat_of_zero_le h1
    exact mem_upInts.2 (by omega)
  rwa [upInts_len] at this
theorem bat_short {d : DfaD} (hd : fine d) (k : Nat) : (bat (dnx d) 0 k).met.length ≤ d.next.length := nodup_range (bat_good k).1 (bat_range hd k)
theorem bpart_short {d : DfaD} (hd : fine d) {k n : Nat} (hk : k < (bat (dnx d) 0 k).met.length) (hn : n ≤ 3) : (bpart (dnx d) 0 k n).met.length ≤ d.next.length := nodup_range (bpart_good hk hn).1 (bpart_range hd hk hn)
theorem FwW.word {d : DfaD} {W0 bw bs k : Nat} {bx : Array Value} {w : World} {s : Bs Int} {vq : Value} (h : FwW d W0 bw bs bx w s k vq) {j : Nat} (hj : j < s.met.length) {x : Nat} (hx : s.met.getD j 0 = (x : Int)) (hxn : x < d.next.length) : w.cell? ⟨bw, x, none⟩ = some (.string (wdB (s.words.getD j []))) := by
  obtain ⟨⟨cs, h1, h2⟩, _⟩ := h
  have := h2.2 j hj
  rw [hx] at this
  exact (h1.cellAt x (by omega)).trans this
theorem FwW.mark {d : DfaD} {W0 bw bs k : Nat} {bx : Array Value} {w : World} {s : Bs Int} {vq : Value} (h : FwW d W0 bw bs bx w s k vq) {x : Nat} (hxn : x < d.next.length) : w.cell? ⟨bs, x, none⟩ = some (.bool (decide ((x : Int) ∈ s.met))) := by
  obtain ⟨_, ⟨ms, h1, h2⟩, _⟩ := h
  exact (h1.cellAt x (by omega)).trans (h2.2 x hxn)
/-- A new state. -/
theorem FwW.new {d : DfaD} {W0 bw bs k : Nat} {bx : Array Value} {w w5 : World} {s : Bs Int} {vq vq' : Value} (h : FwW d W0 bw bs bx w s k vq) (hl : s.words.length = s.met.length) (hr : ∀ x ∈ s.met, 0 ≤ x ∧ x < d.next.length) (hk : k ≤ s.met.length) {x : Nat} (hxn : x < d.next.length) (hx : (x : Int) ∉ s.met) (wd : List Nat)
    (hq : Qs W0 w5 3 vq' ((s.met.drop k).map (Value.int .i64) ++ [.int .i64 (x : Int)])) (hg0 : ((((w.setCell ⟨bs, x, none⟩ (.bool true)).setCell ⟨bw, x, none⟩ (.string (wdB wd))).drew).alloc (.cells #[.int .i64 (x : Int)] 3)).grownBy w5 vq.ownBlock) :
    FwW d W0 bw bs bx w5 ⟨s.met ++ [(x : Int)], s.words ++ [wd]⟩ k vq' := by
  obtain ⟨_, _, _, _, hne, hn1, hn2⟩ := h.lt
  obtain ⟨⟨cs, h1, h2⟩, ⟨ms, h3, h4⟩, h5, h6⟩ := h
  have a1 : (w.setCell ⟨bs, x, none⟩ (.bool true)).ownsRow W0 9 1 (.slice (some ⟨bw, 0, none⟩) d.next.length d.next.length) d.next.length cs := ownsRow_grown h1 (grown_set w bs x _) (fun k hk => by cases hk; exact ownsRow_apart (e' := 9) h3 (by decide) bs rfl)
  have a2 := (a1.stored x (.string (wdB wd))).1
  have b1 := (h3.stored x (.bool true)).1
  have b2 : ((w.setCell ⟨bs, x, none⟩ (.bool true)).setCell ⟨bw, x, none⟩ (.string (wdB wd))).ownsRow W0 4 1 (.slice (some ⟨bs, 0, none⟩) d.next.length d.next.length) d.next.length _ := ownsRow_grown b1 (grown_set _ bw x _) (fun k hk => by cases hk; exact ownsRow_apart (e' := 4) a1 (by decide) bw rfl)
  have q2 := (h5.grown (grown_set w bs x (.bool true)) (fun k hk => by cases hk; exact ownsRow_apart (e' := 3) h3 (by decide) bs rfl)).grown (grown_set (w.setCell ⟨bs, x, none⟩ (.bool true)) bw x (.string (wdB wd))) (fun k hk => by cases hk; exact ownsRow_apart (e' := 3) a1 (by decide) bw rfl)
  have x2 : Bx ((w.setCell ⟨bs, x, none⟩ (.bool true)).setCell ⟨bw, x, none⟩ (.string (wdB wd))) W0 bx 26 := (h6.set_ne _ _ hn2).set_ne _ _ hn1
  have hg := hg0
  have hal : Below ((w.setCell ⟨bs, x, none⟩ (.bool true)).setCell ⟨bw, x, none⟩ (.string (wdB wd))).heap.size ((w.setCell ⟨bs, x, none⟩ (.bool true)).setCell ⟨bw, x, none⟩ (.string (wdB wd))) ((((w.setCell ⟨bs, x, none⟩ (.bool true)).setCell ⟨bw, x, none⟩ (.string (wdB wd))).drew).alloc (.cells #[.int .i64 (x : Int)] 3)) := (Below.refl _ _).drew.alloc (by simp) _
  have q3 := q2.below hal
  refine ⟨⟨_, ownsRow_grown (Own.below (own_of_row a2) hal).1 hg (q3.apart (by decide)), ?_⟩, ⟨_, ownsRow_grown (Own.below (own_of_row b2) hal).1 hg (q3.apart (by decide)), ?_⟩, ?_, (x2.below hal x2.lt).grown hg (q3.apart (by decide))⟩
  · refine ⟨by simpa using h2.1, fun j hj => ?_⟩
    simp only [List.length_append, List.length_singleton] at hj
    by_cases hjn : j < s.met.length
    · have e1 : (s.met ++ [(x : Int)]).getD j 0 = s.met.getD j 0 := by simp [List.getElem?_append_left hjn]
      have e2 : (s.words ++ [wd]).getD j [] = s.words.getD j [] := by simp [List.getElem?_append_left (show j < s.words.length by omega)]
      have hm := memD (d := 0) hjn
      have hmr := hr _ hm
      have : x ≠ (s.met.getD j 0).toNat := fun e => hx (by rw [e, Int.toNat_of_nonneg hmr.1]; exact hm)
      rw [e1, e2, List.getElem?_set_ne this]
      exact h2.2 j hjn
    · obtain rfl : j = s.met.length := by omega
      have e1 : (s.met ++ [(x : Int)]).getD s.met.length 0 = (x : Int) := by simp
      have e2 : (s.words ++ [wd]).getD s.met.length [] = wd := by simp [← hl]
      rw [e1, e2]
      simp [h2.1, hxn]
  · refine ⟨by simpa using h4.1, fun y hy => ?_⟩
    by_cases e : x = y
    · subst e
      simp [h4.1, hxn]
    · rw [List.getElem?_set_ne e, h4.2 y hy]
      have e2 : ¬ (y : Int) = (x : Int) := fun h => e (by omega)
      simp [e2]
  · have : (s.met ++ [(x : Int)]).drop k = s.met.drop k ++ [(x : Int)] := List.drop_append_of_le_length hk
    simp only [this, List.map_append, List.map_cons, List.map_nil]
    exact hq

set_option maxRecDepth 100000 in
set_option maxHeartbeats 8000000 in
theorem firstWord_any (d : DfaD) (v : Value) (w : World) (hd : fine d) (h : DfaR 0 w v d) :
    Calls Try.prog 84 #[v] w fun e w' => e = wordRes (firstHit (den d) (bat (dnx d) 0 d.next.length)) ∧ Below w.heap.size w w' := by
  obtain ⟨u1, u2, rfl, g1, g2⟩ := h
  have Hfine := Lib.hid hd
  obtain ⟨hn1, hn2, hne, hrows⟩ := hd
  obtain ⟨a1, c1, rfl, hc1, hm1, hr1⟩ := g1.formI
  obtain ⟨a2, c2, rfl, hc2, hm2, hr2⟩ := g2.form
  obtain ⟨s0, hsi, hs0, hs1, hs2⟩ := info_parts Try.infoStr
  obtain ⟨i0, hii, hi0, hi1, hi2⟩ := info_parts Try.infoInt
  obtain ⟨b0, hbi, hb0, hb1, hb2⟩ := info_parts Try.infoBool
  have HA : ∀ w1, (w.alloc (.cells #[.slice a1 d.next.length c1, .slice a2 d.ends.length c2] 26)).grownBy w1 none → w1.cell? ⟨w.heap.size, 0, none⟩ = some (.slice a1 d.next.length c1) ∧ w1.cell? ⟨w.heap.size, 1, none⟩ = some (.slice a2 d.ends.length c2) := by
    intro w1 hg
    have hx := (Bx.new w #[.slice a1 d.next.length c1, .slice a2 d.ends.length c2] 26).grown hg (fun k hk => by cases hk)
    exact ⟨hx.cell 0, hx.cell 1⟩
  have Hhrows := Lib.hid hrows; clear hrows
  have Hhr1 := Lib.hid hr1; clear hr1
  have Hhr2 := Lib.hid hr2; clear hr2
  have Hhsi := Lib.hid hsi; clear hsi
  have Hhs0 := Lib.hid hs0; clear hs0
  have Hhs1 := Lib.hid hs1; clear hs1
  have Hhs2 := Lib.hid hs2; clear hs2
  have Hhii := Lib.hid hii; clear hii
  have Hhi0 := Lib.hid hi0; clear hi0
  have Hhi1 := Lib.hid hi1; clear hi1
  have Hhi2 := Lib.hid hi2; clear hi2
  have Hhbi := Lib.hid hbi; clear hbi
  have Hhb0 := Lib.hid hb0; clear hb0
  have Hhb1 := Lib.hid hb1; clear hb1
  have Hhb2 := Lib.hid hb2; clear hb2
  have Hhne := Lib.hid hne; clear hne
  have HHA := Lib.hid HA; clear HA
  clear g1 g2
  go_enter Try.func84, Try.ntmps84
  go_wp2_with (first
    | (at_make; refine wpList_make_full _ rfl _ _ 123 rfl w.heap.size 9 s0 (.string { data := #[] }) 1 Try.underlying123 Hhsi.out Hhs0.out Hhs1.out .i64 .i64 _ _ d.next.length rfl rfl rfl rfl (by rw [Hhs2.out]; omega) (by unfold maxLen; omega) (by simp) ?_; intro w1 hown1 hgrow1; obtain ⟨ce0, ce1⟩ := HHA.out w1 hgrow1; have hs1' := hgrow1.size; have Hown1 := Lib.hid hown1; have Hgrow1 := Lib.hid hgrow1; clear hown1 hgrow1)
    | (at_make; refine wpList_make_full _ rfl _ _ 24 rfl w.heap.size 4 b0 (.bool false) 1 Try.underlying24 Hhbi.out Hhb0.out Hhb1.out .i64 .i64 _ _ d.next.length rfl rfl rfl rfl (by rw [Hhb2.out]; omega) (by unfold maxLen; omega) (by simp only [World.size_alloc] at hs1'; omega) ?_; intro w2 hown2 hgrow2; obtain ⟨u0, hu0⟩ := row_some hown2 0 (by omega); have hfr0 := hown2.frozenAt 0; have Hown2 := Lib.hid hown2; have Hgrow2 := Lib.hid hgrow2; clear hown2 hgrow2))
  have hz2 := Hgrow2.out.size
  have x2 : Bx w2 w.heap.size #[.slice a1 d.next.length c1, .slice a2 d.ends.length c2] 26 := ((Bx.new w _ _).grown Hgrow1.out (fun k hk => by cases hk)).grown Hgrow2.out (fun k hk => by cases hk)
  have hbw : Below w.heap.size w w2 := (((Below.refl _ _).alloc (Nat.le_refl _) _).grown Hgrow1.out (by simp) (fun k hk => by cases hk)).grown Hgrow2.out (by simp at hs1'; omega) (fun k hk => by cases hk)
  have Hhbw := Lib.hid hbw; clear hbw
  have Hx2 := Lib.hid x2; clear x2
  have Hhs1' := Lib.hid hs1'; clear hs1'
  clear ce0 ce1 u0 hu0 hfr0
  go_loopg [2, 3, 6] (d.next.length + 1) (fun g r1 r2 vq wr => ∃ k : Nat, g = d.next.length + 1 - k ∧ k ≤ (bat (dnx d) 0 k).met.length ∧ (∀ j, j < k → den d ((bat (dnx d) 0 k).met.getD j 0) = false) ∧ Below w.heap.size w wr ∧ FwW d w.heap.size (w.heap.size + 1) w1.heap.size #[.slice a1 d.next.length c1, .slice a2 d.ends.length c2] wr (bat (dnx d) 0 k) k vq)
  case atStart =>
    have hs12 : w.heap.size + 1 ≤ w1.heap.size := by have := Hhs1'.out; simpa using this
    refine ⟨0, rfl, by simp [bat], fun j hj => absurd hj (by omega), (Hhbw.out.setCell (by simp; omega) _).alloc (by simp [World.setCell]; omega) _, ?_⟩
    have o1 : w2.ownsRow w.heap.size 9 1 (.slice (some ⟨w.heap.size + 1, 0, none⟩) d.next.length d.next.length) d.next.length (List.replicate d.next.length (.string { data := #[] })) := by
      have h := ownsRow_grown Hown1.out Hgrow2.out (fun k hk => by cases hk)
      have e : (madeCells (Value.string { data := #[] }).cells (d.next.length * 1)).toList = List.replicate d.next.length (.string { data := #[] }) := by
        rw [Nat.mul_one]
        exact toList_madeCells_one _ _
      rw [e] at h
      simpa using h
    have o2 : w2.ownsRow w.heap.size 4 1 (.slice (some ⟨w1.heap.size, 0, none⟩) d.next.length d.next.length) d.next.length (List.replicate d.next.length (.bool false)) := by
      have h := Hown2.out
      have e : (madeCells (Value.bool false).cells (d.next.length * 1)).toList = List.replicate d.next.length (.bool false) := by
        rw [Nat.mul_one]
        exact toList_madeCells_one _ _
      rwa [e] at h
    have hg := grown_set w2 w1.heap.size 0 (.bool true)
    have ap : ∀ e, 4 ≠ e → Apart w2 (some w1.heap.size) e := fun e he => ownsRow_apart (v := .slice (some ⟨w1.heap.size, 0, none⟩) d.next.length d.next.length) o2 he
    have hal := (Below.refl (w2.setCell ⟨w1.heap.size, 0, none⟩ (.bool true)).heap.size (w2.setCell ⟨w1.heap.size, 0, none⟩ (.bool true))).alloc (Nat.le_refl _) (.cells #[.int .i64 0] 3)
    have x3 : Bx (w2.setCell ⟨w1.heap.size, 0, none⟩ (.bool true)) w.heap.size #[.slice a1 d.next.length c1, .slice a2 d.ends.length c2] 26 := Hx2.out.set_ne _ _ (by simp; omega)
    refine ⟨⟨_, (Own.below (own_of_row (ownsRow_grown o1 hg (ap _ (by decide)))) hal).1, by simp, fun j hj => ?_⟩, ⟨_, (Own.below (own_of_row (o2.stored 0 (.bool true)).1) hal).1, by simp, fun x hx => ?_⟩, ?_, x3.below hal x3.lt⟩
    · simp only [bat, List.length_singleton] at hj
      obtain rfl : j = 0 := by omega
      simp only [bat, List.getD_cons_zero, Int.toNat_zero, List.getElem?_replicate]
      rw [if_pos (by omega)]
      rfl
    · by_cases h0 : x = 0
      · subst h0
        rw [List.getElem?_set_self (by simp; omega)]
        simp [bat]
      · rw [List.getElem?_set_ne (by omega), List.getElem?_replicate, if_pos hx]
        simp [bat, h0]
    · refine ⟨w2.heap.size, 0, 1, #[.int .i64 0], by simp [bat], by omega, ?_, by simp [bat], by unfold maxLen; omega, by simp, fun j hj => ?_⟩
      · have := Bx.new (w2.setCell ⟨w1.heap.size, 0, none⟩ (.bool true)) #[.int .i64 0] 3
        simpa [World.setCell, Bx] using this
      · simp [bat] at hj
        subst hj
        simp [bat]
  case round =>
    obtain ⟨k, rfl, hk, hno, hb, hf⟩ := hrel
    obtain ⟨S, hS⟩ : ∃ S, S = bat (dnx d) 0 k := ⟨_, rfl⟩
    have hgood := bat_good (nx := dnx d) (a := 0) k
    have hR := bat_range Hfine.out k
    have hML := bat_short Hfine.out k
    rw [← hS] at hk hno hf hgood hR hML
    obtain ⟨g, off, cap, hv, hg0, hg1, hcp, hcm, hqc⟩ := hf.qu.form
    obtain ⟨L, hL⟩ : ∃ L, L = S.met.length - k := ⟨_, rfl⟩
    rw [List.length_map, List.length_drop, ← hL] at hv hcp hqc
    subst hv
    obtain ⟨wo, hwo⟩ : ∃ wo : World, wo = wr := ⟨_, rfl⟩
    subst hwo
    have x0 := hf.bx.cell 0
    have x1 := hf.bx.cell 1
    simp only [List.getElem?_toArray, List.getElem?_cons_zero, List.getElem?_cons_succ] at x0 x1
    have Hhf := Lib.hid hf; clear hf
    have Hhb := Lib.hid hb; clear hb
    have HhS := Lib.hid hS; clear hS
    have Hhno := Lib.hid hno; clear hno
    have Hhgood := Lib.hid hgood; clear hgood
    have HhR := Lib.hid hR; clear hR
    by_cases hlt : k < S.met.length
    · have hL0 : 0 < L := by omega
      obtain ⟨xr0, xr1⟩ := HhR.out _ (memD (d := 0) hlt)
      have hq0 := hqc 0 hL0
      rw [List.getElem?_map, List.getElem?_drop, Nat.add_zero, Nat.add_zero, List.getElem?_eq_getElem hlt, Option.map_some, ← getD_at (d := 0) hlt] at hq0
      obtain ⟨x, hx⟩ := Int.eq_ofNat_of_zero_le xr0
      rw [hx] at hq0 xr1
      have hxn : x < d.next.length := by omega
      have hxe : (x : Int) < d.ends.length := by have := Hhne.out; omega
      obtain ⟨b2', o2, rfl, -, hbl2, hcs2⟩ := Hhr2.out (by omega)
      obtain ⟨b1', o1, rfl, -, hbl1, hcs1⟩ := Hhr1.out (by omega)
      have he0 := (bcell Hhb.out b2' (o2 + x) hbl2).trans (hcs2 x (by omega))
      obtain ⟨ar, cr, hrc, hrl, hrm, hri⟩ := hcs1 x hxn
      have hr0 := (bcell Hhb.out b1' (o1 + x) hbl1).trans hrc
      obtain ⟨hr3, hrt⟩ := Hhrows.out x hxn
      rw [hr3] at hr0 hrl hri
      have hw0 := Hhf.out.word hlt hx hxn
      obtain ⟨lf1, lf2, lf3, lf4, lf5, lf6, lf7⟩ := Hhf.out.lt
      obtain ⟨wd, hwd⟩ : ∃ wd, wd = S.words.getD k [] := ⟨_, rfl⟩
      rw [← hwd] at hw0
      cases hen : d.ends.getD x false
      all_goals
        rw [hen] at he0
        have Hhen := Lib.hid hen; clear hen
        have Hhx := Lib.hid hx; clear hx
        have HhL := Lib.hid hL; clear hL
        have Hhwd := Lib.hid hwd; clear hwd
        clear hcs2 hcs1 hqc hrc
        have hL1 : 0 < (L : Int) := by omega
      · obtain ⟨_, _, he1, -, -, hf1⟩ := hri.form
        rw [hr3] at he1 hf1
        simp only [Value.slice.injEq, true_and] at he1
        obtain ⟨rfl, rfl⟩ := he1
        obtain ⟨z1, t1, rfl, -, hz1', hg1'⟩ := hf1 (by omega)
        have Hhrt := Lib.hid hrt; clear hrt
        have Hhr3 := Lib.hid hr3; clear hr3
        have Hhg1' := Lib.hid hg1'; clear hg1'
        clear hri
        go_wp2
        go_loopw [6, 44] (fun vq i wi => ∃ n : Nat, n ≤ 3 ∧ i = .int .i64 n ∧ Below w.heap.size w wi ∧ FwW d w.heap.size (w.heap.size + 1) w1.heap.size #[.slice (some ⟨b1', o1, none⟩) d.next.length c1, .slice (some ⟨b2', o2, none⟩) d.ends.length c2] wi (bpart (dnx d) 0 k n) k vq) (fun _ i _ => 3 - (intOf i).toNat)
        case atStart => exact ⟨0, by omega, rfl, Hhb.out, by rw [bpart_zero, ← HhS.out]; exact Hhf.out⟩
        case round =>
          obtain ⟨n, hn, rfl, hbi, hfi⟩ := hrel
          have hkS : k < (bat (dnx d) 0 k).met.length := by rw [← HhS.out]; exact hlt
          have hxS : (bat (dnx d) 0 k).met.getD k 0 = (x : Int) := by rw [← HhS.out]; exact Hhx.out
          by_cases hn3 : n < 3
          · obtain ⟨zr0, zr1⟩ := Hhrt.out n hn3
            obtain ⟨z, hz⟩ := Int.eq_ofNat_of_zero_le zr0
            have hzc := (bcell hbi z1 (t1 + n) hz1').trans (Hhg1'.out n (by omega))
            rw [hz] at hzc zr1
            have hzn : z < d.next.length := by omega
            have hnx : dnx d ((bat (dnx d) 0 k).met.getD k 0) n = (z : Int) := by rw [hxS]; exact hz
            have hold := bpart_old (nx := dnx d) (a := 0) (k := k) (n := n)
            have hnew := bpart_new (nx := dnx d) (a := 0) (k := k) (n := n)
            rw [hnx] at hold hnew
            rw [← HhS.out, ← Hhwd.out] at hnew
            have hTg := bpart_good hkS hn
            have hTr := bpart_range Hfine.out hkS hn
            have hTl := bpart_short Hfine.out hkS hn
            have hle := bpart_le (nx := dnx d) (a := 0) (k := k) (Nat.zero_le n)
            rw [bpart_zero, ← HhS.out] at hle
            obtain ⟨T, hT⟩ : ∃ T, T = bpart (dnx d) 0 k n := ⟨_, rfl⟩
            rw [← hT] at hfi hold hnew hTg hTr hTl hle
            have hkT : k < T.met.length := Nat.lt_of_lt_of_le hlt hle.1.length_le
            have hxT : T.met.getD k 0 = (x : Int) := (prefix_getD hle.1 hlt _).trans Hhx.out
            have hwT : T.words.getD k [] = wd := (prefix_getD hle.2 (by rw [Hhgood.out.2.1]; exact hlt) _).trans Hhwd.out.symm
            have hmk := hfi.mark hzn
            obtain ⟨⟨cw, hcw⟩, fw, fs⟩ := hfi.cells hzn
            have hwk := hfi.word hkT hxT hxn
            rw [hwT] at hwk
            have hzs : (z : Int) < d.next.length := by omega
            have hn4 : (n : Int) < 3 := by omega
            have hxs : (x : Int) < d.next.length := by omega
            obtain ⟨_, _, lw, ls, -, -, -⟩ := hfi.lt
            have HhT := Lib.hid hT; clear hT
            have Hhz := Lib.hid hz; clear hz
            have Hhnx := Lib.hid hnx; clear hnx
            have Hhold := Lib.hid hold; clear hold
            have Hhnew := Lib.hid hnew; clear hnew
            have HhTg := Lib.hid hTg; clear hTg
            have HhTr := Lib.hid hTr; clear hTr
            have Hhle := Lib.hid hle; clear hle
            have HhxT := Lib.hid hxT; clear hxT
            have HhwT := Lib.hid hwT; clear hwT
            have Hhbi := Lib.hid hbi; clear hbi
            have Hhfi := Lib.hid hfi; clear hfi
            have HhxS := Lib.hid hxS; clear hxS
            clear hq0 he0 hr0 hw0 x0 x1
            by_cases hmem : (z : Int) ∈ T.met
            · rw [decide_eq_true hmem] at hmk
              have Hhmem := Lib.hid hmem; clear hmem
              go_wp2
              go_roundw
              case rel => exact ⟨n + 1, by omega, by go_num, Hhbi.out, by rw [Hhold.out Hhmem.out]; exact Hhfi.out⟩
              case measure => simp [intOf]; omega
            · rw [decide_eq_false hmem] at hmk
              have hzx : z ≠ x := by
                intro e
                exact hmem (by rw [e, ← HhxT.out]; exact memD hkT)
              have Hhmem := Lib.hid hmem; clear hmem
              have hbne : w.heap.size + 1 ≠ w1.heap.size := Hhfi.out.lt.2.2.2.2.1
              go_wp2
              obtain ⟨w4, hw4⟩ : ∃ w4, w4 = wr.setCell ⟨w1.heap.size, z, none⟩ (.bool true) := ⟨_, rfl⟩
              have k4 : w4.cell? ⟨w.heap.size + 1, x, none⟩ = some (.string (wdB wd)) := by
                rw [hw4]
                exact (World.cell?_of_block (a := ⟨w.heap.size + 1, x, none⟩) (Below.heap_setCell wr ⟨w1.heap.size, z, none⟩ _ _ hbne)).trans hwk
              have c4 : w4.cell? ⟨w.heap.size + 1, z, none⟩ = some cw := by
                rw [hw4]
                exact (World.cell?_of_block (a := ⟨w.heap.size + 1, z, none⟩) (Below.heap_setCell wr ⟨w1.heap.size, z, none⟩ _ _ hbne)).trans hcw
              have f4 : w4.frozen? ⟨w.heap.size + 1, z, none⟩ = false := by
                rw [hw4]
                exact (World.frozen?_of_block (a := ⟨w.heap.size + 1, z, none⟩) (Below.heap_setCell wr ⟨w1.heap.size, z, none⟩ _ _ hbne)).trans fw
              rw [← hw4]
              have Hhw4 := Lib.hid hw4; clear hw4
              clear hwk hcw fw fs hmk
              have hsz1 : (wdB wd).size ≤ 100000 := by
                have := bat_wlen (nx := dnx d) (a := 0) k wd (by rw [Hhwd.out, HhS.out]; exact memD (by rw [(bat_good k).2.1]; exact hkS))
                rw [wdB_size]
                omega
              have hsz2 : (wdB [n]).size ≤ 100 := by rw [wdB_size]; simp
              have k5 : (w4.setCell ⟨w.heap.size + 1, z, none⟩ (.string (wdB wd ++ wdB [n]))).drew.cell? ⟨w.heap.size + 1, x, none⟩ = some (.string (wdB wd)) :=
                (World.cell?_setCell_other w4 _ _ _ (by simp)).trans k4
              have hadd : ∀ w' : World, (Op.stringOp .add (wdB wd) (wdB [n])).run Try.prog w' = .ok (.string (wdB wd ++ wdB [n])) w' := fun w' => run_string_add_sum w' _ _ (by omega)
              have hnlt : ¬ 9223372036854775807 < (wdB wd).size + (wdB [n]).size := by omega
              go_region_held3 (fun w' => w'.cell? ⟨w.heap.size + 1, x, none⟩ = some (.string (wdB wd)))
                (first | exact k4 | exact k5 | go_keep)
                (first | (go_at_call 123; (with_reducible refine (letterText_any n hn3 _).mono ?_); rintro e w' ⟨rfl, rfl⟩))
              obtain ⟨w5, hw5⟩ : ∃ w5, w5 = (w4.setCell ⟨w.heap.size + 1, z, none⟩ (.string (wdB wd ++ wdB [n]))).drew := ⟨_, rfl⟩
              rw [← hw5]
              have h55 : w5.heap.size = wr.heap.size := by rw [hw5, Hhw4.out]; simp [World.setCell]
              have hq5 : Qs w.heap.size (w5.alloc (.cells #[.int .i64 (z : Int)] 3)) 3 u6 ((T.met.drop k).map (Value.int .i64)) := by
                exact (Hhfi.out.q2 z hbne hw5 Hhw4.out).below ((Below.refl _ _).alloc (Nat.le_refl _) _)
              have hb5 : Below w.heap.size w w5 := by
                rw [hw5, Hhw4.out]
                exact ((Hhbi.out.setCell (by simp; omega) _).setCell (by simp) _).drew
              have Hhq5 := Lib.hid hq5; clear hq5
              have Hhw5 := Lib.hid hw5; clear hw5
              have Hhb5 := Lib.hid hb5; clear hb5
              have Hh55 := Lib.hid h55; clear h55
              clear k4 k5 c4 f4
              go_wp2_with (at_builtin; refine wpList_append_qs rfl _ _ 29 rfl w.heap.size 3 i0 (.int .i64 0) 8 Try.underlying29 Hhii.out Hhi0.out Hhi1.out Hhi2.out rfl _ _ rfl Hhq5.out ⟨w5.heap.size, 0, none⟩ 1 (.int .i64 (z : Int)) rfl (alloc_cell _ _ _ 0) rfl rfl (by simp; omega) (by omega) (by simp; have := Hhb5.out.size; omega) ?_; intro v6 w6 hq6 hg6; have Hq6 := Lib.hid hq6; have Hg6 := Lib.hid (show (w5.alloc (.cells #[.int .i64 (z : Int)] 3)).grownBy w6 u6.ownBlock from hg6); clear hq6 hg6)
              go_roundw
              case rel =>
                have hb6 : Below w.heap.size w w6 := (Hhb5.out.alloc Hhb5.out.size _).grown Hg6.out (by simp only [World.size_alloc]; have := Hhb5.out.size; omega) (fun j hj => Hhq5.out.lo hj)
                refine ⟨n + 1, by omega, by go_num, hb6, ?_⟩
                rw [Hhnew.out Hhmem.out]
                have hg6 := Hg6.out
                rw [Hhw5.out, Hhw4.out, ← wdB_snoc] at hg6
                exact Hhfi.out.new HhTg.out.2.1 HhTr.out (by omega) hzn Hhmem.out _ Hq6.out hg6
              case measure => simp [intOf]; omega
          · obtain rfl : n = 3 := by omega
            clear hq0 he0 hr0 hw0 x0 x1
            have hbs := bat_succ hkS
            have hle := bpart_le (nx := dnx d) (a := 0) (k := k) (Nat.zero_le 3)
            rw [bpart_zero, ← HhS.out] at hle
            obtain ⟨T, hT⟩ : ∃ T, T = bpart (dnx d) 0 k 3 := ⟨_, rfl⟩
            rw [← hT] at hfi hbs hle
            have hkT : k < T.met.length := Nat.lt_of_lt_of_le hlt hle.1.length_le
            obtain ⟨y, ys, hys, hyt⟩ : ∃ y ys, (T.met.drop k).map (Value.int .i64) = y :: ys ∧ ys = (T.met.drop (k + 1)).map (Value.int .i64) :=
              ⟨_, _, by rw [List.drop_eq_getElem_cons hkT, List.map_cons], rfl⟩
            have hqu := hfi.qu
            rw [hys] at hqu
            obtain ⟨g', off', cap', hv', hg0', hg1'', hcp', hcm', -⟩ := hqu.form
            rw [List.length_cons] at hv' hcp'
            subst hv'
            have hnoS : ∀ j, j < k + 1 → den d (T.met.getD j 0) = false := fun j hj => by
              rw [prefix_getD hle.1 (by omega)]
              by_cases hjk : j < k
              · exact Hhno.out j hjk
              · obtain rfl : j = k := by omega
                rw [Hhx.out]
                unfold den
                rw [Int.toNat_natCast]
                exact Hhen.out
            obtain ⟨L', hL'⟩ : ∃ L', L' = ys.length := ⟨_, rfl⟩
            rw [← hL'] at hqu hcp'
            rw [← hL']
            have hLL : (1 : Int) ≤ (L' : Int) + 1 := by omega
            have HhT := Lib.hid hT; clear hT
            have Hhbs := Lib.hid hbs; clear hbs
            have Hhle := Lib.hid hle; clear hle
            have Hhqu := Lib.hid hqu; clear hqu
            have Hhys := Lib.hid hys; clear hys
            have Hhyt := Lib.hid hyt; clear hyt
            have HhnoS := Lib.hid hnoS; clear hnoS
            have Hhbi := Lib.hid hbi; clear hbi
            have Hhfi := Lib.hid hfi; clear hfi
            have HhL' := Lib.hid hL'; clear hL'
            clear hn3
            by_cases hc1' : cap' = 1
            · subst hc1'
              go_wp2
              go_roundg (d.next.length + 1 - (k + 1))
              case measure => omega
              case rel =>
                obtain ⟨e0, hq0⟩ := Hhqu.out.tail1
                refine ⟨k + 1, rfl, by rw [Hhbs.out]; omega, by rw [Hhbs.out]; exact HhnoS.out, Hhbi.out, ?_⟩
                rw [Hhbs.out]
                exact ⟨Hhfi.out.wo, Hhfi.out.se, by rw [← Hhyt.out, e0]; exact hq0, Hhfi.out.bx⟩
            · have hc2' : 1 < cap' := by omega
              go_wp2
              go_roundg (d.next.length + 1 - (k + 1))
              case measure => omega
              case rel =>
                have hq0 := Hhqu.out.tail
                rw [← HhL'.out] at hq0
                refine ⟨k + 1, rfl, by rw [Hhbs.out]; omega, by rw [Hhbs.out]; exact HhnoS.out, Hhbi.out, ?_⟩
                rw [Hhbs.out]
                exact ⟨Hhfi.out.wo, Hhfi.out.se, by rw [← Hhyt.out]; exact hq0, Hhfi.out.bx⟩
      · go_wp2
        go_ret2
        exact ⟨by rw [firstHit_at (s := S) (d := 0) (by rw [HhS.out]; exact bat_le (by omega)) Hhgood.out.2.1 (bat_good _).2.1 hlt Hhno.out (by rw [Hhx.out]; unfold den; rw [Int.toNat_natCast]; exact Hhen.out), ← Hhwd.out]; rfl, Hhb.out⟩
    · obtain rfl : L = 0 := by omega
      go_wp2
      go_ret2
      have hkS : k = S.met.length := by omega
      exact ⟨by rw [bat_done (k := k) (by rw [← HhS.out]; omega) (by omega), ← HhS.out, firstHit_none (d := 0) (by rw [← hkS]; exact Hhno.out)]; rfl, Hhb.out⟩
end Go.Proofs.Ythhbjkgchabfmaa

namespace Go.Proofs.Ythhbjkgchabfmaa
open Go.RowKit Go.Maps

/-- The first pair that two automata meet in which one ends and the other does not. -/
def hitK (K : Nat) (a b : DfaD) : Option (List Nat) := firstHit (endsF (fun x y => x != y) a b) (bat (stepP a b) (0, 0) K)
def mostP : Nat := 1600
def hitP (a b : DfaD) : Option (List Nat) := hitK mostP a b
def allP (n m : Nat) : List (Int × Int) := (List.range n).flatMap fun (i : Nat) => (List.range m).map fun (j : Nat) => ((i : Int), (j : Int))
theorem sum_const (m : Nat) : ∀ l : List Nat, (l.map fun _ => m).sum = l.length * m
  | [] => by simp
  | _ :: l => by simp only [List.map_cons, List.sum_cons, sum_const m l, List.length_cons, Nat.succ_mul]; omega
theorem allP_len (n m : Nat) : (allP n m).length = n * m := by
  unfold allP
  rw [List.length_flatMap]
  simp only [List.length_map, List.length_range]
  rw [sum_const, List.length_range]
theorem metP_len {a b : DfaD} (hda : dfaOk a.next a.ends = true) (hdb : dfaOk b.next b.ends = true) (k : Nat) : (metP a b k).length ≤ 1600 := by
  have h := nodup_le (m := allP a.next.length b.next.length) (bat_good (nx := stepP a b) (a := (0, 0)) k).1 fun x hx => by
    obtain ⟨i, j, rfl, hi, hj⟩ := inPair_nat (bat_all (Q := fun x => inPair a b x = true) (inPair_zero hda hdb) (fun x c hc hx => inPair_step hda hdb hc hx) k x hx)
    unfold allP
    rw [List.mem_flatMap]
    exact ⟨i, List.mem_range.2 hi, List.mem_map.2 ⟨j, List.mem_range.2 hj, rfl⟩⟩
  rw [allP_len] at h
  have h1 := dfaOk_len hda
  have h2 := dfaOk_len hdb
  have := Nat.mul_le_mul h1.2.1 h2.2.1
  unfold metP
  omega

set_option maxHeartbeats 1600000 in
theorem firstPairK_any (K : Nat) (hK : K = 1600) (a b : DfaD) (v1 v2 : Value) (w : World) (hda : dfaOk a.next a.ends = true) (hdb : dfaOk b.next b.ends = true) (h1 : DfaR 0 w v1 a) (h2 : DfaR 0 w v2 b) :
    Calls Try.prog 128 #[v1, v2, .func (.func 129) #[] #[]] w fun e w' => e = wordRes (hitK K a b) ∧ Below w.heap.size w w' := by
  obtain ⟨u1, u2, rfl, g1, g2⟩ := h1
  obtain ⟨u3, u4, rfl, g3, g4⟩ := h2
  have hb2 : Below w.heap.size w ((w.alloc (.cells #[u1, u2] 26)).alloc (.cells #[u3, u4] 26)) := ((Below.refl _ _).alloc (Nat.le_refl _) _).alloc (by simp) _
  have H1 : Hid (DfaR 0 ((w.alloc (.cells #[u1, u2] 26)).alloc (.cells #[u3, u4] 26)) (.agg #[u1, u2]) a) := Lib.hid ⟨_, _, rfl, g1.below hb2, g2.below hb2⟩
  have H2 : Hid (DfaR 0 ((w.alloc (.cells #[u1, u2] 26)).alloc (.cells #[u3, u4] 26)) (.agg #[u3, u4]) b) := Lib.hid ⟨_, _, rfl, g3.below hb2, g4.below hb2⟩
  have hm := metP_len hda hdb K
  have hpr := fun w' => productD_any a b K (.agg #[u1, u2]) (.agg #[u3, u4]) w' hda hdb (by omega) (by omega)
  rw [show ((K : Nat) : Int) = 1600 by omega] at hpr
  have hm2 : (metP a b K).length ≤ K := by omega
  have hK2 : K ≤ 100000 := by omega
  have Hhpr := Lib.hid hpr; clear hpr
  have HhK := Lib.hid hK; clear hK
  have Hhda := Lib.hid hda; clear hda
  have Hhdb := Lib.hid hdb; clear hdb
  have Hhb2 := Lib.hid hb2; clear hb2
  clear g1 g2 g3 g4
  go_enter Try.func128, Try.ntmps128
  go_wp2_with fail
  refine (Hhpr.out _ H1.out H2.out).mono ?_
  rintro e w2 ⟨hr, hbw⟩
  unfold RExp at hr
  rw [if_pos hm2] at hr
  obtain ⟨an, cn, ae, ce, am, cm, rfl, hd, -⟩ := hr
  obtain ⟨F, hF⟩ : ∃ F, F = (bat (stepP a b) (0, 0) K).met := ⟨_, rfl⟩
  unfold metP at hm hm2
  rw [← hF] at hd hm hm2
  rw [← hF]
  have hR := Lib.hid (hd.r.mono (Nat.zero_le _))
  have hbb := Hhb2.out.trans (hbw.mono (by simp; omega))
  have HhF := Lib.hid hF; clear hF
  have Hhbb := Lib.hid hbb; clear hbb
  have Hhm2 := Lib.hid hm2; clear hm2
  clear hd hbw hm
  go_wp2_with fail
  refine (firstWord_any (numDfa (stepP a b) (endsF (fun x y => x != y) a b) F) _ _ (by rw [HhF.out]; exact fine_num (by rw [← HhF.out]; exact Hhm2.out) hK2) (hR.out.below ((Below.refl _ _).alloc (Nat.le_refl _) _))).mono ?_
  rintro e w3 ⟨he, hb3⟩
  have hw : wordRes (firstHit (den (numDfa (stepP a b) (endsF (fun x y => x != y) a b) F)) (bat (dnx (numDfa (stepP a b) (endsF (fun x y => x != y) a b) F)) 0 (numDfa (stepP a b) (endsF (fun x y => x != y) a b) F).next.length)) = wordRes (hitK K a b) := by
    unfold hitK
    rw [HhF.out, firstHit_num (by rw [← HhF.out]; exact Hhm2.out)]
  rw [hw] at he
  have hbe := (Hhbb.out.alloc Hhbb.out.size _).trans (hb3.mono (by simp; have := Hhbb.out.size; omega))
  have Hhw := Lib.hid hw; clear hw
  have Hhbe := Lib.hid hbe; clear hbe
  clear hb3
  cases hh : hitK K a b with
  | none =>
    rw [hh] at he
    unfold wordRes at he
    simp only at he
    subst he
    have Hhh := Lib.hid hh; clear hh
    go_wp2
    go_ret2
    exact ⟨by rw [Hhh.out]; rfl, Hhbe.out⟩
  | some l =>
    rw [hh] at he
    unfold wordRes at he
    simp only at he
    subst he
    have Hhh := Lib.hid hh; clear hh
    go_wp2
    go_ret2
    exact ⟨by rw [Hhh.out]; rfl, Hhbe.out⟩
theorem firstPairD_any (a b : DfaD) (v1 v2 : Value) (w : World) (hda : dfaOk a.next a.ends = true) (hdb : dfaOk b.next b.ends = true) (h1 : DfaR 0 w v1 a) (h2 : DfaR 0 w v2 b) :
    Calls Try.prog 128 #[v1, v2, .func (.func 129) #[] #[]] w fun e w' => e = wordRes (hitP a b) ∧ Below w.heap.size w w' := firstPairK_any mostP rfl a b v1 v2 w hda hdb h1 h2

/-- The two forms of a word and whether there is one. -/
theorem wordRes_cases (o : Option (List Nat)) : ∃ s : ByteArray, wordRes o = .returned (.tuple #[.string s, .bool o.isSome]) := by
  cases o with
  | none => exact ⟨_, rfl⟩
  | some l => exact ⟨_, rfl⟩
set_option maxHeartbeats 1600000 in
theorem differ_any (a b : DfaD) (v1 v2 : Value) (w : World) (hda : dfaOk a.next a.ends = true) (hdb : dfaOk b.next b.ends = true) (h1 : DfaR 0 w v1 a) (h2 : DfaR 0 w v2 b) :
    Calls Try.prog 88 #[v1, v2] w fun e w' => e = wordRes (hitP a b) ∧ Below w.heap.size w w' := by
  obtain ⟨u1, u2, rfl, g1, g2⟩ := h1
  obtain ⟨u3, u4, rfl, g3, g4⟩ := h2
  have hb2 : Below w.heap.size w ((w.alloc (.cells #[u1, u2] 26)).alloc (.cells #[u3, u4] 26)) := ((Below.refl _ _).alloc (Nat.le_refl _) _).alloc (by simp) _
  have H1 : Hid (DfaR 0 ((w.alloc (.cells #[u1, u2] 26)).alloc (.cells #[u3, u4] 26)) (.agg #[u1, u2]) a) := Lib.hid ⟨_, _, rfl, g1.below hb2, g2.below hb2⟩
  have H2 : Hid (DfaR 0 ((w.alloc (.cells #[u1, u2] 26)).alloc (.cells #[u3, u4] 26)) (.agg #[u3, u4]) b) := Lib.hid ⟨_, _, rfl, g3.below hb2, g4.below hb2⟩
  obtain ⟨s, hs⟩ := wordRes_cases (hitP a b)
  have Hhda := Lib.hid hda; clear hda
  have Hhdb := Lib.hid hdb; clear hdb
  have Hhb2 := Lib.hid hb2; clear hb2
  have Hhs := Lib.hid hs; clear hs
  clear g1 g2 g3 g4
  go_enter Try.func88, Try.ntmps88
  go_wp2_with fail
  refine (firstPairD_any a b _ _ _ Hhda.out Hhdb.out H1.out H2.out).mono ?_
  rintro e w2 ⟨he, hbw⟩
  rw [Hhs.out] at he
  subst he
  have hbb := Hhb2.out.trans (hbw.mono (by simp; omega))
  have Hhbb := Lib.hid hbb; clear hbb
  clear hbw
  go_wp2
  go_ret2
  exact ⟨by rw [Hhs.out]; rfl, Hhbb.out⟩

end Go.Proofs.Ythhbjkgchabfmaa

namespace Go.Proofs.Ythhbjkgchabfmaa
open Go.RowKit

section
variable {α β : Type} [DecidableEq α] [DecidableEq β] {nx : α → Nat → α} {nx' : β → Nat → β} {a : α} {f : α → β}
/-- The words lead to what was met, and have letters below three. -/
theorem bat_words (k : Nat) : ∀ i, i < (bat nx a k).met.length → ((bat nx a k).words.getD i []).foldl nx a = (bat nx a k).met.getD i a ∧ isW ((bat nx a k).words.getD i []) := by
  have h := bat_ind (nx := nx) (a := a) (fun s => s.words.length = s.met.length ∧ ∀ i, i < s.met.length → (s.words.getD i []).foldl nx a = s.met.getD i a ∧ isW (s.words.getD i [])) ⟨rfl, fun i hi => by
    obtain rfl : i = 0 := by simpa using hi
    exact ⟨rfl, fun c hc => by simp at hc⟩⟩ (fun s k hk t c hc hs ht => by
      unfold bvisit
      split
      · exact ht
      · refine ⟨by simp [ht.1], fun i hi => ?_⟩
        simp only [List.length_append, List.length_singleton] at hi
        by_cases hit : i < t.met.length
        · have h1 := ht.2 i hit
          have e1 : (t.words ++ [s.words.getD k [] ++ [c]]).getD i [] = t.words.getD i [] := by
            simp only [List.getD_eq_getElem?_getD]; rw [List.getElem?_append_left (by rw [ht.1]; exact hit)]
          have e2 : (t.met ++ [nx (s.met.getD k a) c]).getD i a = t.met.getD i a := by
            simp only [List.getD_eq_getElem?_getD]; rw [List.getElem?_append_left hit]
          show ((t.words ++ [s.words.getD k [] ++ [c]]).getD i []).foldl nx a = (t.met ++ [nx (s.met.getD k a) c]).getD i a ∧ isW ((t.words ++ [s.words.getD k [] ++ [c]]).getD i [])
          rw [e1, e2]
          exact h1
        · obtain rfl : i = t.met.length := by omega
          have h2 := hs.2 k hk
          have e1 : (t.words ++ [s.words.getD k [] ++ [c]]).getD t.met.length [] = s.words.getD k [] ++ [c] := by simp [← ht.1]
          have e2 : (t.met ++ [nx (s.met.getD k a) c]).getD t.met.length a = nx (s.met.getD k a) c := by simp
          show ((t.words ++ [s.words.getD k [] ++ [c]]).getD t.met.length []).foldl nx a = (t.met ++ [nx (s.met.getD k a) c]).getD t.met.length a ∧ isW ((t.words ++ [s.words.getD k [] ++ [c]]).getD t.met.length [])
          rw [e1, e2, List.foldl_append, h2.1]
          exact ⟨rfl, isW_append h2.2 (isW_one hc)⟩) k
  exact h.2
end
theorem firstHit_some {α : Type} {en : α → Bool} {s : Bs α} {w : List Nat} {d : α} (hl : s.words.length = s.met.length) (h : firstHit en s = some w) : ∃ i, i < s.met.length ∧ s.words.getD i [] = w ∧ en (s.met.getD i d) = true := by
  unfold firstHit at h
  rw [Option.map_eq_some_iff] at h
  obtain ⟨p, hp, rfl⟩ := h
  obtain ⟨h1, i, hi, hpi, -⟩ := List.find?_eq_some_iff_getElem.1 hp
  rw [List.length_zip] at hi
  have him : i < s.met.length := by omega
  have hiw : i < s.words.length := by omega
  rw [List.getElem_zip] at hpi
  refine ⟨i, him, ?_, ?_⟩
  · rw [getD_at hiw, ← hpi]
  · rw [getD_at him]
    rw [← hpi] at h1
    exact h1
theorem stepP_fold (a b : DfaD) : ∀ (w : List Nat) (s t : Int), w.foldl (stepP a b) (s, t) = (runD a s w, runD b t w)
  | [], _, _ => rfl
  | c :: w, s, t => stepP_fold a b w (dnx a s c) (dnx b t c)
theorem hit_says {K : Nat} {a b : DfaD} {w : List Nat} (h : hitK K a b = some w) : isW w ∧ accD a w ≠ accD b w := by
  have hg := (bat_good (nx := stepP a b) (a := ((0, 0) : Int × Int)) K).2.1
  obtain ⟨i, hi, hw, he⟩ := firstHit_some (d := ((0, 0) : Int × Int)) hg h
  obtain ⟨h1, h2⟩ := bat_words (nx := stepP a b) (a := ((0, 0) : Int × Int)) K i hi
  rw [hw] at h1 h2
  rw [stepP_fold] at h1
  refine ⟨h2, fun e => ?_⟩
  unfold endsF at he
  rw [← h1] at he
  unfold accD den at e
  simp only at he
  rw [e] at he
  simp at he
end Go.Proofs.Ythhbjkgchabfmaa

namespace Go.Proofs.Ythhbjkgchabfmaa
open Go.RowKit

theorem foldl_nxM {d : DfaD} (hd : fine d) : ∀ (w : List Nat) {s : Nat}, isW w → s < d.next.length → ∃ t : Nat, t < d.next.length ∧ w.foldl (nxM d) ((clD d s : Nat) : Int) = ((clD d t : Nat) : Int) ∧ runD d (s : Int) w = (t : Int)
  | [], s, _, hs => ⟨s, hs, rfl, rfl⟩
  | c :: w, s, hw, hs => by
    obtain ⟨h1, h2⟩ := isW_cons hw
    obtain ⟨h3, h4⟩ := fine_nx hd hs h1
    obtain ⟨t, ht, e1, e2⟩ := foldl_nxM hd w h2 h3
    refine ⟨t, ht, ?_, by rw [runD_cons, h4]; exact e2⟩
    have e3 : nxM d ((clD d s : Nat) : Int) c = ((clD d (nxD d s c) : Nat) : Int) := by
      unfold nxM
      rw [Int.toNat_natCast]
      congr 1
      exact clEnd_eq (fun s c hs hc => (fine_nx hd hs hc).1) (clD_lt hs) hs (clD_le s hs).2 c h1
    rw [List.foldl_cons, e3]
    exact e1
/-- The smallest automaton has the same language. -/
theorem min_acc {d : DfaD} (hd : fine d) {w : List Nat} (hw : isW w) : accD (minD d) w = accD d w := by
  unfold minD
  rw [accD_num (metM_facts hd _).2 hw]
  obtain ⟨t, ht, e1, e2⟩ := foldl_nxM hd w hw (show 0 < d.next.length from hd.1)
  rw [e1, den_nat]
  unfold accD
  rw [show (0 : Int) = ((0 : Nat) : Int) from rfl, e2, den_nat]
  exact clEnd_ends (clD_lt ht) ht (clD_le t ht).2
end Go.Proofs.Ythhbjkgchabfmaa
