/-
  The walk over impl's firstWord: the first word of an automaton in breadth.
  Conditions: the automaton reads as such; every row has three entries, all of them states; there are as many truth values as rows, from 1 to 100000.
-/
import Derived.Test.YtjcegbcmomfgaaaQs
import Derived.Test.YtjcegbcmomfgaaaWd
import Derived.Test.YtjcegbcmomfgaaaFwp
import Derived.Test.YtjcegbcmomfgaaaMk
import Derived.Deep.LoopGhost
import Derived.Deep.RegionHeldLaw
namespace Go.Proofs.Ytjcegbcmomfgaaa
open Go.RowKit

def wordRes (o : Option (List Nat)) : Ending := match o with
  | some l => .returned (.tuple #[.string (wdB l), .bool true])
  | none => .returned (.tuple #[.string { data := #[] }, .bool false])
theorem Try.infoStr : (Try.prog.info? 9).map (fun i => (i.zero, i.size, i.bytes)) = some (some (.string { data := #[] }), 1, 16) := by kernel_rfl
abbrev strCells (xs : List ByteArray) : List Value := xs.map Value.string
/-- The words that are known so far. -/
def knows (n : Nat) (s : Bs Int) (cs : List Value) : Prop := cs.length = n ∧ ∀ j, j < s.met.length → cs[(s.met.getD j 0).toNat]? = some (.string (wdB (s.words.getD j [])))
def marks (n : Nat) (s : Bs Int) (bs : List Value) : Prop := bs.length = n ∧ ∀ x : Nat, x < n → bs[x]? = some (.bool (decide ((x : Int) ∈ s.met)))

theorem bat_range {d : DfaD} (hd : fine d) (k : Nat) : ∀ x ∈ (bat (dnx d) 0 k).met, 0 ≤ x ∧ x < d.next.length := by
  obtain ⟨h1, _, _, h4⟩ := hd
  refine bat_all (Q := fun x : Int => 0 ≤ x ∧ x < (d.next.length : Int)) (by omega) (fun x c hc hx => ?_) k
  exact (h4 x.toNat (by omega)).2 c hc
theorem bpart_range {d : DfaD} (hd : fine d) {k n : Nat} (hk : k < (bat (dnx d) 0 k).met.length) (hn : n ≤ 3) : ∀ x ∈ (bpart (dnx d) 0 k n).met, 0 ≤ x ∧ x < d.next.length := by
  obtain ⟨h1, _, _, h4⟩ := hd
  refine bpart_all (Q := fun x : Int => 0 ≤ x ∧ x < (d.next.length : Int)) (by omega) (fun x c hc hx => ?_) hk hn
  exact (h4 x.toNat (by omega)).2 c hc
theorem nodup_range {l : List Int} {n : Nat} (hn : l.Nodup) (h : ∀ x ∈ l, 0 ≤ x ∧ x < n) : l.length ≤ n := by
  have := nodup_le (m := upInts n) hn fun x hx => by
    obtain ⟨h1, h2⟩ := h x hx
    obtain ⟨y, rfl⟩ := Int.eq_ofNat_of_zero_le h1
    exact mem_upInts.2 (by omega)
  rwa [upInts_len] at this
theorem bat_short {d : DfaD} (hd : fine d) (k : Nat) : (bat (dnx d) 0 k).met.length ≤ d.next.length := nodup_range (bat_good k).1 (bat_range hd k)
theorem bpart_short {d : DfaD} (hd : fine d) {k n : Nat} (hk : k < (bat (dnx d) 0 k).met.length) (hn : n ≤ 3) : (bpart (dnx d) 0 k n).met.length ≤ d.next.length := nodup_range (bpart_good hk hn).1 (bpart_range hd hk hn)
/-- What lies in memory while the words are looked for. -/
structure FwW (d : DfaD) (W0 bw bs : Nat) (bx : Array Value) (w : World) (s : Bs Int) (k : Nat) (vq : Value) : Prop where
  wo : ∃ cs, w.ownsRow W0 9 1 (.slice (some ⟨bw, 0, none⟩) d.next.length d.next.length) d.next.length cs ∧ knows d.next.length s cs
  se : ∃ ms, w.ownsRow W0 4 1 (.slice (some ⟨bs, 0, none⟩) d.next.length d.next.length) d.next.length ms ∧ marks d.next.length s ms
  qu : Qs W0 w 3 vq ((s.met.drop k).map (Value.int .i64))
  bx : Bx w W0 bx 33
theorem FwW.below {d : DfaD} {W0 bw bs k : Nat} {bx : Array Value} {w w' : World} {s : Bs Int} {vq : Value} (h : FwW d W0 bw bs bx w s k vq) (hb : Below w.heap.size w w') : FwW d W0 bw bs bx w' s k vq := by
  obtain ⟨⟨cs, h1, h2⟩, ⟨ms, h3, h4⟩, h5, h6⟩ := h
  exact ⟨⟨cs, (Own.below (own_of_row h1) hb).1, h2⟩, ⟨ms, (Own.below (own_of_row h3) hb).1, h4⟩, h5.below hb, h6.below hb h6.lt⟩
theorem FwW.word {d : DfaD} {W0 bw bs k : Nat} {bx : Array Value} {w : World} {s : Bs Int} {vq : Value} (h : FwW d W0 bw bs bx w s k vq) {j : Nat} (hj : j < s.met.length) {x : Nat} (hx : s.met.getD j 0 = (x : Int)) (hxn : x < d.next.length) : w.cell? ⟨bw, x, none⟩ = some (.string (wdB (s.words.getD j []))) := by
  obtain ⟨⟨cs, h1, h2⟩, _⟩ := h
  have := h2.2 j hj
  rw [hx] at this
  exact (h1.cellAt x (by omega)).trans this
theorem FwW.mark {d : DfaD} {W0 bw bs k : Nat} {bx : Array Value} {w : World} {s : Bs Int} {vq : Value} (h : FwW d W0 bw bs bx w s k vq) {x : Nat} (hxn : x < d.next.length) : w.cell? ⟨bs, x, none⟩ = some (.bool (decide ((x : Int) ∈ s.met))) := by
  obtain ⟨_, ⟨ms, h1, h2⟩, _⟩ := h
  exact (h1.cellAt x (by omega)).trans (h2.2 x hxn)
theorem FwW.cells {d : DfaD} {W0 bw bs k : Nat} {bx : Array Value} {w : World} {s : Bs Int} {vq : Value} (h : FwW d W0 bw bs bx w s k vq) {x : Nat} (hxn : x < d.next.length) : (∃ u, w.cell? ⟨bw, x, none⟩ = some u) ∧ w.frozen? ⟨bw, x, none⟩ = false ∧ w.frozen? ⟨bs, x, none⟩ = false := by
  obtain ⟨⟨cs, h1, h2⟩, ⟨ms, h3, h4⟩, _⟩ := h
  exact ⟨row_some h1 x (by omega), h1.frozenAt x, h3.frozenAt x⟩
theorem FwW.lt {d : DfaD} {W0 bw bs k : Nat} {bx : Array Value} {w : World} {s : Bs Int} {vq : Value} (h : FwW d W0 bw bs bx w s k vq) : W0 ≤ bw ∧ W0 ≤ bs ∧ bw < w.heap.size ∧ bs < w.heap.size ∧ bw ≠ bs ∧ W0 ≠ bw ∧ W0 ≠ bs := by
  obtain ⟨⟨cs, h1, h2⟩, ⟨ms, h3, h4⟩, _, h6⟩ := h
  refine ⟨(h1.lt bw rfl).1, (h3.lt bs rfl).1, (h1.lt bw rfl).2, (h3.lt bs rfl).2, ?_, ?_, ?_⟩
  · intro e
    obtain ⟨cu, hcu⟩ := ownsRow_obj (k := bs) h3 rfl
    exact ownsRow_apart (e' := 4) h1 (by decide) bs (by rw [e]; rfl) _ _ hcu
  · intro e
    exact ownsRow_apart (e' := 33) h1 (by decide) bw rfl _ _ (by rw [← e]; exact h6)
  · intro e
    exact ownsRow_apart (e' := 33) h3 (by decide) bs rfl _ _ (by rw [← e]; exact h6)
theorem FwW.q2 {d : DfaD} {W0 bw bs k : Nat} {bx : Array Value} {w w4 w5 : World} {s : Bs Int} {vq : Value} (h : FwW d W0 bw bs bx w s k vq) (x : Nat) {u v : Value} (_ : bw ≠ bs)
    (h5 : w5 = (w4.setCell ⟨bw, x, none⟩ u).drew) (h4 : w4 = w.setCell ⟨bs, x, none⟩ v) : Qs W0 w5 3 vq ((s.met.drop k).map (Value.int .i64)) := by
  obtain ⟨⟨cs, h1, h2⟩, ⟨ms, h3, h4'⟩, hq, h6⟩ := h
  subst h4
  subst h5
  have a1 : (w.setCell ⟨bs, x, none⟩ v).ownsRow W0 9 1 (.slice (some ⟨bw, 0, none⟩) d.next.length d.next.length) d.next.length cs := ownsRow_grown h1 (grown_set w bs x _) (fun k hk => by cases hk; exact ownsRow_apart (e' := 9) h3 (by decide) bs rfl)
  exact ((hq.grown (grown_set w bs x v) (fun k hk => by cases hk; exact ownsRow_apart (e' := 3) h3 (by decide) bs rfl)).grown (grown_set (w.setCell ⟨bs, x, none⟩ v) bw x u) (fun k hk => by cases hk; exact ownsRow_apart (e' := 3) a1 (by decide) bw rfl)).below (Below.refl _ _).drew
/-- A new state. -/
theorem FwW.new {d : DfaD} {W0 bw bs k : Nat} {bx : Array Value} {w w5 : World} {s : Bs Int} {vq vq' : Value} (h : FwW d W0 bw bs bx w s k vq) (hl : s.words.length = s.met.length) (hr : ∀ x ∈ s.met, 0 ≤ x ∧ x < d.next.length) (hk : k ≤ s.met.length) {x : Nat} (hxn : x < d.next.length) (hx : (x : Int) ∉ s.met) (wd : List Nat)
    (hq : Qs W0 w5 3 vq' ((s.met.drop k).map (Value.int .i64) ++ [.int .i64 (x : Int)])) (hg0 : ((((w.setCell ⟨bs, x, none⟩ (.bool true)).setCell ⟨bw, x, none⟩ (.string (wdB wd))).drew).alloc (.cells #[.int .i64 (x : Int)] 3)).grownBy w5 vq.ownBlock) :
    FwW d W0 bw bs bx w5 ⟨s.met ++ [(x : Int)], s.words ++ [wd]⟩ k vq' := by
  obtain ⟨_, _, _, _, hne, hn1, hn2⟩ := h.lt
  obtain ⟨⟨cs, h1, h2⟩, ⟨ms, h3, h4⟩, h5, h6⟩ := h
  have a1 : (w.setCell ⟨bs, x, none⟩ (.bool true)).ownsRow W0 9 1 (.slice (some ⟨bw, 0, none⟩) d.next.length d.next.length) d.next.length cs := ownsRow_grown h1 (grown_set w bs x _) (fun k hk => by cases hk; exact ownsRow_apart (e' := 9) h3 (by decide) bs rfl)
  have a2 := (a1.stored x (.string (wdB wd))).1
  have b1 := (h3.stored x (.bool true)).1
  have b2 : ((w.setCell ⟨bs, x, none⟩ (.bool true)).setCell ⟨bw, x, none⟩ (.string (wdB wd))).ownsRow W0 4 1 (.slice (some ⟨bs, 0, none⟩) d.next.length d.next.length) d.next.length _ := ownsRow_grown b1 (grown_set _ bw x _) (fun k hk => by cases hk; exact ownsRow_apart (e' := 4) a1 (by decide) bw rfl)
  have q2 := (h5.grown (grown_set w bs x (.bool true)) (fun k hk => by cases hk; exact ownsRow_apart (e' := 3) h3 (by decide) bs rfl)).grown (grown_set (w.setCell ⟨bs, x, none⟩ (.bool true)) bw x (.string (wdB wd))) (fun k hk => by cases hk; exact ownsRow_apart (e' := 3) a1 (by decide) bw rfl)
  have x2 : Bx ((w.setCell ⟨bs, x, none⟩ (.bool true)).setCell ⟨bw, x, none⟩ (.string (wdB wd))) W0 bx 33 := (h6.set_ne _ _ hn2).set_ne _ _ hn1
  have hg := hg0
  have hal : Below ((w.setCell ⟨bs, x, none⟩ (.bool true)).setCell ⟨bw, x, none⟩ (.string (wdB wd))).heap.size ((w.setCell ⟨bs, x, none⟩ (.bool true)).setCell ⟨bw, x, none⟩ (.string (wdB wd))) ((((w.setCell ⟨bs, x, none⟩ (.bool true)).setCell ⟨bw, x, none⟩ (.string (wdB wd))).drew).alloc (.cells #[.int .i64 (x : Int)] 3)) := (Below.refl _ _).drew.alloc (by simp) _
  have q3 := q2.below hal
  refine ⟨⟨_, ownsRow_grown (Own.below (own_of_row a2) hal).1 hg (q3.apart (by decide)), ?_⟩, ⟨_, ownsRow_grown (Own.below (own_of_row b2) hal).1 hg (q3.apart (by decide)), ?_⟩, ?_, (x2.below hal x2.lt).grown hg (q3.apart (by decide))⟩
  · refine ⟨by simpa using h2.1, fun j hj => ?_⟩
    simp only [List.length_append, List.length_singleton] at hj
    by_cases hjn : j < s.met.length
    · have e1 : (s.met ++ [(x : Int)]).getD j 0 = s.met.getD j 0 := by simp [List.getElem?_append_left hjn]
      have e2 : (s.words ++ [wd]).getD j [] = s.words.getD j [] := by simp [List.getElem?_append_left (show j < s.words.length by omega)]
      have hm := memD (d := 0) hjn
      have hmr := hr _ hm
      have : x ≠ (s.met.getD j 0).toNat := fun e => hx (by rw [e, Int.toNat_of_nonneg hmr.1]; exact hm)
      rw [e1, e2, List.getElem?_set_ne this]
      exact h2.2 j hjn
    · obtain rfl : j = s.met.length := by omega
      have e1 : (s.met ++ [(x : Int)]).getD s.met.length 0 = (x : Int) := by simp
      have e2 : (s.words ++ [wd]).getD s.met.length [] = wd := by simp [← hl]
      rw [e1, e2]
      simp [h2.1, hxn]
  · refine ⟨by simpa using h4.1, fun y hy => ?_⟩
    by_cases e : x = y
    · subst e
      simp [h4.1, hxn]
    · rw [List.getElem?_set_ne e, h4.2 y hy]
      have e2 : ¬ (y : Int) = (x : Int) := fun h => e (by omega)
      simp [e2]
  · have : (s.met ++ [(x : Int)]).drop k = s.met.drop k ++ [(x : Int)] := List.drop_append_of_le_length hk
    simp only [this, List.map_append, List.map_cons, List.map_nil]
    exact hq

end Go.Proofs.Ytjcegbcmomfgaaa
