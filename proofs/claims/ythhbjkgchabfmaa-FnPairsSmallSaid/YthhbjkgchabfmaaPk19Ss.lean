/-
  What a call has made for itself, as a list of things that lie in different blocks: one step of the walk turns the whole list at once.
  No condition: this text speaks of no program.
  States met in breadth, letter by letter, with the words that lead to them: the plain meaning of the program's and of the reference's searches.
  No condition: this text speaks of no program.
  A map from things to their places in a list.
  No condition: this text speaks of no program.
  The first of the things met that ends, and its word: plain laws; the same for the numbered automaton.
  No condition: this text speaks of no program.
  Refining classes of states till they stay, plain: the least state of the same class, round by round; it ends.
  No condition: this text speaks of no program.
  The smallest automaton, plain: classes of an automaton and of its reachable part agree; both ways of making it small are the same.
  No condition: this text speaks of no program.
  The walk over the program's sameRow.
  Conditions: the automaton is valid; the classes are a list of numbers, one for each state; all reads as such.
  A valid automaton's memory, laid open; automata as results.
  No condition.
  Plain: rows that are filled from the left, the rest zero.
  Condition: places lie in the row.
  The walks over Index among truth values and Equal of integers.
  Conditions: the lists read as such; the value looked for is in the list.
  The walk over the program's sameStates.
  Condition: the automaton is valid and reads as such.
-/
import Derived.Test.YthhbjkgchabfmaaPk07Dx
import Derived.Test.YthhbjkgchabfmaaPk10Ct
namespace Go.Proofs.Ythhbjkgchabfmaa
open Go.RowKit



section
variable {w0 w w' : World} {L : List Ent}





theorem St.rowlt (h : St w0 w L) (i : Nat) {e size g n cap : Nat} {cs : List Value} (hx : L[i]? = some (Ent.row e size (.slice (some ⟨g, 0, none⟩) n cap) n cs)) : w0.heap.size ≤ g ∧ g < w.heap.size := (h.has i _ hx).2 g rfl

end
/-! Many things as one. -/

/-! What is read above a block stays where a block below is written. -/
end Go.Proofs.Ythhbjkgchabfmaa

namespace Go.Proofs.Ythhbjkgchabfmaa


section
variable {α : Type} [DecidableEq α]

variable {nx : α → Nat → α} {a : α}






end

/-- The automaton of what was met meets its own states in their order. -/
def numNext {α : Type} [DecidableEq α] (nx : α → Nat → α) (a : α) (F : List α) (s : Int) (c : Nat) : Int := placeOf F (nx (F.getD s.toNat a) c)
theorem upInts_succ (n : Nat) : upInts (n + 1) = upInts n ++ [(n : Int)] := by simp [upInts, List.range_succ]
theorem upInts_getD {n k : Nat} (h : k < n) : (upInts n).getD k 0 = (k : Int) := by simp [upInts, h]
theorem num_sim {α : Type} [DecidableEq α] (nx : α → Nat → α) (a : α) (K : Nat) : ∀ k, k ≤ K →
    bat (numNext nx a (bat nx a K).met) 0 k = ⟨upInts (bat nx a k).met.length, (bat nx a k).words⟩
  | 0, _ => rfl
  | k + 1, hK => by
    have ih := num_sim nx a K k (by omega)
    have hlen : (bat (numNext nx a (bat nx a K).met) 0 k).met.length = (bat nx a k).met.length := by rw [ih]; exact upInts_len _
    by_cases h : k < (bat nx a k).met.length
    · rw [bat_succ h, bat_succ (by rw [hlen]; exact h)]
      have hrow : ∀ n, n ≤ 3 → bpart (numNext nx a (bat nx a K).met) 0 k n = ⟨upInts (bpart nx a k n).met.length, (bpart nx a k n).words⟩ := by
        intro n
        induction n with
        | zero => intro _; rw [bpart_zero, bpart_zero]; exact ih
        | succ n ihn =>
          intro hn
          have e := ihn (by omega)
          have hx : (bat (numNext nx a (bat nx a K).met) 0 k).met.getD k 0 = (k : Int) := by rw [ih]; exact upInts_getD h
          have hF : (bat nx a K).met.getD k a = (bat nx a k).met.getD k a := prefix_getD (bat_le (show k ≤ K by omega)).1 h a
          have hnx : numNext nx a (bat nx a K).met (k : Int) n = (placeOf (bat nx a K).met (nx ((bat nx a k).met.getD k a) n) : Int) := by
            unfold numNext
            rw [show ((k : Int).toNat) = k from rfl, hF]
          by_cases hm : nx ((bat nx a k).met.getD k a) n ∈ (bpart nx a k n).met
          · rw [bpart_old hm]
            have hi := prefix_idx (bpart_le_bat (m := K) h (show n ≤ 3 by omega) (by omega)).1 hm
            have hlt : placeOf (bat nx a K).met (nx ((bat nx a k).met.getD k a) n) < (bpart nx a k n).met.length := by rw [hi]; exact placeOf_lt hm
            rw [bpart_old (by rw [hx, hnx, e]; exact mem_upInts.2 hlt), e]
          · have hb := bpart_le_bat (nx := nx) (a := a) (m := K) h hn (by omega)
            rw [bpart_new hm] at hb
            have hi := idx_snoc hb.1 hm
            rw [bpart_new (by rw [hx, hnx, e, hi]; simp [mem_upInts]), bpart_new hm, hx, hnx, hi, e, ih]
            simp [upInts_succ]
      exact hrow 3 (by omega)
    · rw [bat_stay (k := k) (a := a) (by omega), bat_stay (by rw [hlen]; omega)]
      exact ih
end Go.Proofs.Ythhbjkgchabfmaa
namespace Go.Proofs.Ythhbjkgchabfmaa
open Go.RowKit

section
variable {α : Type} [DecidableEq α]
end
end Go.Proofs.Ythhbjkgchabfmaa
namespace Go.Proofs.Ythhbjkgchabfmaa
open Go.RowKit




section
variable {α : Type} [DecidableEq α] {nx nx' : α → Nat → α} {a : α}
theorem brow_congr {x : α} {wd : List Nat} {s : Bs α} (h : ∀ c, c < 3 → nx x c = nx' x c) : ∀ n, n ≤ 3 → brow nx x wd s n = brow nx' x wd s n
  | 0, _ => rfl
  | n + 1, hn => by
    show bvisit nx x wd (brow nx x wd s n) n = bvisit nx' x wd (brow nx' x wd s n) n
    rw [brow_congr h n (by omega)]
    unfold bvisit
    rw [h n (by omega)]
theorem bat_congr {Q : α → Prop} (h0 : Q a) (hv : ∀ x c, c < 3 → Q x → Q (nx x c)) (he : ∀ x c, c < 3 → Q x → nx x c = nx' x c) : ∀ k, bat nx a k = bat nx' a k
  | 0 => rfl
  | k + 1 => by
    have ih := bat_congr h0 hv he k
    by_cases h : k < (bat nx a k).met.length
    · rw [bat_succ h, bat_succ (by rw [← ih]; exact h)]
      unfold bpart
      rw [← ih]
      exact brow_congr (fun c hc => he _ c hc (bat_all h0 hv k _ (memD h))) 3 (by omega)
    · rw [bat_stay (by omega), bat_stay (by rw [← ih]; omega), ih]
theorem bat_mem_first (K : Nat) : a ∈ (bat nx a K).met := by
  have h := memD (d := a) (bat_pos (nx := nx) (a := a) K)
  rwa [bat_first] at h

theorem dnx_num {en : α → Bool} {F : List α} {s : Int} {c : Nat} (h0 : 0 ≤ s) (h1 : s < F.length) (hc : c < 3) : dnx (numDfa nx en F) s c = numNext nx a F s c := by
  unfold dnx numNext
  rw [numDfa_row (a := a) (by omega), numRow_at hc]
theorem den_num {en : α → Bool} {F : List α} {i : Nat} (hi : i < F.length) : den (numDfa nx en F) (i : Int) = en F[i] := by
  simp [den, numDfa, hi]
end
end Go.Proofs.Ythhbjkgchabfmaa

namespace Go.Proofs.Ythhbjkgchabfmaa
section
variable (n : Nat) (nx : Nat → Nat → Nat)
end
section
variable {n : Nat} {nx : Nat → Nat → Nat}
theorem clEnd_stays (hnx : ∀ s c, s < n → c < 3 → nx s c < n) (en : Nat → Bool) : stays n nx en n := by
  obtain ⟨i, hi, hs, -⟩ := stays_ex (n := n) (nx := nx) en
  intro s hsn
  rw [stays_all hnx hs (n + 1) (by omega) s hsn, stays_all hnx hs n hi s hsn]
/-- Two states are in one class at the end exactly if they are of one class and so is where they lead. -/
theorem clEnd_eq (hnx : ∀ s c, s < n → c < 3 → nx s c < n) {en : Nat → Bool} {s t : Nat} (hs : s < n) (ht : t < n) : clEnd n nx en s = clEnd n nx en t → ∀ c, c < 3 → clEnd n nx en (nx s c) = clEnd n nx en (nx t c) := by
  intro h
  have h1 := clEnd_stays hnx en
  have h2 : refineC n nx (clEnd n nx en) s = refineC n nx (clEnd n nx en) t := by
    have a := h1 s hs
    have b := h1 t ht
    exact a.trans (h.trans b.symm)
  exact ((sameAt_iff nx).1 ((refine_eq hs ht).1 h2)).2
theorem clAt_ends {en : Nat → Bool} : ∀ (i : Nat) {s t : Nat}, s < n → t < n → clAt n nx en i s = clAt n nx en i t → en s = en t
  | 0, _, _, hs, ht, h => (cl0_eq hs ht).1 h
  | i + 1, _, _, hs, ht, h => clAt_ends i hs ht ((sameAt_iff nx).1 ((refine_eq hs ht).1 h)).1
theorem clEnd_ends {en : Nat → Bool} {s t : Nat} (hs : s < n) (ht : t < n) (h : clEnd n nx en s = clEnd n nx en t) : en s = en t := clAt_ends n hs ht h
end
end Go.Proofs.Ythhbjkgchabfmaa

namespace Go.Proofs.Ythhbjkgchabfmaa
open Go.RowKit


def nxM (d : DfaD) (s : Int) (c : Nat) : Int := (clD d (nxD d s.toNat c) : Nat)
/-- As the program makes it small. -/
def minD (d : DfaD) : DfaD := numDfa (nxM d) (den d) (bat (nxM d) ((clD d 0 : Nat) : Int) d.next.length).met
end Go.Proofs.Ythhbjkgchabfmaa

namespace Go.Proofs.Ythhbjkgchabfmaa
open Go.RowKit

theorem sameR_no {d : DfaD} {cl : Nat → Nat} {s o k : Nat} (hk : k < 3) (h : cl (nxD d s k) ≠ cl (nxD d o k)) : sameR d cl s o 3 = false := by
  cases he : sameR d cl s o 3 with
  | false => rfl
  | true =>
    have := List.all_eq_true.1 he k (List.mem_range.2 hk)
    exact absurd (by simpa using this) h
set_option maxRecDepth 100000 in
set_option maxHeartbeats 4000000 in
theorem sameRow_any (d : DfaD) (cl : Nat → Nat) (s o : Nat) (dv cv : Value) (w : World) (hd : dfaOk d.next d.ends = true) (hs : s < d.next.length) (ho : o < d.next.length) (hcl : ∀ t, t < d.next.length → cl t < d.next.length) (h : DfaR 0 w dv d) (hc : Ints 0 w cv (clsL d.next.length cl)) (r : Bool) (hr : sameR d cl s o 3 = r) :
    Calls Try.prog 125 #[dv, cv, .int .i64 s, .int .i64 o] w fun e w' => e = .returned (.bool r) ∧ Below w.heap.size w w' := by
  obtain ⟨v1, v2, rfl, q1, q2⟩ := h
  have hf := fine_of hd
  obtain ⟨L, hL⟩ : ∃ L, L = d.next.length := ⟨_, rfl⟩
  obtain ⟨hl1, hl2, -⟩ := dfaOk_len hd
  have hrow := fun (i : Nat) (hi : i < d.next.length) => (dfaOk_row hd hi).1
  have hnx := fun (i c : Nat) (hi : i < d.next.length) (h3 : c < 3) => (nxD_lt hf hi h3)
  obtain ⟨av, cvv, rfl, hc1, hc2, hr1⟩ := q1.formI
  obtain ⟨b1, o1, rfl, -, hb1, hcs1⟩ := hr1 (by omega)
  obtain ⟨ac, cc, rfl, hc3, hc4, hr2⟩ := hc.form
  rw [clsL_len] at hc3 hr2
  rw [clsL_len]
  obtain ⟨b2, o2, rfl, -, hb2, hcs2⟩ := hr2 (by omega)
  have hcell : ∀ t, t < d.next.length → w.cell? ⟨b2, o2 + t, none⟩ = some (.int .i64 (cl t : Nat)) := fun t ht => by rw [hcs2 t ht, clsL_at cl ht]
  obtain ⟨ax, cs, hks, -, -, hIs⟩ := hcs1 s hs
  obtain ⟨ao, co, hko, -, -, hIo⟩ := hcs1 o ho
  rw [hrow s hs] at hks hIs
  rw [hrow o ho] at hko hIo
  obtain ⟨_, _, hform, -, -, hrs⟩ := hIs.form
  rw [hrow s hs] at hform hrs
  simp only [Value.slice.injEq, true_and] at hform
  obtain ⟨rfl, rfl⟩ := hform
  obtain ⟨b3, o3, rfl, -, hb3, hcs3⟩ := hrs (by omega)
  obtain ⟨_, _, hform, -, -, hro⟩ := hIo.form
  rw [hrow o ho] at hform hro
  simp only [Value.slice.injEq, true_and] at hform
  obtain ⟨rfl, rfl⟩ := hform
  obtain ⟨b4, o4, rfl, -, hb4, hcs4⟩ := hro (by omega)
  have hval : ∀ i c, i < d.next.length → c < 3 → (d.next.getD i []).getD c 0 = ((nxD d i c : Nat) : Int) := fun i c hi h3 => by
    have := (hnx i c hi h3).2
    unfold dnx at this
    rwa [Int.toNat_natCast] at this
  have hS0 := (St.start w).alloc _ rfl #[.slice (some ⟨b1, o1, none⟩) d.next.length cvv, v2] 26
  have Hnx := Lib.hid hnx
  have Hval := Lib.hid hval
  have Hcell := Lib.hid hcell
  have Hks := Lib.hid hks
  have Hko := Lib.hid hko
  have Hcs3 := Lib.hid hcs3
  have Hcs4 := Lib.hid hcs4
  have Hcl := Lib.hid hcl
  rw [← hL] at hs ho hl1 hl2 hS0
  rw [← hL]
  have hsI : (s : Int) < L := by omega
  have hoI : (o : Int) < L := by omega
  have HhS0 := Lib.hid hS0; clear hS0
  have Hhr := Lib.hid hr; clear hr
  have HhL := Lib.hid hL; clear hL
  clear hnx hval hcell hks hko hcs3 hcs4 hcl hcs1 hcs2 hr1 hr2 hrs hro hIs hIo q1 q2 hc hd hrow hf
  go_enter Try.func125, Try.ntmps125
  go_wp2
  go_loopw [10] (fun i wr => ∃ k : Nat, i = .int .i64 k ∧ k ≤ 3 ∧ sameR d cl s o k = true ∧ St w wr [Ent.box w.heap.size #[.slice (some ⟨b1, o1, none⟩) L cvv, v2] 26]) (fun i _ => 3 - (intOf i).toNat)
  case atStart => exact ⟨0, rfl, by omega, rfl, HhS0.out⟩
  case round =>
    obtain ⟨k, rfl, hk, hsm, hS⟩ := hrel
    by_cases hlt : k < 3
    · have hlt2 : (k : Int) < 3 := by omega
      have hsn : s < d.next.length := by have := HhL.out; omega
      have hon : o < d.next.length := by have := HhL.out; omega
      have h1 := (Hnx.out s k hsn hlt).1
      have h2 := (Hnx.out o k hon hlt).1
      have e0 := hS.cell (v := .slice (some ⟨b1, o1, none⟩) L cvv) 0 0 rfl rfl
      have e1 := (bcell hS.bel b1 _ hb1).trans Hks.out
      have e2 := (bcell hS.bel b1 _ hb1).trans Hko.out
      have e3 := (bcell hS.bel b3 _ hb3).trans (Hcs3.out k hlt)
      have e4 := (bcell hS.bel b4 _ hb4).trans (Hcs4.out k hlt)
      rw [Hval.out s k hsn hlt] at e3
      rw [Hval.out o k hon hlt] at e4
      have e5 := (bcell hS.bel b2 _ hb2).trans (Hcell.out _ h1)
      have e6 := (bcell hS.bel b2 _ hb2).trans (Hcell.out _ h2)
      have hsucc := sameR_succ d cl s o k
      obtain ⟨p, hp⟩ : ∃ p, p = nxD d s k := ⟨_, rfl⟩
      obtain ⟨q, hq⟩ : ∃ q, q = nxD d o k := ⟨_, rfl⟩
      rw [← hp] at h1 e3 e5 hsucc
      rw [← hq] at h2 e4 e6 hsucc
      rw [hsm, Bool.true_and] at hsucc
      rw [← HhL.out] at h1 h2
      have hpI : (p : Int) < L := by omega
      have hqI : (q : Int) < L := by omega
      have Hhp := Lib.hid hp; clear hp
      have Hhq := Lib.hid hq; clear hq
      have HhS := Lib.hid hS; clear hS
      have Hhsm := Lib.hid hsm; clear hsm
      have Hhsucc := Lib.hid hsucc; clear hsucc
      clear h1 h2 hsn hon
      by_cases he : cl p = cl q
      · have heI : ((cl p : Int) != (cl q : Int)) = false := by rw [he]; simp
        have heI2 : ((cl p : Int) = (cl q : Int)) = True := by simp [he]
        have heI3 : (!((cl p : Int) == (cl q : Int))) = false := by rw [he]; simp
        have Hhe := Lib.hid he; clear he
        go_wp2
        go_quiet (fail)
        go_wp2
        go_roundw
        case rel => exact ⟨k + 1, by go_num, by omega, by rw [Hhsucc.out]; simp [Hhe.out], HhS.out.drewN _⟩
        case measure => simp [intOf]; omega
      · have heI : ((cl p : Int) != (cl q : Int)) = true := by simp; omega
        have heI2 : ((cl p : Int) = (cl q : Int)) = False := by simp; omega
        have heI3 : (!((cl p : Int) == (cl q : Int))) = true := by simp; omega
        have Hhe := Lib.hid he; clear he
        go_wp2
        go_quiet (fail)
        go_wp2
        go_ret
        have hrf : false = r := by rw [← Hhr.out]; exact (sameR_no hlt (by rw [← Hhp.out, ← Hhq.out]; exact Hhe.out)).symm
        subst hrf
        exact ⟨rfl, (HhS.out.drewN _).bel⟩
    · obtain rfl : k = 3 := by omega
      have hrt : true = r := by rw [← Hhr.out, hsm]
      subst hrt
      have HhS := Lib.hid hS; clear hS
      have Hhsm := Lib.hid hsm; clear hsm
      go_wp2
      go_ret
      exact ⟨rfl, HhS.out.bel⟩
end Go.Proofs.Ythhbjkgchabfmaa

namespace Go.Proofs.Ythhbjkgchabfmaa
open Go.RowKit

/-- An automaton as a function's result, the call's own. -/
def RDo (D : DfaD) (w : World) (e : Ending) (w' : World) : Prop := ∃ a1 c1 a2 c2, e = .returned (.agg #[.slice a1 D.next.length c1, .slice a2 D.ends.length c2]) ∧
  DfaO 29 3 4 w.heap.size w'.heap.size w' (.agg #[.slice a1 D.next.length c1, .slice a2 D.ends.length c2]) D ∧ Below w.heap.size w w'
end Go.Proofs.Ythhbjkgchabfmaa

namespace Go.Proofs.Ythhbjkgchabfmaa
open Go.RowKit

def padL (n s : Nat) (cl : Nat → Nat) : List Int := clsL s cl ++ List.replicate (n - s) 0
def padT (n s : Nat) (cl : Nat → Nat) (t : Nat) : List Int := clsL s cl ++ ((t : Nat) : Int) :: List.replicate (n - s - 1) 0
theorem padL_zero (n : Nat) (cl : Nat → Nat) : padL n 0 cl = List.replicate n 0 := by simp [padL, clsL]
theorem padL_end (n : Nat) (cl : Nat → Nat) : padL n n cl = clsL n cl := by simp [padL]
theorem padL_T {n s : Nat} (cl : Nat → Nat) (h : s < n) : padL n s cl = padT n s cl 0 := by
  unfold padL padT
  rw [show n - s = (n - s - 1) + 1 by omega, List.replicate_succ]
  rfl
theorem padT_end {n s : Nat} (cl : Nat → Nat) : padT n s cl (cl s) = padL n (s + 1) cl := by
  unfold padL padT
  rw [clsL_snoc, List.append_assoc, show n - (s + 1) = n - s - 1 by omega]
  rfl
theorem padT_set {n s : Nat} (cl : Nat → Nat) (t t' : Nat) : (intCells (padT n s cl t)).set s (.int .i64 ((t' : Nat) : Int)) = intCells (padT n s cl t') := by
  unfold intCells
  rw [← List.map_set (f := fun x => Value.int .i64 x)]
  congr 1
  unfold padT
  rw [List.set_append_right _ _ (by rw [clsL_len]; exact Nat.le_refl _), clsL_len, Nat.sub_self]
  rfl
theorem padT_at {n s : Nat} (cl : Nat → Nat) (t : Nat) : (intCells (padT n s cl t))[s]? = some (.int .i64 ((t : Nat) : Int)) := by
  simp [intCells, padT, clsL_len]
theorem made_ints {w : World} {B n : Nat} {v : Value} (cl : Nat → Nat) (h : w.ownsRow B 3 1 v n (madeCells (Value.int .i64 0).cells (n * 1)).toList) : w.ownsRow B 3 1 v n (intCells (padL n 0 cl)) := by
  have e : (madeCells (Value.int .i64 0).cells (n * 1)).toList = intCells (padL n 0 cl) := by
    rw [padL_zero]
    simp [madeCells, Value.cells, intCells, Nat.mod_one, List.map_const']
  rwa [e] at h
theorem clsL_inj {n : Nat} {a b : Nat → Nat} : clsL n a = clsL n b ↔ ∀ s, s < n → a s = b s := by
  constructor
  · intro h s hs
    have := congrArg (fun l => l.getD s 0) h
    simp only [clsL_at a hs, clsL_at b hs] at this
    omega
  · exact clsL_congr
end Go.Proofs.Ythhbjkgchabfmaa

namespace Go.Proofs.Ythhbjkgchabfmaa
open Go.RowKit

set_option maxHeartbeats 1600000 in
theorem indexB_any (xs : List Bool) (y : Bool) (p : Nat) (v : Value) (w : World) (h1 : Bools 0 w v xs) (hp : p < xs.length) (hy : xs.getD p false = y) (hno : ∀ j, j < p → xs.getD j false ≠ y) :
    Calls Try.prog 124 #[v, .bool y] w fun e w' => e = .returned (.int .i64 (p : Nat)) ∧ Below w.heap.size w w' := by
  obtain ⟨a1, c1, rfl, hc1, hm1, hr1⟩ := h1.form
  obtain ⟨b1, o1, rfl, -, hbl1, hcs1⟩ := hr1 (by omega)
  have Hcs := Lib.hid hcs1
  have Hno := Lib.hid hno
  have Hhy := Lib.hid hy; clear hy
  clear hr1 hcs1 hno h1
  go_enter Try.func124, Try.ntmps124
  go_wp2
  go_loopw [4, 8] (fun r i wr => ∃ k : Nat, k ≤ p ∧ i = .int .i64 k ∧ Below w.heap.size w wr) (fun _ i _ => p + 1 - (intOf i).toNat)
  case atStart => exact ⟨0, Nat.zero_le _, rfl, Below.refl _ _⟩
  case round =>
    obtain ⟨k, hk, rfl, hb⟩ := hrel
    have hkl : (k : Int) < xs.length := by omega
    have k1 := (bcell hb b1 (o1 + k) hbl1).trans (Hcs.out k (by omega))
    obtain ⟨z, hz⟩ : ∃ z, z = xs.getD k false := ⟨_, rfl⟩
    rw [← hz] at k1
    have Hhb := Lib.hid hb; clear hb
    by_cases he : k = p
    · subst he
      have hzy : z = y := by rw [hz]; exact Hhy.out
      subst hzy
      have Hhz := Lib.hid hz; clear hz
      go_wp2
      go_ret
      exact ⟨rfl, Hhb.out⟩
    · have hne : z ≠ y := by rw [hz]; exact Hno.out k (by omega)
      have g1 : (y == z) = false := by simpa using hne.symm
      have g2 : (z == y) = false := by simpa using hne
      have Hhz := Lib.hid hz; clear hz
      have Hhne := Lib.hid hne; clear hne
      go_wp2
      go_roundw
      case rel => exact ⟨k + 1, by omega, by go_num, Hhb.out⟩
      case measure => simp [intOf]; omega
set_option maxHeartbeats 1600000 in
theorem equalI_any (xs ys : List Int) (n : Nat) (v1 v2 : Value) (w : World) (hx : xs.length = n) (hy : ys.length = n) (h1 : Ints 0 w v1 xs) (h2 : Ints 0 w v2 ys) (r : Bool) (hr : decide (xs = ys) = r) :
    Calls Try.prog 126 #[v1, v2] w fun e w' => e = .returned (.bool r) ∧ Below w.heap.size w w' := by
  obtain ⟨a1, c1, rfl, hc1, hm1, hr1⟩ := h1.form
  obtain ⟨a2, c2, rfl, hc2, hm2, hr2⟩ := h2.form
  rw [hx] at hc1 hr1
  rw [hy] at hc2 hr2
  rw [hx, hy]
  have hnn : ((n : Int) != n) = false := by simp
  have Hhx := Lib.hid hx; clear hx
  have Hhy := Lib.hid hy; clear hy
  have Hhr := Lib.hid hr; clear hr
  clear h1 h2
  go_enter Try.func126, Try.ntmps126
  go_wp2
  go_loopw [4, 13] (fun r i wr => ∃ k : Nat, k ≤ n ∧ i = .int .i64 k ∧ xs.take k = ys.take k ∧ Below w.heap.size w wr) (fun _ i _ => n - (intOf i).toNat)
  case atStart => exact ⟨0, Nat.zero_le _, rfl, rfl, Below.refl _ _⟩
  case round =>
    obtain ⟨k, hk, rfl, htk, hb⟩ := hrel
    have Hhtk := Lib.hid htk; clear htk
    by_cases hlt : k < n
    · obtain ⟨b1, o1, rfl, -, hbl1, hcs1⟩ := hr1 (by omega)
      obtain ⟨b2, o2, rfl, -, hbl2, hcs2⟩ := hr2 (by omega)
      have k1 := (bcell hb b1 (o1 + k) hbl1).trans (hcs1 k hlt)
      have k2 := (bcell hb b2 (o2 + k) hbl2).trans (hcs2 k hlt)
      obtain ⟨p, hp⟩ : ∃ p, p = xs.getD k 0 := ⟨_, rfl⟩
      obtain ⟨q, hq⟩ : ∃ q, q = ys.getD k 0 := ⟨_, rfl⟩
      rw [← hp] at k1
      rw [← hq] at k2
      have Hhp := Lib.hid hp; clear hp
      have Hhq := Lib.hid hq; clear hq
      have Hhb := Lib.hid hb; clear hb
      clear hcs1 hcs2 hr1 hr2
      by_cases hpq : p = q
      · have g1 : (p != q) = false := by simpa using hpq
        have g2 : (!(p == q)) = false := by simpa using hpq
        have g3 : (p = q) = True := by simpa using hpq
        have Hhpq := Lib.hid hpq; clear hpq
        go_wp2
        go_quiet (fail)
        go_wp2
        go_roundw
        case rel => exact ⟨k + 1, by omega, by go_num, take_snoc_eq (d := 0) (by rw [Hhx.out]; exact hlt) (by rw [Hhy.out]; exact hlt) Hhtk.out (by rw [← Hhp.out, ← Hhq.out]; exact Hhpq.out), below_drewN Hhb.out _⟩
        case measure => simp [intOf]; omega
      · have g1 : (p != q) = true := by simpa using hpq
        have g2 : (!(p == q)) = true := by simpa using hpq
        have g3 : (p = q) = False := by simpa using hpq
        have Hhpq := Lib.hid hpq; clear hpq
        go_wp2
        go_quiet (fail)
        go_wp2
        go_ret
        exact ⟨by rw [← Hhr.out, decide_eq_false (ne_of_getD (k := k) (d := 0) (by rw [← Hhp.out, ← Hhq.out]; exact Hhpq.out))]; rfl, below_drewN Hhb.out _⟩
    · obtain rfl : k = n := by omega
      have Hhb := Lib.hid hb; clear hb
      clear hr1 hr2
      go_wp2
      go_ret
      refine ⟨?_, Hhb.out⟩
      have h := Hhtk.out
      rw [List.take_of_length_le (by rw [Hhx.out]; exact Nat.le_refl _), List.take_of_length_le (by rw [Hhy.out]; exact Nat.le_refl _)] at h
      rw [← Hhr.out, decide_eq_true h]
      rfl

end Go.Proofs.Ythhbjkgchabfmaa

namespace Go.Proofs.Ythhbjkgchabfmaa
open Go.RowKit

/-- How many places of a row hold their own number. -/
def repsW (w : World) (b n : Nat) : Nat := ((List.range n).filter fun s => decide (natAt w b s = s)).length
theorem repsW_of {w : World} {b n : Nat} {cl : Nat → Nat} (h : ∀ s, s < n → w.cell? ⟨b, s, none⟩ = some (.int .i64 ((cl s : Nat) : Int))) : repsW w b n = reps n cl := by
  unfold repsW reps
  congr 1
  refine List.filter_congr fun s hs => ?_
  rw [natAt_of (h s (List.mem_range.1 hs))]
set_option maxRecDepth 100000 in
set_option maxHeartbeats 8000000 in
theorem sameStates_any (d : DfaD) (v : Value) (w : World) (hd : dfaOk d.next d.ends = true) (h : DfaR 0 w v d) :
    Calls Try.prog 85 #[v] w fun e w' => RCl d w e w' := by
  have HR := Lib.hid h
  obtain ⟨b1, o1, cv, b2, o2, cw, rfl, hC⟩ := dfa_open hd h
  have hnx : ∀ s c, s < d.next.length → c < 3 → nxD d s c < d.next.length := fun s c hs hc => hC.lt s c hs hc
  obtain ⟨N, hN, hNs, hNo⟩ := stays_ex (n := d.next.length) (nx := nxD d) (enD d)
  obtain ⟨C, hCC⟩ : ∃ C, C = clAt d.next.length (nxD d) (enD d) := ⟨_, rfl⟩
  have hfin : ∀ s, s < d.next.length → C (N + 1) s = clD d s := fun s hs => by
    rw [hCC, hNs s hs]
    exact (clEnd_at hnx hN hNs hs).symm
  have hgood : ∀ i, GoodC d.next.length (C i) := fun i => by rw [hCC]; exact clAt_good (enD d) i
  have hc0 : ∀ s, s < d.next.length → C 0 s ≤ s ∧ enD d (C 0 s) = enD d s ∧ ∀ j, j < C 0 s → enD d j ≠ enD d s := fun s hs => by rw [hCC]; exact cl0_facts hs
  have hcs : ∀ i s, s < d.next.length → C (i + 1) s ≤ s ∧ sameAt (nxD d) (C i) (C (i + 1) s) s = true ∧ ∀ j, j < C (i + 1) s → sameAt (nxD d) (C i) j s = false := fun i s hs => by rw [hCC]; exact refine_facts hs
  have hsd : ∀ i, clsL d.next.length (C (i + 1)) = clsL d.next.length (C i) ↔ stays d.next.length (nxD d) (enD d) i := fun i => by
    rw [clsL_inj, hCC]
    exact Iff.rfl
  obtain ⟨L, hL⟩ : ∃ L, L = d.next.length := ⟨_, rfl⟩
  have hl1 := hC.l1
  have hl2 := hC.l2
  have hS0 := (St.start w).alloc _ rfl #[.slice (some ⟨b1, o1, none⟩) L cv, .slice (some ⟨b2, o2, none⟩) L cw] 26
  unfold RCl
  rw [← hL] at hl1 hl2 HR hN hgood hc0 hcs hsd hfin
  rw [← hL]
  obtain ⟨i0, hi, hz0, hz1, hz2⟩ := info_parts Try.infoInt
  have HC := Lib.hid hC
  have Hgood := Lib.hid hgood
  have Hc0 := Lib.hid hc0
  have Hcs := Lib.hid hcs
  have Hsd := Lib.hid hsd
  have Hfin := Lib.hid hfin
  have HNo := Lib.hid hNo
  have HNs := Lib.hid hNs
  have HhS0 := Lib.hid hS0; clear hS0
  have HhL := Lib.hid hL; clear hL
  have HhCC := Lib.hid hCC; clear hCC
  have Hhi := Lib.hid hi; clear hi
  have Hhz0 := Lib.hid hz0; clear hz0
  have Hhz1 := Lib.hid hz1; clear hz1
  have Hhz2 := Lib.hid hz2; clear hz2
  clear hC hgood hc0 hcs hsd hfin hNo hNs hnx h
  go_enter Try.func85, Try.ntmps85
  have HD := Lib.hid (show ∀ w1 : World, w1.ownsRow (w.alloc (.cells #[.slice (some ⟨b1, o1, none⟩) L cv, .slice (some ⟨b2, o2, none⟩) L cw] 26)).heap.size 3 1 (.slice (some ⟨w.heap.size + 1, 0, none⟩) L L) L (intCells (padL L 0 (C 0))) → Below (w.alloc (.cells #[.slice (some ⟨b1, o1, none⟩) L cv, .slice (some ⟨b2, o2, none⟩) L cw] 26)).heap.size (w.alloc (.cells #[.slice (some ⟨b1, o1, none⟩) L cv, .slice (some ⟨b2, o2, none⟩) L cw] 26)) w1 →
      St w w1 [Ent.box w.heap.size #[.slice (some ⟨b1, o1, none⟩) L cv, .slice (some ⟨b2, o2, none⟩) L cw] 26, Ent.row 3 1 (.slice (some ⟨w.heap.size + 1, 0, none⟩) L L) L (intCells (padL L 0 (C 0)))] from fun w1 h1 h2 => HhS0.out.made h2 h1)
  go_wp2_with (at_make; refine wpList_make_full _ rfl _ _ 29 rfl _ 3 i0 (.int .i64 0) 1 Try.underlying29 Hhi.out Hhz0.out Hhz1.out .i64 .i64 _ _ L rfl rfl rfl rfl (by rw [Hhz2.out]; omega) (by unfold maxLen; omega) (Nat.le_refl _) ?_; intro w1 hown hgrow; have hm := made_ints (C 0) hown; simp only [World.size_alloc] at hm; have HS1 := Lib.hid (HD.out w1 (by simpa only [World.size_alloc] using hm) ((Below.refl _ _).grown hgrow (Nat.le_refl _) (fun _ h => by cases h))); clear hown hgrow hm)
  go_loopw [14] (fun i wr => ∃ s : Nat, i = .int .i64 s ∧ s ≤ L ∧ St w wr [Ent.box w.heap.size #[.slice (some ⟨b1, o1, none⟩) L cv, .slice (some ⟨b2, o2, none⟩) L cw] 26, Ent.row 3 1 (.slice (some ⟨w.heap.size + 1, 0, none⟩) L L) L (intCells (padL L s (C 0)))]) (fun i _ => L - (intOf i).toNat)
  case atStart => exact ⟨0, rfl, Nat.zero_le _, HS1.out⟩
  case round =>
    obtain ⟨s, rfl, hs, hS⟩ := hrel
    by_cases hlt : s < L
    · have hlt2 : (s : Int) < L := by omega
      have hsn : s < d.next.length := by have := HhL.out; omega
      have hen := HC.out.en s hsn
      have hci := Hc0.out s hlt
      have hpad := padT_end (n := L) (s := s) (C 0)
      have hset := padT_set (n := L) (s := s) (C 0) 0 (C 0 s)
      rw [padL_T (C 0) hlt] at hS
      rw [hpad] at hset
      have hat := padT_at (n := L) (s := s) (C 0) 0
      have hix := fun (w' : World) (hb : Below w.heap.size w w') (z : Bool) (hz : z = enD d s) => indexB_any d.ends z (C 0 s) (.slice (some ⟨b2, o2, none⟩) L cw) w' (by
        obtain ⟨u1, u2, hq, -, h2⟩ := HR.out
        simp only [Value.agg.injEq, Array.mk.injEq, List.cons.injEq, and_true] at hq
        rw [hq.2]
        exact h2.below hb) (by have := HC.out.le; omega) (by rw [hz]; exact hci.2.1) (fun j hj => by rw [hz]; exact hci.2.2 j hj)
      obtain ⟨z, hz⟩ : ∃ z, z = enD d s := ⟨_, rfl⟩
      rw [← hz] at hen
      obtain ⟨p, hp⟩ : ∃ p, p = C 0 s := ⟨_, rfl⟩
      rw [← hp] at hset hix
      have Hix := Lib.hid fun (w' : World) (hb : Below w.heap.size w w') => hix w' hb z hz
      have Hen := Lib.hid hen
      obtain ⟨X0, hX0⟩ : ∃ X0, X0 = intCells (padT L s (C 0) 0) := ⟨_, rfl⟩
      obtain ⟨X1, hX1⟩ : ∃ X1, X1 = intCells (padL L (s + 1) (C 0)) := ⟨_, rfl⟩
      rw [← hX0, ← hX1] at hset
      rw [← hX0] at hS hat
      have HS := Lib.hid hS
      have Hhz := Lib.hid hz; clear hz
      have Hhp := Lib.hid hp; clear hp
      have Hhset := Lib.hid hset; clear hset
      have Hhat := Lib.hid hat; clear hat
      have HhX0 := Lib.hid hX0; clear hX0
      have HhX1 := Lib.hid hX1; clear hX1
      clear hS hix hen hci hpad
      go_wp2
      refine wp_region_any (by kernel_rfl) ?_
      refine wpAny_invA (fun A listed a w' => ∃ (l0 l1 l2 l3 l4 l5 l6 l7 l8 l9 l10 l11 : Bool) , listed = #[l0, l1, l2, l3, l4, l5, l6, l7, l8, l9, l10, l11] ∧
          a = ⟨(((((((((((A.tmps.setIfInBounds 17 (if l0 = true then .slice (some ⟨w.heap.size + 1, 0, none⟩) L L else A.tmps.getD 17 undef)).setIfInBounds 18 (if l1 = true then .int .i64 (s : Int) else A.tmps.getD 18 undef)).setIfInBounds 19 (if l2 = true then .pointer (some ⟨w.heap.size, 1, none⟩) else A.tmps.getD 19 undef)).setIfInBounds 20 (if l3 = true then .slice (some ⟨b2, o2, none⟩) L cw else A.tmps.getD 20 undef)).setIfInBounds 21 (if l4 = true then .pointer (some ⟨w.heap.size, 1, none⟩) else A.tmps.getD 21 undef)).setIfInBounds 22 (if l5 = true then .slice (some ⟨b2, o2, none⟩) L cw else A.tmps.getD 22 undef)).setIfInBounds 23 (if l6 = true then .int .i64 (s : Int) else A.tmps.getD 23 undef)).setIfInBounds 24 (if l7 = true then .pointer (some ⟨b2, o2 + s, none⟩) else A.tmps.getD 24 undef)).setIfInBounds 25 (if l8 = true then .bool z else A.tmps.getD 25 undef)).setIfInBounds 26 (if l9 = true then .int .i64 (p : Int) else A.tmps.getD 26 undef)).setIfInBounds 27 (if l10 = true then .pointer (some ⟨w.heap.size + 1, s, none⟩) else A.tmps.getD 27 undef)), A.defers⟩ ∧
          St w w' [Ent.box w.heap.size #[.slice (some ⟨b1, o1, none⟩) L cv, .slice (some ⟨b2, o2, none⟩) L cw] 26, Ent.row 3 1 (.slice (some ⟨w.heap.size + 1, 0, none⟩) L L) L (if l11 = true then X1 else X0)]) ?_ ?_ ?_
      · rintro listed a w' ⟨l0, l1, l2, l3, l4, l5, l6, l7, l8, l9, l10, l11, rfl, rfl, hS⟩ i hi
        obtain ⟨hun, o, ho, hall⟩ := mem_ready.1 hi
        have hlt := (Array.getElem?_eq_some_iff.1 ho).1
        refine wpOp_step ho (fun K hK => ?_)
        clear hi
        have HS := Lib.hid hS
        clear hS
        simp only [List.setIfInBounds_toArray, List.set_cons_zero, List.set_cons_succ, Array.getD_eq_getD_getElem?, List.getElem?_toArray, List.getElem?_cons_zero, List.getElem?_cons_succ, Option.getD_some]
        obtain h | h | h | h | h | h | h | h | h | h | h | h : i = 0 ∨ i = 1 ∨ i = 2 ∨ i = 3 ∨ i = 4 ∨ i = 5 ∨ i = 6 ∨ i = 7 ∨ i = 8 ∨ i = 9 ∨ i = 10 ∨ i = 11 := by simp at hlt; omega
        all_goals subst h
        all_goals simp only [List.getElem?_toArray, List.getElem?_cons_zero, List.getElem?_cons_succ, Option.some.injEq] at ho
        all_goals subst ho
        all_goals simp [Region.binds] at hun hall
        · subst hun
          go_simp
          exact hK _ _ ⟨true, l1, l2, l3, l4, l5, l6, l7, l8, l9, l10, l11, rfl, (by simp only [↓reduceIte, List.setIfInBounds_toArray, List.set_cons_zero, List.set_cons_succ, Array.getD_eq_getD_getElem?, List.getElem?_toArray, List.getElem?_cons_zero, List.getElem?_cons_succ, Option.getD_some]), HS.out⟩
        · subst hun
          go_simp
          exact hK _ _ ⟨l0, true, l2, l3, l4, l5, l6, l7, l8, l9, l10, l11, rfl, (by simp only [↓reduceIte, List.setIfInBounds_toArray, List.set_cons_zero, List.set_cons_succ, Array.getD_eq_getD_getElem?, List.getElem?_toArray, List.getElem?_cons_zero, List.getElem?_cons_succ, Option.getD_some]), HS.out⟩
        · subst hun
          go_simp
          exact hK _ _ ⟨l0, l1, true, l3, l4, l5, l6, l7, l8, l9, l10, l11, rfl, (by simp only [↓reduceIte, List.setIfInBounds_toArray, List.set_cons_zero, List.set_cons_succ, Array.getD_eq_getD_getElem?, List.getElem?_toArray, List.getElem?_cons_zero, List.getElem?_cons_succ, Option.getD_some]), HS.out⟩
        · obtain rfl := hall
          subst hun
          have e0 := HS.out.cell (v := .slice (some ⟨b2, o2, none⟩) L cw) 0 1 rfl rfl
          go_simp
          exact hK _ _ ⟨l0, l1, true, true, l4, l5, l6, l7, l8, l9, l10, l11, rfl, (by simp only [↓reduceIte, List.setIfInBounds_toArray, List.set_cons_zero, List.set_cons_succ, Array.getD_eq_getD_getElem?, List.getElem?_toArray, List.getElem?_cons_zero, List.getElem?_cons_succ, Option.getD_some]), HS.out⟩
        · subst hun
          go_simp
          exact hK _ _ ⟨l0, l1, l2, l3, true, l5, l6, l7, l8, l9, l10, l11, rfl, (by simp only [↓reduceIte, List.setIfInBounds_toArray, List.set_cons_zero, List.set_cons_succ, Array.getD_eq_getD_getElem?, List.getElem?_toArray, List.getElem?_cons_zero, List.getElem?_cons_succ, Option.getD_some]), HS.out⟩
        · obtain rfl := hall
          subst hun
          have e0 := HS.out.cell (v := .slice (some ⟨b2, o2, none⟩) L cw) 0 1 rfl rfl
          go_simp
          exact hK _ _ ⟨l0, l1, l2, l3, true, true, l6, l7, l8, l9, l10, l11, rfl, (by simp only [↓reduceIte, List.setIfInBounds_toArray, List.set_cons_zero, List.set_cons_succ, Array.getD_eq_getD_getElem?, List.getElem?_toArray, List.getElem?_cons_zero, List.getElem?_cons_succ, Option.getD_some]), HS.out⟩
        · subst hun
          go_simp
          exact hK _ _ ⟨l0, l1, l2, l3, l4, l5, true, l7, l8, l9, l10, l11, rfl, (by simp only [↓reduceIte, List.setIfInBounds_toArray, List.set_cons_zero, List.set_cons_succ, Array.getD_eq_getD_getElem?, List.getElem?_toArray, List.getElem?_cons_zero, List.getElem?_cons_succ, Option.getD_some]), HS.out⟩
        · obtain ⟨rfl, rfl⟩ := hall
          subst hun
          go_simp
          exact hK _ _ ⟨l0, l1, l2, l3, l4, true, true, true, l8, l9, l10, l11, rfl, (by simp only [↓reduceIte, List.setIfInBounds_toArray, List.set_cons_zero, List.set_cons_succ, Array.getD_eq_getD_getElem?, List.getElem?_toArray, List.getElem?_cons_zero, List.getElem?_cons_succ, Option.getD_some]), HS.out⟩
        · obtain rfl := hall
          subst hun
          have e0 := (bcell HS.out.bel b2 _ HC.out.hb2).trans Hen.out
          go_simp
          exact hK _ _ ⟨l0, l1, l2, l3, l4, l5, l6, true, true, l9, l10, l11, rfl, (by simp only [↓reduceIte, List.setIfInBounds_toArray, List.set_cons_zero, List.set_cons_succ, Array.getD_eq_getD_getElem?, List.getElem?_toArray, List.getElem?_cons_zero, List.getElem?_cons_succ, Option.getD_some]), HS.out⟩
        · obtain ⟨rfl, rfl⟩ := hall
          subst hun
          go_simp
          go_at_call 124
          refine (Hix.out _ HS.out.bel).mono ?_
          rintro e u1 ⟨rfl, hbx⟩
          have hS2 := HS.out.call hbx
          have HhS2 := Lib.hid hS2; clear hS2
          go_simp
          exact hK _ _ ⟨l0, l1, l2, true, l4, l5, l6, l7, true, true, l10, l11, rfl, (by simp only [↓reduceIte, List.setIfInBounds_toArray, List.set_cons_zero, List.set_cons_succ, Array.getD_eq_getD_getElem?, List.getElem?_toArray, List.getElem?_cons_zero, List.getElem?_cons_succ, Option.getD_some]), HhS2.out⟩
        · obtain ⟨rfl, rfl, -, -, rfl, rfl, rfl, rfl, rfl, rfl, rfl, rfl⟩ := hall
          subst hun
          go_simp
          exact hK _ _ ⟨true, true, true, true, true, true, true, true, true, true, true, l11, rfl, (by simp only [↓reduceIte, List.setIfInBounds_toArray, List.set_cons_zero, List.set_cons_succ]), HS.out⟩
        · obtain ⟨rfl, rfl, rfl, rfl, rfl, rfl, rfl, rfl, rfl, rfl, rfl, -⟩ := hall
          subst hun
          have f0 := HS.out.rfr 1 s rfl
          have k0 := HS.out.rcell (v := .int .i64 ((0 : Nat) : Int)) 1 s rfl (by omega) Hhat.out
          have hS2 := HS.out.store 1 rfl s (.int .i64 (p : Int))
          simp only [List.set_cons_succ, List.set_cons_zero, Bool.false_eq_true, ↓reduceIte, Hhset.out] at hS2
          go_simp
          exact hK _ _ ⟨true, true, true, true, true, true, true, true, true, true, true, true, rfl, (by simp only [↓reduceIte, List.setIfInBounds_toArray, List.set_cons_zero, List.set_cons_succ]), hS2⟩
      · rintro listed a w' ⟨l0, l1, l2, l3, l4, l5, l6, l7, l8, l9, l10, l11, rfl, rfl, hS⟩ hr
        have hall := ready_nil (by kernel_rfl) rfl hr
        obtain rfl : l0 = true := by simpa using hall 0 (by simp)
        obtain rfl : l1 = true := by simpa using hall 1 (by simp)
        obtain rfl : l2 = true := by simpa using hall 2 (by simp)
        obtain rfl : l3 = true := by simpa using hall 3 (by simp)
        obtain rfl : l4 = true := by simpa using hall 4 (by simp)
        obtain rfl : l5 = true := by simpa using hall 5 (by simp)
        obtain rfl : l6 = true := by simpa using hall 6 (by simp)
        obtain rfl : l7 = true := by simpa using hall 7 (by simp)
        obtain rfl : l8 = true := by simpa using hall 8 (by simp)
        obtain rfl : l9 = true := by simpa using hall 9 (by simp)
        obtain rfl : l10 = true := by simpa using hall 10 (by simp)
        obtain rfl : l11 = true := by simpa using hall 11 (by simp)
        clear hall hr 
        simp only [↓reduceIte] at hS ⊢
        simp only [List.setIfInBounds_toArray, List.set_cons_zero, List.set_cons_succ]
        have HS9 := Lib.hid hS
        clear hS
        go_wp2
        go_roundw
        case rel =>
          refine ⟨s + 1, by go_num, by omega, ?_⟩
          rw [← HhX1.out]
          exact HS9.out
        case measure => simp [intOf]; omega
      · refine ⟨false, false, false, false, false, false, false, false, false, false, false, false, rfl, (by simp only [↓reduceIte, Bool.false_eq_true, List.setIfInBounds_toArray, List.set_cons_zero, List.set_cons_succ, Array.getD_eq_getD_getElem?, List.getElem?_toArray, List.getElem?_cons_zero, List.getElem?_cons_succ, Option.getD_some]), ?_⟩
        exact HS.out.drew
    · obtain rfl : L = s := by omega
      rw [padL_end] at hS
      have HS2 := Lib.hid hS
      clear hS
      go_wp2
      go_loopw [3, 5] (fun vc va wr => ∃ (i gc cc : Nat) (ag : Bool), vc = .slice (some ⟨gc, 0, none⟩) L cc ∧ va = .bool ag ∧ ((ag = true ∧ i ≤ N) ∨ (ag = false ∧ i = N + 1)) ∧
          St w wr [Ent.box w.heap.size #[.slice (some ⟨b1, o1, none⟩) L cv, .slice (some ⟨b2, o2, none⟩) L cw] 26, Ent.row 3 1 (.slice (some ⟨gc, 0, none⟩) L cc) L (intCells (clsL L (C i)))])
        (fun vc va wr => if isYes va = true then L + 1 - repsW wr (blockOf vc) L else 0)
      case atStart => exact ⟨0, _, _, true, rfl, rfl, Or.inl ⟨rfl, Nat.zero_le _⟩, HS2.out⟩
      case round =>
        obtain ⟨i, gc, cc, ag, rfl, rfl, hag, hS⟩ := hrel
        obtain ⟨wo, hwo⟩ : ∃ wo : World, wo = wr := ⟨_, rfl⟩
        subst hwo
        rcases hag with ⟨rfl, hiN⟩ | ⟨rfl, rfl⟩
        · have HS3 := Lib.hid hS
          clear hS
          go_wp2_with (at_make; refine wpList_make_full _ rfl _ _ 29 rfl _ 3 i0 (.int .i64 0) 1 Try.underlying29 Hhi.out Hhz0.out Hhz1.out .i64 .i64 _ _ L rfl rfl rfl rfl (by rw [Hhz2.out]; omega) (by unfold maxLen; omega) (Nat.le_refl _) ?_; intro w1 hown hgrow; have HS4 := Lib.hid (HS3.out.made ((Below.refl _ _).grown hgrow (Nat.le_refl _) (fun _ h => by cases h)) (made_ints (C (i + 1)) hown)); clear hown hgrow)
          go_loopw [35] (fun j wi => ∃ s : Nat, j = .int .i64 s ∧ s ≤ L ∧ St w wi [Ent.box w.heap.size #[.slice (some ⟨b1, o1, none⟩) L cv, .slice (some ⟨b2, o2, none⟩) L cw] 26, Ent.row 3 1 (.slice (some ⟨gc, 0, none⟩) L cc) L (intCells (clsL L (C i))), Ent.row 3 1 (.slice (some ⟨wo.heap.size, 0, none⟩) L L) L (intCells (padL L s (C (i + 1))))]) (fun j _ => L - (intOf j).toNat)
          case atStart => exact ⟨0, rfl, Nat.zero_le _, HS4.out⟩
          case round =>
            obtain ⟨s, rfl, hs, hS⟩ := hrel
            by_cases hlt : s < L
            · have hlt2 : (s : Int) < L := by omega
              have hsn : s < d.next.length := by have := HhL.out; omega
              have hci := Hcs.out i s hlt
              have hcis := hci.1
              rw [padL_T _ hlt] at hS
              have HS5 := Lib.hid hS
              have Hci := Lib.hid hci
              clear hS hci
              go_wp2
              go_loopw [] (fun wi => ∃ t : Nat, t ≤ C (i + 1) s ∧ (∀ j, j < t → sameAt (nxD d) (C i) j s = false) ∧ St w wi [Ent.box w.heap.size #[.slice (some ⟨b1, o1, none⟩) L cv, .slice (some ⟨b2, o2, none⟩) L cw] 26, Ent.row 3 1 (.slice (some ⟨gc, 0, none⟩) L cc) L (intCells (clsL L (C i))), Ent.row 3 1 (.slice (some ⟨wo.heap.size, 0, none⟩) L L) L (intCells (padT L s (C (i + 1)) t))]) (fun wi => L + 1 - natAt wi wo.heap.size s)
              case atStart => exact ⟨0, Nat.zero_le _, fun j hj => absurd hj (by omega), HS5.out⟩
              case round =>
                obtain ⟨t, ht, hno, hS⟩ := hrel
                have htL : t < L := by omega
                have htL2 : (t : Int) < L := by omega
                have htn : t < d.next.length := by have := HhL.out; omega
                have c1 := hS.rcell (v := .int .i64 ((t : Nat) : Int)) 2 s rfl (by omega) (padT_at (C (i + 1)) t)
                have c2 := hS.rcell (v := .int .i64 ((C i t : Nat) : Int)) 1 t rfl (by omega) (clsL_cell (C i) htL)
                have c3 := hS.rcell (v := .int .i64 ((C i s : Nat) : Int)) 1 s rfl (by omega) (clsL_cell (C i) hlt)
                have f1 := hS.rfr 2 s rfl
                have hset := padT_set (n := L) (s := s) (C (i + 1)) t (t + 1)
                have hsr := sameAt_R d (C i) t s
                have Hc1 := Lib.hid c1
                have HS6 := Lib.hid hS
                have Hno := Lib.hid hno
                have Hset := Lib.hid hset
                obtain ⟨p, hp⟩ : ∃ p, p = C i t := ⟨_, rfl⟩
                obtain ⟨q, hq⟩ : ∃ q, q = C i s := ⟨_, rfl⟩
                rw [← hp] at c2 hsr
                rw [← hq] at c3 hsr
                have Hhp := Lib.hid hp; clear hp
                have Hhq := Lib.hid hq; clear hq
                clear hno hset
                by_cases he : p = q
                · have g1 : ((p : Int) != (q : Int)) = false := by rw [he]; simp
                  have g2 : ((p : Int) = (q : Int)) = True := by simp [he]
                  have g3 : (!((p : Int) == (q : Int))) = false := by rw [he]; simp
                  rw [decide_eq_true he, Bool.true_and] at hsr
                  have b0 := hS.cell (v := .slice (some ⟨b1, o1, none⟩) L cv) 0 0 rfl rfl
                  have b3 := hS.cell (v := .slice (some ⟨b2, o2, none⟩) L cw) 0 1 rfl rfl
                  have hk := fun (w' : World) (hb : Below wr.heap.size wr w') => (show w'.cell? ⟨wo.heap.size, s, none⟩ = some (.int .i64 (t : Nat)) ∧ w'.cell? ⟨gc, t, none⟩ = some (.int .i64 (p : Nat)) ∧ w'.cell? ⟨gc, s, none⟩ = some (.int .i64 (q : Nat)) ∧ w'.cell? ⟨w.heap.size, 0, none⟩ = some (.slice (some ⟨b1, o1, none⟩) L cv) ∧ w'.cell? ⟨w.heap.size, 1, none⟩ = some (.slice (some ⟨b2, o2, none⟩) L cw) from
                    ⟨(bcell hb _ _ (hS.rowlt 2 rfl).2).trans c1, (bcell hb _ _ (hS.rowlt 1 rfl).2).trans c2, (bcell hb _ _ (hS.rowlt 1 rfl).2).trans c3, (bcell hb _ _ (hS.boxlt 0 rfl).2).trans b0, (bcell hb _ _ (hS.boxlt 0 rfl).2).trans b3⟩)
                  have Hk := Lib.hid hk
                  cases hr : sameR d (C i) t s 3
                  all_goals
                    have hsw := fun (w' : World) (hb : Below wr.heap.size wr w') => sameRow_any d (C i) t s (.agg #[.slice (some ⟨b1, o1, none⟩) L cv, .slice (some ⟨b2, o2, none⟩) L cw]) (.slice (some ⟨gc, 0, none⟩) L cc) w' hd htn hsn (fun x hx => Nat.lt_of_le_of_lt ((Hgood.out i).le x (by rw [HhL.out]; exact hx)) hx) (HR.out.below (HS6.out.call hb).bel) (by rw [← HhL.out]; exact (HS6.out.call hb).intsC 1 rfl) _ hr
                    rw [hr] at hsr
                    have Hsw := Lib.hid hsw
                    have Hsm := Lib.hid hsr
                    have Hhr := Lib.hid hr; clear hr
                    have Hhe := Lib.hid he; clear he
                    clear hS hk hsw hsr
                    go_wp2
                    go_region_held3 (fun w' => w'.cell? ⟨wo.heap.size, s, none⟩ = some (.int .i64 (t : Nat)) ∧ w'.cell? ⟨gc, t, none⟩ = some (.int .i64 (p : Nat)) ∧ w'.cell? ⟨gc, s, none⟩ = some (.int .i64 (q : Nat)) ∧ w'.cell? ⟨w.heap.size, 0, none⟩ = some (.slice (some ⟨b1, o1, none⟩) L cv) ∧ w'.cell? ⟨w.heap.size, 1, none⟩ = some (.slice (some ⟨b2, o2, none⟩) L cw))
                      (first | go_keep | exact Hk.out _ hq0)
                      (first
                        | (go_at_call 125; (with_reducible refine (Hsw.out _ (Below.refl _ _).drew).mono ?_); rintro e v3 ⟨rfl, hq0'⟩; have hq0 : Below wr.heap.size wr v3 := ((Below.refl _ _).drew).trans hq0'))
                  · have HS6 := Lib.hid (HS6.out.call hq0)
                    have z1 := HS6.out.rcell (v := .int .i64 ((t : Nat) : Int)) 2 s rfl (by omega) (padT_at (C (i + 1)) t)
                    have z2 := HS6.out.rfr 2 s rfl
                    clear hq0 hq0' b0 b3 c1 c2 c3 f1
                    go_wp2
                    go_roundw
                    case rel =>
                      refine ⟨t + 1, ?_, ?_, ?_⟩
                      · rcases Nat.lt_or_ge t (C (i + 1) s) with h | h
                        · exact h
                        · have he : t = C (i + 1) s := Nat.le_antisymm ht h
                          have h2 := Hci.out.2.1
                          rw [← he, Hsm.out] at h2
                          exact absurd h2 (by simp)
                      · intro j hj
                        by_cases e : j = t
                        · rw [e]
                          exact Hsm.out
                        · exact Hno.out j (by omega)
                      · have h := HS6.out.store 2 rfl s (.int .i64 ((t : Int) + 1))
                        rw [show ((t : Int) + 1) = ((t + 1 : Nat) : Int) by omega] at h
                        simp only [List.set_cons_succ, List.set_cons_zero, Hset.out] at h
                        exact h
                    case measure =>
                      have h := HS6.out.store 2 rfl s (.int .i64 ((t : Int) + 1))
                      rw [show ((t : Int) + 1) = ((t + 1 : Nat) : Int) by omega] at h
                      simp only [List.set_cons_succ, List.set_cons_zero, Hset.out] at h
                      rw [show ((t : Int) + 1) = ((t + 1 : Nat) : Int) by omega, natAt_of (h.rcell (v := .int .i64 ((t + 1 : Nat) : Int)) 2 s rfl (by omega) (padT_at (C (i + 1)) (t + 1))), natAt_of Hc1.out]
                      omega
                  · have HS6 := Lib.hid (HS6.out.call hq0)
                    clear hq0 hq0' b0 b3 c1 c2 c3 f1
                    go_wp2
                    go_roundw
                    case rel =>
                      refine ⟨s + 1, by go_num, by omega, ?_⟩
                      have e : t = C (i + 1) s := by
                        rcases Nat.lt_or_ge t (C (i + 1) s) with h | h
                        · have h2 := Hci.out.2.2 t h
                          rw [Hsm.out] at h2
                          exact absurd h2 (by simp)
                        · exact Nat.le_antisymm ht h
                      have h := HS6.out
                      rw [e, padT_end] at h
                      exact h
                    case measure => simp [intOf]; omega
                · have g1 : ((p : Int) != (q : Int)) = true := by simp; omega
                  have g2 : ((p : Int) = (q : Int)) = False := by simp; omega
                  have g3 : (!((p : Int) == (q : Int))) = true := by simp; omega
                  rw [decide_eq_false he, Bool.false_and] at hsr
                  have Hsm := Lib.hid hsr
                  have Hhe := Lib.hid he; clear he
                  clear hS hsr
                  go_wp2
                  go_quiet (fail)
                  have HS6 := Lib.hid (HS6.out.drewN nq)
                  go_wp2
                  go_roundw
                  case rel =>
                    refine ⟨t + 1, ?_, ?_, ?_⟩
                    · rcases Nat.lt_or_ge t (C (i + 1) s) with h | h
                      · exact h
                      · have he : t = C (i + 1) s := Nat.le_antisymm ht h
                        have h2 := Hci.out.2.1
                        rw [← he, Hsm.out] at h2
                        exact absurd h2 (by simp)
                    · intro j hj
                      by_cases e : j = t
                      · rw [e]
                        exact Hsm.out
                      · exact Hno.out j (by omega)
                    · have h := HS6.out.store 2 rfl s (.int .i64 ((t : Int) + 1))
                      rw [show ((t : Int) + 1) = ((t + 1 : Nat) : Int) by omega] at h
                      simp only [List.set_cons_succ, List.set_cons_zero, Hset.out] at h
                      exact h
                  case measure =>
                    have h := HS6.out.store 2 rfl s (.int .i64 ((t : Int) + 1))
                    rw [show ((t : Int) + 1) = ((t + 1 : Nat) : Int) by omega] at h
                    simp only [List.set_cons_succ, List.set_cons_zero, Hset.out] at h
                    rw [show ((t : Int) + 1) = ((t + 1 : Nat) : Int) by omega, natAt_of (h.rcell (v := .int .i64 ((t + 1 : Nat) : Int)) 2 s rfl (by omega) (padT_at (C (i + 1)) (t + 1))), natAt_of Hc1.out]
                    omega
            · obtain rfl : L = s := by omega
              rw [padL_end] at hS
              have HS5 := Lib.hid hS
              clear hS
              have hreq : ∀ (r : Bool), decide (clsL L (C (i + 1)) = clsL L (C i)) = r → Calls Try.prog 126 #[.slice (some ⟨wo.heap.size, 0, none⟩) L L, .slice (some ⟨gc, 0, none⟩) L cc] wr fun e w' => e = .returned (.bool r) ∧ Below wr.heap.size wr w' :=
                fun r hr => equalI_any (clsL L (C (i + 1))) (clsL L (C i)) L _ _ wr (clsL_len _ _) (clsL_len _ _) (HS5.out.intsC 2 rfl) (HS5.out.intsC 1 rfl) r hr
              have hm0 := repsW_of (w := wo) (b := gc) (n := L) (cl := C i) fun x hx => HS3.out.rcell 1 x rfl (by omega) (clsL_cell (C i) hx)
              by_cases hiN : i = N
              · have h1 := hreq true (by rw [decide_eq_true_eq, Hsd.out i, hiN, HhL.out]; exact HNs.out)
                have H1 := Lib.hid h1
                have Hm0 := Lib.hid hm0
                clear hreq h1 hm0
                go_wp2_with fail
                refine H1.out.mono ?_
                rintro e v3 ⟨rfl, hb3⟩
                have HS6 := Lib.hid (HS5.out.call hb3)
                clear hb3
                go_wp2
                go_roundw
                case rel => exact ⟨i + 1, _, _, false, rfl, rfl, Or.inr ⟨rfl, by omega⟩, HS6.out.pick [0, 2] (by decide)⟩
                case measure =>
                  have := reps_le L (C i)
                  simp only [isYes, blockOf, ↓reduceIte, Bool.false_eq_true, Hm0.out]
                  omega
              · have hns := HNo.out i (by omega)
                have h1 := hreq false (by rw [decide_eq_false_iff_not, Hsd.out i, HhL.out]; exact hns)
                have hmore : reps L (C i) < reps L (C (i + 1)) := by
                  have hex : ∃ x, x < L ∧ C (i + 1) x ≠ C i x := by
                    apply Classical.byContradiction
                    intro hc
                    refine hns fun x hx => ?_
                    rw [← HhCC.out]
                    apply Classical.byContradiction
                    intro hcx
                    exact hc ⟨x, by rw [HhL.out]; exact hx, hcx⟩
                  obtain ⟨x, hx, hxne⟩ := hex
                  have hst : C (i + 1) = refineC L (nxD d) (C i) := by rw [HhCC.out, HhL.out]; rfl
                  rw [hst] at hxne ⊢
                  exact refine_more (Hgood.out i) hx hxne
                have H1 := Lib.hid h1
                have Hm0 := Lib.hid hm0
                have Hmore := Lib.hid hmore
                have Hhns := Lib.hid hns; clear hns
                clear hreq h1 hm0 hmore
                go_wp2_with fail
                refine H1.out.mono ?_
                rintro e v3 ⟨rfl, hb3⟩
                have HS6 := Lib.hid (HS5.out.call hb3)
                clear hb3
                go_wp2
                go_roundw
                case rel => exact ⟨i + 1, _, _, true, rfl, rfl, Or.inl ⟨rfl, by omega⟩, HS6.out.pick [0, 2] (by decide)⟩
                case measure =>
                  have h2 := repsW_of (w := v3) (b := wo.heap.size) (n := L) (cl := C (i + 1)) fun x hx => HS6.out.rcell 2 x rfl (by omega) (clsL_cell (C (i + 1)) hx)
                  have h3 := Hmore.out
                  have h4 := reps_le L (C i)
                  simp only [isYes, blockOf, ↓reduceIte, Hm0.out, h2]
                  omega
        · have hcl : intCells (clsL L (C (N + 1))) = intCells (clsL L (clD d)) := by rw [clsL_congr Hfin.out]
          rw [hcl] at hS
          have HS3 := Lib.hid hS
          have Hhcl := Lib.hid hcl; clear hcl
          clear hS
          go_wp2
          go_ret
          exact ⟨gc, cc, rfl, HS3.out.pick [1] (by decide)⟩
end Go.Proofs.Ythhbjkgchabfmaa
