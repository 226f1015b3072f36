/-
  Texts of expressions, plain: the text of a tree; a reader of texts; it reads the text of a tree as that tree.
  No condition: this text speaks of no program.
-/
import Derived.Test.YtfgpkadhegdffaaPk08Cat
namespace Go.Proofs.Ytfgpkadhegdffaa
def bnd : Ex → Nat
  | .alt _ _ => 1
  | .both _ _ => 2
  | .join _ _ => 3
  | .neg _ => 4
  | .star _ => 5
  | _ => 6
def brk (l : Nat) (a : Ex) (x : List Nat) : List Nat := if bnd a < l then 40 :: (x ++ [41]) else x
def prE : Ex → List Nat
  | .zero => [48]
  | .one => [49]
  | .ltr c => [97 + c.val]
  | .join a b => brk 3 a (prE a) ++ brk 4 b (prE b)
  | .alt a b => brk 1 a (prE a) ++ 124 :: brk 2 b (prE b)
  | .both a b => brk 2 a (prE a) ++ 38 :: brk 3 b (prE b)
  | .neg a => 33 :: brk 4 a (prE a)
  | .star a => brk 5 a (prE a) ++ [42]
/-! The reader. -/
abbrev PS : Type := List (Int × Int) × List Nat × Bool
def stepX (p : Int × Int) (st : List Ex) : Option (List Ex) :=
  if p.1 = 1 then some (.zero :: st) else if p.1 = 2 then some (.one :: st) else if p.1 = 3 then some (.ltr (Fin.ofNat 3 p.2.toNat) :: st)
  else if p.1 = 7 then (match st with | a :: st => some (.neg a :: st) | [] => none)
  else if p.1 = 8 then (match st with | a :: st => some (.star a :: st) | [] => none)
  else match st with
    | b :: a :: st => if p.1 = 4 then some (.join a b :: st) else if p.1 = 5 then some (.alt a b :: st) else some (.both a b :: st)
    | _ => none
def buildX : List (Int × Int) → List Ex → Option (List Ex)
  | [], st => some st
  | p :: r, st => (stepX p st).bind (buildX r)
theorem build_post : ∀ (t : Ex) (r : List (Int × Int)) (st : List Ex), buildX (t.post ++ r) st = buildX r (t :: st) := by
  intro t
  induction t with
  | zero => intro r st; rfl
  | one => intro r st; rfl
  | ltr c =>
    intro r st
    obtain ⟨c, hc⟩ := c
    obtain rfl | rfl | rfl : c = 0 ∨ c = 1 ∨ c = 2 := by omega
    all_goals rfl
  | neg a ha => intro r st; show buildX (a.post ++ [(7, 0)] ++ r) st = _; rw [List.append_assoc, ha]; rfl
  | star a ha => intro r st; show buildX (a.post ++ [(8, 0)] ++ r) st = _; rw [List.append_assoc, ha]; rfl
  | join a b ha hb => intro r st; show buildX (a.post ++ b.post ++ [(4, 0)] ++ r) st = _; rw [List.append_assoc, List.append_assoc, ha, hb]; rfl
  | alt a b ha hb => intro r st; show buildX (a.post ++ b.post ++ [(5, 0)] ++ r) st = _; rw [List.append_assoc, List.append_assoc, ha, hb]; rfl
  | both a b ha hb => intro r st; show buildX (a.post ++ b.post ++ [(6, 0)] ++ r) st = _; rw [List.append_assoc, List.append_assoc, ha, hb]; rfl
def treeOf (e : List (Int × Int)) : Option Ex := match buildX e [] with
  | some [t] => some t
  | _ => none
theorem treeOf_post (t : Ex) : treeOf t.post = some t := by
  have := build_post t [] []
  rw [List.append_nil] at this
  unfold treeOf
  rw [this]
  rfl
theorem post_inj {t u : Ex} (h : t.post = u.post) : t = u := by
  have h1 := treeOf_post t
  rw [h, treeOf_post u] at h1
  exact (Option.some.inj h1).symm
def textL (e : List (Int × Int)) : List Nat := if exOk e = true then (match treeOf e with | some t => prE t | none => []) else []
def yesR (x : PS) (s : List Nat) : Prop := x.2.2 = false ∧ x.2.1 = [] ∧ textL x.1 = s
instance (x : PS) (s : List Nat) : Decidable (yesR x s) := by unfold yesR; infer_instance
/-! How much is read. -/
/-! What is left is an end of what was there. -/
end Go.Proofs.Ytfgpkadhegdffaa
namespace Go.Proofs.Ytfgpkadhegdffaa
open Go.RowKit
def txB (l : List Nat) : ByteArray := ⟨(l.map UInt8.ofNat).toArray⟩
def isT (l : List Nat) : Prop := ∀ b ∈ l, b < 256
theorem txB_size (l : List Nat) : (txB l).size = l.length := by simp [txB, ByteArray.size]
theorem getD_memT {l : List Nat} {i : Nat} (hi : i < l.length) : l.getD i 0 ∈ l := by
  rw [List.getD_eq_getElem?_getD, List.getElem?_eq_getElem hi]
  exact List.getElem_mem hi
theorem txB_at {l : List Nat} {i : Nat} (hi : i < l.length) (ht : isT l) (h : i < (txB l).size) : (((txB l)[i]'h).toNat : Int) = (l.getD i 0 : Nat) := by
  have hc : l.getD i 0 < 256 := ht _ (getD_memT hi)
  have e : (txB l)[i]'h = UInt8.ofNat (l.getD i 0) := by
    show (txB l).data[i] = _
    simp [txB, hi]
  rw [e, UInt8.toNat_ofNat']
  omega
theorem txB_index {l : List Nat} {i : Nat} (hi : i < l.length) (ht : isT l) (w : World) : (Instr.index 9 (.string (txB l)) (.int .i64 (i : Int))).run Try.prog w = .ok (.int .u8 ((l.getD i 0 : Nat) : Int)) w := by
  have hs : (txB l).size = l.length := txB_size l
  rw [run_index_string w 9 (txB l) .i64 i Try.underlying9, dif_pos (by omega)]
  congr 2
  exact txB_at hi ht _
def okT (l : List Nat) (k : Nat) : Bool := (List.range k).all fun i => inB ((l.getD i 0 : Nat) : Int) 97 99
def wdOk (l : List Nat) : Bool := okT l l.length && decide (l.length ≤ 8)
theorem okT_succ {l : List Nat} {k : Nat} (h : okT l k = true) (h1 : inB ((l.getD k 0 : Nat) : Int) 97 99 = true) : okT l (k + 1) = true := range_snoc h h1
theorem okT_bad {l : List Nat} {k : Nat} (hk : k < l.length) (h1 : inB ((l.getD k 0 : Nat) : Int) 97 99 = false) : wdOk l = false := by
  unfold wdOk okT
  have : ((List.range l.length).all fun i => inB ((l.getD i 0 : Nat) : Int) 97 99) = false := by
    rw [List.all_eq_false]
    exact ⟨k, List.mem_range.2 hk, by rw [h1]; simp⟩
  rw [this]
  rfl
set_option maxHeartbeats 1600000 in
theorem areLetters_any (l : List Nat) (w : World) (ht : isT l) (hl : l.length ≤ 1000000) (r : Bool) (hr : wdOk l = r) :
    Calls Try.prog 79 #[.string (txB l), .int .i64 8] w fun e w' => e = .returned (.bool r) ∧ w = w' := by
  have hs : (txB l).size = l.length := txB_size l
  have Hhr := Lib.hid hr; clear hr
  have Hht := Lib.hid ht; clear ht
  go_enter Try.func79, Try.ntmps79
  go_wp2
  go_loopw [8] (fun i wr => ∃ k : Nat, i = .int .i64 k ∧ k ≤ l.length ∧ okT l k = true ∧ w = wr) (fun i _ => l.length - (intOf i).toNat)
  case atStart => exact ⟨0, rfl, Nat.zero_le _, rfl, rfl⟩
  case round =>
    obtain ⟨k, rfl, hk, hok, rfl⟩ := hrel
    by_cases hlt : k < l.length
    · have hkl : (k : Int) < l.length := by omega
      have hrun := txB_index hlt Hht.out
      have hb := Hht.out _ (getD_memT hlt)
      obtain ⟨c, hcc⟩ : ∃ c, c = l.getD k 0 := ⟨_, rfl⟩
      rw [← hcc] at hrun hb
      have hw9 : IntKind.i64.wrap (c : Int) = (c : Int) := IntWalk.i64_in _ (by omega)
      have Hhok := Lib.hid hok; clear hok
      have Hhcc := Lib.hid hcc; clear hcc
      cases hin : inB (c : Int) 97 99
      · have Hhin := Lib.hid hin; clear hin
        go_wp2_with (go_at_call 37; refine (within_any _ _ _ _ _ Hhin.out).mono ?_; rintro e w' ⟨rfl, rfl⟩)
        go_ret
        exact ⟨by rw [← Hhr.out, okT_bad hlt (by rw [← Hhcc.out]; exact Hhin.out)]; rfl, rfl⟩
      · have Hhin := Lib.hid hin; clear hin
        go_wp2_with (go_at_call 37; refine (within_any _ _ _ _ _ Hhin.out).mono ?_; rintro e w' ⟨rfl, rfl⟩)
        go_roundw
        case rel => exact ⟨k + 1, by go_num, by omega, okT_succ Hhok.out (by rw [← Hhcc.out]; exact Hhin.out), trivial⟩
        case measure => simp [intOf]; omega
    · obtain rfl : k = l.length := by omega
      have hrr : decide ((l.length : Int) ≤ 8) = r := by
        rw [← Hhr.out]
        unfold wdOk
        rw [hok, Bool.true_and]
        exact decide_eq_decide.2 (by omega)
      have Hhok := Lib.hid hok; clear hok
      have Hhrr := Lib.hid hrr; clear hrr
      go_wp2
      go_ret
      exact ⟨by rw [← Hhrr.out]; rfl, rfl⟩
set_option maxHeartbeats 1600000 in
theorem implWordValid_any (l : List Nat) (w : World) (ht : isT l) (hl : l.length ≤ 1000000) (r : Bool) (hr : wdOk l = r) :
    Calls Try.prog 41 #[.string (txB l)] w fun e w' => e = .returned (.bool r) ∧ w = w' := by
  have Hhr := Lib.hid hr; clear hr
  have Hht := Lib.hid ht; clear ht
  go_enter Try.func41, Try.ntmps41
  go_wp2_with (go_at_call 79; refine (areLetters_any l _ Hht.out hl _ Hhr.out).mono ?_; rintro e w' ⟨rfl, rfl⟩)
  go_ret
  exact ⟨rfl, rfl⟩
set_option maxHeartbeats 800000 in
theorem letterT_any (l : List Nat) (i : Nat) (hi : i < l.length) (ht : isT l) (hlo : 97 ≤ l.getD i 0) (w : World) : Calls Try.prog 77 #[.string (txB l), .int .i64 i] w fun e w' => e = .returned (.int .i64 ((l.getD i 0 - 97 : Nat) : Int)) ∧ w = w' := by
  have hb := ht _ (getD_memT hi)
  have hrun := txB_index hi ht
  obtain ⟨c, hcc⟩ : ∃ c, c = l.getD i 0 - 97 := ⟨_, rfl⟩
  have hc2 : ((l.getD i 0 : Nat) : Int) = 97 + (c : Int) := by omega
  rw [hc2] at hrun
  rw [← hcc]
  have hw8 : IntKind.u8.wrap (97 + (c : Int) - 97) = (c : Int) := by
    have : 97 + (c : Int) - 97 = (c : Int) := by omega
    rw [this]
    exact IntWalk.u8_in _ (by omega)
  have hw9 : IntKind.i64.wrap (c : Int) = (c : Int) := IntWalk.i64_in _ (by omega)
  have Hhcc := Lib.hid hcc; clear hcc
  clear hc2 hlo hb
  go_enter Try.func77, Try.ntmps77
  go_wp2
  go_ret
  exact ⟨rfl, rfl⟩
def shF : Nat → Nat
  | 0 => 0
  | k + 1 => shF k + 3 ^ k
theorem pow3_le {k : Nat} (h : k ≤ 9) : 3 ^ k ≤ 19683 := Nat.pow_le_pow_right (by omega) h
theorem shF_le : ∀ k, shF k ≤ 3 ^ k
  | 0 => by decide
  | k + 1 => by
    show shF k + 3 ^ k ≤ 3 ^ (k + 1)
    have := shF_le k
    rw [Nat.pow_succ]
    omega
set_option maxHeartbeats 1600000 in
theorem wordsOf_any (n : Nat) (w : World) (hn : n ≤ 9) : Calls Try.prog 108 #[.int .i64 n] w fun e w' => e = .returned (.int .i64 ((3 ^ n : Nat) : Int)) ∧ w = w' := by
  go_enter Try.func108, Try.ntmps108
  go_wp2
  go_loopw [3, 5] (fun p i wr => ∃ k q : Nat, i = .int .i64 k ∧ p = .int .i64 q ∧ k ≤ n ∧ 3 ^ k = q ∧ w = wr) (fun _ i _ => n - (intOf i).toNat)
  case atStart => exact ⟨0, 1, rfl, rfl, Nat.zero_le _, rfl, rfl⟩
  case round =>
    obtain ⟨k, q, rfl, rfl, hk, hq, rfl⟩ := hrel
    have hq2 := pow3_le (k := k) (by omega)
    rw [hq] at hq2
    by_cases hlt : k < n
    · have hkl : (k : Int) < n := by omega
      have Hhq := Lib.hid hq; clear hq
      go_wp2
      go_roundw
      case rel => exact ⟨k + 1, q * 3, by go_num, by go_num, by omega, by rw [Nat.pow_succ, Hhq.out], trivial⟩
      case measure => simp [intOf]; omega
    · obtain rfl : k = n := by omega
      have Hhq := Lib.hid hq; clear hq
      go_wp2
      go_ret
      exact ⟨by rw [Hhq.out]; rfl, rfl⟩
set_option maxHeartbeats 1600000 in
theorem shorter_any (n : Nat) (w : World) (hn : n ≤ 9) : Calls Try.prog 78 #[.int .i64 n] w fun e w' => e = .returned (.int .i64 ((shF n : Nat) : Int)) ∧ w = w' := by
  go_enter Try.func78, Try.ntmps78
  go_wp2
  go_loopw [3, 6] (fun p i wr => ∃ k q : Nat, i = .int .i64 k ∧ p = .int .i64 q ∧ k ≤ n ∧ shF k = q ∧ w = wr) (fun _ i _ => n - (intOf i).toNat)
  case atStart => exact ⟨0, 0, rfl, rfl, Nat.zero_le _, rfl, rfl⟩
  case round =>
    obtain ⟨k, q, rfl, rfl, hk, hq, rfl⟩ := hrel
    have hq2 := pow3_le (k := k) (by omega)
    have hq3 := shF_le k
    rw [hq] at hq3
    obtain ⟨t, hT⟩ : ∃ t, 3 ^ k = t := ⟨_, rfl⟩
    rw [hT] at hq2 hq3
    by_cases hlt : k < n
    · have hkl : (k : Int) < n := by omega
      have Hhq := Lib.hid hq; clear hq
      have HhT := Lib.hid hT; clear hT
      go_wp2_with (go_at_call 108; refine (wordsOf_any k _ (by omega)).mono ?_; rintro e w' ⟨rfl, rfl⟩; rw [HhT.out])
      go_roundw
      case rel => exact ⟨k + 1, q + t, by go_num, by go_num, by omega, by rw [← Hhq.out, ← HhT.out]; rfl, trivial⟩
      case measure => simp [intOf]; omega
    · obtain rfl : k = n := by omega
      have Hhq := Lib.hid hq; clear hq
      have HhT := Lib.hid hT; clear hT
      go_wp2
      go_ret
      exact ⟨by rw [Hhq.out]; rfl, rfl⟩
set_option maxHeartbeats 1600000 in
theorem rankAb_any (w : World) : Calls Try.prog 39 #[.string { data := #[97, 98] }] w fun e w' => e = .returned (.int .i64 5) ∧ w = w' := by
  have hab : ({ data := #[97, 98] } : ByteArray) = txB [97, 98] := rfl
  have hab2 : isT [97, 98] := fun b hb => by simp at hb; omega
  have hsz : (txB [97, 98]).size = 2 := rfl
  have l0 := fun w => letterT_any [97, 98] 0 (by decide) hab2 (by decide) w
  have l1 := fun w => letterT_any [97, 98] 1 (by decide) hab2 (by decide) w
  have sh : ∀ w, Calls Try.prog 78 #[.int .i64 2] w fun e w' => e = .returned (.int .i64 4) ∧ w = w' := fun w => shorter_any 2 w (by omega)
  have hv := fun w => implWordValid_any [97, 98] w hab2 (by decide) true rfl
  rw [hab]
  have L0 := Lib.hid l0
  have L1 := Lib.hid l1
  have Sh := Lib.hid sh
  have Hv := Lib.hid hv
  clear l0 l1 sh hab hab2 hv
  go_enter Try.func39, Try.ntmps39
  go_wp2_with (go_at_call 41; refine (Hv.out _).mono ?_; rintro e w' ⟨rfl, rfl⟩)
  go_loopw [3, 10] (fun n i wr => ∃ k q : Nat, i = .int .i64 k ∧ n = .int .i64 q ∧ k ≤ 2 ∧ q ≤ 1 ∧ (k < 2 → q = 0) ∧ (k = 2 → q = 1) ∧ w = wr) (fun _ i _ => 2 - (intOf i).toNat)
  case atStart => exact ⟨0, 0, rfl, rfl, by omega, by omega, fun _ => rfl, fun h => by omega, rfl⟩
  case round =>
    obtain ⟨k, q, rfl, rfl, hk, hq1, hq2, hq3, rfl⟩ := hrel
    obtain rfl | rfl | rfl : k = 0 ∨ k = 1 ∨ k = 2 := by omega
    · obtain rfl := hq2 (by omega)
      clear hq1 hq2 hq3 hk
      go_wp2_with (go_at_call 77; refine (L0.out _).mono ?_; rintro e w' ⟨rfl, rfl⟩)
      go_roundw
      case rel => exact ⟨1, 0, rfl, rfl, by omega, by omega, fun _ => rfl, fun h => by omega, trivial⟩
      case measure => simp [intOf]
    · obtain rfl := hq2 (by omega)
      clear hq1 hq2 hq3 hk
      go_wp2_with (go_at_call 77; refine (L1.out _).mono ?_; rintro e w' ⟨rfl, rfl⟩)
      go_roundw
      case rel => exact ⟨2, 1, rfl, rfl, by omega, by omega, fun h => by omega, fun _ => rfl, trivial⟩
      case measure => simp [intOf]
    · obtain rfl := hq3 rfl
      clear hq1 hq2 hq3 hk
      go_wp2_with (go_at_call 78; refine (Sh.out _).mono ?_; rintro e w' ⟨rfl, rfl⟩)
      go_ret
      exact ⟨rfl, rfl⟩
set_option maxHeartbeats 1600000 in
theorem alive_any (w : World) : Calls Try.prog 14 #[] w fun e w' => e = .returned (.bool true) ∧ w = w' := by
  go_enter Try.func14, Try.ntmps14
  go_wp2_with (go_at_call 39; refine (rankAb_any _).mono ?_; rintro e w' ⟨rfl, rfl⟩)
  go_ret
  exact ⟨rfl, rfl⟩
def Qs (lo : Nat) (w : World) (e : TypeId) (v : Value) (xs : List Value) : Prop :=
  ∃ g off cap cur, v = .slice (some ⟨g, off, none⟩) xs.length cap ∧ lo ≤ g ∧ w.heap[g]? = some (.cells cur e (0, 0)) ∧ xs.length ≤ cap ∧ cap ≤ maxLen ∧ off + cap ≤ cur.size ∧ ∀ j, j < xs.length → cur[off + j]? = xs[j]?
theorem Qs.obj {lo : Nat} {w : World} {e : TypeId} {v : Value} {xs : List Value} (h : Qs lo w e v xs) {k : Nat} (hk : v.ownBlock = some k) : ∃ cur, w.heap[k]? = some (.cells cur e (0, 0)) := by
  obtain ⟨g, off, cap, cur, rfl, _, hg, _⟩ := h
  have : g = k := by simpa [Value.ownBlock] using hk
  subst this
  exact ⟨cur, hg⟩
theorem Qs.kept {lo : Nat} {w w' : World} {e : TypeId} {v : Value} {xs : List Value} (h : Qs lo w e v xs) (hk : ∀ k, v.ownBlock = some k → w'.heap[k]? = w.heap[k]?) : Qs lo w' e v xs := by
  obtain ⟨g, off, cap, cur, rfl, h1, hg, h2⟩ := h
  exact ⟨g, off, cap, cur, rfl, h1, (hk g rfl).trans hg, h2⟩
theorem Qs.grown {lo : Nat} {w w' : World} {e : TypeId} {v : Value} {xs : List Value} {row : Option Nat} (h : Qs lo w e v xs) (hg : w.grownBy w' row) (ha : Apart w row e) : Qs lo w' e v xs :=
  h.kept fun k hk => by
    obtain ⟨cur, hc⟩ := h.obj hk
    exact hg.block k (Array.getElem?_eq_some_iff.1 hc).1 fun hr => ha k hr.symm _ _ hc
theorem Qs.below {lo : Nat} {w w' : World} {e : TypeId} {v : Value} {xs : List Value} (h : Qs lo w e v xs) (hb : Below w.heap.size w w') : Qs lo w' e v xs :=
  h.kept fun k hk => by
    obtain ⟨cur, hc⟩ := h.obj hk
    exact hb.block k (Array.getElem?_eq_some_iff.1 hc).1
theorem Qs.form {lo : Nat} {w : World} {e : TypeId} {v : Value} {xs : List Value} (h : Qs lo w e v xs) : ∃ g off cap, v = .slice (some ⟨g, off, none⟩) xs.length cap ∧ lo ≤ g ∧ g < w.heap.size ∧ xs.length ≤ cap ∧ cap ≤ 9223372036854775807 ∧ ∀ j, j < xs.length → w.cell? ⟨g, off + j, none⟩ = xs[j]? := by
  obtain ⟨g, off, cap, cur, rfl, h1, hg, h2, h3, h4, h5⟩ := h
  exact ⟨g, off, cap, rfl, h1, (Array.getElem?_eq_some_iff.1 hg).1, h2, h3, fun j hj => (cell_of_row w g _ cur e (0, 0) hg).trans (h5 j hj)⟩
theorem Qs.lo {lo : Nat} {w : World} {e : TypeId} {v : Value} {xs : List Value} (h : Qs lo w e v xs) {k : Nat} (hk : v.ownBlock = some k) : lo ≤ k := by
  obtain ⟨g, off, cap, cur, rfl, h1, _⟩ := h
  have : g = k := by simpa [Value.ownBlock] using hk
  omega
theorem Qs.append {P : Program} {lo : Nat} {w : World} {e : TypeId} {v : Value} {xs : List Value} (h : Qs lo w e v xs) (t ty : TypeId) (i : TypeInfo) (z : Value) (bytes : Nat) (ht : P.underlying t = some (.slice e)) (hi : P.info? e = some i) (hz : i.zero = some z) (hsize : i.size = 1) (hby : i.bytes = bytes) (hzs : z.cells.size = 1)
    (ad : Addr) (c : Nat) (x : Value) (hx : w.cell? ad = some x) (had : ad.add 0 = ad) (h1 : x.oneCell' = true) (h63 : xs.length + 1 ≤ 1000000) (hb : bytes ≤ 100) (hlo : lo ≤ w.heap.size) :
    ∃ v' w', (Builtin.append_ #[t, t] ty #[v, .slice (some ad) 1 c]).run P w = .ok v' w' ∧ Qs lo w' e v' (xs ++ [x]) ∧ w.grownBy w' v.ownBlock := by
  obtain ⟨g, off, cap, cur, rfl, hg0, hg, h2, h3, h4, h5⟩ := h
  have hnews : ∀ j u, [x][j]? = some u → w.cell? (ad.add j) = some u := fun j u hu => by
    cases j with
    | zero => simp at hu; subst hu; rw [had]; exact hx
    | succ j => simp at hu
  by_cases hroom : xs.length + 1 ≤ cap
  · have hf := run_firstCells_some (P := P) w i.size 1 ad 1 c [x] (by simp [hsize]) hnews
    have hst := run_storeCells_at P g (off + xs.length) e [x] 0 cur w hg (by simp; omega) (by simpa using h1)
    have hadd : (⟨g, off, none⟩ : Addr).add xs.length = ⟨g, off + xs.length, none⟩ := by unfold Addr.add; split <;> simp_all
    simp only [Nat.add_zero, List.length_singleton] at hst
    rw [hsize] at hf
    have hcl : off + xs.length < cur.toList.length := by simp; omega
    have ht1 : (List.take (off + xs.length) cur.toList).length = off + xs.length := by rw [List.length_take]; omega
    obtain ⟨cs, hcs⟩ : ∃ cs : Array Value, cs = (List.take (off + xs.length) cur.toList ++ [x] ++ List.drop (off + xs.length + 1) cur.toList).toArray := ⟨_, rfl⟩
    rw [← hcs] at hst
    have hrow := setRow_heap w g cur cs e (0, 0) hg
    refine ⟨.slice (some ⟨g, off, none⟩) (xs.length + 1) cap, w.setRow g cs, by simp [Builtin.append_, run_underlying ht, sizeOf, typeInfo, hi, hsize, Builtin.lenOf, hroom, hf, hadd, hst], ?_, ?_⟩
    · refine ⟨g, off, cap, cs, by simp, hg0, hrow, by simpa using hroom, h3, ?_, fun j hj => ?_⟩
      · rw [hcs]
        simp only [List.size_toArray, List.length_append, List.length_singleton, List.length_drop, ht1, Array.length_toList]
        omega
      · simp only [List.length_append, List.length_singleton] at hj
        rw [hcs]
        simp only [List.getElem?_toArray]
        by_cases hjn : j < xs.length
        · rw [List.append_assoc, List.getElem?_append_left (by omega), List.getElem?_append_left hjn, List.getElem?_take, if_pos (by omega), Array.getElem?_toList]
          exact h5 j hjn
        · obtain rfl : j = xs.length := by omega
          rw [List.append_assoc, List.getElem?_append_right (by omega), ht1]
          simp
    · exact ⟨rfl, rfl, rfl, by simp, fun k _ hk => setRow_other w g k cs (fun e => hk (by rw [e]; rfl))⟩
  · have hgr := run_append_grow (P := P) w t ty e i z ht hi hz ⟨g, off, none⟩ xs.length cap xs (by rw [hsize]; omega)
      (fun j u hu => by
        have hj : j < xs.length := (List.getElem?_eq_some_iff.1 hu).1
        have hadd : (⟨g, off, none⟩ : Addr).add j = ⟨g, off + j, none⟩ := by unfold Addr.add; split <;> simp_all
        rw [hadd, cell_of_row w g _ cur e (0, 0) hg, h5 j hj, hu]) ad 1 c [x] (by simp [hsize]) hnews (by omega) (by omega)
      (by
        have := nextslicecap_le_wide (need := xs.length + 1) (old := cap) (by omega)
        have hm := Nat.mul_le_mul this (show i.bytes ≤ 100 by omega)
        omega)
    have hcm := grownCap_le_maxLen w (xs.length + 1) cap e (by unfold maxLen; omega)
    have hge := grownCap_ge w (xs.length + 1) cap e
    have hnew := heap_alloc_new w.drew (.cells (xs.toArray ++ [x].toArray ++ Builtin.zeroCells z.cells (grownCap w (xs.length + 1) cap e - (xs.length + 1))) e)
    refine ⟨_, _, hgr, ⟨w.heap.size, 0, _, _, by simp, hlo, hnew, by simpa using hge, hcm, ?_, fun j hj => ?_⟩, ?_⟩
    · simp [size_zeroCells, hzs]
      omega
    · simp only [Nat.zero_add]
      rw [← List.getElem?_toArray]
      have : (xs ++ [x]).toArray = xs.toArray ++ [x].toArray := by simp
      rw [this, Array.getElem?_append_left (by simpa using hj)]
    · exact ⟨rfl, rfl, rfl, by simp [World.alloc], fun k hk _ => Below.heap_alloc w.drew _ k hk⟩
def wdB (l : List Nat) : ByteArray := ⟨(l.map fun c => UInt8.ofNat (97 + c)).toArray⟩
abbrev wdCells (ws : List (List Nat)) : List Value := ws.map fun l => Value.string (wdB l)
def knows (n : Nat) (s : Bs Int) (cs : List Value) : Prop := cs.length = n ∧ ∀ j, j < s.met.length → cs[(s.met.getD j 0).toNat]? = some (.string (wdB (s.words.getD j [])))
def marks (n : Nat) (s : Bs Int) (bs : List Value) : Prop := bs.length = n ∧ ∀ x : Nat, x < n → bs[x]? = some (.bool (decide ((x : Int) ∈ s.met)))
structure FwW (d : DfaD) (W0 bw bs : Nat) (bx : Array Value) (w : World) (s : Bs Int) (k : Nat) (vq : Value) : Prop where
  wo : ∃ cs, w.ownsRow W0 9 1 (.slice (some ⟨bw, 0, none⟩) d.next.length d.next.length) d.next.length cs ∧ knows d.next.length s cs
  se : ∃ ms, w.ownsRow W0 4 1 (.slice (some ⟨bs, 0, none⟩) d.next.length d.next.length) d.next.length ms ∧ marks d.next.length s ms
  qu : Qs W0 w 3 vq ((s.met.drop k).map (Value.int .i64))
  bx : Bx w W0 bx 30
theorem FwW.below {d : DfaD} {W0 bw bs k : Nat} {bx : Array Value} {w w' : World} {s : Bs Int} {vq : Value} (h : FwW d W0 bw bs bx w s k vq) (hb : Below w.heap.size w w') : FwW d W0 bw bs bx w' s k vq := by
  obtain ⟨⟨cs, h1, h2⟩, ⟨ms, h3, h4⟩, h5, h6⟩ := h
  exact ⟨⟨cs, (Own.below (own_of_row h1) hb).1, h2⟩, ⟨ms, (Own.below (own_of_row h3) hb).1, h4⟩, h5.below hb, h6.below hb h6.lt⟩
theorem FwW.cells {d : DfaD} {W0 bw bs k : Nat} {bx : Array Value} {w : World} {s : Bs Int} {vq : Value} (h : FwW d W0 bw bs bx w s k vq) {x : Nat} (hxn : x < d.next.length) : (∃ u, w.cell? ⟨bw, x, none⟩ = some u) ∧ w.frozen? ⟨bw, x, none⟩ = false ∧ w.frozen? ⟨bs, x, none⟩ = false := by
  obtain ⟨⟨cs, h1, h2⟩, ⟨ms, h3, h4⟩, _⟩ := h
  exact ⟨row_some h1 x (by omega), h1.frozenAt x, h3.frozenAt x⟩
theorem FwW.lt {d : DfaD} {W0 bw bs k : Nat} {bx : Array Value} {w : World} {s : Bs Int} {vq : Value} (h : FwW d W0 bw bs bx w s k vq) : W0 ≤ bw ∧ W0 ≤ bs ∧ bw < w.heap.size ∧ bs < w.heap.size ∧ bw ≠ bs ∧ W0 ≠ bw ∧ W0 ≠ bs := by
  obtain ⟨⟨cs, h1, h2⟩, ⟨ms, h3, h4⟩, _, h6⟩ := h
  refine ⟨(h1.lt bw rfl).1, (h3.lt bs rfl).1, (h1.lt bw rfl).2, (h3.lt bs rfl).2, ?_, ?_, ?_⟩
  · intro e
    obtain ⟨cu, hcu⟩ := ownsRow_obj (k := bs) h3 rfl
    exact ownsRow_apart (e' := 4) h1 (by decide) bs (by rw [e]; rfl) _ _ hcu
  · intro e
    exact ownsRow_apart (e' := 30) h1 (by decide) bw rfl _ _ (by rw [← e]; exact h6)
  · intro e
    exact ownsRow_apart (e' := 30) h3 (by decide) bs rfl _ _ (by rw [← e]; exact h6)
theorem FwW.q2 {d : DfaD} {W0 bw bs k : Nat} {bx : Array Value} {w w4 w5 : World} {s : Bs Int} {vq : Value} (h : FwW d W0 bw bs bx w s k vq) (x : Nat) {u v : Value} (_ : bw ≠ bs)
    (h5 : w5 = (w4.setCell ⟨bw, x, none⟩ u).drew) (h4 : w4 = w.setCell ⟨bs, x, none⟩ v) : Qs W0 w5 3 vq ((s.met.drop k).map (Value.int .i64)) := by
  obtain ⟨⟨cs, h1, h2⟩, ⟨ms, h3, h4'⟩, hq, h6⟩ := h
  subst h4
  subst h5
  have a1 : (w.setCell ⟨bs, x, none⟩ v).ownsRow W0 9 1 (.slice (some ⟨bw, 0, none⟩) d.next.length d.next.length) d.next.length cs := ownsRow_grown h1 (grown_set w bs x _) (fun k hk => by cases hk; exact ownsRow_apart (e' := 9) h3 (by decide) bs rfl)
  exact ((hq.grown (grown_set w bs x v) (fun k hk => by cases hk; exact ownsRow_apart (e' := 3) h3 (by decide) bs rfl)).grown (grown_set (w.setCell ⟨bs, x, none⟩ v) bw x u) (fun k hk => by cases hk; exact ownsRow_apart (e' := 3) a1 (by decide) bw rfl)).below (Below.refl _ _).drew
def RRd (x : PS) (r : List Nat) (b : Nat) (X : Ent) (w0 : World) (e : Ending) (w' : World) : Prop :=
  ∃ a c r', e = .returned (.slice a x.1.length c) ∧ (x.2.2 = false → r' = x.2.1) ∧ r'.length ≤ r.length ∧ isT r' ∧ St w0 w' [Ent.box b #[.string (txB r'), .bool x.2.2] 79, X, Ent.row 39 2 (.slice a x.1.length c) x.1.length (x.1.flatMap pairCells)]
theorem RRd.nil {r r' : List Nat} {b : Nat} {X : Ent} {w0 w : World} (r1 : List Nat) (hl : r'.length ≤ r.length) (ht : isT r') (hS : St w0 w [Ent.box b #[.string (txB r'), .bool true] 79, X]) : RRd ([], r1, true) r b X w0 (.returned (.slice none 0 0)) w :=
  ⟨none, 0, r', rfl, (fun h => by cases h), hl, ht, hS.nilRow 39 2⟩
end Go.Proofs.Ytfgpkadhegdffaa
namespace Go.Proofs.Ytfgpkadhegdffaa
open Go.RowKit Go.Maps
def Ent.map {α : Type} (kt : Nat) (enc : α → Value) (b : Nat) (M : List (α × Value)) : Ent := ⟨fun k => k = b, fun w => MapL Try.prog kt enc w b M, fun _ _ h hk => h.kept (hk b rfl)⟩
section
variable {α : Type} {w0 w w' : World} {L : List Ent} {kt : Nat} {enc : α → Value} {b : Nat} {M M' : List (α × Value)}
theorem St.map (h : St w0 w L) (i : Nat) (hx : L[i]? = some (Ent.map kt enc b M)) : MapL Try.prog kt enc w b M := (h.has i _ hx).1
theorem St.mapset (h : St w0 w L) (i : Nat) (hx : L[i]? = some (Ent.map kt enc b M)) (hn : MapL Try.prog kt enc w' b M') (hg : w.grownBy w' (some b)) : St w0 w' (L.set i (Ent.map kt enc b M')) :=
  h.turn i hx _ hg.os hg.tape hg.output hg.size (fun k hk hne => hg.block k hk fun e => hne (show k = b from Option.some.inj e)) hn fun k hk => by
    have hk : k = b := hk
    subst hk
    exact ⟨hn.lt, Or.inl rfl⟩
end
def intEnc (x : Int) : Value := .int .i64 x
theorem intEnc_inj : ∀ x y : Int, intEnc x = intEnc y → x = y := fun x y h => by
  simp only [intEnc, Value.int.injEq, true_and] at h
  exact h
theorem Try.lawInt : Keyed Try.prog 3 := int_keyed Try.underlying3
theorem Try.keyOfInt (x : Int) (hx : fitI x) : ∃ l, keyOf Try.prog 3 (intEnc x) = some l := ⟨_, keyOf_int_mk Try.underlying3 (fit_wf hx)⟩
theorem zeroIntI (w : World) : (zeroValue 3).run Try.prog w = .ok (.int .i64 0) w := by kernel_rfl
end Go.Proofs.Ytfgpkadhegdffaa
namespace Go.Proofs.Ytfgpkadhegdffaa
open Go.RowKit
def endI (S : List Nat) (x : PS) : Int := if x.2.2 = true then -1 else ((S.length - x.2.1.length : Nat) : Int)
def RRs (S : List Nat) (x : PS) (w : World) (e : Ending) (w' : World) : Prop := ∃ a c, e = .returned (.tuple #[.slice a x.1.length c, .int .i64 (endI S x)]) ∧ St w w' [Ent.row 39 2 (.slice a x.1.length c) x.1.length (x.1.flatMap pairCells)]
theorem RRs.nil (S : List Nat) (q : List Nat) {w w' : World} {a : Option Addr} {c : Nat} (hS : St w w' [Ent.row 39 2 (.slice a 0 c) 0 []]) : RRs S ([], q, true) w (.returned (.tuple #[.slice a 0 c, .int .i64 (-1)])) w' := ⟨a, c, rfl, hS⟩
theorem newNil {w0 w : World} {L : List Ent} (h : St w0 w L) : St w0 (w.alloc (.cells #[] 39)) (L ++ [Ent.row 39 2 (.slice (some ⟨w.heap.size, 0, none⟩) 0 0) 0 []]) := by
  have h1 := (h.alloc w.heap.size rfl #[] 39).boxrow (b := w.heap.size) (T := 39) L.length 0 2 [] (by simp) rfl (by unfold maxLen; omega)
  simpa using h1
end Go.Proofs.Ytfgpkadhegdffaa
