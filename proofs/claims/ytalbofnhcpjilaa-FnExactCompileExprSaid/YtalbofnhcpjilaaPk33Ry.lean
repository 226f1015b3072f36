/-
  Small facts about slices in memory: what a slice value reads as, and that it still reads so in a later world.
  No condition: this text speaks of no program.
  What a call made for itself: slices in blocks of numbers from lo on and below hi, that may be written.
  No condition: this text speaks of no program.
  A map that a call makes, as a list of keys and values in the order in which the keys came: looking a key up, and storing.
  Conditions: the keys are encoded data that can be keys of the map's type; no key stands there twice.
  What a call made for itself, where one of its slices grows or one of its variables is written: blocks of different types are different blocks.
  No condition: this text speaks of no program.
-/
import Derived.Test.YtalbofnhcpjilaaRows
import Derived.Test.YtalbofnhcpjilaaPk32Ry
namespace Go.Proofs.Ytalbofnhcpjilaa
open Go.RowKit
theorem bne_len (a b : Nat) : ((a : Int) != b) = !decide (a = b) := by rw [Bool.eq_iff_iff]; simp; omega
/-! Slices of structs of ints -/
theorem flat_len {α : Type} (f : α → List Value) (s : Nat) (hf : ∀ a, (f a).length = s) (l : List α) : (l.flatMap f).length = l.length * s := by
  induction l with
  | nil => simp
  | cons a l ih => simp [hf, ih, Nat.succ_mul]; omega
/-! Comparing lists place by place -/
theorem eq_of_take {α : Type} {xs ys : List α} {k : Nat} (hl : xs.length = ys.length) (hk : xs.length ≤ k) (h : xs.take k = ys.take k) : xs = ys := by
  rwa [List.take_of_length_le hk, List.take_of_length_le (by omega)] at h
end Go.Proofs.Ytalbofnhcpjilaa
namespace Go.Proofs.Ytalbofnhcpjilaa
open Go.RowKit
theorem OPairs.pairs {e lo hi : Nat} {w : World} {v : Value} {xs : List (Int × Int)} (h : OPairs e lo hi w v xs) : Pairs lo w v xs := Own.sl h (by omega)
end Go.Proofs.Ytalbofnhcpjilaa
namespace Go.Proofs.Ytalbofnhcpjilaa
open Go.RowKit Go.Maps
section
variable {α : Type} [DecidableEq α]
variable {P : Program} {kt : TypeId} {enc : α → Value} {w : World} {b : Nat} {L : List (α × Value)}
end
end Go.Proofs.Ytalbofnhcpjilaa
namespace Go.Proofs.Ytalbofnhcpjilaa
open Go.RowKit
def RPairs (e lo : Nat) (xs : List (Int × Int)) (en : Ending) (w' : World) : Prop := ∃ a cap, en = .returned (.slice a xs.length cap) ∧ OPairs e lo w'.heap.size w' (.slice a xs.length cap) xs
theorem flatP_len (xs : List (Int × Int)) : (xs.flatMap pairCells).length = xs.length * 2 := flat_len pairCells 2 (fun _ => rfl) xs
theorem flatP_get (xs : List (Int × Int)) (k : Nat) (hk : k < xs.length) : (xs.flatMap pairCells)[k * 2]? = some (.int .i64 (xs.getD k (0, 0)).1) ∧ (xs.flatMap pairCells)[k * 2 + 1]? = some (.int .i64 (xs.getD k (0, 0)).2) := by
  have h0 := flat_get pairCells 2 (fun _ => rfl) xs k 0 (0, 0) hk (by omega)
  have h1 := flat_get pairCells 2 (fun _ => rfl) xs k 1 (0, 0) hk (by omega)
  exact ⟨by simpa [pairCells] using h0, by simpa [pairCells] using h1⟩
end Go.Proofs.Ytalbofnhcpjilaa
namespace Go.Proofs.Ytalbofnhcpjilaa
open Go.RowKit Go.Maps
section
variable {α : Type}
variable {kt sz B B1 B2 B4 hi : Nat} {enc : α → Value} {cel : α → List Value} {w w' : World} {met : List α} {rows : List (List Int)} {ends : List Bool} {vm vn ve : Value}
end
end Go.Proofs.Ytalbofnhcpjilaa
namespace Go.Proofs.Ytalbofnhcpjilaa
open Go.RowKit
def szV (left : Int) (tot : Nat) : Int := if (tot : Int) ≤ left then left - tot else -1
theorem szV_yes {left : Int} {tot : Nat} (h : (tot : Int) ≤ left) : szV left tot = left - tot := if_pos h
theorem szV_no {left : Int} {tot : Nat} (h : left < (tot : Int)) : szV left tot = -1 := if_neg (by omega)
set_option maxHeartbeats 400000 in
theorem szPartS_any (a : Option Addr) (n cap : Nat) (hn : n ≤ 9223372036854775807) (left : Int) (h0 : 0 ≤ left) (h1 : left ≤ 1048576) (w : World) (r : Int) (hr : szV left n = r) :
    Calls Try.prog 9 #[.slice a n cap, .int .i64 left] w fun e w' => e = .returned (.int .i64 r) ∧ w = w' := by
  subst hr
  by_cases h : (n : Int) ≤ left
  all_goals
    go_enter Try.func9, Try.ntmps9
    go_wp2
    go_ret
    exact ⟨ret_int (by first | rw [szV_yes h] | rw [szV_no (by omega)]), rfl⟩
set_option maxHeartbeats 800000 in
theorem eqPart_any (x y : Int × Int) (w : World) (r : Bool) (hr : decide (x = y) = r) :
    Calls Try.prog 50 #[.agg #[.int .i64 x.1, .int .i64 x.2], .agg #[.int .i64 y.1, .int .i64 y.2]] w fun e w' => e = .returned (.bool r) ∧ ∃ o1 o2, w' = (w.alloc o1).alloc o2 := by
  obtain ⟨x1, x2⟩ := x
  obtain ⟨y1, y2⟩ := y
  subst hr
  by_cases h1 : x1 = y1
  · have e1 : (x1 != y1) = false := by simpa using h1
    by_cases h2 : x2 = y2
    · have e2 : (x2 != y2) = false := by simpa using h2
      have Hh1 := Lib.hid h1; clear h1
      have Hh2 := Lib.hid h2; clear h2
      go_enter Try.func50, Try.ntmps50
      go_wp2
      go_ret
      exact ⟨ret_bool (by rw [Hh1.out, Hh2.out]; simp), _, _, rfl⟩
    · have e2 : (x2 != y2) = true := by simpa using h2
      have Hh1 := Lib.hid h1; clear h1
      have Hh2 := Lib.hid h2; clear h2
      go_enter Try.func50, Try.ntmps50
      go_wp2
      go_ret
      exact ⟨ret_bool (by simp [Hh2.out]), _, _, rfl⟩
  · have e1 : (x1 != y1) = true := by simpa using h1
    have Hh1 := Lib.hid h1; clear h1
    go_enter Try.func50, Try.ntmps50
    go_wp2
    go_ret
    exact ⟨ret_bool (by simp [Hh1.out]), _, _, rfl⟩
set_option maxHeartbeats 800000 in
theorem eqPartS_any (xs ys : List (Int × Int)) (v1 v2 : Value) (w : World) (h1 : Pairs 0 w v1 xs) (h2 : Pairs 0 w v2 ys) (r : Bool) (hr : decide (xs = ys) = r) :
    Calls Try.prog 14 #[v1, v2] w fun e w' => e = .returned (.bool r) ∧ Below w.heap.size w w' := by
  obtain ⟨a1, c1, rfl, hc1, hm1, hr1⟩ := h1.form
  obtain ⟨a2, c2, rfl, hc2, hm2, hr2⟩ := h2.form
  clear h1 h2
  have Hhr := Lib.hid hr; clear hr
  by_cases hlen : xs.length = ys.length
  · have hl : ((xs.length : Int) != ys.length) = false := by rw [bne_len]; simpa using hlen
    have Hhlen := Lib.hid hlen; clear hlen
    go_enter Try.func14, Try.ntmps14
    go_wp2
    go_loopw [4, 5] (fun r i wr => ∃ k : Nat, k ≤ xs.length ∧ i = .int .i64 k ∧ xs.take k = ys.take k ∧ Below w.heap.size w wr) (fun _ i _ => xs.length - (intOf i).toNat)
    case atStart => exact ⟨0, Nat.zero_le _, rfl, rfl, Below.refl _ _⟩
    case round =>
      obtain ⟨k, hk, rfl, htk, hb⟩ := hrel
      have Hhtk := Lib.hid htk; clear htk
      by_cases hlt : k < xs.length
      · have hlt2 : k < ys.length := by have := Hhlen.out; omega
        obtain ⟨b1, o1, rfl, hB1, hbl1, hcs1⟩ := hr1 (by omega)
        obtain ⟨b2, o2, rfl, hB2, hbl2, hcs2⟩ := hr2 (by omega)
        have hx1 := (bcell hb b1 (o1 + k * 2) hbl1).trans (hcs1 k hlt).1
        have hx2 := (bcell hb b1 (o1 + k * 2 + 1) hbl1).trans (hcs1 k hlt).2
        have hy1 := (bcell hb b2 (o2 + k * 2) hbl2).trans (hcs2 k hlt2).1
        have hy2 := (bcell hb b2 (o2 + k * 2 + 1) hbl2).trans (hcs2 k hlt2).2
        obtain ⟨x, hx⟩ : ∃ x, x = xs.getD k (0, 0) := ⟨_, rfl⟩
        obtain ⟨y, hy⟩ : ∃ y, y = ys.getD k (0, 0) := ⟨_, rfl⟩
        rw [← hx] at hx1 hx2
        rw [← hy] at hy1 hy2
        have Hhx := Lib.hid hx; clear hx
        have Hhy := Lib.hid hy; clear hy
        have Hhb := Lib.hid hb; clear hb
        clear hcs1 hcs2 hr1 hr2
        cases he : decide (x = y)
        all_goals
          have Hhe := Lib.hid he; clear he
          go_wp2
          go_region_held3 (fun w' => w'.cell? ⟨b1, o1 + k * 2, none⟩ = some (.int .i64 x.1) ∧ w'.cell? ⟨b1, o1 + k * 2 + 1, none⟩ = some (.int .i64 x.2) ∧ w'.cell? ⟨b2, o2 + k * 2, none⟩ = some (.int .i64 y.1) ∧ w'.cell? ⟨b2, o2 + k * 2 + 1, none⟩ = some (.int .i64 y.2))
            (go_keep)
            (first | (go_at_call 50; refine (eqPart_any x y _ _ Hhe.out).mono ?_; rintro e w2 ⟨rfl, o1, o2, rfl⟩))
          skip
          go_wp2
        · go_ret
          exact ⟨by rw [← Hhr.out, decide_eq_false (ne_of_getD (k := k) (d := (0, 0)) (by rw [← Hhx.out, ← Hhy.out]; exact of_decide_eq_false Hhe.out))]; rfl, Hhb.out.drew.trans (((Below.refl _ _).alloc (by have := Hhb.out.size; simpa using this) _).alloc (by have := Hhb.out.size; simp; omega) _)⟩
        · go_roundw
          case rel => exact ⟨k + 1, by omega, by go_num, take_snoc_eq (d := (0, 0)) hlt hlt2 Hhtk.out (by rw [← Hhx.out, ← Hhy.out]; exact of_decide_eq_true Hhe.out), Hhb.out.drew.trans (((Below.refl _ _).alloc (by have := Hhb.out.size; simpa using this) _).alloc (by have := Hhb.out.size; simp; omega) _)⟩
          case measure => simp [intOf]; omega
      · clear hr1 hr2
        have Hhb := Lib.hid hb; clear hb
        go_wp2
        go_ret
        exact ⟨by rw [← Hhr.out, decide_eq_true (eq_of_take Hhlen.out (by omega) Hhtk.out)]; rfl, Hhb.out⟩
  · have hl : ((xs.length : Int) != ys.length) = true := by rw [bne_len]; simpa using hlen
    have Hhlen := Lib.hid hlen; clear hlen
    clear hr1 hr2
    go_enter Try.func14, Try.ntmps14
    go_wp2
    go_ret
    exact ⟨by rw [← Hhr.out, decide_eq_false (fun h => Hhlen.out (by rw [h]))]; rfl, Below.refl _ _⟩
set_option maxHeartbeats 800000 in
theorem toPart_any (x : Int × Int) (w : World) :
    Calls Try.prog 45 #[.agg #[.int .i64 x.1, .int .i64 x.2]] w fun e w' => e = .returned (.agg #[.int .i64 x.1, .int .i64 x.2]) ∧ Below w.heap.size w w' := by
  go_enter Try.func45, Try.ntmps45
  go_wp2
  refine bodyPost_ret (v := .agg #[.int .i64 x.1, .int .i64 x.2]) (by simp [results, Try.results45, go_sem]) rfl ⟨rfl, ?_⟩
  repeat (first | exact Below.refl _ _ | (refine Below.setCell ?_ (by simp) _) | (refine Below.alloc ?_ (by simp <;> omega) _))
theorem Try.infoPart : (Try.prog.info? 42).map (fun i => (i.zero, i.size, i.bytes)) = some (some (.agg #[.int .i64 0, .int .i64 0]), 2, 16) := by kernel_rfl
set_option maxHeartbeats 1600000 in
theorem toPartS_any (xs : List (Int × Int)) (v : Value) (w : World) (hx : xs.length ≤ 1048576) (h1 : Pairs 0 w v xs) :
    Calls Try.prog 11 #[v] w fun e w' => RPairs 42 w.heap.size xs e w' ∧ Below w.heap.size w w' := by
  obtain ⟨a1, c1, rfl, hc1, hm1, hr1⟩ := h1.form
  obtain ⟨i0, hi, hz0, hz1, hz2⟩ := info_parts Try.infoPart
  clear h1
  go_enter Try.func11, Try.ntmps11
  go_wp2_with (at_make; refine wpList_make_full _ rfl _ _ 30 rfl w.heap.size 42 i0 (.agg #[.int .i64 0, .int .i64 0]) 2 Try.underlying30 hi hz0 hz1 .i64 .i64 _ _ xs.length rfl rfl rfl rfl (by rw [hz2]; omega) (by unfold maxLen; omega) (Nat.le_refl _) ?_; intro w1 hown hgrow)
  have hb1 : Below w.heap.size w w1 := (Below.refl _ _).grown hgrow (Nat.le_refl _) (fun _ h => by cases h)
  have Hown := Lib.hid hown
  clear hown hgrow hi hz0 hz1 hz2
  go_loopw [4] (fun i wr => ∃ k : Nat, k ≤ xs.length ∧ i = .int .i64 k ∧ Below w.heap.size w wr ∧ ∃ cs, wr.ownsRow w.heap.size 42 2 (.slice (some ⟨w.heap.size, 0, none⟩) xs.length xs.length) xs.length cs ∧ cs.take (k * 2) = (xs.flatMap pairCells).take (k * 2))
    (fun i _ => xs.length - (intOf i).toNat)
  case atStart => exact ⟨0, Nat.zero_le _, rfl, hb1, _, Hown.out, rfl⟩
  case round =>
    obtain ⟨k, hk, rfl, hb, cs, hown, htk⟩ := hrel
    have hlen := hown.1
    have hBw := (hown.lt w.heap.size rfl).2
    have Hhtk := Lib.hid htk; clear htk
    have Hhown := Lib.hid hown; clear hown
    have Hhb := Lib.hid hb; clear hb
    have Hhlen := Lib.hid hlen; clear hlen
    by_cases hlt : k < xs.length
    · obtain ⟨b1, o1, rfl, hB1, hbl1, hcs1⟩ := hr1 (by omega)
      have hx1 := (bcell Hhb.out b1 (o1 + k * 2) hbl1).trans (hcs1 k hlt).1
      have hx2 := (bcell Hhb.out b1 (o1 + k * 2 + 1) hbl1).trans (hcs1 k hlt).2
      have hfl := flatP_get xs k hlt
      obtain ⟨x, hxx⟩ : ∃ x, x = xs.getD k (0, 0) := ⟨_, rfl⟩
      rw [← hxx] at hx1 hx2 hfl
      have Hhxx := Lib.hid hxx; clear hxx
      have Hhfl := Lib.hid hfl; clear hfl
      clear hcs1 hr1
      go_wp2_with (go_at_call 45; refine (toPart_any x _).mono ?_; rintro e w2 ⟨rfl, hb2⟩; have Hb2 := Lib.hid hb2; clear hb2; have hrow := (Own.below (own_of_row Hhown.out) Hb2.out).1; obtain ⟨u0, hold0⟩ := row_some hrow (k * 2) (by omega); obtain ⟨u1, hold1⟩ := row_some hrow (k * 2 + 1) (by omega); have hfr0 : w2.frozen? ⟨w.heap.size, k * 2, none⟩ = false := hrow.frozenAt _; have hfr1 : w2.frozen? ⟨w.heap.size, k * 2 + 1, none⟩ = false := hrow.frozenAt _; have Hrow := Lib.hid hrow; clear hrow)
      go_roundw
      case rel =>
        refine ⟨k + 1, by omega, by go_num, ((Hhb.out.trans (Hb2.out.mono Hhb.out.size)).setCell (Nat.le_refl _) _).setCell (Nat.le_refl _) _, _, (((Hrow.out.stored (k * 2) _).1).stored (k * 2 + 1) _).1, ?_⟩
        have s1 := cells_set (n := xs.length * 2) (k := k * 2) Hhlen.out (flatP_len xs) (by omega) Hhtk.out Hhfl.out.1
        have s2 := cells_set (n := xs.length * 2) (k := k * 2 + 1) (by simpa using Hhlen.out) (flatP_len xs) (by omega) s1 Hhfl.out.2
        rw [show (k + 1) * 2 = k * 2 + 1 + 1 from by omega]
        exact s2
      case measure => simp [intOf]; omega
    · clear hr1
      go_wp2
      go_ret
      have he : cs = xs.flatMap pairCells := by
        have h := Hhtk.out
        rwa [List.take_of_length_le (by have := Hhlen.out; omega), List.take_of_length_le (by rw [flatP_len]; omega)] at h
      exact ⟨⟨_, _, rfl, own_of_row (by rw [← he]; exact Hhown.out)⟩, Hhb.out⟩
end Go.Proofs.Ytalbofnhcpjilaa
namespace Go.Proofs.Ytalbofnhcpjilaa
open Go.RowKit Go.Deep Go.ChangeShapes Go.ChangeAt
section
variable {H : Type} {enc : TypeId × Value → H} {P : Program} {w : World} {held : Bool}
theorem open_struct2 {t f : TypeId} {f0 f1 : Field} {fuel : Nat} {cs : List Value} {x : DataW H × List MemPlace} (ht : P.underlying t = some (.struct #[f0, f1])) (hf0 : f0.type = f ∧ f0.offset = 0) (hf1 : f1.type = f ∧ f1.offset = 1)
    (hf : P.underlying f = some (.int .i64)) (hc : P.cellsOf f = 1) (hl : cs.length = 2) (h : DataW.trod enc P w 0 (fun _ => true) held fuel t cs = some x) : ∃ a b : Int, cs = [.int .i64 a, .int .i64 b] := by
  obtain ⟨y0, y1, n, -, -, h0, h1⟩ := trod_struct2 ht h
  rw [hf0.1, hf0.2, hc] at h0
  rw [hf1.1, hf1.2, hc] at h1
  match cs, hl with
  | [c0, c1], _ =>
    obtain ⟨a, ha, -⟩ := DataW.trod_int hf h0
    obtain ⟨b, hb, -⟩ := DataW.trod_int hf h1
    simp at ha hb
    exact ⟨a, b, by rw [ha, hb]⟩
theorem sl_of_rows {a : Addr} {len cap size : Nat} {rows : List (List Value)} (hs : 0 < size) (hl : rows.length = len) (hr : ∀ r ∈ rows, r.length = size) (hle : len ≤ cap) (hm : cap ≤ maxLen)
    (hc : ∀ i, i < len → ∀ j, j < size → w.cell? ((a.add (i * size)).add j) = (rows.getD i [])[j]?) : Sl 0 w (.slice (some a) len cap) len size rows.flatten := by
  have hfl : rows.flatten.length = len * size := by
    rw [← hl]
    clear hl hc
    induction rows with
    | nil => simp
    | cons r rows ih =>
      have := ih (fun r hr' => hr r (by simp [hr']))
      simp only [List.flatten_cons, List.length_append, List.length_cons, this, hr r (by simp), Nat.succ_mul]
      omega
  have hget : ∀ (rows : List (List Value)), (∀ r ∈ rows, r.length = size) → ∀ i j, i < rows.length → j < size → rows.flatten[i * size + j]? = (rows.getD i [])[j]? := by
    intro rows
    induction rows with
    | nil => intro _ i j hi; simp at hi
    | cons r rows ih =>
      intro hr i j hi hj
      cases i with
      | zero =>
        simp only [List.flatten_cons, Nat.zero_mul, Nat.zero_add, List.getD_cons_zero]
        rw [List.getElem?_append_left (by rw [hr r (by simp)]; exact hj)]
      | succ i =>
        have := ih (fun r hr' => hr r (by simp [hr'])) i j (by simpa using hi) hj
        simp only [List.flatten_cons, List.getD_cons_succ]
        rw [List.getElem?_append_right (by rw [hr r (by simp), Nat.succ_mul]; omega), ← this, hr r (by simp), Nat.succ_mul]
        congr 1; omega
  refine ⟨hfl, _, cap, rfl, hle, hm, fun h0 => ?_⟩
  have hrow0 : (rows.getD 0 []).length = size := by
    have h0' : 0 < rows.length := by omega
    have := hr (rows.getD 0 []) (by simp [h0'])
    exact this
  obtain ⟨u, hu⟩ : ∃ u, (rows.getD 0 [])[0]? = some u := ⟨(rows.getD 0 [])[0]'(by omega), by rw [List.getElem?_eq_getElem]⟩
  have h00 := (hc 0 h0 0 hs).trans hu
  have h00' : w.cell? (a.add 0) = some u := by simpa [Addr.add] using h00
  obtain ⟨b, off, rfl⟩ := addr_plain h00'
  refine ⟨b, off, rfl, Nat.zero_le _, World.block_lt_of_cell? w _ h00', fun k hk => ?_⟩
  have hi : k / size < len := Nat.div_lt_of_lt_mul (by rw [Nat.mul_comm]; exact hk)
  have hj : k % size < size := Nat.mod_lt _ hs
  have h1 := hc (k / size) hi (k % size) hj
  have h2 := hget rows hr (k / size) (k % size) (by omega) hj
  have hk' : k / size * size + k % size = k := by rw [Nat.mul_comm]; exact Nat.div_add_mod k size
  rw [hk'] at h2
  rw [h2, ← h1, Go.WideShapes.add_plain, Go.WideShapes.add_plain, Nat.add_assoc, hk']
theorem open_pairs_R {t e f : TypeId} {f0 f1 : Field} {fuel : Nat} {cs : List Value} {x : DataW H × List MemPlace} (ht : P.underlying t = some (.slice e)) (he : P.underlying e = some (.struct #[f0, f1])) (hf0 : f0.type = f ∧ f0.offset = 0) (hf1 : f1.type = f ∧ f1.offset = 1)
    (hf : P.underlying f = some (.int .i64)) (hc : P.cellsOf f = 1) (hce : P.cellsOf e = 2) (h : DataW.trod enc P w 0 (fun _ => true) held fuel t cs = some x) : ∃ v xs, cs = [v] ∧ Pairs 0 w v xs := by
  rcases open_slice ht h with ⟨hcs, -⟩ | ⟨a, len, cap, m, n, D, Pl, hcs, -, hl, hm, hmm, -, hx⟩
  · exact ⟨_, [], hcs, by simp, none, 0, rfl, Nat.le_refl _, Nat.zero_le _, fun h => by simp at h⟩
  · simp only [if_true] at hmm
    rw [hce] at hx
    have hrow : ∀ i, i < len → ∃ p : Int × Int, ∀ j, j < 2 → w.cell? ((a.add (i * 2)).add j) = (pairCells p)[j]? := fun i hi => by
      obtain ⟨cs', h1, h2⟩ := hx i (by omega)
      obtain ⟨-, hlen, hcell⟩ := World.cells?_some h1
      obtain ⟨p, q, hpq⟩ := open_struct2 he hf0 hf1 hf hc hlen h2
      exact ⟨(p, q), fun j hj => by rw [hcell j hj, hpq]; rfl⟩
    obtain ⟨X, hX⟩ := choose_lt hrow
    refine ⟨_, (List.range len).map X, hcs, ?_⟩
    unfold Pairs
    rw [List.length_map, List.length_range, List.flatMap_def]
    refine sl_of_rows (by omega) (by simp) (fun r hr => ?_) hl hm fun i hi j hj => ?_
    · obtain ⟨p, -, rfl⟩ := List.mem_map.1 hr
      rfl
    · rw [hX i hi j hj]
      simp [hi]
end
end Go.Proofs.Ytalbofnhcpjilaa
namespace Go.Proofs.Ytalbofnhcpjilaa
open Go.RowKit Go.Deep Go.ChangeShapes Go.ChangeAt
section
variable {H : Type} {enc : TypeId × Value → H} {P : Program} {w : World} {held : Bool}
end
end Go.Proofs.Ytalbofnhcpjilaa
namespace Go.Proofs.Ytalbofnhcpjilaa
open Go.RowKit
end Go.Proofs.Ytalbofnhcpjilaa
namespace Go.Proofs.Ytalbofnhcpjilaa
open Go.ChangeShapes Go.WideShapes Go.ChangeAt Go.RowKit Go.Joins
theorem Try.cellsI1 : Try.prog.cellsOf 3 = 1 := by kernel_rfl
theorem Try.cellsLPart : Try.prog.cellsOf 70 = 2 := by kernel_rfl
theorem Try.recLParts : Try.prog.readableRec 22 = true := by kernel_rfl
theorem Try.rowLParts : (22 : TypeId) < Try.prog.types.size := of_decide_eq_true (by kernel_rfl)
theorem Try.oneLPart : ∃ f0 f1 : Field, Try.prog.underlying 70 = some (.struct #[f0, f1]) ∧ (f0.type = 3 ∧ f0.offset = 0) ∧ f1.type = 3 ∧ f1.offset = 1 := ⟨_, _, Try.underlying70, ⟨rfl, rfl⟩, rfl, rfl⟩
section
variable {H : Type} {enc : TypeId × Value → H} {W : World}
set_option maxRecDepth 100000 in
theorem open_lparts {held : Bool} {v : Value} {d : DataW H} {p : List MemPlace} (h : DataW.Trod enc Try.prog W 0 (fun _ => true) held 22 v d p) (hv : v.cells.toList = [v]) : ∃ ps, Pairs 0 W v ps := by
  obtain ⟨f0, f1, hu, h0, h1⟩ := Try.oneLPart
  obtain ⟨fuel, hf⟩ := h
  obtain ⟨u, xs, hux, hx⟩ := open_pairs_R Try.underlying22 hu h0 h1 Try.underlying3 Try.cellsI1 Try.cellsLPart hf
  rw [hv] at hux
  simp only [List.cons.injEq, and_true] at hux
  subst hux
  exact ⟨xs, hx⟩
end
end Go.Proofs.Ytalbofnhcpjilaa
namespace Go.Proofs.Ytalbofnhcpjilaa
open Go.ChangeShapes Go.WideShapes Go.ChangeAt Go.RowKit Go.Joins
section
variable {H : Type} {enc : TypeId × Value → H} {W : World}
end
end Go.Proofs.Ytalbofnhcpjilaa
