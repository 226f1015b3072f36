/-
  Facts about automata with choices that are in order, and their rows in memory; appending a slice that may be empty.
  No condition.
-/
import Derived.Test.YtfgpkadhegdffaaPk03Nvs
namespace Go.Proofs.Ytfgpkadhegdffaa
open Go.RowKit Go.Maps
theorem stOk_at {l : List Int} {m : Int} (h : stOk l m = true) {j : Nat} (hj : j < l.length) : (0 ≤ l.getD j 0 ∧ l.getD j 0 ≤ m - 1) ∧ (0 < j → l.getD (j - 1) 0 < l.getD j 0) := by
  unfold stOk at h
  rw [List.all_eq_true] at h
  have h1 := h j (List.mem_range.2 hj)
  unfold okAt at h1
  rw [Bool.and_eq_true, Bool.or_eq_true] at h1
  obtain ⟨h1, h2⟩ := h1
  refine ⟨by simpa [inB] using h1, fun h0 => ?_⟩
  rcases h2 with h2 | h2
  · have := of_decide_eq_true h2
    omega
  · exact of_decide_eq_true h2
theorem stOk_ge {l : List Int} {m : Int} (h : stOk l m = true) : ∀ j, j < l.length → (j : Int) ≤ l.getD j 0
  | 0, hj => (stOk_at h hj).1.1
  | j + 1, hj => by
    have h1 := stOk_ge h j (by omega)
    have h2 := (stOk_at h hj).2 (by omega)
    rw [Nat.add_sub_cancel] at h2
    omega
theorem stOk_facts {l : List Int} {m : Nat} (h : stOk l (m : Int) = true) : inN m l ∧ l.length ≤ m := by
  refine ⟨fun s hs => ?_, ?_⟩
  · obtain ⟨j, hj, e⟩ := List.getElem_of_mem hs
    have := (stOk_at h hj).1
    rw [getD_at hj, e] at this
    omega
  · rcases Nat.eq_zero_or_pos l.length with h0 | h0
    · omega
    · have h1 := stOk_ge h (l.length - 1) (by omega)
      have h2 := (stOk_at h (j := l.length - 1) (by omega)).1.2
      omega
theorem nfaOk_facts {n : NfaD} (h : nfaOk n = true) : ∃ m : Nat, n.states = (m : Int) ∧ m ≤ 40 ∧ mvIn m n.moves ∧ n.moves.length ≤ 400 ∧ inN m n.firsts ∧ n.firsts.length ≤ 40 ∧ inN m n.ends ∧ n.ends.length ≤ 40 := by
  unfold nfaOk at h
  simp only [Bool.and_eq_true] at h
  obtain ⟨⟨⟨⟨h1, h2⟩, h3⟩, h4⟩, h5⟩ := h
  have h1 : 0 ≤ n.states ∧ n.states ≤ 40 := by simpa [inB] using h1
  obtain ⟨m, hm⟩ := Int.eq_ofNat_of_zero_le h1.1
  rw [hm] at h3 h4 h5
  have f3 := stOk_facts h3
  have f4 := stOk_facts h4
  refine ⟨m, hm, by omega, fun x hx => ?_, of_decide_eq_true h2, f3.1, by omega, f4.1, by omega⟩
  rw [List.all_eq_true] at h5
  have := h5 x hx
  unfold mvOk at this
  simp only [Bool.and_eq_true, inB, decide_eq_true_eq] at this
  omega
def eds (d : DfaD) : Nat → List Int
  | 0 => []
  | s + 1 => if d.ends.getD s false = true then eds d s ++ [(s : Int)] else eds d s
theorem eds_len (d : DfaD) : ∀ s, (eds d s).length ≤ s
  | 0 => Nat.le_refl _
  | s + 1 => by
    have ih := eds_len d s
    unfold eds
    split
    · rw [List.length_append, List.length_singleton]; omega
    · omega
theorem intCells_snoc (l : List Int) (x : Int) : intCells (l ++ [x]) = intCells l ++ [.int .i64 x] := by simp [intCells]
theorem one_int {k : IntKind} {x : Int} : ∀ u ∈ [Value.int k x], u.oneCell' = true := by
  intro u hu
  simp only [List.mem_singleton] at hu
  subst hu
  rfl
def RNfaS (n : NfaD) (w : World) (e : Ending) (w' : World) : Prop := ∃ a1 c1 a2 c2 a3 c3, e = .returned (.agg #[.int .i64 n.states, .slice a1 n.moves.length c1, .slice a2 n.firsts.length c2, .slice a3 n.ends.length c3]) ∧
  St w w' [Ent.row 127 3 (.slice a1 n.moves.length c1) n.moves.length (n.moves.flatMap moveCells), Ent.row 3 1 (.slice a2 n.firsts.length c2) n.firsts.length (intCells n.firsts), Ent.row 3 1 (.slice a3 n.ends.length c3) n.ends.length (intCells n.ends)]
theorem moves_of_row {w : World} {B e : Nat} {v : Value} {xs : List (Int × Int × Int)} (hr : w.ownsRow B e 3 v xs.length (xs.flatMap moveCells)) : Moves 0 w v xs :=
  ((own_of_row hr).sl (by omega)).mono (Nat.zero_le _)
theorem ints_of_row' {w : World} {B e : Nat} {v : Value} {xs : List Int} (hr : w.ownsRow B e 1 v xs.length (intCells xs)) : Ints 0 w v xs :=
  ((own_of_row hr).sl (by omega)).mono (Nat.zero_le _)
theorem St.moves {w0 w : World} {L : List Ent} (h : St w0 w L) (i : Nat) {e : Nat} {v : Value} {xs : List (Int × Int × Int)} (hx : L[i]? = some (Ent.row e 3 v xs.length (xs.flatMap moveCells))) : Moves 0 w v xs := moves_of_row (h.row i hx)
theorem Try.infoMv : (Try.prog.info? 127).map (fun i => (i.zero, i.size, i.bytes)) = some (some (.agg #[.int .i64 0, .int .i64 0, .int .i64 0]), 3, 24) := by kernel_rfl
theorem one_mv {s c x : Int} : ∀ u ∈ [Value.int .i64 s, Value.int .i64 c, Value.int .i64 x], u.oneCell' = true := by
  intro u hu
  simp at hu
  rcases hu with rfl | rfl | rfl <;> rfl
theorem flatM_snoc (xs : List (Int × Int × Int)) (s c x : Int) : (xs ++ [(s, c, x)]).flatMap moveCells = xs.flatMap moveCells ++ [.int .i64 s, .int .i64 c, .int .i64 x] := by simp [moveCells]
end Go.Proofs.Ytfgpkadhegdffaa
namespace Go.Proofs.Ytfgpkadhegdffaa
open Go.RowKit
section
variable {P : Program} (w : World)
theorem ownsRow_any {w : World} {base e size n : Nat} {v : Value} {xs : List Value} (h : w.ownsRow base e size v n xs) : ∃ a cap, v = .slice a n cap ∧ n ≤ cap := by
  rcases h.2 with ⟨h1, h2⟩ | ⟨g', cap', cur, h1, -, -, h4, -⟩
  · exact ⟨none, 0, by rw [h1, h2], by omega⟩
  · exact ⟨_, cap', h1, h4⟩
theorem run_append_sl (t ty : TypeId) (base : Nat) (e : TypeId) (i : TypeInfo) (z : Value) (size bytes : Nat) (ht : P.underlying t = some (.slice e)) (hi : P.info? e = some i) (hz : i.zero = some z)
    (hsize : i.size = size) (hby : i.bytes = bytes) (hzs : z.cells.size = size) (hsz : 0 < size)
    (v : Value) (n : Nat) (xs : List Value) (hown : w.ownsRow base e size v n xs) (x : Value) (m : Nat) (news : List Value) (hx : Sl 0 w x m size news) (h1 : ∀ u ∈ news, u.oneCell' = true)
    (h63 : n + m ≤ maxLen) (hbytes : (n + m) * bytes ≤ 140737488355328) (hbase : base ≤ w.heap.size) :
    ∃ a' cap w', (Builtin.append_ #[t, t] ty #[v, x]).run P w = .ok (.slice a' (n + m) cap) w' ∧ w'.ownsRow base e size (.slice a' (n + m) cap) (n + m) (xs ++ news) ∧ w.grownBy w' v.ownBlock ∧
      (∀ k, (Value.slice a' (n + m) cap).ownBlock = some k → v.ownBlock = some k ∨ w.heap.size ≤ k) := by
  obtain ⟨hl, a, cap, rfl, hle, hm, hc⟩ := hx
  cases a with
  | some ad =>
    have hnews : ∀ j u, news[j]? = some u → w.cell? (ad.add j) = some u := fun j u hj => by
      have hjl := (List.getElem?_eq_some_iff.1 hj).1
      have hm0 : 0 < m := by
        rcases Nat.eq_zero_or_pos m with h0 | h0
        · rw [h0] at hl; omega
        · exact h0
      obtain ⟨b, off, ha, -, -, hcs⟩ := hc hm0
      simp only [Option.some.injEq] at ha
      subst ha
      rw [← hj, ← hcs j (by omega), ← Go.WideShapes.add_plain]
    obtain ⟨v', w', hr, h2, h3, -, h5⟩ := run_append_own_at (P := P) w base t ty e i z size bytes ht hi hz hsize hby hzs hsz v n xs hown ad m cap news hl hnews h1 h63 hbytes hbase
    obtain ⟨a', cap', rfl, -⟩ := ownsRow_any h2
    refine ⟨a', cap', w', hr, h2, h3, fun k hk => ?_⟩
    rcases h5 with h5 | h5
    · exact Or.inl (by rw [← h5]; exact hk)
    · rw [h5] at hk
      exact Or.inr (by simp only [Option.some.injEq] at hk; omega)
  | none =>
    have hm0 : m = 0 := by
      rcases Nat.eq_zero_or_pos m with h0 | h0
      · exact h0
      · obtain ⟨b, off, ha, -⟩ := hc h0
        cases ha
    subst hm0
    have hnil : news = [] := List.eq_nil_of_length_eq_zero (by omega)
    subst hnil
    obtain ⟨a', cap', rfl, hlc⟩ := ownsRow_any hown
    subst hsize
    refine ⟨a', cap', w, run_append_nothing w t t ty e i ht hi a' n cap' hlc _ (Src.ofNil w ht cap), by simpa using hown, ⟨rfl, rfl, rfl, Nat.le_refl _, fun _ _ _ => rfl⟩, fun k hk => Or.inl hk⟩
theorem wp_append_sl {o : Oper} {a : Act} {K : Act → World → Prop} {Q : Exit → Act → World → Prop} (s x : Operand) (t : TypeId)
    (ho : o.op = .call { callee := .builtin .append, args := #[s, x], argTypes := #[t, t] })
    (base : Nat) (e : TypeId) (i : TypeInfo) (z : Value) (size bytes : Nat) (ht : P.underlying t = some (.slice e)) (hi : P.info? e = some i) (hz : i.zero = some z)
    (hsize : i.size = size) (hby : i.bytes = bytes) (hzs : z.cells.size = size) (hsz : 0 < size)
    (v : Value) (n : Nat) (xs : List Value) (hs : a.eval s = v) (hown : w.ownsRow base e size v n xs)
    (y : Value) (m : Nat) (news : List Value) (hy : a.eval x = y) (hx : Sl 0 w y m size news) (h1 : ∀ u ∈ news, u.oneCell' = true)
    (h63 : n + m ≤ maxLen) (hbytes : (n + m) * bytes ≤ 140737488355328) (hbase : base ≤ w.heap.size)
    (h : ∀ a' cap w', w'.ownsRow base e size (.slice a' (n + m) cap) (n + m) (xs ++ news) → w.grownBy w' v.ownBlock → (∀ k, (Value.slice a' (n + m) cap).ownBlock = some k → v.ownBlock = some k ∨ w.heap.size ≤ k) → K (a.put o.dst (.slice a' (n + m) cap)) w') : o.wp P a w K Q := by
  obtain ⟨a', cap, w', hr, h2, h3, h4⟩ := run_append_sl (P := P) w t o.type base e i z size bytes ht hi hz hsize hby hzs hsz v n xs hown y m news hx h1 h63 hbytes hbase
  unfold Oper.wp execOp
  simp only [ho, resolve, invoke, builtin, Sem.run_bind, Sem.run_pure, Result.andThen_ok, List.map_toArray, List.map_cons, List.map_nil, hs, hy, hr]
  exact h a' cap w' h2 h3 h4
theorem wpList_append_sl {ops : Array Oper} {rest : List Oper} {o : Oper} {a : Act} {Q : Exit → Act → World → Prop} (hgd : o.guard = none) (s x : Operand) (t : TypeId)
    (ho : o.op = .call { callee := .builtin .append, args := #[s, x], argTypes := #[t, t] })
    (base : Nat) (e : TypeId) (i : TypeInfo) (z : Value) (size bytes : Nat) (ht : P.underlying t = some (.slice e)) (hi : P.info? e = some i) (hz : i.zero = some z)
    (hsize : i.size = size) (hby : i.bytes = bytes) (hzs : z.cells.size = size) (hsz : 0 < size)
    (v : Value) (n : Nat) (xs : List Value) (hs : a.eval s = v) (hown : w.ownsRow base e size v n xs)
    (y : Value) (m : Nat) (news : List Value) (hy : a.eval x = y) (hx : Sl 0 w y m size news) (h1 : ∀ u ∈ news, u.oneCell' = true)
    (h63 : n + m ≤ maxLen) (hbytes : (n + m) * bytes ≤ 140737488355328) (hbase : base ≤ w.heap.size)
    (h : ∀ a' cap w', w'.ownsRow base e size (.slice a' (n + m) cap) (n + m) (xs ++ news) → w.grownBy w' v.ownBlock → (∀ k, (Value.slice a' (n + m) cap).ownBlock = some k → v.ownBlock = some k ∨ w.heap.size ≤ k) → wpList P ops Q rest (a.put o.dst (.slice a' (n + m) cap)) w') : wpList P ops Q (o :: rest) a w :=
  wpList_plain hgd fun _ hK => wp_append_sl w s x t ho base e i z size bytes ht hi hz hsize hby hzs hsz v n xs hs hown y m news hy hx h1 h63 hbytes hbase fun a' cap w' h2 h3 h4 => hK _ _ (h a' cap w' h2 h3 h4)
end
theorem on_i {k : IntKind} {x : Int} : ∀ u ∈ [Value.int k x], u.oneCell' = true := by simp [Value.oneCell']
theorem boolC_sn (l : List Bool) (x : Bool) : boolCells (l ++ [x]) = boolCells l ++ [.bool x] := by simp [boolCells]
theorem intC_sn (l : List Int) (x : Int) : intCells (l ++ [x]) = intCells l ++ [.int .i64 x] := by simp [intCells]
theorem on_is {xs : List Int} : ∀ u ∈ intCells xs, u.oneCell' = true := fun u hu => by
  obtain ⟨x, -, rfl⟩ := List.mem_map.1 hu
  simp [Value.oneCell']
theorem on_mvs {xs : List (Int × Int × Int)} : ∀ u ∈ xs.flatMap moveCells, u.oneCell' = true := fun u hu => by
  obtain ⟨x, -, hx⟩ := List.mem_flatMap.1 hu
  simp only [moveCells, List.mem_cons, List.not_mem_nil, or_false] at hx
  rcases hx with rfl | rfl | rfl <;> simp [Value.oneCell']
theorem on_prs {xs : List (Int × Int)} : ∀ u ∈ xs.flatMap pairCells, u.oneCell' = true := fun u hu => by
  obtain ⟨x, -, hx⟩ := List.mem_flatMap.1 hu
  simp only [pairCells, List.mem_cons, List.not_mem_nil, or_false] at hx
  rcases hx with rfl | rfl <;> simp [Value.oneCell']
theorem St.appS {w0 w w' : World} {L : List Ent} (h : St w0 w L) (i : Nat) {B e size n m cap : Nat} {a' : Option Addr} {v : Value} {cs cs' : List Value} (hx : L[i]? = some (Ent.row e size v n cs)) (hown : w'.ownsRow B e size (.slice a' m cap) m cs') (hg : w.grownBy w' v.ownBlock)
    (hat : ∀ k, (Value.slice a' m cap).ownBlock = some k → v.ownBlock = some k ∨ w.heap.size ≤ k) : St w0 w' (L.set i (Ent.row e size (.slice a' m cap) m cs')) := h.grow i hx hg hown hat
end Go.Proofs.Ytfgpkadhegdffaa
namespace Go.Proofs.Ytfgpkadhegdffaa
open Go.RowKit Go.Maps
def fitI (x : Int) : Prop := -9223372036854775808 ≤ x ∧ x ≤ 9223372036854775807
theorem fit_wf {x : Int} (h : fitI x) : (Lit.int .i64 x).wf = true := WalkArith.wf_i64 h
theorem Try.laidOut : laidOutB Try.prog = true := by kernel_rfl
theorem five_small : 5 + 1 ≤ 10000 := by omega
def pairEnc (p : Int × Int) : Value := .agg #[.int .i64 p.1, .int .i64 p.2]
theorem pairEnc_inj : ∀ x y : Int × Int, pairEnc x = pairEnc y → x = y := by
  rintro ⟨a, b⟩ ⟨c, d⟩ h
  simp only [pairEnc, Value.agg.injEq] at h
  have h1 := congrArg (fun (l : Array Value) => l[0]?) h
  have h2 := congrArg (fun (l : Array Value) => l[1]?) h
  simp at h1 h2
  rw [h1, h2]
theorem keyLits_int {P : Program} {t : TypeId} {D : Nat} {x : Int} (ht : P.underlying t = some (.int .i64)) (hx : fitI x) : P.keyLits (D + 1) t [.int .i64 x] = some [.int .i64 x] := by
  unfold Program.keyLits
  rw [ht]
  simp [fit_wf hx]
end Go.Proofs.Ytfgpkadhegdffaa
namespace Go.Proofs.Ytfgpkadhegdffaa
open Go.RowKit Go.Maps
theorem keyLits_one {P : Program} {t : TypeId} {D : Nat} {q : IntKind} {x : Int} (ht : P.underlying t = some (.int q)) (hx : (Lit.int q x).wf = true) : P.keyLits (D + 1) t [.int q x] = some [.int q x] := by
  unfold Program.keyLits
  rw [ht]
  simp [hx]
theorem keyOf_two {P : Program} {t e : TypeId} {q : IntKind} (hu : P.underlying t = some (.array 2 e)) (he : P.underlying e = some (.int q)) (hk : P.keyType t = true) (hc : P.cellsOf t = 2) (hce : P.cellsOf e = 1) (hrow : t < P.types.size)
    (x y : Int) (hx : (Lit.int q x).wf = true) (hy : (Lit.int q y).wf = true) : ∃ l, keyOf P t (.agg #[.int q x, .int q y]) = some l := by
  have hfm : (Value.agg #[.int q x, .int q y]).formed P t = true := by simp [Value.formed, hu, hc]
  obtain ⟨n, hn⟩ : ∃ n, P.types.size = n + 1 := ⟨P.types.size - 1, (Nat.succ_pred_eq_of_pos (Nat.lt_of_le_of_lt (Nat.zero_le _) hrow)).symm⟩
  have e1 := keyLits_one (D := n) he hx
  have e2 := keyLits_one (D := n) he hy
  have hlits : P.keyLits (P.types.size + 1) t (Value.agg #[.int q x, .int q y]).cells.toList = some [.int q x, .int q y] := by
    rw [hn]
    show P.keyLits (n + 1 + 1) t [.int q x, .int q y] = _
    unfold Program.keyLits
    rw [hu]
    simp [hc, hce, List.range_succ, e1, e2]
  exact ⟨_, by
    unfold keyOf
    rw [hu]
    simp only [hk, hfm, Bool.and_self, if_true, hlits]
    rfl⟩
theorem arr_inj {q : IntKind} : ∀ x y : Int × Int, (Value.agg #[.int q x.1, .int q x.2]) = .agg #[.int q y.1, .int q y.2] → x = y := by
  rintro ⟨a, b⟩ ⟨c, d⟩ h
  simp only [Value.agg.injEq] at h
  have h1 := congrArg (fun (l : Array Value) => l[0]?) h
  have h2 := congrArg (fun (l : Array Value) => l[1]?) h
  simp at h1 h2
  rw [h1, h2]
theorem Try.rowPr : (168 : TypeId) < Try.prog.types.size := of_decide_eq_true (by kernel_rfl)
theorem Try.widePr : (match Try.prog.underlying 168 with | some (.array _ _) | some (.struct _) => true | _ => false) = true := by kernel_rfl
theorem Try.keyPr : Try.prog.keyType 168 = true := by kernel_rfl
theorem Try.keyAtPr : Try.prog.keyTypeAt 5 168 = true := by kernel_rfl
theorem Try.cellsPr : Try.prog.cellsOf 168 = 2 := by kernel_rfl
theorem Try.cellsInt : Try.prog.cellsOf 3 = 1 := by kernel_rfl
theorem Try.kindPr : Try.prog.underlying 168 = some (.array 2 3) := by kernel_rfl
set_option maxRecDepth 100000 in
theorem Try.lawPr : Keyed Try.prog 168 := Keyed.of_law (deep_law_laid Try.laidOut five_small Try.rowPr Try.keyAtPr Try.widePr)
set_option maxRecDepth 100000 in
theorem Try.keyOfPr (p : Int × Int) (h1 : fitI p.1) (h2 : fitI p.2) : ∃ l, keyOf Try.prog 168 (pairEnc p) = some l :=
  keyOf_two Try.kindPr Try.underlying3 Try.keyPr Try.cellsPr Try.cellsInt Try.rowPr _ _ (fit_wf h1) (fit_wf h2)
end Go.Proofs.Ytfgpkadhegdffaa
namespace Go.Proofs.Ytfgpkadhegdffaa
open Go.RowKit Go.Maps
def fitU (x : Int) : Prop := 0 ≤ x ∧ x ≤ 18446744073709551615
theorem fitU_wf {x : Int} (h : fitU x) : (Lit.int .u64 x).wf = true := WalkArith.wf_u64 h
def setEnc (p : Int × Int) : Value := .agg #[.int .u64 p.1, .int .u64 p.2]
theorem setEnc_inj : ∀ x y : Int × Int, setEnc x = setEnc y → x = y := arr_inj
def setCells (p : Int × Int) : List Value := [.int .u64 p.1, .int .u64 p.2]
def OSets (e lo hi : Nat) (w : World) (v : Value) (xs : List (Int × Int)) : Prop := Own lo hi w e 2 v xs.length (xs.flatMap setCells)
theorem Try.rowSet : (151 : TypeId) < Try.prog.types.size := of_decide_eq_true (by kernel_rfl)
theorem Try.wideSet : (match Try.prog.underlying 151 with | some (.array _ _) | some (.struct _) => true | _ => false) = true := by kernel_rfl
theorem Try.keySet : Try.prog.keyType 151 = true := by kernel_rfl
theorem Try.keyAtSet : Try.prog.keyTypeAt 5 151 = true := by kernel_rfl
theorem Try.cellsSet : Try.prog.cellsOf 151 = 2 := by kernel_rfl
theorem Try.cellsU64 : Try.prog.cellsOf 149 = 1 := by kernel_rfl
theorem Try.kindSet : Try.prog.underlying 151 = some (.array 2 149) := by kernel_rfl
set_option maxRecDepth 100000 in
theorem Try.lawSet : Keyed Try.prog 151 := Keyed.of_law (deep_law_laid Try.laidOut five_small Try.rowSet Try.keyAtSet Try.wideSet)
set_option maxRecDepth 100000 in
theorem Try.keyOfSet (p : Int × Int) (h1 : fitU p.1) (h2 : fitU p.2) : ∃ l, keyOf Try.prog 151 (setEnc p) = some l :=
  keyOf_two Try.kindSet Try.underlying149 Try.keySet Try.cellsSet Try.cellsU64 Try.rowSet _ _ (fitU_wf h1) (fitU_wf h2)
end Go.Proofs.Ytfgpkadhegdffaa
namespace Go.Proofs.Ytfgpkadhegdffaa
open Go.RowKit
theorem Try.infoInt : (Try.prog.info? 3).map (fun i => (i.zero, i.size, i.bytes)) = some (some (.int .i64 0), 1, 8) := by kernel_rfl
theorem Try.infoBool : (Try.prog.info? 4).map (fun i => (i.zero, i.size, i.bytes)) = some (some (.bool false), 1, 1) := by kernel_rfl
theorem Try.infoInts : (Try.prog.info? 60).map (fun i => (i.zero, i.size, i.bytes)) = some (some (.slice none 0 0), 1, 24) := by kernel_rfl
theorem cells_set {xs : List Value} {n k : Nat} {cs : List Value} {u : Value} (hl : cs.length = n) (hx : xs.length = n) (hk : k < n) (h : cs.take k = xs.take k) (hu : xs[k]? = some u) :
    (cs.set k u).take (k + 1) = xs.take (k + 1) := by
  apply List.ext_getElem?
  intro j
  rw [List.getElem?_take, List.getElem?_take]
  by_cases hj : j < k + 1
  · rw [if_pos hj, if_pos hj, List.getElem?_set]
    by_cases he : k = j
    · subst he
      rw [if_pos rfl, if_pos (by omega), hu]
    · rw [if_neg he]
      have := congrArg (fun l => l[j]?) h
      simpa [List.getElem?_take, show j < k by omega] using this
  · rw [if_neg hj, if_neg hj]
def small (d : DfaD) : Prop := d.next.length ≤ 1048576 ∧ (∀ i, i < d.next.length → (d.next.getD i []).length ≤ 1048576) ∧ d.ends.length ≤ 1048576
end Go.Proofs.Ytfgpkadhegdffaa
namespace Go.Proofs.Ytfgpkadhegdffaa
open Go.RowKit Go.Maps
section
variable {α : Type}
structure ExW (kt sz : Nat) (enc : α → Value) (cel : α → List Value) (B B1 B2 B4 hi : Nat) (w : World) (met : List α) (rows : List (List Int)) (ends : List Bool) (vm vn ve : Value) : Prop where
  m : w.ownsRow B kt sz vm met.length (met.flatMap cel)
  n : MapL Try.prog kt enc w B2 (numbered met)
  r : Bx w B1 #[.slice none 0 0, .slice none 0 0] 30
  d : Bx w B4 #[vn, ve] 30
  nx : OIntSS 60 3 B hi w vn rows
  en : w.ownsRow B 4 1 ve ends.length (boolCells ends)
  ne : B1 ≠ B4
variable {kt sz B B1 B2 B4 hi : Nat} {enc : α → Value} {cel : α → List Value} {w w' : World} {met : List α} {rows : List (List Int)} {ends : List Bool} {vm vn ve : Value}
theorem ExW.below (h : ExW kt sz enc cel B B1 B2 B4 hi w met rows ends vm vn ve) (hb : Below w.heap.size w w') : ExW kt sz enc cel B B1 B2 B4 hi w' met rows ends vm vn ve :=
  ⟨(Own.below (own_of_row h.m) hb).1, h.n.below hb, h.r.below hb h.r.lt, h.d.below hb h.d.lt, h.nx.below hb, (Own.below (own_of_row h.en) hb).1, h.ne⟩
theorem ExW.up {hi' : Nat} (h : ExW kt sz enc cel B B1 B2 B4 hi w met rows ends vm vn ve) (hh : hi ≤ hi') : ExW kt sz enc cel B B1 B2 B4 hi' w met rows ends vm vn ve :=
  ⟨h.m, h.n, h.r, h.d, h.nx.mono (Nat.le_refl _) hh, h.en, h.ne⟩
def Own4 (kt : Nat) : Prop := kt ≠ 3 ∧ kt ≠ 60 ∧ kt ≠ 4 ∧ kt ≠ 30
theorem ExW.newState (hk : Own4 kt) (h : ExW kt sz enc cel B B1 B2 B4 hi w met rows ends vm vn ve) {x : α} {w1 w2 w3 : World} {vm' : Value} (hn : MapL Try.prog kt enc w1 B2 (numbered (met ++ [x]))) (hg1 : w.grownBy w1 (some B2))
    (hb : Below w1.heap.size w1 w2) (hown : w3.ownsRow B kt sz vm' (met.length + 1) (met.flatMap cel ++ cel x)) (hg2 : w2.grownBy w3 vm.ownBlock) :
    ExW kt sz enc cel B B1 B2 B4 hi w3 (met ++ [x]) rows ends vm' vn ve := by
  obtain ⟨k1, k2, k3, k4⟩ := hk
  have a : ∀ e, Apart w (some B2) e := fun e => h.n.apart
  have m2 : w2.ownsRow B kt sz vm met.length (met.flatMap cel) := (Own.below (own_of_row (ownsRow_grown h.m hg1 (a _))) hb).1
  have b : ∀ e, kt ≠ e → Apart w2 vm.ownBlock e := fun e he => ownsRow_apart m2 he
  refine ⟨?_, (hn.below hb).grown hg2 (ownsRow_cells m2), ?_, ?_, ?_, ?_, h.ne⟩
  · simpa using hown
  · have r1 := h.r.grown hg1 (a _)
    exact (r1.below hb r1.lt).grown hg2 (b _ k4)
  · have r1 := h.d.grown hg1 (a _)
    exact (r1.below hb r1.lt).grown hg2 (b _ k4)
  · exact ((h.nx.grown hg1 (a _) (a _)).below hb).grown hg2 (b _ k2) (b _ k1)
  · exact ownsRow_grown (Own.below (own_of_row (ownsRow_grown h.en hg1 (a _))) hb).1 hg2 (b _ k3)
theorem ExW.setRow (hk : Own4 kt) (h : ExW kt sz enc cel B B1 B2 B4 hi w met rows ends vm vn ve) {R n : Nat} {cs : List Value} (hR : hi ≤ R) {base : Nat} (hrow : w.ownsRow base 3 1 (.slice (some ⟨R, 0, none⟩) n n) n cs) (j : Nat) (v : Value) :
    ExW kt sz enc cel B B1 B2 B4 hi (w.setCell ⟨R, j, none⟩ v) met rows ends vm vn ve := by
  obtain ⟨k1, k2, k3, k4⟩ := hk
  have hg := grown_set w R j v
  have a : ∀ e, 3 ≠ e → Apart w (some R) e := fun e he => ownsRow_apart (v := .slice (some ⟨R, 0, none⟩) n n) hrow he
  have c : CellsRow w (some R) := ownsRow_cells (v := .slice (some ⟨R, 0, none⟩) n n) hrow
  exact ⟨ownsRow_grown h.m hg (a _ (Ne.symm k1)), h.n.grown hg c, h.r.grown hg (a _ (by decide)), h.d.grown hg (a _ (by decide)), h.nx.far hR j v, ownsRow_grown h.en hg (a _ (by decide)), h.ne⟩
theorem row_kept {w1 w2 w3 : World} {R n base e : Nat} {cs : List Value} {vm : Value} {b2 mb : Nat} {ms : List Value} (hrow : w.ownsRow base e 1 (.slice (some ⟨R, 0, none⟩) n n) n cs) (hne : kt ≠ e)
    (hm2 : w2.ownsRow mb kt sz vm b2 ms) (ha : Apart w (some B2) e) (hg1 : w.grownBy w1 (some B2)) (hb : Below w1.heap.size w1 w2) (hg2 : w2.grownBy w3 vm.ownBlock) : w3.ownsRow base e 1 (.slice (some ⟨R, 0, none⟩) n n) n cs :=
  ownsRow_grown (Own.below (own_of_row (ownsRow_grown hrow hg1 ha)) hb).1 hg2 (ownsRow_apart hm2 hne)
theorem ExW.addRow (hk : Own4 kt) (h : ExW kt sz enc cel B B1 B2 B4 hi w met rows ends vm vn ve) {vs : List Value} {rv vn' : Value} {x : List Int} {w3 : World} {lr : Nat}
    (h1 : Own B hi w 60 1 vn rows.length vs) (h2 : ∀ i, i < rows.length → OInts 3 B hi w (vs.getD i undef) (rows.getD i []))
    (h3 : ∀ i j k, i < j → j < rows.length → (vs.getD i undef).ownBlock = some k → (vs.getD j undef).ownBlock ≠ some k)
    (hrow : OInts 3 lr w.heap.size w rv x) (hlr : hi ≤ lr) (hlo : B ≤ lr) (hg : w.grownBy w3 vn.ownBlock) (hown : w3.ownsRow B 60 1 vn' (rows.length + 1) (vs ++ [rv])) :
    ExW kt sz enc cel B B1 B2 B4 w3.heap.size (w3.setCell ⟨B4, 0, none⟩ vn') met (rows ++ [x]) ends vm vn' ve := by
  obtain ⟨k1, k2, k3, k4⟩ := hk
  have a : ∀ e, 60 ≠ e → Apart w vn.ownBlock e := fun e he => ownsRow_apart h1.1 he
  have d3 : Bx w3 B4 #[vn, ve] 30 := h.d.grown hg (a _ (by decide))
  have hg4 := grown_set w3 B4 0 vn'
  have b : ∀ e, 30 ≠ e → Apart w3 (some B4) e := fun e he => d3.apart he
  have r3 : Bx w3 B1 #[.slice none 0 0, .slice none 0 0] 30 := h.r.grown hg (a _ (by decide))
  have n4 : MapL Try.prog kt enc (w3.setCell ⟨B4, 0, none⟩ vn') B2 (numbered met) := (h.n.grown hg (ownsRow_cells h1.1)).grown hg4 d3.cells
  refine ⟨ownsRow_grown (ownsRow_grown h.m hg (a _ (Ne.symm k2))) hg4 (b _ (Ne.symm k4)), n4, ?_, d3.set 0 vn', ?_, ownsRow_grown (ownsRow_grown h.en hg (a _ (by decide))) hg4 (b _ (by decide)), h.ne⟩
  · exact r3.set_ne _ _ h.ne
  · exact (OIntSS.snoc h1 h2 h3 hrow hlr hlo (by decide) hg hown).grown hg4 (b _ (by decide)) (b _ (by decide))
theorem ExW.addEnd (hk : Own4 kt) (h : ExW kt sz enc cel B B1 B2 B4 hi w met rows ends vm vn ve) {w3 : World} {ve' : Value} {e : Bool} (hg : w.grownBy w3 ve.ownBlock) (hown : w3.ownsRow B 4 1 ve' (ends.length + 1) (boolCells ends ++ [.bool e])) :
    ExW kt sz enc cel B B1 B2 B4 hi (w3.setCell ⟨B4, 1, none⟩ ve') met rows (ends ++ [e]) vm vn ve' := by
  obtain ⟨k1, k2, k3, k4⟩ := hk
  have a : ∀ t, 4 ≠ t → Apart w ve.ownBlock t := fun t ht => ownsRow_apart h.en ht
  have d3 : Bx w3 B4 #[vn, ve] 30 := h.d.grown hg (a _ (by decide))
  have hg4 := grown_set w3 B4 1 ve'
  have b : ∀ t, 30 ≠ t → Apart w3 (some B4) t := fun t ht => d3.apart ht
  have r3 : Bx w3 B1 #[.slice none 0 0, .slice none 0 0] 30 := h.r.grown hg (a _ (by decide))
  have n4 : MapL Try.prog kt enc (w3.setCell ⟨B4, 1, none⟩ ve') B2 (numbered met) := (h.n.grown hg (ownsRow_cells h.en)).grown hg4 d3.cells
  refine ⟨ownsRow_grown (ownsRow_grown h.m hg (a _ (Ne.symm k3))) hg4 (b _ (Ne.symm k4)), n4, r3.set_ne _ _ h.ne, d3.set 1 ve', (h.nx.grown hg (a _ (by decide)) (a _ (by decide))).grown hg4 (b _ (by decide)) (b _ (by decide)), ?_, h.ne⟩
  refine ownsRow_grown ?_ hg4 (b _ (by decide))
  simpa using hown
end
end Go.Proofs.Ytfgpkadhegdffaa
namespace Go.Proofs.Ytfgpkadhegdffaa
open Go.RowKit
structure Touch (e lo hi : Nat) (w w' : World) : Prop where
  os : w'.os = w.os
  tape : w'.tape = w.tape
  output : w'.output = w.output
  size : w.heap.size ≤ w'.heap.size
  block : ∀ k, k < w.heap.size → ((k < lo ∨ hi ≤ k) ∨ ∀ cur fr, w.heap[k]? ≠ some (.cells cur e fr)) → w'.heap[k]? = w.heap[k]?
theorem Touch.refl (e lo hi : Nat) (w : World) : Touch e lo hi w w := ⟨rfl, rfl, rfl, Nat.le_refl _, fun _ _ _ => rfl⟩
theorem Touch.trans {e lo hi : Nat} {a b c : World} (h : Touch e lo hi a b) (k : Touch e lo hi b c) : Touch e lo hi a c := by
  refine ⟨k.os.trans h.os, k.tape.trans h.tape, k.output.trans h.output, Nat.le_trans h.size k.size, fun i hi hh => ?_⟩
  have e1 := h.block i hi hh
  refine (k.block i (Nat.lt_of_lt_of_le hi h.size) ?_).trans e1
  rcases hh with hh | hh
  · exact .inl hh
  · exact .inr (by rw [e1]; exact hh)
theorem Touch.only {e lo hi : Nat} {a b : World} (h : Touch e lo hi a b) : Only lo hi a b := ⟨h.os, h.tape, h.output, h.size, fun k hk hh => h.block k hk (.inl hh)⟩
theorem Own.lt' {lo hi e size n : Nat} {w : World} {v : Value} {cs : List Value} (h : Own lo hi w e size v n cs) : w.ownsRow lo e size v n cs := h.1
theorem OIntSS.row {es e lo hi : Nat} {w w' : World} {v : Value} {xss : List (List Int)} {vs : List Value} {x : List Int} {j : Nat} (hne : es ≠ e)
    (h1 : Own lo hi w es 1 v xss.length vs) (h2 : ∀ i, i < xss.length → OInts e lo hi w (vs.getD i undef) (xss.getD i []))
    (h3 : ∀ i j k, i < j → j < xss.length → (vs.getD i undef).ownBlock = some k → (vs.getD j undef).ownBlock ≠ some k)
    (hj : j < xss.length) (hx : OInts e lo hi w' (vs.getD j undef) x) (hg : w.grownBy w' (vs.getD j undef).ownBlock) :
    Own lo hi w' es 1 v (xss.set j x).length vs ∧ (∀ i, i < (xss.set j x).length → OInts e lo hi w' (vs.getD i undef) ((xss.set j x).getD i [])) ∧
      (∀ i j' k, i < j' → j' < (xss.set j x).length → (vs.getD i undef).ownBlock = some k → (vs.getD j' undef).ownBlock ≠ some k) := by
  have ha : Apart w (vs.getD j undef).ownBlock es := ownsRow_apart (Own.lt' (h2 j hj)) (Ne.symm hne)
  rw [List.length_set]
  refine ⟨h1.grown hg ha, fun i hi => ?_, h3⟩
  by_cases hij : j = i
  · subst hij
    have : (xss.set j x).getD j [] = x := by simp [hj]
    rw [this]
    exact hx
  · have : (xss.set j x).getD i [] = xss.getD i [] := by simp [List.getElem?_set_ne hij]
    rw [this]
    refine Own.kept (h2 i hi) fun k hk => hg.block k (Own.lt (h2 i hi) k hk).2.2 fun hr => ?_
    rcases Nat.lt_or_gt_of_ne hij with hlt | hgt
    · exact h3 j i k hlt hi hr.symm hk
    · exact h3 i j k hgt hj hk hr.symm
theorem setV_succ {l : List Int} {k : Nat} (hk : k < l.length) : setV (l.take (k + 1)) = adj (setV (l.take k)) (l.getD k 0).toNat := by
  unfold setV
  exact foldl_snoc _ _ hk 0
end Go.Proofs.Ytfgpkadhegdffaa
namespace Go.Proofs.Ytfgpkadhegdffaa
open Go.RowKit
abbrev nfaC (n : NfaD) (v1 v2 v3 : Value) : Array Value := #[.int .i64 n.states, v1, v2, v3]
theorem stMove_off {v : Nat} {c : Int} {u : Nat} {m : Int × Int × Int} (h : (decide (m.2.1 = c) && v.testBit m.1.toNat) = false) : stMove v c u m = u := by
  unfold stMove
  simp [h]
end Go.Proofs.Ytfgpkadhegdffaa
namespace Go.Proofs.Ytfgpkadhegdffaa
open Go.RowKit
def fstV (n : NfaD) : Nat := clV 40 n.moves (setV n.firsts)
def endV (n : NfaD) (x : Nat) : Bool := n.ends.any fun s => x.testBit s.toNat
def FlagsAt (w : World) (v : Value) (m x : Nat) : Prop := ∃ B g cap, v = .slice (some ⟨g, 0, none⟩) m cap ∧ w.ownsRow B 4 1 v m (boolCells (flags m x))
theorem FlagsAt.of {w : World} {B g cap m x : Nat} (h : w.ownsRow B 4 1 (.slice (some ⟨g, 0, none⟩) m cap) m (boolCells (flags m x))) : FlagsAt w (.slice (some ⟨g, 0, none⟩) m cap) m x := ⟨_, _, _, rfl, h⟩
theorem FlagsAt.below {w w' : World} {v : Value} {m x : Nat} (h : FlagsAt w v m x) (hb : Below w.heap.size w w') : FlagsAt w' v m x := by
  obtain ⟨B, g, cap, hv, h⟩ := h
  exact ⟨B, g, cap, hv, (Own.below (own_of_row h) hb).1⟩
theorem mvIn_M {m M : Nat} {ms : List (Int × Int × Int)} (h : mvIn m ms) (hm : m ≤ M) : mvIn M ms := fun x hx => by
  have := h x hx
  omega
theorem mvIn_40 {m : Nat} {ms : List (Int × Int × Int)} (h : mvIn m ms) (hm : m ≤ 40) : mvIn 40 ms := fun x hx => by
  have := h x hx
  omega
def BoolSS (B : Nat) (w : World) (v : Value) (xss : List (List Bool)) : Prop :=
  ∃ vs : List Value, Sl B w v xss.length 1 vs ∧ ∀ i, i < xss.length → Bools B w (vs.getD i undef) (xss.getD i [])
theorem BoolSS.below {B : Nat} {w w' : World} {v : Value} {xss : List (List Bool)} (h : BoolSS B w v xss) (he : Below w.heap.size w w') : BoolSS B w' v xss := by
  obtain ⟨vs, h1, h2⟩ := h
  exact ⟨vs, h1.below he, fun i hi => (h2 i hi).below he⟩
theorem BoolSS.form {B : Nat} {w : World} {v : Value} {xss : List (List Bool)} (h : BoolSS B w v xss) : ∃ a cap, v = .slice a xss.length cap ∧ xss.length ≤ cap ∧ cap ≤ 9223372036854775807 ∧
    (0 < xss.length → ∃ b off, a = some ⟨b, off, none⟩ ∧ b < w.heap.size ∧ ∀ i, i < xss.length → ∃ a' cap', w.cell? ⟨b, off + i, none⟩ = some (.slice a' (xss.getD i []).length cap') ∧ Bools B w (.slice a' (xss.getD i []).length cap') (xss.getD i [])) := by
  obtain ⟨vs, ⟨hl, a, cap, hv, h1, h2, h3⟩, hr⟩ := h
  refine ⟨a, cap, hv, h1, h2, fun hn => ?_⟩
  obtain ⟨b, off, ha, hb, hlt, hc⟩ := h3 hn
  refine ⟨b, off, ha, hlt, fun i hi => ?_⟩
  obtain ⟨a', cap', hv', -⟩ := (hr i hi).form
  refine ⟨a', cap', ?_, ?_⟩
  · rw [hc i (by omega), ← hv']
    simp at hl
    simp [show i < vs.length by omega]
  · rw [← hv']
    exact hr i hi
def findB (S : List (List Bool)) (x : List Bool) : Int := if x ∈ S then (placeOf S x : Int) else -1
end Go.Proofs.Ytfgpkadhegdffaa
