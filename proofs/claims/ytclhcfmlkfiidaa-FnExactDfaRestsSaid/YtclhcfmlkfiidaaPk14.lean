/-
  The walk over the program's sameRow.
  Conditions: the automaton is valid; the classes are a list of numbers, one for each state; all reads as such.
  The keys of the program's maps.
  Condition: the numbers in a key fit an int.
  Keys that are arrays of two integers.
  Condition: the numbers fit their kind.
  Keys that are sets of states: arrays of two numbers of 64 bits.
  Condition: the numbers fit their kind.
-/
import Derived.Test.YtclhcfmlkfiidaaMd
import Derived.Test.YtclhcfmlkfiidaaCtx
import Derived.Test.YtclhcfmlkfiidaaProd
import Derived.Test.YtclhcfmlkfiidaaProg
import Derived.Test.YtclhcfmlkfiidaaMap
import Derived.KernelRfl
import Derived.Test.YtclhcfmlkfiidaaOwn
namespace Go.Proofs.Ytclhcfmlkfiidaa
open Go.RowKit

/-- Classes as a list. -/
def clsL (n : Nat) (cl : Nat → Nat) : List Int := (List.range n).map fun s => (cl s : Int)
theorem clsL_len (n : Nat) (cl : Nat → Nat) : (clsL n cl).length = n := by simp [clsL]
theorem clsL_at {n s : Nat} (cl : Nat → Nat) (h : s < n) : (clsL n cl).getD s 0 = (cl s : Int) := by simp [clsL, h]
theorem fine_of {d : DfaD} (h : dfaOk d.next d.ends = true) : fine d := by
  have := dfaOk_len h
  exact ⟨by omega, by omega, by omega, fun i hi => dfaOk_row h hi⟩
def sameR (d : DfaD) (cl : Nat → Nat) (s o : Nat) (k : Nat) : Bool := (List.range k).all fun c => decide (cl (nxD d s c) = cl (nxD d o c))
theorem sameR_succ (d : DfaD) (cl : Nat → Nat) (s o k : Nat) : sameR d cl s o (k + 1) = (sameR d cl s o k && decide (cl (nxD d s k) = cl (nxD d o k))) := by
  unfold sameR
  rw [List.range_succ, List.all_append]
  simp
theorem sameR_no {d : DfaD} {cl : Nat → Nat} {s o k : Nat} (hk : k < 3) (h : cl (nxD d s k) ≠ cl (nxD d o k)) : sameR d cl s o 3 = false := by
  cases he : sameR d cl s o 3 with
  | false => rfl
  | true =>
    have := List.all_eq_true.1 he k (List.mem_range.2 hk)
    exact absurd (by simpa using this) h
set_option maxRecDepth 100000 in
set_option maxHeartbeats 4000000 in
theorem sameRow_any (d : DfaD) (cl : Nat → Nat) (s o : Nat) (dv cv : Value) (w : World) (hd : dfaOk d.next d.ends = true) (hs : s < d.next.length) (ho : o < d.next.length) (hcl : ∀ t, t < d.next.length → cl t < d.next.length) (h : DfaR 0 w dv d) (hc : Ints 0 w cv (clsL d.next.length cl)) (r : Bool) (hr : sameR d cl s o 3 = r) :
    Calls Try.prog 130 #[dv, cv, .int .i64 s, .int .i64 o] w fun e w' => e = .returned (.bool r) ∧ Below w.heap.size w w' := by
  obtain ⟨v1, v2, rfl, q1, q2⟩ := h
  have hf := fine_of hd
  obtain ⟨L, hL⟩ : ∃ L, L = d.next.length := ⟨_, rfl⟩
  obtain ⟨hl1, hl2, -⟩ := dfaOk_len hd
  have hrow := fun (i : Nat) (hi : i < d.next.length) => (dfaOk_row hd hi).1
  have hnx := fun (i c : Nat) (hi : i < d.next.length) (h3 : c < 3) => (nxD_lt hf hi h3)
  obtain ⟨av, cvv, rfl, hc1, hc2, hr1⟩ := q1.formI
  obtain ⟨b1, o1, rfl, -, hb1, hcs1⟩ := hr1 (by omega)
  obtain ⟨ac, cc, rfl, hc3, hc4, hr2⟩ := hc.form
  rw [clsL_len] at hc3 hr2
  rw [clsL_len]
  obtain ⟨b2, o2, rfl, -, hb2, hcs2⟩ := hr2 (by omega)
  have hcell : ∀ t, t < d.next.length → w.cell? ⟨b2, o2 + t, none⟩ = some (.int .i64 (cl t : Nat)) := fun t ht => by rw [hcs2 t ht, clsL_at cl ht]
  obtain ⟨ax, cs, hks, -, -, hIs⟩ := hcs1 s hs
  obtain ⟨ao, co, hko, -, -, hIo⟩ := hcs1 o ho
  rw [hrow s hs] at hks hIs
  rw [hrow o ho] at hko hIo
  obtain ⟨_, _, hform, -, -, hrs⟩ := hIs.form
  rw [hrow s hs] at hform hrs
  simp only [Value.slice.injEq, true_and] at hform
  obtain ⟨rfl, rfl⟩ := hform
  obtain ⟨b3, o3, rfl, -, hb3, hcs3⟩ := hrs (by omega)
  obtain ⟨_, _, hform, -, -, hro⟩ := hIo.form
  rw [hrow o ho] at hform hro
  simp only [Value.slice.injEq, true_and] at hform
  obtain ⟨rfl, rfl⟩ := hform
  obtain ⟨b4, o4, rfl, -, hb4, hcs4⟩ := hro (by omega)
  have hval : ∀ i c, i < d.next.length → c < 3 → (d.next.getD i []).getD c 0 = ((nxD d i c : Nat) : Int) := fun i c hi h3 => by
    have := (hnx i c hi h3).2
    unfold dnx at this
    rwa [Int.toNat_natCast] at this
  have hS0 := (St.start w).alloc _ rfl #[.slice (some ⟨b1, o1, none⟩) d.next.length cvv, v2] 32
  have Hnx := Lib.hid hnx
  have Hval := Lib.hid hval
  have Hcell := Lib.hid hcell
  have Hks := Lib.hid hks
  have Hko := Lib.hid hko
  have Hcs3 := Lib.hid hcs3
  have Hcs4 := Lib.hid hcs4
  have Hcl := Lib.hid hcl
  rw [← hL] at hs ho hl1 hl2 hS0
  rw [← hL]
  have hsI : (s : Int) < L := by omega
  have hoI : (o : Int) < L := by omega
  have HhS0 := Lib.hid hS0; clear hS0
  have Hhr := Lib.hid hr; clear hr
  have HhL := Lib.hid hL; clear hL
  clear hnx hval hcell hks hko hcs3 hcs4 hcl hcs1 hcs2 hr1 hr2 hrs hro hIs hIo q1 q2 hc hd hrow hf
  go_enter Try.func130, Try.ntmps130
  go_wp2
  go_loopw [10] (fun i wr => ∃ k : Nat, i = .int .i64 k ∧ k ≤ 3 ∧ sameR d cl s o k = true ∧ St w wr [Ent.box w.heap.size #[.slice (some ⟨b1, o1, none⟩) L cvv, v2] 32]) (fun i _ => 3 - (intOf i).toNat)
  case atStart => exact ⟨0, rfl, by omega, rfl, HhS0.out⟩
  case round =>
    obtain ⟨k, rfl, hk, hsm, hS⟩ := hrel
    by_cases hlt : k < 3
    · have hlt2 : (k : Int) < 3 := by omega
      have hsn : s < d.next.length := by have := HhL.out; omega
      have hon : o < d.next.length := by have := HhL.out; omega
      have h1 := (Hnx.out s k hsn hlt).1
      have h2 := (Hnx.out o k hon hlt).1
      have e0 := hS.cell (v := .slice (some ⟨b1, o1, none⟩) L cvv) 0 0 rfl rfl
      have e1 := (bcell hS.bel b1 _ hb1).trans Hks.out
      have e2 := (bcell hS.bel b1 _ hb1).trans Hko.out
      have e3 := (bcell hS.bel b3 _ hb3).trans (Hcs3.out k hlt)
      have e4 := (bcell hS.bel b4 _ hb4).trans (Hcs4.out k hlt)
      rw [Hval.out s k hsn hlt] at e3
      rw [Hval.out o k hon hlt] at e4
      have e5 := (bcell hS.bel b2 _ hb2).trans (Hcell.out _ h1)
      have e6 := (bcell hS.bel b2 _ hb2).trans (Hcell.out _ h2)
      have hsucc := sameR_succ d cl s o k
      obtain ⟨p, hp⟩ : ∃ p, p = nxD d s k := ⟨_, rfl⟩
      obtain ⟨q, hq⟩ : ∃ q, q = nxD d o k := ⟨_, rfl⟩
      rw [← hp] at h1 e3 e5 hsucc
      rw [← hq] at h2 e4 e6 hsucc
      rw [hsm, Bool.true_and] at hsucc
      rw [← HhL.out] at h1 h2
      have hpI : (p : Int) < L := by omega
      have hqI : (q : Int) < L := by omega
      have Hhp := Lib.hid hp; clear hp
      have Hhq := Lib.hid hq; clear hq
      have HhS := Lib.hid hS; clear hS
      have Hhsm := Lib.hid hsm; clear hsm
      have Hhsucc := Lib.hid hsucc; clear hsucc
      clear h1 h2 hsn hon
      by_cases he : cl p = cl q
      · have heI : ((cl p : Int) != (cl q : Int)) = false := by rw [he]; simp
        have heI2 : ((cl p : Int) = (cl q : Int)) = True := by simp [he]
        have heI3 : (!((cl p : Int) == (cl q : Int))) = false := by rw [he]; simp
        have Hhe := Lib.hid he; clear he
        go_wp2
        go_quiet (fail)
        go_wp2
        go_roundw
        case rel => exact ⟨k + 1, by go_num, by omega, by rw [Hhsucc.out]; simp [Hhe.out], HhS.out.drewN _⟩
        case measure => simp [intOf]; omega
      · have heI : ((cl p : Int) != (cl q : Int)) = true := by simp; omega
        have heI2 : ((cl p : Int) = (cl q : Int)) = False := by simp; omega
        have heI3 : (!((cl p : Int) == (cl q : Int))) = true := by simp; omega
        have Hhe := Lib.hid he; clear he
        go_wp2
        go_quiet (fail)
        go_wp2
        go_ret
        have hrf : false = r := by rw [← Hhr.out]; exact (sameR_no hlt (by rw [← Hhp.out, ← Hhq.out]; exact Hhe.out)).symm
        subst hrf
        exact ⟨rfl, (HhS.out.drewN _).bel⟩
    · obtain rfl : k = 3 := by omega
      have hrt : true = r := by rw [← Hhr.out, hsm]
      subst hrt
      have HhS := Lib.hid hS; clear hS
      have Hhsm := Lib.hid hsm; clear hsm
      go_wp2
      go_ret
      exact ⟨rfl, HhS.out.bel⟩
end Go.Proofs.Ytclhcfmlkfiidaa
namespace Go.Proofs.Ytclhcfmlkfiidaa
open Go.RowKit Go.Maps

def fitI (x : Int) : Prop := -9223372036854775808 ≤ x ∧ x ≤ 9223372036854775807
theorem fit_wf {x : Int} (h : fitI x) : (Lit.int .i64 x).wf = true := WalkArith.wf_i64 h
theorem Try.laidOut : laidOutB Try.prog = true := by kernel_rfl

theorem Try.rowPair : (55 : TypeId) < Try.prog.types.size := of_decide_eq_true (by kernel_rfl)
theorem Try.widePair : (match Try.prog.underlying 55 with | some (.array _ _) | some (.struct _) => true | _ => false) = true := by kernel_rfl
theorem Try.keyPair : Try.prog.keyType 55 = true := by kernel_rfl
theorem Try.keyAtPair : Try.prog.keyTypeAt 5 55 = true := by kernel_rfl
theorem five_small : 5 + 1 ≤ 10000 := by omega
set_option maxRecDepth 100000 in
theorem Try.lawPair : Keyed Try.prog 55 := Keyed.of_law (deep_law_laid Try.laidOut five_small Try.rowPair Try.keyAtPair Try.widePair)
def pairEnc (p : Int × Int) : Value := .agg #[.int .i64 p.1, .int .i64 p.2]
theorem pairEnc_inj : ∀ x y : Int × Int, pairEnc x = pairEnc y → x = y := by
  rintro ⟨a, b⟩ ⟨c, d⟩ h
  simp only [pairEnc, Value.agg.injEq] at h
  have h1 := congrArg (fun (l : Array Value) => l[0]?) h
  have h2 := congrArg (fun (l : Array Value) => l[1]?) h
  simp at h1 h2
  rw [h1, h2]
theorem keyLits_int {P : Program} {t : TypeId} {D : Nat} {x : Int} (ht : P.underlying t = some (.int .i64)) (hx : fitI x) : P.keyLits (D + 1) t [.int .i64 x] = some [.int .i64 x] := by
  unfold Program.keyLits
  rw [ht]
  simp [fit_wf hx]
theorem Try.kindPair : ∃ fs : Array Field, Try.prog.underlying 55 = some (.struct fs) ∧ fs.toList.map (fun f => (f.type, f.offset, Try.prog.cellsOf f.type, f.name != "_")) = [(3, 0, 1, true), (3, 1, 1, true)] := ⟨_, Try.underlying55, by kernel_rfl⟩
theorem Try.cellsPair : Try.prog.cellsOf 55 = 2 := by kernel_rfl
set_option maxRecDepth 100000 in
theorem Try.keyOfPair (p : Int × Int) (h1 : fitI p.1) (h2 : fitI p.2) : ∃ l, keyOf Try.prog 55 (pairEnc p) = some l := by
  obtain ⟨fs, hu, hf⟩ := Try.kindPair
  have hl : fs.toList.length = 2 := by simpa using congrArg List.length hf
  obtain ⟨f, g, hfg⟩ : ∃ f g, fs.toList = [f, g] := by
    match h : fs.toList, hl with
    | [f, g], _ => exact ⟨f, g, rfl⟩
  rw [hfg] at hf
  simp only [List.map_cons, List.map_nil, List.cons.injEq, Prod.mk.injEq, and_true] at hf
  obtain ⟨⟨f1, f2, f3, f4⟩, g1, g2, g3, g4⟩ := hf
  have hfm : (pairEnc p).formed Try.prog 55 = true := by simp [Value.formed, pairEnc, hu, Try.cellsPair]
  have hall : fs.all (·.name != "_") = true := by
    rw [← Array.all_toList, hfg]
    simp [f4, g4]
  obtain ⟨n, hn⟩ : ∃ n, Try.prog.types.size = n + 1 := ⟨Try.prog.types.size - 1, (Nat.succ_pred_eq_of_pos (Nat.lt_of_le_of_lt (Nat.zero_le _) Try.rowPair)).symm⟩
  have e1 := keyLits_int (D := n) Try.underlying3 h1
  have e2 := keyLits_int (D := n) Try.underlying3 h2
  have hcells : (pairEnc p).cells.toList = [.int .i64 p.1, .int .i64 p.2] := rfl
  have hlits : Try.prog.keyLits (Try.prog.types.size + 1) 55 (pairEnc p).cells.toList = some [.int .i64 p.1, .int .i64 p.2] := by
    rw [hcells, hn]
    rw [f1] at f3
    rw [g1] at g3
    have hfs : fs.toList.mapM (fun f => Try.prog.keyLits (n + 1) f.type ((List.drop f.offset [Value.int .i64 p.1, .int .i64 p.2]).take (Try.prog.cellsOf f.type))) = some [[.int .i64 p.1], [.int .i64 p.2]] := by
      rw [hfg]
      simp [f1, f2, f3, g1, g2, e1, e2]
    unfold Program.keyLits
    rw [hu]
    simp only [List.length_cons, List.length_nil, Try.cellsPair, hall, and_self, if_true, hfs, Nat.zero_add, Nat.reduceAdd]
    rfl
  exact ⟨_, by
    unfold keyOf
    rw [hu]
    simp only [Try.keyPair, hfm, Bool.and_self, if_true, hlits]
    rfl⟩
end Go.Proofs.Ytclhcfmlkfiidaa
namespace Go.Proofs.Ytclhcfmlkfiidaa
open Go.RowKit Go.Maps

theorem keyLits_one {P : Program} {t : TypeId} {D : Nat} {q : IntKind} {x : Int} (ht : P.underlying t = some (.int q)) (hx : (Lit.int q x).wf = true) : P.keyLits (D + 1) t [.int q x] = some [.int q x] := by
  unfold Program.keyLits
  rw [ht]
  simp [hx]
theorem keyOf_two {P : Program} {t e : TypeId} {q : IntKind} (hu : P.underlying t = some (.array 2 e)) (he : P.underlying e = some (.int q)) (hk : P.keyType t = true) (hc : P.cellsOf t = 2) (hce : P.cellsOf e = 1) (hrow : t < P.types.size)
    (x y : Int) (hx : (Lit.int q x).wf = true) (hy : (Lit.int q y).wf = true) : ∃ l, keyOf P t (.agg #[.int q x, .int q y]) = some l := by
  have hfm : (Value.agg #[.int q x, .int q y]).formed P t = true := by simp [Value.formed, hu, hc]
  obtain ⟨n, hn⟩ : ∃ n, P.types.size = n + 1 := ⟨P.types.size - 1, (Nat.succ_pred_eq_of_pos (Nat.lt_of_le_of_lt (Nat.zero_le _) hrow)).symm⟩
  have e1 := keyLits_one (D := n) he hx
  have e2 := keyLits_one (D := n) he hy
  have hlits : P.keyLits (P.types.size + 1) t (Value.agg #[.int q x, .int q y]).cells.toList = some [.int q x, .int q y] := by
    rw [hn]
    show P.keyLits (n + 1 + 1) t [.int q x, .int q y] = _
    unfold Program.keyLits
    rw [hu]
    simp [hc, hce, List.range_succ, e1, e2]
  exact ⟨_, by
    unfold keyOf
    rw [hu]
    simp only [hk, hfm, Bool.and_self, if_true, hlits]
    rfl⟩
theorem arr_inj {q : IntKind} : ∀ x y : Int × Int, (Value.agg #[.int q x.1, .int q x.2]) = .agg #[.int q y.1, .int q y.2] → x = y := by
  rintro ⟨a, b⟩ ⟨c, d⟩ h
  simp only [Value.agg.injEq] at h
  have h1 := congrArg (fun (l : Array Value) => l[0]?) h
  have h2 := congrArg (fun (l : Array Value) => l[1]?) h
  simp at h1 h2
  rw [h1, h2]

theorem Try.rowPr : (84 : TypeId) < Try.prog.types.size := of_decide_eq_true (by kernel_rfl)
theorem Try.widePr : (match Try.prog.underlying 84 with | some (.array _ _) | some (.struct _) => true | _ => false) = true := by kernel_rfl
theorem Try.keyPr : Try.prog.keyType 84 = true := by kernel_rfl
theorem Try.keyAtPr : Try.prog.keyTypeAt 5 84 = true := by kernel_rfl
theorem Try.cellsPr : Try.prog.cellsOf 84 = 2 := by kernel_rfl
theorem Try.cellsInt : Try.prog.cellsOf 3 = 1 := by kernel_rfl
theorem Try.kindPr : Try.prog.underlying 84 = some (.array 2 3) := by kernel_rfl
set_option maxRecDepth 100000 in
theorem Try.lawPr : Keyed Try.prog 84 := Keyed.of_law (deep_law_laid Try.laidOut five_small Try.rowPr Try.keyAtPr Try.widePr)
set_option maxRecDepth 100000 in
theorem Try.keyOfPr (p : Int × Int) (h1 : fitI p.1) (h2 : fitI p.2) : ∃ l, keyOf Try.prog 84 (pairEnc p) = some l :=
  keyOf_two Try.kindPr Try.underlying3 Try.keyPr Try.cellsPr Try.cellsInt Try.rowPr _ _ (fit_wf h1) (fit_wf h2)
end Go.Proofs.Ytclhcfmlkfiidaa
namespace Go.Proofs.Ytclhcfmlkfiidaa
open Go.RowKit Go.Maps

def fitU (x : Int) : Prop := 0 ≤ x ∧ x ≤ 18446744073709551615
theorem fitU_wf {x : Int} (h : fitU x) : (Lit.int .u64 x).wf = true := WalkArith.wf_u64 h
def setEnc (p : Int × Int) : Value := .agg #[.int .u64 p.1, .int .u64 p.2]
theorem setEnc_inj : ∀ x y : Int × Int, setEnc x = setEnc y → x = y := arr_inj
def setCells (p : Int × Int) : List Value := [.int .u64 p.1, .int .u64 p.2]
def OSets (e lo hi : Nat) (w : World) (v : Value) (xs : List (Int × Int)) : Prop := Own lo hi w e 2 v xs.length (xs.flatMap setCells)
theorem Try.rowSet : (99 : TypeId) < Try.prog.types.size := of_decide_eq_true (by kernel_rfl)
theorem Try.wideSet : (match Try.prog.underlying 99 with | some (.array _ _) | some (.struct _) => true | _ => false) = true := by kernel_rfl
theorem Try.keySet : Try.prog.keyType 99 = true := by kernel_rfl
theorem Try.keyAtSet : Try.prog.keyTypeAt 5 99 = true := by kernel_rfl
theorem Try.cellsSet : Try.prog.cellsOf 99 = 2 := by kernel_rfl
theorem Try.cellsU64 : Try.prog.cellsOf 97 = 1 := by kernel_rfl
theorem Try.kindSet : Try.prog.underlying 99 = some (.array 2 97) := by kernel_rfl
set_option maxRecDepth 100000 in
theorem Try.lawSet : Keyed Try.prog 99 := Keyed.of_law (deep_law_laid Try.laidOut five_small Try.rowSet Try.keyAtSet Try.wideSet)
set_option maxRecDepth 100000 in
theorem Try.keyOfSet (p : Int × Int) (h1 : fitU p.1) (h2 : fitU p.2) : ∃ l, keyOf Try.prog 99 (setEnc p) = some l :=
  keyOf_two Try.kindSet Try.underlying97 Try.keySet Try.cellsSet Try.cellsU64 Try.rowSet _ _ (fitU_wf h1) (fitU_wf h2)
end Go.Proofs.Ytclhcfmlkfiidaa
