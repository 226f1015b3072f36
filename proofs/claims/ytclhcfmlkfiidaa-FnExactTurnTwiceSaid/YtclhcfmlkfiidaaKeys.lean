/-
  The keys of the program's maps.
  Condition: the numbers in a key fit an int.
-/
import Derived.Test.YtclhcfmlkfiidaaProg
import Derived.Test.YtclhcfmlkfiidaaMap
import Derived.KernelRfl
namespace Go.Proofs.Ytclhcfmlkfiidaa
open Go.RowKit Go.Maps

def fitI (x : Int) : Prop := -9223372036854775808 ≤ x ∧ x ≤ 9223372036854775807
theorem fit_wf {x : Int} (h : fitI x) : (Lit.int .i64 x).wf = true := WalkArith.wf_i64 h
theorem Try.laidOut : laidOutB Try.prog = true := by kernel_rfl

theorem Try.rowPair : (55 : TypeId) < Try.prog.types.size := of_decide_eq_true (by kernel_rfl)
theorem Try.widePair : (match Try.prog.underlying 55 with | some (.array _ _) | some (.struct _) => true | _ => false) = true := by kernel_rfl
theorem Try.keyPair : Try.prog.keyType 55 = true := by kernel_rfl
theorem Try.keyAtPair : Try.prog.keyTypeAt 5 55 = true := by kernel_rfl
theorem five_small : 5 + 1 ≤ 10000 := by omega
set_option maxRecDepth 100000 in
theorem Try.lawPair : Keyed Try.prog 55 := Keyed.of_law (deep_law_laid Try.laidOut five_small Try.rowPair Try.keyAtPair Try.widePair)
def pairEnc (p : Int × Int) : Value := .agg #[.int .i64 p.1, .int .i64 p.2]
theorem pairEnc_inj : ∀ x y : Int × Int, pairEnc x = pairEnc y → x = y := by
  rintro ⟨a, b⟩ ⟨c, d⟩ h
  simp only [pairEnc, Value.agg.injEq] at h
  have h1 := congrArg (fun (l : Array Value) => l[0]?) h
  have h2 := congrArg (fun (l : Array Value) => l[1]?) h
  simp at h1 h2
  rw [h1, h2]
theorem keyLits_int {P : Program} {t : TypeId} {D : Nat} {x : Int} (ht : P.underlying t = some (.int .i64)) (hx : fitI x) : P.keyLits (D + 1) t [.int .i64 x] = some [.int .i64 x] := by
  unfold Program.keyLits
  rw [ht]
  simp [fit_wf hx]
theorem Try.kindPair : ∃ fs : Array Field, Try.prog.underlying 55 = some (.struct fs) ∧ fs.toList.map (fun f => (f.type, f.offset, Try.prog.cellsOf f.type, f.name != "_")) = [(3, 0, 1, true), (3, 1, 1, true)] := ⟨_, Try.underlying55, by kernel_rfl⟩
theorem Try.cellsPair : Try.prog.cellsOf 55 = 2 := by kernel_rfl
set_option maxRecDepth 100000 in
theorem Try.keyOfPair (p : Int × Int) (h1 : fitI p.1) (h2 : fitI p.2) : ∃ l, keyOf Try.prog 55 (pairEnc p) = some l := by
  obtain ⟨fs, hu, hf⟩ := Try.kindPair
  have hl : fs.toList.length = 2 := by simpa using congrArg List.length hf
  obtain ⟨f, g, hfg⟩ : ∃ f g, fs.toList = [f, g] := by
    match h : fs.toList, hl with
    | [f, g], _ => exact ⟨f, g, rfl⟩
  rw [hfg] at hf
  simp only [List.map_cons, List.map_nil, List.cons.injEq, Prod.mk.injEq, and_true] at hf
  obtain ⟨⟨f1, f2, f3, f4⟩, g1, g2, g3, g4⟩ := hf
  have hfm : (pairEnc p).formed Try.prog 55 = true := by simp [Value.formed, pairEnc, hu, Try.cellsPair]
  have hall : fs.all (·.name != "_") = true := by
    rw [← Array.all_toList, hfg]
    simp [f4, g4]
  obtain ⟨n, hn⟩ : ∃ n, Try.prog.types.size = n + 1 := ⟨Try.prog.types.size - 1, (Nat.succ_pred_eq_of_pos (Nat.lt_of_le_of_lt (Nat.zero_le _) Try.rowPair)).symm⟩
  have e1 := keyLits_int (D := n) Try.underlying3 h1
  have e2 := keyLits_int (D := n) Try.underlying3 h2
  have hcells : (pairEnc p).cells.toList = [.int .i64 p.1, .int .i64 p.2] := rfl
  have hlits : Try.prog.keyLits (Try.prog.types.size + 1) 55 (pairEnc p).cells.toList = some [.int .i64 p.1, .int .i64 p.2] := by
    rw [hcells, hn]
    rw [f1] at f3
    rw [g1] at g3
    have hfs : fs.toList.mapM (fun f => Try.prog.keyLits (n + 1) f.type ((List.drop f.offset [Value.int .i64 p.1, .int .i64 p.2]).take (Try.prog.cellsOf f.type))) = some [[.int .i64 p.1], [.int .i64 p.2]] := by
      rw [hfg]
      simp [f1, f2, f3, g1, g2, e1, e2]
    unfold Program.keyLits
    rw [hu]
    simp only [List.length_cons, List.length_nil, Try.cellsPair, hall, and_self, if_true, hfs, Nat.zero_add, Nat.reduceAdd]
    rfl
  exact ⟨_, by
    unfold keyOf
    rw [hu]
    simp only [Try.keyPair, hfm, Bool.and_self, if_true, hlits]
    rfl⟩
end Go.Proofs.Ytclhcfmlkfiidaa
