/-
  Small facts about slices in memory: what a slice value reads as, and that it still reads so in a later world.
  No condition: this text speaks of no program.
  What a call made for itself: slices in blocks of numbers from lo on and below hi, that may be written.
  No condition: this text speaks of no program.
  A map that a call makes, as a list of keys and values in the order in which the keys came: looking a key up, and storing.
  Conditions: the keys are encoded data that can be keys of the map's type; no key stands there twice.
  What a call made for itself, where one of its slices grows or one of its variables is written: blocks of different types are different blocks.
  No condition: this text speaks of no program.
  The walks over the two checks of an automaton without choices: the program's and the reference's.
  Conditions: the argument reads as lists.
  Small laws for regions that draw their order and only read.
  No condition: this text speaks of no program.
  The walk over the reference's search for a pair in a list.
  Conditions: the list of pairs reads as a list.
  The walk over the program's check of an automaton without choices, and the walk over the reference's search for a pair in a list.
  Conditions: the argument reads as an automaton; a list of pairs reads as a list.
  States met in breadth, letter by letter, with the words that lead to them: the plain meaning of the program's and of the reference's searches.
  No condition: this text speaks of no program.
  A map from things to their places in a list.
  No condition: this text speaks of no program.
  The first of the things met that ends, and its word: plain laws; the same for the numbered automaton.
  No condition: this text speaks of no program.
  The keys of the program's maps.
  Condition: the numbers in a key fit an int.
  Keys that are arrays of two integers.
  Condition: the numbers fit their kind.
  Keys that are sets of states: arrays of two numbers of 64 bits.
  Condition: the numbers fit their kind.
  The walks over the functions that lead two automata side by side.
  Conditions: the automata lie in two variables, read as such and are valid; the states are states of theirs.
  Learning an automaton by questions, plain: starts, rests, rows, guesses; that it ends after at most as many guesses as there are states.
  No condition: this text speaks of no program.
  The smallest automaton, plain: classes of an automaton and of its reachable part agree; both ways of making it small are the same.
  No condition: this text speaks of no program.
-/
import Derived.Test.YthhbjkgchabfmaaPk19Ss
namespace Go.Proofs.Ythhbjkgchabfmaa
open Go.RowKit
















/-! Slices of structs of ints -/



/-! Comparing lists place by place -/
end Go.Proofs.Ythhbjkgchabfmaa
namespace Go.Proofs.Ythhbjkgchabfmaa
open Go.RowKit









end Go.Proofs.Ythhbjkgchabfmaa
namespace Go.Proofs.Ythhbjkgchabfmaa
open Go.RowKit Go.Maps

section
variable {α : Type} [DecidableEq α]
theorem look_isSome {a : α} {L : List (α × Value)} : (look a L).isSome = true ↔ a ∈ L.map (·.1) := by
  induction L with
  | nil => simp [look]
  | cons p L ih =>
    obtain ⟨c, u⟩ := p
    unfold look
    by_cases h : a = c
    · simp [h]
    · simp [h, ih]


variable {P : Program} {kt : TypeId} {enc : α → Value} {w : World} {b : Nat} {L : List (α × Value)}




end
end Go.Proofs.Ythhbjkgchabfmaa
namespace Go.Proofs.Ythhbjkgchabfmaa
open Go.RowKit




end Go.Proofs.Ythhbjkgchabfmaa

namespace Go.Proofs.Ythhbjkgchabfmaa
open Go.RowKit





end Go.Proofs.Ythhbjkgchabfmaa
namespace Go.Proofs.Ythhbjkgchabfmaa
open Go.RowKit

theorem quiet_eq {P : Program} {f : FuncId} {args : Array Value} {w : World} {n : Nat} {v : Value}
    (h : Calls P f args (w.drewN n) fun e w' => e = .returned v ∧ w.drewN n = w') : Calls P f args (w.drewN n) fun e w'' => e = .returned v ∧ ∃ m, w'' = w.drewN m :=
  h.mono fun _ _ ⟨he, hm⟩ => ⟨he, n, hm.symm⟩
end Go.Proofs.Ythhbjkgchabfmaa
namespace Go.Proofs.Ythhbjkgchabfmaa
open Go.RowKit



end Go.Proofs.Ythhbjkgchabfmaa
namespace Go.Proofs.Ythhbjkgchabfmaa
open Go.RowKit







end Go.Proofs.Ythhbjkgchabfmaa

namespace Go.Proofs.Ythhbjkgchabfmaa


section
variable {α : Type} [DecidableEq α]

variable {nx : α → Nat → α} {a : α}






end

end Go.Proofs.Ythhbjkgchabfmaa
namespace Go.Proofs.Ythhbjkgchabfmaa
open Go.RowKit

section
variable {α : Type} [DecidableEq α]
end
end Go.Proofs.Ythhbjkgchabfmaa
namespace Go.Proofs.Ythhbjkgchabfmaa
open Go.RowKit


/-- The first of the things met that ends: its word. -/
def firstHit {α : Type} (en : α → Bool) (s : Bs α) : Option (List Nat) := ((s.met.zip s.words).find? fun p => en p.1).map (·.2)

theorem firstHit_at {α : Type} {en : α → Bool} {s t : Bs α} {k : Nat} {d : α} (hst : s.le t) (hl : s.words.length = s.met.length) (htl : t.words.length = t.met.length) (hk : k < s.met.length) (hno : ∀ j, j < k → en (s.met.getD j d) = false) (hyes : en (s.met.getD k d) = true) : firstHit en t = some (s.words.getD k []) := by
  have hml : s.met.length ≤ t.met.length := hst.1.length_le
  have hget : ∀ j, j < s.met.length → t.met.getD j d = s.met.getD j d := fun j hj => by
    obtain ⟨u, hu⟩ := hst.1
    rw [← hu]
    simp [List.getElem?_append_left hj]
  have hgw : t.words.getD k [] = s.words.getD k [] := by
    obtain ⟨u, hu⟩ := hst.2
    rw [← hu]
    simp [List.getElem?_append_left (show k < s.words.length by omega)]
  have hat : ∀ j, (hj : j < t.met.length) → t.met[j] = t.met.getD j d := fun j hj => by simp [hj]
  have hf : (t.met.zip t.words).find? (fun p => en p.1) = some (t.met.getD k d, t.words.getD k []) := by
    rw [List.find?_eq_some_iff_getElem]
    refine ⟨by simp only; rw [hget k hk]; exact hyes, k, by rw [List.length_zip]; omega, ?_, fun j hj => ?_⟩
    · simp [List.getElem_zip, show k < t.met.length by omega, show k < t.words.length by omega]
    · simp only [List.getElem_zip]
      rw [hat j (by omega), hget j (by omega), hno j hj]
      rfl
  unfold firstHit
  rw [hf, ← hgw]
  rfl
theorem firstHit_none {α : Type} {en : α → Bool} {s : Bs α} {d : α} (hno : ∀ j, j < s.met.length → en (s.met.getD j d) = false) : firstHit en s = none := by
  unfold firstHit
  rw [List.find?_eq_none.2]
  · rfl
  · intro p hp
    obtain ⟨j, hj, rfl⟩ := List.mem_iff_getElem.1 hp
    have hjm : j < s.met.length := by rw [List.length_zip] at hj; omega
    have := hno j hjm
    simp only [List.getElem_zip]
    rw [List.getD_eq_getElem?_getD, List.getElem?_eq_getElem hjm] at this
    simpa using this
theorem firstHit_congr {α β : Type} (e1 : α → Bool) (e2 : β → Bool) : ∀ (l1 : List α) (l2 : List β) (ws : List (List Nat)), l1.length = l2.length → (∀ j (h1 : j < l1.length) (h2 : j < l2.length), e1 l1[j] = e2 l2[j]) → firstHit e1 ⟨l1, ws⟩ = firstHit e2 ⟨l2, ws⟩
  | [], [], ws, _, _ => by simp [firstHit]
  | [], _ :: _, _, h, _ => by simp at h
  | _ :: _, [], _, h, _ => by simp at h
  | x :: l1, y :: l2, [], _, _ => by simp [firstHit]
  | x :: l1, y :: l2, v :: ws, hl, h => by
    have ih := firstHit_congr e1 e2 l1 l2 ws (by simpa using hl) (fun j h1 h2 => by have := h (j + 1) (by simpa using h1) (by simpa using h2); simpa using this)
    have h0 : e1 x = e2 y := h 0 (by simp) (by simp)
    unfold firstHit at ih ⊢
    simp only [List.zip_cons_cons, List.find?_cons, h0]
    cases e2 y <;> simp_all

section
variable {α : Type} [DecidableEq α] {nx nx' : α → Nat → α} {a : α}
theorem bat_wlen : ∀ k : Nat, ∀ wd ∈ (bat nx a k).words, wd.length ≤ k
  | 0, wd, h => by simp [bat] at h; simp [h]
  | k + 1, wd, h => by
    have ih := bat_wlen k
    by_cases hk : k < (bat nx a k).met.length
    · rw [bat_succ hk] at h
      have hg := (bat_good (nx := nx) (a := a) k).2.1
      refine brow_ind (fun t => ∀ wd ∈ t.words, wd.length ≤ k + 1) (fun wd h => Nat.le_succ_of_le (ih wd h)) (fun t c _ ht => ?_) 3 (Nat.le_refl 3) wd h
      unfold bvisit
      split
      · exact ht
      · intro v hv
        simp only [List.mem_append, List.mem_singleton] at hv
        rcases hv with hv | rfl
        · exact ht v hv
        · have := ih _ (memD (d := []) (show k < (bat nx a k).words.length by omega))
          simpa using this
    · rw [bat_stay (by omega)] at h
      exact Nat.le_succ_of_le (ih wd h)

/-- The numbered automaton hits first where the things themselves do. -/
theorem firstHit_num {en : α → Bool} {K : Nat} (hK : (bat nx a K).met.length ≤ K) :
    firstHit (den (numDfa nx en (bat nx a K).met)) (bat (dnx (numDfa nx en (bat nx a K).met)) 0 (numDfa nx en (bat nx a K).met).next.length) = firstHit en (bat nx a K) := by
  rw [numDfa_len]
  obtain ⟨m, hm⟩ : ∃ m, m = (bat nx a K).met.length := ⟨_, rfl⟩
  have hle : (bat nx a m).met.length ≤ m := by
    have := (bat_le (nx := nx) (a := a) (show m ≤ K by omega)).1.length_le
    omega
  have hd : bat nx a K = bat nx a m := bat_done hle (by omega)
  have hp := bat_pos (nx := nx) (a := a) K
  have hlt : ∀ (s : Int) c, c < 3 → 0 ≤ s ∧ s < m → 0 ≤ numNext nx a (bat nx a K).met s c ∧ numNext nx a (bat nx a K).met s c < m := fun s c hc hs => by
    unfold numNext
    have := placeOf_lt (bat_closed hK (memD (d := a) (show s.toNat < (bat nx a K).met.length by omega)) hc)
    omega
  have e1 : bat (numNext nx a (bat nx a K).met) 0 m = bat (dnx (numDfa nx en (bat nx a K).met)) 0 m :=
    bat_congr (Q := fun s => 0 ≤ s ∧ s < (m : Int)) (by omega) (fun s c hc hs => hlt s c hc hs) (fun s c hc hs => (dnx_num (by omega) (by omega) hc).symm) m
  rw [← hm, ← e1, num_sim nx a K m (by omega), ← hd]
  show firstHit _ _ = firstHit en ⟨(bat nx a K).met, (bat nx a K).words⟩
  refine firstHit_congr _ _ _ _ _ (by simp [upInts]) fun j h1 h2 => ?_
  have : (upInts (bat nx a K).met.length)[j] = (j : Int) := by simp [upInts]
  rw [this]
  exact den_num h2
end
end Go.Proofs.Ythhbjkgchabfmaa

namespace Go.Proofs.Ythhbjkgchabfmaa
open Go.RowKit Go.Maps


theorem Try.rowPair : (56 : TypeId) < Try.prog.types.size := of_decide_eq_true (by kernel_rfl)
theorem Try.widePair : (match Try.prog.underlying 56 with | some (.array _ _) | some (.struct _) => true | _ => false) = true := by kernel_rfl
theorem Try.keyPair : Try.prog.keyType 56 = true := by kernel_rfl
theorem Try.keyAtPair : Try.prog.keyTypeAt 5 56 = true := by kernel_rfl
set_option maxRecDepth 100000 in
theorem Try.lawPair : Keyed Try.prog 56 := Keyed.of_law (deep_law_laid Try.laidOut five_small Try.rowPair Try.keyAtPair Try.widePair)
def pairEnc (p : Int × Int) : Value := .agg #[.int .i64 p.1, .int .i64 p.2]
theorem pairEnc_inj : ∀ x y : Int × Int, pairEnc x = pairEnc y → x = y := by
  rintro ⟨a, b⟩ ⟨c, d⟩ h
  simp only [pairEnc, Value.agg.injEq] at h
  have h1 := congrArg (fun (l : Array Value) => l[0]?) h
  have h2 := congrArg (fun (l : Array Value) => l[1]?) h
  simp at h1 h2
  rw [h1, h2]
theorem keyLits_int {P : Program} {t : TypeId} {D : Nat} {x : Int} (ht : P.underlying t = some (.int .i64)) (hx : fitI x) : P.keyLits (D + 1) t [.int .i64 x] = some [.int .i64 x] := by
  unfold Program.keyLits
  rw [ht]
  simp [fit_wf hx]
theorem Try.kindPair : ∃ fs : Array Field, Try.prog.underlying 56 = some (.struct fs) ∧ fs.toList.map (fun f => (f.type, f.offset, Try.prog.cellsOf f.type, f.name != "_")) = [(3, 0, 1, true), (3, 1, 1, true)] := ⟨_, Try.underlying56, by kernel_rfl⟩
theorem Try.cellsPair : Try.prog.cellsOf 56 = 2 := by kernel_rfl
set_option maxRecDepth 100000 in
theorem Try.keyOfPair (p : Int × Int) (h1 : fitI p.1) (h2 : fitI p.2) : ∃ l, keyOf Try.prog 56 (pairEnc p) = some l := by
  obtain ⟨fs, hu, hf⟩ := Try.kindPair
  have hl : fs.toList.length = 2 := by simpa using congrArg List.length hf
  obtain ⟨f, g, hfg⟩ : ∃ f g, fs.toList = [f, g] := by
    match h : fs.toList, hl with
    | [f, g], _ => exact ⟨f, g, rfl⟩
  rw [hfg] at hf
  simp only [List.map_cons, List.map_nil, List.cons.injEq, Prod.mk.injEq, and_true] at hf
  obtain ⟨⟨f1, f2, f3, f4⟩, g1, g2, g3, g4⟩ := hf
  have hfm : (pairEnc p).formed Try.prog 56 = true := by simp [Value.formed, pairEnc, hu, Try.cellsPair]
  have hall : fs.all (·.name != "_") = true := by
    rw [← Array.all_toList, hfg]
    simp [f4, g4]
  obtain ⟨n, hn⟩ : ∃ n, Try.prog.types.size = n + 1 := ⟨Try.prog.types.size - 1, (Nat.succ_pred_eq_of_pos (Nat.lt_of_le_of_lt (Nat.zero_le _) Try.rowPair)).symm⟩
  have e1 := keyLits_int (D := n) Try.underlying3 h1
  have e2 := keyLits_int (D := n) Try.underlying3 h2
  have hcells : (pairEnc p).cells.toList = [.int .i64 p.1, .int .i64 p.2] := rfl
  have hlits : Try.prog.keyLits (Try.prog.types.size + 1) 56 (pairEnc p).cells.toList = some [.int .i64 p.1, .int .i64 p.2] := by
    rw [hcells, hn]
    rw [f1] at f3
    rw [g1] at g3
    have hfs : fs.toList.mapM (fun f => Try.prog.keyLits (n + 1) f.type ((List.drop f.offset [Value.int .i64 p.1, .int .i64 p.2]).take (Try.prog.cellsOf f.type))) = some [[.int .i64 p.1], [.int .i64 p.2]] := by
      rw [hfg]
      simp [f1, f2, f3, g1, g2, e1, e2]
    unfold Program.keyLits
    rw [hu]
    simp only [List.length_cons, List.length_nil, Try.cellsPair, hall, and_self, if_true, hfs, Nat.zero_add, Nat.reduceAdd]
    rfl
  exact ⟨_, by
    unfold keyOf
    rw [hu]
    simp only [Try.keyPair, hfm, Bool.and_self, if_true, hlits]
    rfl⟩
end Go.Proofs.Ythhbjkgchabfmaa
namespace Go.Proofs.Ythhbjkgchabfmaa
open Go.RowKit Go.Maps


theorem Try.rowPr : (92 : TypeId) < Try.prog.types.size := of_decide_eq_true (by kernel_rfl)
theorem Try.widePr : (match Try.prog.underlying 92 with | some (.array _ _) | some (.struct _) => true | _ => false) = true := by kernel_rfl
theorem Try.keyPr : Try.prog.keyType 92 = true := by kernel_rfl
theorem Try.keyAtPr : Try.prog.keyTypeAt 5 92 = true := by kernel_rfl
theorem Try.cellsPr : Try.prog.cellsOf 92 = 2 := by kernel_rfl
theorem Try.cellsInt : Try.prog.cellsOf 3 = 1 := by kernel_rfl
theorem Try.kindPr : Try.prog.underlying 92 = some (.array 2 3) := by kernel_rfl
set_option maxRecDepth 100000 in
theorem Try.lawPr : Keyed Try.prog 92 := Keyed.of_law (deep_law_laid Try.laidOut five_small Try.rowPr Try.keyAtPr Try.widePr)
set_option maxRecDepth 100000 in
theorem Try.keyOfPr (p : Int × Int) (h1 : fitI p.1) (h2 : fitI p.2) : ∃ l, keyOf Try.prog 92 (pairEnc p) = some l :=
  keyOf_two Try.kindPr Try.underlying3 Try.keyPr Try.cellsPr Try.cellsInt Try.rowPr _ _ (fit_wf h1) (fit_wf h2)
end Go.Proofs.Ythhbjkgchabfmaa
namespace Go.Proofs.Ythhbjkgchabfmaa
open Go.RowKit Go.Maps

end Go.Proofs.Ythhbjkgchabfmaa

namespace Go.Proofs.Ythhbjkgchabfmaa
open Go.RowKit

/-- A cell of a valid automaton's table. -/
theorem dfa_cell {w : World} {v1 : Value} {next : List (List Int)} {ends : List Bool} (h : IntSS 0 w v1 next) (hd : dfaOk next ends = true) {i c : Nat} (hi : i < next.length) (hc : c < 3) :
    ∃ q o cap z t s, v1 = .slice (some ⟨q, o, none⟩) next.length cap ∧ next.length ≤ cap ∧ cap ≤ 9223372036854775807 ∧ w.cell? ⟨q, o + i, none⟩ = some (.slice (some ⟨z, t, none⟩) 3 s) ∧ 3 ≤ s ∧ s ≤ 9223372036854775807 ∧
      w.cell? ⟨z, t + c, none⟩ = some (.int .i64 ((next.getD i []).getD c 0)) ∧ q < w.heap.size ∧ z < w.heap.size := by
  obtain ⟨a, cap, rfl, h1, h2, h3⟩ := h.form
  obtain ⟨q, o, rfl, _, hq, hr⟩ := h3 (by omega)
  obtain ⟨a', s, e1, e2, e3, e4⟩ := hr i hi
  obtain ⟨hl, _⟩ := dfaOk_row hd hi
  rw [hl] at e1 e2 e4
  obtain ⟨z, t, rfl, _, hz, e5⟩ := e4 (by omega)
  exact ⟨q, o, cap, z, t, s, rfl, h1, h2, e1, e2, e3, e5 c hc, hq, hz⟩
theorem bool_cell {w : World} {v1 : Value} {xs : List Bool} (h : Bools 0 w v1 xs) {i : Nat} (hi : i < xs.length) :
    ∃ q o cap, v1 = .slice (some ⟨q, o, none⟩) xs.length cap ∧ xs.length ≤ cap ∧ cap ≤ 9223372036854775807 ∧ w.cell? ⟨q, o + i, none⟩ = some (.bool (xs.getD i false)) ∧ q < w.heap.size := by
  obtain ⟨a, cap, rfl, h1, h2, h3⟩ := h.form
  obtain ⟨q, o, rfl, _, hq, hr⟩ := h3 (by omega)
  exact ⟨q, o, cap, rfl, h1, h2, hr i hi, hq⟩

set_option maxRecDepth 100000 in
set_option maxHeartbeats 1600000 in
theorem product1_any (a b : DfaD) (x : Int × Int) (c ba bb : Nat) (w : World) (hda : dfaOk a.next a.ends = true) (hdb : dfaOk b.next b.ends = true) (h1 : DfaAt w ba a) (h2 : DfaAt w bb b) (hx : inPair a b x = true) (hc : c < 3) :
    Calls Try.prog 131 #[.agg #[.int .i64 x.1, .int .i64 x.2], .int .i64 c, .pointer (some ⟨ba, 0, none⟩), .pointer (some ⟨bb, 0, none⟩)] w fun e w' => e = .returned (.agg #[.int .i64 (stepP a b x c).1, .int .i64 (stepP a b x c).2]) ∧ Below w.heap.size w w' := by
  obtain ⟨i, j, rfl, hi, hj⟩ := inPair_nat hx
  obtain ⟨u1, u2, hB1, g1, -⟩ := h1
  obtain ⟨u3, u4, hB2, g2, -⟩ := h2
  obtain ⟨q1, o1, c1, z1, t1, s1, rfl, hc1, hm1, e1, l1, m1, e2, d1, d2⟩ := dfa_cell g1 hda hi hc
  obtain ⟨q2, o2, c2, z2, t2, s2, rfl, hc2, hm2, e3, l2, m2, e4, d3, d4⟩ := dfa_cell g2 hdb hj hc
  obtain ⟨ta, hta⟩ : ∃ ta, ta = (stepP a b ((i : Int), (j : Int)) c).1 := ⟨_, rfl⟩
  obtain ⟨tb, htb⟩ : ∃ tb, tb = (stepP a b ((i : Int), (j : Int)) c).2 := ⟨_, rfl⟩
  have e2' : w.cell? ⟨z1, t1 + c, none⟩ = some (.int .i64 ta) := by rw [hta]; exact e2
  have e4' : w.cell? ⟨z2, t2 + c, none⟩ = some (.int .i64 tb) := by rw [htb]; exact e4
  rw [← hta, ← htb]
  have hla := dfaOk_len hda
  have hlb := dfaOk_len hdb
  have ca := hB1.cell 0
  have cb := hB2.cell 0
  simp only [List.getElem?_toArray, List.getElem?_cons_zero] at ca cb
  have d5 := hB1.lt
  have d6 := hB2.lt
  have hci : (c : Int) < 3 := by omega
  have hii : (i : Int) < a.next.length := by omega
  have hjj : (j : Int) < b.next.length := by omega
  clear g1 g2 hB1 hB2 hta htb e2 e4 hx hda hdb
  obtain ⟨h41, h42, -⟩ := hla
  obtain ⟨h43, h44, -⟩ := hlb
  go_enter Try.func131, Try.ntmps131
  go_wp2
  go_region_held3 (fun w' => w'.cell? ⟨w.heap.size, 0, none⟩ = some (.int .i64 i) ∧ w'.cell? ⟨w.heap.size, 1, none⟩ = some (.int .i64 j) ∧ w'.cell? ⟨ba, 0, none⟩ = some (.slice (some ⟨q1, o1, none⟩) a.next.length c1) ∧ w'.cell? ⟨bb, 0, none⟩ = some (.slice (some ⟨q2, o2, none⟩) b.next.length c2) ∧ w'.cell? ⟨q1, o1 + i, none⟩ = some (.slice (some ⟨z1, t1, none⟩) 3 s1) ∧ w'.cell? ⟨q2, o2 + j, none⟩ = some (.slice (some ⟨z2, t2, none⟩) 3 s2) ∧ w'.cell? ⟨z1, t1 + c, none⟩ = some (.int .i64 ta) ∧ w'.cell? ⟨z2, t2 + c, none⟩ = some (.int .i64 tb))
    (first | go_keep) (fail)
  go_wp2
  refine bodyPost_ret (v := .agg #[.int .i64 ta, .int .i64 tb]) (by simp [results, Try.results131, go_sem]) rfl ⟨rfl, ?_⟩
  exact (((Below.refl _ _).alloc (Nat.le_refl _) _).alloc (by simp) _).drew

theorem differ1_any (x y r : Bool) (hr : (x != y) = r) (w : World) : Calls Try.prog 129 #[.bool x, .bool y] w fun e w' => e = .returned (.bool r) ∧ w = w' := by
  subst hr
  go_enter Try.func129, Try.ntmps129
  go_wp2
  go_ret
  exact ⟨rfl, rfl⟩

set_option maxRecDepth 100000 in
set_option maxHeartbeats 1600000 in
theorem product2_differ (a b : DfaD) (x : Int × Int) (bf ba bb : Nat) (w : World) (hda : dfaOk a.next a.ends = true) (hdb : dfaOk b.next b.ends = true) (hf : Bx w bf #[.func (.func 129) #[] #[]] 90) (h1 : DfaAt w ba a) (h2 : DfaAt w bb b) (hx : inPair a b x = true) :
    Calls Try.prog 132 #[.agg #[.int .i64 x.1, .int .i64 x.2], .pointer (some ⟨bf, 0, none⟩), .pointer (some ⟨ba, 0, none⟩), .pointer (some ⟨bb, 0, none⟩)] w fun e w' => e = .returned (.bool (endsF (fun x y => x != y) a b x)) ∧ Below w.heap.size w w' := by
  obtain ⟨i, j, rfl, hi, hj⟩ := inPair_nat hx
  have hla := dfaOk_len hda
  have hlb := dfaOk_len hdb
  obtain ⟨u1, u2, hB1, -, g1⟩ := h1
  obtain ⟨u3, u4, hB2, -, g2⟩ := h2
  obtain ⟨q1, o1, c1, rfl, hc1, hm1, e1, d1⟩ := bool_cell g1 (i := i) (by omega)
  obtain ⟨q2, o2, c2, rfl, hc2, hm2, e2, d2⟩ := bool_cell g2 (i := j) (by omega)
  obtain ⟨ta, hta⟩ : ∃ ta, ta = a.ends.getD i false := ⟨_, rfl⟩
  obtain ⟨tb, htb⟩ : ∃ tb, tb = b.ends.getD j false := ⟨_, rfl⟩
  rw [← hta] at e1
  rw [← htb] at e2
  obtain ⟨r, hr⟩ : ∃ r, (ta != tb) = r := ⟨_, rfl⟩
  have hres : endsF (fun x y => x != y) a b ((i : Int), (j : Int)) = r := by
    rw [← hr, hta, htb]
    rfl
  rw [hres]
  have ca := hB1.cell 1
  have cb := hB2.cell 1
  have cf := hf.cell 0
  simp only [List.getElem?_toArray, List.getElem?_cons_zero, List.getElem?_cons_succ] at ca cb cf
  have d5 := hB1.lt
  have d6 := hB2.lt
  have d7 := hf.lt
  obtain ⟨l1, l2, l3⟩ := hla
  obtain ⟨l4, l5, l6⟩ := hlb
  have hii : (i : Int) < a.ends.length := by omega
  have hjj : (j : Int) < b.ends.length := by omega
  have Hr := Lib.hid hr
  clear g1 g2 hB1 hB2 hta htb hx hda hdb hf hres hr l3 l6
  go_enter Try.func132, Try.ntmps132
  go_wp2
  go_quiet ((go_at_call 129; with_reducible exact quiet_eq (differ1_any _ _ _ Hr.out _)))
  go_wp2
  go_ret
  exact ⟨rfl, below_drewN ((Below.refl _ _).alloc (Nat.le_refl _) _) _⟩
end Go.Proofs.Ythhbjkgchabfmaa

namespace Go.Proofs.Ythhbjkgchabfmaa
open Go.RowKit

/-! Closing a list of words: a word becomes a start if no start has its key. -/
section
variable {β : Type} [DecidableEq β] (key : List Nat → β)
variable {key} {s0 : List (List Nat)}
end

/-! The table. -/
theorem isW_append {u v : List Nat} (hu : isW u) (hv : isW v) : isW (u ++ v) := fun c hc => by
  rcases List.mem_append.1 hc with h | h
  · exact hu c h
  · exact hv c h
theorem isW_one {c : Nat} (h : c < 3) : isW [c] := fun x hx => by simp at hx; omega





end Go.Proofs.Ythhbjkgchabfmaa

namespace Go.Proofs.Ythhbjkgchabfmaa
open Go.RowKit

theorem clAt_sim {n m : Nat} {nx nx' : Nat → Nat → Nat} {en en' : Nat → Bool} (φ : Nat → Nat) (hφ : ∀ i, i < m → φ i < n) (hst : ∀ i c, i < m → c < 3 → nx' i c < m ∧ φ (nx' i c) = nx (φ i) c) (hen : ∀ i, i < m → en' i = en (φ i)) :
    ∀ (r : Nat) {i j : Nat}, i < m → j < m → (clAt m nx' en' r i = clAt m nx' en' r j ↔ clAt n nx en r (φ i) = clAt n nx en r (φ j))
  | 0, i, j, hi, hj => by
    rw [cl0_eq hi hj, cl0_eq (hφ i hi) (hφ j hj), hen i hi, hen j hj]
  | r + 1, i, j, hi, hj => by
    have ih := fun {i j : Nat} (hi : i < m) (hj : j < m) => clAt_sim φ hφ hst hen r hi hj
    show refineC m nx' (clAt m nx' en' r) i = refineC m nx' (clAt m nx' en' r) j ↔ refineC n nx (clAt n nx en r) (φ i) = refineC n nx (clAt n nx en r) (φ j)
    rw [refine_eq hi hj, refine_eq (hφ i hi) (hφ j hj), sameAt_iff, sameAt_iff, ih hi hj]
    constructor
    · rintro ⟨h1, h2⟩
      refine ⟨h1, fun c hc => ?_⟩
      have h := (ih (hst i c hi hc).1 (hst j c hj hc).1).1 (h2 c hc)
      rwa [(hst i c hi hc).2, (hst j c hj hc).2] at h
    · rintro ⟨h1, h2⟩
      refine ⟨h1, fun c hc => (ih (hst i c hi hc).1 (hst j c hj hc).1).2 ?_⟩
      rw [(hst i c hi hc).2, (hst j c hj hc).2]
      exact h2 c hc
/-- The classes at the end agree, too, where the part is not greater. -/
theorem clEnd_sim {n m : Nat} {nx nx' : Nat → Nat → Nat} {en en' : Nat → Bool} (φ : Nat → Nat) (hmn : m ≤ n) (hφ : ∀ i, i < m → φ i < n) (hst : ∀ i c, i < m → c < 3 → nx' i c < m ∧ φ (nx' i c) = nx (φ i) c) (hen : ∀ i, i < m → en' i = en (φ i)) {i j : Nat} (hi : i < m) (hj : j < m) :
    clEnd m nx' en' i = clEnd m nx' en' j ↔ clEnd n nx en (φ i) = clEnd n nx en (φ j) := by
  have hin : ∀ s c, s < m → c < 3 → nx' s c < m := fun s c hs hc => (hst s c hs hc).1
  have hs := clEnd_stays hin en'
  have e1 := stays_all hin hs n hmn i hi
  have e2 := stays_all hin hs n hmn j hj
  show clAt m nx' en' m i = clAt m nx' en' m j ↔ _
  rw [← e1, ← e2]
  exact clAt_sim φ hφ hst hen n hi hj

theorem small_min {d : DfaD} (hd : fine d) : smallD d = minD d := by
  obtain ⟨hx, hmn, hφ, hst, hen, hφ0⟩ := trim_facts hd
  obtain ⟨x, hxe⟩ : ∃ x, x = trimD d := ⟨_, rfl⟩
  unfold smallD
  rw [← hxe] at hx hmn hφ hst hen ⊢
  obtain ⟨hff, hfl, hfn⟩ := fold_facts hx
  have hm0 : 0 < x.next.length := hx.1
  have hsim := fun {i j : Nat} (hi : i < x.next.length) (hj : j < x.next.length) => clEnd_sim (n := d.next.length) (m := x.next.length) (nx := nxD d) (nx' := nxD x) (en := enD d) (en' := enD x) (phiD d) hmn hφ hst hen hi hj
  have hdin : ∀ s c, s < d.next.length → c < 3 → nxD d s c < d.next.length := fun s c hs hc => (nxD_lt hd hs hc).1
  have hmet := (met_facts hff x.next.length).2
  rw [hfl] at hmet
  have hbat : bat (dnx (foldD x)) 0 d.next.length = bat (dnx (foldD x)) 0 x.next.length := bat_done hmet hmn
  have key := numDfa_mapQ (nx := dnx (foldD x)) (nx' := nxM d) (a := (0 : Int)) (f := fun j : Int => ((clD d (phiD d j.toNat) : Nat) : Int)) (Q := fun j => ∃ k : Nat, j = (k : Int) ∧ k < x.next.length ∧ clD x k = k) (en := den (foldD x)) (en' := den d) (K := d.next.length)
    ⟨0, rfl, hm0, Nat.le_zero.1 (clD_le 0 hm0).1⟩ ?_ ?_ ?_ ?_
  · unfold trimD minD
    rw [hfl, ← hbat, ← key]
    have e : ((clD d (phiD d (0 : Int).toNat) : Nat) : Int) = ((clD d 0 : Nat) : Int) := by
      show ((clD d (phiD d 0) : Nat) : Int) = _
      rw [hφ0]
    simp only [e]
  · rintro j c hc ⟨k, rfl, hk, -⟩
    rw [hfn k c hk hc]
    have h1 := (nxD_lt hx hk hc).1
    obtain ⟨h2, h3⟩ := clD_le (nxD x k c) h1
    exact ⟨_, rfl, by omega, h3⟩
  · rintro j j' ⟨k, rfl, hk, hr⟩ ⟨k', rfl, hk', hr'⟩ h
    simp only [Int.toNat_natCast] at h
    have h1 : clD d (phiD d k) = clD d (phiD d k') := by omega
    have h2 : clD x k = clD x k' := (hsim hk hk').2 h1
    rw [hr, hr'] at h2
    rw [h2]
  · rintro j c hc ⟨k, rfl, hk, -⟩
    rw [hfn k c hk hc]
    obtain ⟨h1, -⟩ := nxD_lt hx hk hc
    obtain ⟨h2, h3⟩ := clD_le (nxD x k c) h1
    simp only [Int.toNat_natCast, nxM]
    have a1 : clD d (phiD d (clD x (nxD x k c))) = clD d (phiD d (nxD x k c)) := (hsim (by omega) h1).1 h3
    rw [a1, (hst k c hk hc).2]
    obtain ⟨h4, h5⟩ := clD_le (phiD d k) (hφ k hk)
    have a2 : clD d (nxD d (clD d (phiD d k)) c) = clD d (nxD d (phiD d k) c) := clEnd_eq hdin (en := enD d) (s := clD d (phiD d k)) (t := phiD d k) (by have := hφ k hk; omega) (hφ k hk) h5 c hc
    rw [a2]
  · rintro j ⟨k, rfl, hk, -⟩
    obtain ⟨h4, h5⟩ := clD_le (phiD d k) (hφ k hk)
    have a := clEnd_ends (n := d.next.length) (nx := nxD d) (en := enD d) (s := clD d (phiD d k)) (t := phiD d k) (by have := hφ k hk; omega) (hφ k hk) h5
    simp only [Int.toNat_natCast]
    show enD d (((clD d (phiD d k) : Nat) : Int).toNat) = enD x (((k : Nat) : Int).toNat)
    rw [Int.toNat_natCast, Int.toNat_natCast, a, hen k hk]
end Go.Proofs.Ythhbjkgchabfmaa
