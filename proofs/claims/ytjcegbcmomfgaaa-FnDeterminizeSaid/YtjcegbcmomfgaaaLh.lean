/-
  The word by which two automata differ, plain: the same from both sides; what it says.
  No condition: this text speaks of no program.
-/
import Derived.Test.YtjcegbcmomfgaaaLr
import Derived.Test.YtjcegbcmomfgaaaDf
namespace Go.Proofs.Ytjcegbcmomfgaaa
open Go.RowKit

section
variable {α β : Type} [DecidableEq α] [DecidableEq β] {nx : α → Nat → α} {nx' : β → Nat → β} {a : α} {f : α → β}
theorem bvisit_map (hf : ∀ x y, f x = f y → x = y) (hn : ∀ x c, f (nx x c) = nx' (f x) c) (x : α) (wd : List Nat) (s : Bs α) (c : Nat) : bvisit nx' (f x) wd ⟨s.met.map f, s.words⟩ c = ⟨(bvisit nx x wd s c).met.map f, (bvisit nx x wd s c).words⟩ := by
  have hm : nx' (f x) c ∈ s.met.map f ↔ nx x c ∈ s.met := by
    rw [← hn]
    constructor
    · intro h
      obtain ⟨y, hy, e⟩ := List.mem_map.1 h
      rw [← hf _ _ e]
      exact hy
    · exact fun h => List.mem_map.2 ⟨_, h, rfl⟩
  unfold bvisit
  by_cases h : nx x c ∈ s.met
  · rw [if_pos h, if_pos (hm.2 h)]
  · rw [if_neg h, if_neg (fun h2 => h (hm.1 h2))]
    simp [hn]
theorem brow_map (hf : ∀ x y, f x = f y → x = y) (hn : ∀ x c, f (nx x c) = nx' (f x) c) (x : α) (wd : List Nat) (s : Bs α) : ∀ n, brow nx' (f x) wd ⟨s.met.map f, s.words⟩ n = ⟨(brow nx x wd s n).met.map f, (brow nx x wd s n).words⟩
  | 0 => rfl
  | n + 1 => by
    show bvisit nx' (f x) wd (brow nx' (f x) wd ⟨s.met.map f, s.words⟩ n) n = _
    rw [brow_map hf hn x wd s n, bvisit_map hf hn]
    rfl
theorem bat_map (hf : ∀ x y, f x = f y → x = y) (hn : ∀ x c, f (nx x c) = nx' (f x) c) : ∀ k, bat nx' (f a) k = ⟨(bat nx a k).met.map f, (bat nx a k).words⟩
  | 0 => rfl
  | k + 1 => by
    have ih := bat_map hf hn k
    have hl : (bat nx' (f a) k).met.length = (bat nx a k).met.length := by rw [ih]; simp
    by_cases h : k < (bat nx a k).met.length
    · rw [bat_succ h, bat_succ (by rw [hl]; exact h)]
      unfold bpart
      rw [ih]
      have hx : ((bat nx a k).met.map f).getD k (f a) = f ((bat nx a k).met.getD k a) := by simp [h]
      simp only [hx]
      exact brow_map hf hn _ _ _ 3
    · rw [bat_stay (by omega), bat_stay (by omega), ih]
/-- The words lead to what was met, and have letters below three. -/
theorem bat_words (k : Nat) : ∀ i, i < (bat nx a k).met.length → ((bat nx a k).words.getD i []).foldl nx a = (bat nx a k).met.getD i a ∧ isW ((bat nx a k).words.getD i []) := by
  have h := bat_ind (nx := nx) (a := a) (fun s => s.words.length = s.met.length ∧ ∀ i, i < s.met.length → (s.words.getD i []).foldl nx a = s.met.getD i a ∧ isW (s.words.getD i [])) ⟨rfl, fun i hi => by
    obtain rfl : i = 0 := by simpa using hi
    exact ⟨rfl, fun c hc => by simp at hc⟩⟩ (fun s k hk t c hc hs ht => by
      unfold bvisit
      split
      · exact ht
      · refine ⟨by simp [ht.1], fun i hi => ?_⟩
        simp only [List.length_append, List.length_singleton] at hi
        by_cases hit : i < t.met.length
        · have h1 := ht.2 i hit
          have e1 : (t.words ++ [s.words.getD k [] ++ [c]]).getD i [] = t.words.getD i [] := by
            simp only [List.getD_eq_getElem?_getD]; rw [List.getElem?_append_left (by rw [ht.1]; exact hit)]
          have e2 : (t.met ++ [nx (s.met.getD k a) c]).getD i a = t.met.getD i a := by
            simp only [List.getD_eq_getElem?_getD]; rw [List.getElem?_append_left hit]
          show ((t.words ++ [s.words.getD k [] ++ [c]]).getD i []).foldl nx a = (t.met ++ [nx (s.met.getD k a) c]).getD i a ∧ isW ((t.words ++ [s.words.getD k [] ++ [c]]).getD i [])
          rw [e1, e2]
          exact h1
        · obtain rfl : i = t.met.length := by omega
          have h2 := hs.2 k hk
          have e1 : (t.words ++ [s.words.getD k [] ++ [c]]).getD t.met.length [] = s.words.getD k [] ++ [c] := by simp [← ht.1]
          have e2 : (t.met ++ [nx (s.met.getD k a) c]).getD t.met.length a = nx (s.met.getD k a) c := by simp
          show ((t.words ++ [s.words.getD k [] ++ [c]]).getD t.met.length []).foldl nx a = (t.met ++ [nx (s.met.getD k a) c]).getD t.met.length a ∧ isW ((t.words ++ [s.words.getD k [] ++ [c]]).getD t.met.length [])
          rw [e1, e2, List.foldl_append, h2.1]
          exact ⟨rfl, isW_append h2.2 (isW_one hc)⟩) k
  exact h.2
end
theorem firstHit_some {α : Type} {en : α → Bool} {s : Bs α} {w : List Nat} {d : α} (hl : s.words.length = s.met.length) (h : firstHit en s = some w) : ∃ i, i < s.met.length ∧ s.words.getD i [] = w ∧ en (s.met.getD i d) = true := by
  unfold firstHit at h
  rw [Option.map_eq_some_iff] at h
  obtain ⟨p, hp, rfl⟩ := h
  obtain ⟨h1, i, hi, hpi, -⟩ := List.find?_eq_some_iff_getElem.1 hp
  rw [List.length_zip] at hi
  have him : i < s.met.length := by omega
  have hiw : i < s.words.length := by omega
  rw [List.getElem_zip] at hpi
  refine ⟨i, him, ?_, ?_⟩
  · rw [getD_at hiw, ← hpi]
  · rw [getD_at him]
    rw [← hpi] at h1
    exact h1
theorem stepP_fold (a b : DfaD) : ∀ (w : List Nat) (s t : Int), w.foldl (stepP a b) (s, t) = (runD a s w, runD b t w)
  | [], _, _ => rfl
  | c :: w, s, t => stepP_fold a b w (dnx a s c) (dnx b t c)
theorem hit_swap (K : Nat) (a b : DfaD) : hitK K a b = hitK K b a := by
  have h := bat_map (nx := stepP a b) (nx' := stepP b a) (a := ((0, 0) : Int × Int)) (f := Prod.swap) (fun x y e => by
    have := congrArg Prod.swap e
    simpa using this) (fun x c => rfl) K
  have h' : bat (stepP b a) (0, 0) K = ⟨(bat (stepP a b) (0, 0) K).met.map Prod.swap, (bat (stepP a b) (0, 0) K).words⟩ := h
  unfold hitK
  rw [h']
  refine firstHit_congr _ _ _ _ _ (by simp) fun j h1 h2 => ?_
  rw [List.getElem_map]
  unfold endsF
  simp only [Prod.fst_swap, Prod.snd_swap]
  exact bne_comm
theorem hit_says {K : Nat} {a b : DfaD} {w : List Nat} (h : hitK K a b = some w) : isW w ∧ accD a w ≠ accD b w := by
  have hg := (bat_good (nx := stepP a b) (a := ((0, 0) : Int × Int)) K).2.1
  obtain ⟨i, hi, hw, he⟩ := firstHit_some (d := ((0, 0) : Int × Int)) hg h
  obtain ⟨h1, h2⟩ := bat_words (nx := stepP a b) (a := ((0, 0) : Int × Int)) K i hi
  rw [hw] at h1 h2
  rw [stepP_fold] at h1
  refine ⟨h2, fun e => ?_⟩
  unfold endsF at he
  rw [← h1] at he
  unfold accD den at e
  simp only at he
  rw [e] at he
  simp at he
theorem hitOk_of (K : Nat) (d : DfaD) : hitOk d (fun g => hitK K d g) := fun _ _ _ h => hit_says h
end Go.Proofs.Ytjcegbcmomfgaaa
