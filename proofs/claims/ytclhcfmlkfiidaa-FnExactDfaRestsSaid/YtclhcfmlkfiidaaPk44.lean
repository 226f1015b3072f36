/-
  The walk over the program's DfaRests.
  Condition: the automaton reads as such.
  Plain: how the reference's rounds of classes go on: pairs that are told apart.
  Condition: the states' numbers are below n.
-/
import Derived.Test.YtclhcfmlkfiidaaSl
import Derived.Test.YtclhcfmlkfiidaaSs
import Derived.Test.YtclhcfmlkfiidaaNs
namespace Go.Proofs.Ytclhcfmlkfiidaa
open Go.RowKit

theorem rsK_yes {K : Nat} {d : DfaD} (h : dfaOk d.next d.ends = true) : rsK K d = (detQK K (restsN (trimD d))).map minD := if_pos h
set_option maxRecDepth 100000 in
set_option maxHeartbeats 4000000 in
theorem implRsK_any (K : Nat) (hK : K = 40) (d D : DfaD) (fb : Bool) (hD : (rsK K d).getD zeD = D) (hfb : (rsK K d).isSome = fb) (v : Value) (w : World) (h : DfaR 0 w v d) :
    Calls Try.prog 33 #[v] w fun e w' => RTt D fb w.heap.size e w' ∧ Below w.heap.size w w' := by
  have H := Lib.hid h
  obtain ⟨v1, v2, rfl, -, -⟩ := h
  have hS0 := ((St.start w).alloc _ rfl #[v1, v2] 32).alloc (w.heap.size + 1) (by simp) #[.slice none 0 0, .slice none 0 0] 32
  have e0 := hS0.cell (v := v1) 0 0 rfl rfl
  have e1 := hS0.cell (v := v2) 0 1 rfl rfl
  cases hok : dfaOk d.next d.ends
  · have hn : rsK K d = none := by
      unfold rsK
      rw [hok]
      rfl
    rw [hn] at hD hfb
    subst hD
    subst hfb
    have Hhok := Lib.hid hok; clear hok
    have HhS0 := Lib.hid hS0; clear hS0
    go_enter Try.func33, Try.ntmps33
    go_wp2_with fail
    refine (implDfaValid_any d _ _ (H.out.below HhS0.out.bel) _ Hhok.out).mono ?_
    rintro e w1 ⟨rfl, hb1⟩
    have hS1 := HhS0.out.call hb1
    have f0 := hS1.fr 1 0 rfl
    have f1 := hS1.fr 1 1 rfl
    have k0 := hS1.cell (v := .slice none 0 0) 1 0 rfl rfl
    have k1 := hS1.cell (v := .slice none 0 0) 1 1 rfl rfl
    have HhS1 := Lib.hid hS1; clear hS1
    clear hb1 e0 e1
    go_wp2
    have hq := (HhS1.out.set 1 rfl 0 (.slice none 0 0)).set 1 rfl 1 (.slice none 0 0)
    have q0 := hq.cell (v := .slice none 0 0) 1 0 rfl rfl
    have q1 := hq.cell (v := .slice none 0 0) 1 1 rfl rfl
    refine bodyPost_ret (v := .tuple #[.agg #[.slice none 0 0, .slice none 0 0], .bool false]) (by simp [results, Try.results33, go_sem, q0, q1]) rfl ⟨?_, hq.bel⟩
    exact ⟨none, 0, none, 0, rfl, zeD_own _ _ _ _ _⟩
  · rw [rsK_yes hok] at hD hfb
    obtain ⟨X, hX⟩ : ∃ X, X = trimD d := ⟨_, rfl⟩
    have hXo := (trim_ok hok).1
    rw [← hX] at hD hfb hXo
    have hdo := restsN_det hXo
    have hl := dfaOk_len hXo
    have hst : (nfaOf X).states = (X.next.length : Int) := rfl
    have hrm : (restsN X).moves = (nfaOf X).moves := rfl
    have hrf : (restsN X).firsts = upInts X.next.length := rfl
    have hre : (restsN X).ends = (nfaOf X).ends := rfl
    have hrs : (restsN X).states = (X.next.length : Int) := rfl
    have hml := hdo.ml
    have hel := hdo.el
    rw [hrm] at hml
    rw [hre] at hel
    have hup0 : intCells (upInts 0) = [] := rfl
    obtain ⟨L, hL⟩ : ∃ L, L = X.next.length := ⟨_, rfl⟩
    have hl1 : 1 ≤ L := by omega
    have hl2 : L ≤ 40 := by omega
    obtain ⟨i0, hi, hz0, hz1, hz2⟩ := info_parts Try.infoInt
    rw [← hL] at hst hrf hrs
    have Hhok := Lib.hid hok; clear hok
    have HhS0 := Lib.hid hS0; clear hS0
    have HhD := Lib.hid hD; clear hD
    have Hhfb := Lib.hid hfb; clear hfb
    have HhX := Lib.hid hX; clear hX
    have HhXo := Lib.hid hXo; clear hXo
    have Hhdo := Lib.hid hdo; clear hdo
    have Hhst := Lib.hid hst; clear hst
    have Hhrm := Lib.hid hrm; clear hrm
    have Hhrf := Lib.hid hrf; clear hrf
    have Hhre := Lib.hid hre; clear hre
    have Hhrs := Lib.hid hrs; clear hrs
    have Hhml := Lib.hid hml; clear hml
    have Hhel := Lib.hid hel; clear hel
    have Hhup0 := Lib.hid hup0; clear hup0
    have HhL := Lib.hid hL; clear hL
    have Hhi := Lib.hid hi; clear hi
    have Hhz0 := Lib.hid hz0; clear hz0
    have Hhz1 := Lib.hid hz1; clear hz1
    have Hhz2 := Lib.hid hz2; clear hz2
    clear hl
    go_enter Try.func33, Try.ntmps33
    go_wp2_with fail
    refine (implDfaValid_any d _ _ (H.out.below HhS0.out.bel) _ Hhok.out).mono ?_
    rintro e w1 ⟨rfl, hb1⟩
    have hS1 := HhS0.out.call hb1
    have e0' := hS1.cell (v := v1) 0 0 rfl rfl
    have e1' := hS1.cell (v := v2) 0 1 rfl rfl
    have HhS1 := Lib.hid hS1; clear hS1
    clear hb1 e0 e1
    go_wp2_with fail
    refine (implTrim_any d _ _ Hhok.out (H.out.below HhS1.out.bel)).mono ?_
    rintro e w2 ⟨a1, c1, a2, c2, rfl, hown, hb2⟩
    rw [← HhX.out] at hown
    rw [← HhX.out]
    have hS2 := HhS1.out.call hb2
    have hDR := hown.r.mono (Nat.zero_le _)
    have HhS2 := Lib.hid hS2; clear hS2
    have HhDR := Lib.hid hDR; clear hDR
    clear hown hb2 e0' e1'
    go_wp2_with fail
    refine (implNfa_any X _ _ HhXo.out HhDR.out).mono ?_
    rintro e w3 ⟨a3, c3, a4, c4, a5, c5, rfl, hS'⟩
    rw [Hhst.out]
    have hS3 := (HhS2.out.cat hS').alloc _ rfl #[.int .i64 (L : Int), .slice a3 (nfaOf X).moves.length c3, .slice none 0 0, .slice a5 (nfaOf X).ends.length c5] 67
    have hS4 := (hS3.nilRow 3 1).pick [0, 1, 2, 4, 5, 6] (by decide)
    have z0 := hS4.cell (v := .int .i64 (L : Int)) 4 0 rfl rfl
    have HS4 := Lib.hid hS4
    clear hS3 hS4 hS'
    go_wp2
    clear z0
    go_loopw [16] (fun i wr => ∃ (s : Nat) (a : Option Addr) (c : Nat), i = .int .i64 s ∧ s ≤ L ∧ St w wr [Ent.box w.heap.size #[v1, v2] 32, Ent.box (w.heap.size + 1) #[.slice none 0 0, .slice none 0 0] 32, Ent.row 90 3 (.slice a3 (nfaOf X).moves.length c3) (nfaOf X).moves.length ((nfaOf X).moves.flatMap moveCells), Ent.row 3 1 (.slice a5 (nfaOf X).ends.length c5) (nfaOf X).ends.length (intCells (nfaOf X).ends),
        Ent.box w3.heap.size #[.int .i64 (L : Int), .slice a3 (nfaOf X).moves.length c3, .slice a s c, .slice a5 (nfaOf X).ends.length c5] 67, Ent.row 3 1 (.slice a s c) s (intCells (upInts s))]) (fun i _ => L - (intOf i).toNat)
    case atStart => exact ⟨0, none, 0, rfl, Nat.zero_le _, HS4.out⟩
    case round =>
      obtain ⟨s, a, c, rfl, hs, hS⟩ := hrel
      by_cases hlt : s < L
      · have hlt2 : (s : Int) < L := by omega
        have hup := upInts_succ s
        have hSa := hS.alloc_ (.cells #[.int .i64 (s : Int)] 3)
        have hR := hSa.row 5 rfl
        have e0 := hS.cell (v := .slice a s c) 4 2 rfl rfl
        have HS5 := Lib.hid hS
        have HhSa := Lib.hid hSa; clear hSa
        have HhR := Lib.hid hR; clear hR
        have Hhup := Lib.hid hup; clear hup
        clear hS
        go_wp2_with (at_builtin; refine wpList_append_lies _ rfl _ _ _ rfl _ 3 i0 (.int .i64 0) 1 8 Try.underlying44 Hhi.out Hhz0.out Hhz1.out Hhz2.out rfl (by omega) _ s _ rfl HhR.out ⟨wr.heap.size, 0, none⟩ 1 1 [.int .i64 (s : Int)] rfl rfl (World.news_of_block (heap_alloc_new wr _)) one_int (by omega) (by unfold maxLen; omega) (by omega) HhSa.out.size _ rfl ?_; intro g6 c6 w6 hown6 hgrow6 hat6 hlt6; have HS6 := Lib.hid (HhSa.out.app 5 rfl hown6 hgrow6 hat6); have y1 := HS6.out.cell (v := .slice a s c) 4 2 rfl rfl; have y2 := HS6.out.fr 4 2 rfl; clear hown6 hgrow6 hat6 hlt6)
        go_roundw
        case rel =>
          refine ⟨s + 1, some ⟨g6, 0, none⟩, c6, by go_num, by omega, ?_⟩
          rw [Hhup.out, intCells_snoc]
          exact HS6.out.set 4 rfl 2 (.slice (some ⟨g6, 0, none⟩) (s + 1) c6)
        case measure => simp [intOf]; omega
      · obtain rfl : L = s := by omega
        have e0 := hS.cell (v := .int .i64 (L : Int)) 4 0 rfl rfl
        have e1 := hS.cell (v := .slice a3 (nfaOf X).moves.length c3) 4 1 rfl rfl
        have e2 := hS.cell (v := .slice a L c) 4 2 rfl rfl
        have e3 := hS.cell (v := .slice a5 (nfaOf X).ends.length c5) 4 3 rfl rfl
        have hcall := implSmall_any (restsN X) X.next.length K hK D fb HhD.out Hhfb.out (.slice a3 (nfaOf X).moves.length c3) (.slice a L c) (.slice a5 (nfaOf X).ends.length c5) wr Hhdo.out (by rw [Hhrm.out]; exact hS.moves 2 rfl) (by rw [Hhrf.out]; exact hS.intsR 5 rfl) (by rw [Hhre.out]; exact hS.intsR 3 rfl)
        rw [Hhrs.out] at hcall
        have Hcall := Lib.hid hcall
        have HS5 := Lib.hid hS
        clear hS hcall
        go_wp2_with fail
        refine Hcall.out.mono ?_
        rintro e w5 ⟨⟨a6, c6, a7, c7, rfl, hown⟩, hb5⟩
        have hS6 := HS5.out.call hb5
        have f0 := hS6.fr 1 0 rfl
        have f1 := hS6.fr 1 1 rfl
        have k0 := hS6.cell (v := .slice none 0 0) 1 0 rfl rfl
        have k1 := hS6.cell (v := .slice none 0 0) 1 1 rfl rfl
        have hDM := DMem.of hown HS5.out.size
        have hb0 := hS6.box 1 rfl
        have HS6 := Lib.hid hS6
        have HDM := Lib.hid hDM
        have Hhb0 := Lib.hid hb0; clear hb0
        clear hS6 hown hb5 hDM e0 e1 e2 e3
        go_wp2
        have hq := (HS6.out.set 1 rfl 0 (.slice a6 D.next.length c6)).set 1 rfl 1 (.slice a7 D.ends.length c7)
        have q0 := hq.cell (v := .slice a6 D.next.length c6) 1 0 rfl rfl
        have q1 := hq.cell (v := .slice a7 D.ends.length c7) 1 1 rfl rfl
        have hm := (HDM.out.set Hhb0.out 0 (.slice a6 D.next.length c6)).set (Hhb0.out.set 0 _) 1 (.slice a7 D.ends.length c7)
        refine bodyPost_ret (v := .tuple #[.agg #[.slice a6 D.next.length c6, .slice a7 D.ends.length c7], .bool fb]) (by simp [results, Try.results33, go_sem, q0, q1]) rfl ⟨?_, hq.bel⟩
        exact ⟨a6, c6, a7, c7, rfl, _, _, rfl, hm.1, hm.2⟩
end Go.Proofs.Ytclhcfmlkfiidaa
namespace Go.Proofs.Ytclhcfmlkfiidaa
open Go.RowKit

def dif (a b : Nat → Nat) (j k : Nat) : Bool := decide (a j = a k) != decide (b j = b k)
def difs (a b : Nat → Nat) (k m : Nat) : Bool := (List.range m).any fun j => dif a b j k
def difK (a b : Nat → Nat) (k : Nat) : Bool := (List.range k).any fun x => difs a b x x
theorem difs_succ (a b : Nat → Nat) (k m : Nat) : difs a b k (m + 1) = (difs a b k m || dif a b m k) := by
  unfold difs
  rw [List.range_succ, List.any_append]
  simp
theorem difK_succ (a b : Nat → Nat) (k : Nat) : difK a b (k + 1) = (difK a b k || difs a b k k) := by
  unfold difK
  rw [List.range_succ, List.any_append]
  simp
theorem difK_false {a b : Nat → Nat} {n : Nat} : difK a b n = false ↔ ∀ k j, k < n → j < k → (a j = a k ↔ b j = b k) := by
  constructor
  · intro h k j hk hj
    have h1 : difs a b k k = false := by simpa using List.any_eq_false.1 h k (List.mem_range.2 hk)
    have h2 : dif a b j k = false := by simpa using List.any_eq_false.1 h1 j (List.mem_range.2 hj)
    simpa [dif] using h2
  · intro h
    refine List.any_eq_false.2 fun k hk => ?_
    simp only [Bool.not_eq_true]
    refine List.any_eq_false.2 fun j hj => ?_
    simp only [Bool.not_eq_true]
    have := h k j (List.mem_range.1 hk) (List.mem_range.1 hj)
    simpa [dif] using this
/-- How many pairs are told apart. -/
def apart (n : Nat) (cl : Nat → Nat) : Nat := ((List.range (n * n)).filter fun x => decide (cl (x / n) ≠ cl (x % n))).length
theorem apart_le (n : Nat) (cl : Nat → Nat) : apart n cl ≤ n * n := by
  have := List.length_filter_le (fun x => decide (cl (x / n) ≠ cl (x % n))) (List.range (n * n))
  simpa [apart] using this
theorem apart_more {n : Nat} {nx : Nat → Nat → Nat} {cl : Nat → Nat} {j k : Nat} (hj : j < n) (hk : k < n) (h0 : cl j = cl k) (h1 : refineC n nx cl j ≠ refineC n nx cl k) : apart n cl < apart n (refineC n nx cl) := by
  have hn : 0 < n := by omega
  have e1 : (k + n * j) / n = j := by rw [Nat.add_mul_div_left _ _ hn, Nat.div_eq_of_lt hk, Nat.zero_add]
  have e2 : (k + n * j) % n = k := by rw [Nat.add_mul_mod_self_left, Nat.mod_eq_of_lt hk]
  refine filter_lt (a := k + n * j) (by rw [e1, e2]; simpa using h0) (by rw [e1, e2]; simpa using h1) ?_ fun x hx h => ?_
  · rw [List.mem_range]
    have : n * j + n ≤ n * n := by
      have := Nat.mul_le_mul_left n (show j + 1 ≤ n by omega)
      rwa [Nat.mul_add, Nat.mul_one] at this
    omega
  · have hx := List.mem_range.1 hx
    have h2 : x / n < n := (Nat.div_lt_iff_lt_mul hn).2 hx
    have h3 : x % n < n := Nat.mod_lt _ hn
    simp only [decide_eq_true_eq] at h ⊢
    intro he
    exact h ((sameAt_iff nx).1 ((refine_eq h2 h3).1 he)).1
/-- A round in which the classes do not stay tells more pairs apart. -/
theorem apart_round {n : Nat} {nx : Nat → Nat → Nat} {en : Nat → Bool} (hnx : ∀ s c, s < n → c < 3 → nx s c < n) {i : Nat} (h : ¬ stays n nx en i) : apart n (clR n nx en i) < apart n (clR n nx en (i + 1)) := by
  have hp := stays_part hnx en i
  have hex : ∃ k j, k < n ∧ j < k ∧ ¬ (clR n nx en i j = clR n nx en i k ↔ clR n nx en (i + 1) j = clR n nx en (i + 1) k) := by
    apply Classical.byContradiction
    intro hc
    refine h (hp.2 fun k j hk hj => ?_)
    apply Classical.byContradiction
    intro hcx
    exact hc ⟨k, j, hk, hj, hcx⟩
  obtain ⟨k, j, hk, hj, hne⟩ := hex
  have hdown : clR n nx en (i + 1) j = clR n nx en (i + 1) k → clR n nx en i j = clR n nx en i k := fun he => ((sameAt_iff nx).1 ((refine_eq (by omega) hk).1 he)).1
  by_cases h0 : clR n nx en i j = clR n nx en i k
  · refine apart_more (j := j) (k := k) (by omega) hk h0 fun h1 => hne ⟨fun _ => h1, fun _ => h0⟩
  · exact absurd ⟨fun h1 => absurd h1 h0, fun h1 => absurd (hdown h1) h0⟩ hne
def apartW (w : World) (b n : Nat) : Nat := ((List.range (n * n)).filter fun x => decide (natAt w b (x / n) ≠ natAt w b (x % n))).length
theorem apartW_of {w : World} {b n : Nat} {cl : Nat → Nat} (h : ∀ s, s < n → w.cell? ⟨b, s, none⟩ = some (.int .i64 ((cl s : Nat) : Int))) : apartW w b n = apart n cl := by
  unfold apartW apart
  congr 1
  refine List.filter_congr fun x hx => ?_
  have hx := List.mem_range.1 hx
  have hn : 0 < n := by
    rcases Nat.eq_zero_or_pos n with e | e
    · rw [e] at hx
      simp at hx
    · exact e
  rw [natAt_of (h _ ((Nat.div_lt_iff_lt_mul hn).2 hx)), natAt_of (h _ (Nat.mod_lt _ hn))]
theorem snoc_set {l : List Value} {k : Nat} {x y : Value} (h : l.length = k) : (l ++ [x]).set k y = l ++ [y] := by
  rw [List.set_append_right _ _ (by omega), show k - l.length = 0 by omega]
  rfl
end Go.Proofs.Ytclhcfmlkfiidaa
