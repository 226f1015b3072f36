/-
  The walk over the program's guess: the automaton that the learner's table tells.
  Conditions: the language is a valid automaton; all words have letters below three and are at most 399999 long; the learner reads as such.
-/
import Derived.Test.YtclhcfmlkfiidaaLw
namespace Go.Proofs.Ytclhcfmlkfiidaa
open Go.RowKit

theorem one_str {x : ByteArray} : ∀ u ∈ [Value.string x], u.oneCell' = true := by
  intro u hu
  simp only [List.mem_singleton] at hu
  subst hu
  rfl
theorem one_i {k : IntKind} {x : Int} : ∀ u ∈ [Value.int k x], u.oneCell' = true := by
  intro u hu
  simp only [List.mem_singleton] at hu
  subst hu
  rfl
theorem one_sl {a : Option Addr} {l c : Nat} : ∀ u ∈ [Value.slice a l c], u.oneCell' = true := by
  intro u hu
  simp only [List.mem_singleton] at hu
  subst hu
  rfl
theorem one_bl {x : Bool} : ∀ u ∈ [Value.bool x], u.oneCell' = true := by
  intro u hu
  simp only [List.mem_singleton] at hu
  subst hu
  rfl
theorem boolC_snoc (l : List Bool) (x : Bool) : boolCells (l ++ [x]) = boolCells l ++ [.bool x] := by simp [boolCells]
theorem intC_snoc (l : List Int) (x : Int) : intCells (l ++ [x]) = intCells l ++ [.int .i64 x] := by simp [intCells]
/-- A row of the guess. -/
def gRow (d : DfaD) (st re : List (List Nat)) (s : List Nat) : List Int := (List.range 3).map fun c => findB (st.map (rowW d re)) (rowW d re (s ++ [c]))
theorem gRow_len (d : DfaD) (st re : List (List Nat)) (s : List Nat) : (gRow d st re s).length = 3 := by simp [gRow]
theorem gRow_take {d : DfaD} {st re : List (List Nat)} {s : List Nat} {c : Nat} (hc : c < 3) : (gRow d st re s).take (c + 1) = (gRow d st re s).take c ++ [findB (st.map (rowW d re)) (rowW d re (s ++ [c]))] := by
  rw [List.take_succ_eq_append_getElem (by rw [gRow_len]; exact hc)]
  simp [gRow]
theorem guess_take {d : DfaD} {st re : List (List Nat)} {k : Nat} (hk : k < st.length) : (guessW d st re).next.take (k + 1) = (guessW d st re).next.take k ++ [gRow d st re (st.getD k [])] ∧ (guessW d st re).ends.take (k + 1) = (guessW d st re).ends.take k ++ [accD d (st.getD k [])] := by
  have h1 := guess_len d st re
  constructor
  · rw [List.take_succ_eq_append_getElem (by omega)]
    simp [guessW, gRow, hk]
  · rw [List.take_succ_eq_append_getElem (by omega)]
    simp [guessW, hk]
/-- What it hands back. -/
def RGuess (D : DfaD) (n : Nat) (w : World) (e : Ending) (w' : World) : Prop := ∃ a1 c1 a2 c2 vs, e = .returned (.agg #[.slice a1 n c1, .slice a2 n c2]) ∧
  St w w' [Ent.rows 44 3 (.slice a1 n c1) vs (D.next.map intCells), Ent.row 4 1 (.slice a2 n c2) n (boolCells D.ends)]

set_option maxRecDepth 100000 in
set_option maxHeartbeats 4000000 in
theorem lguess_any (d : DfaD) (st re : List (List Nat)) (b : Nat) (vn ve vs vr : Value) (w : World) (hd : dfaOk d.next d.ends = true) (hst : ∀ x ∈ st, isW x ∧ x.length ≤ 399999) (hsl : st.length ≤ 100000) (hre : okWs re) (hrl : re.length ≤ 100000) (h : LMem w b vn ve vs vr d st re) :
    Calls Try.prog 91 #[.pointer (some ⟨b, 0, none⟩)] w fun e w' => RGuess (guessW d st re) st.length w e w' := by
  have hst' : okWs st := fun x hx => ⟨(hst x hx).1, by have := (hst x hx).2; omega⟩
  obtain ⟨av, cv, rfl, hc1, hm1, hr1⟩ := h.st.form
  have HL := Lib.hid h
  have hbl := h.box.lt
  have c0 := h.box.cell 0
  have c1 := h.box.cell 1
  have c2 := h.box.cell 2
  simp only [List.getElem?_toArray, List.getElem?_cons_zero, List.getElem?_cons_succ] at c0 c1 c2
  obtain ⟨n, hn⟩ : ∃ n, n = st.length := ⟨_, rfl⟩
  obtain ⟨G, hG⟩ : ∃ G, G = guessW d st re := ⟨_, rfl⟩
  have hgt := fun (k : Nat) (hk : k < st.length) => guess_take (d := d) (re := re) hk
  have hgl := guess_len d st re
  rw [← hG] at hgt hgl
  rw [← hn] at hgt hgl hc1 hr1 c2 hsl
  rw [← hG, ← hn]
  have hS := (((St.start w).alloc _ rfl #[.slice none 0 0, .slice none 0 0] 32).alloc (w.heap.size + 1) (by simp) #[.slice none 0 0, .slice none 0 0] 32)
  have hS0 := (((hS.nilRow 44 1).norows 2 rfl 3).nilRow 4 1)
  obtain ⟨i0, hi, hz0, hz1, hz2⟩ := info_parts Try.infoInt
  obtain ⟨j0, hj, hy0, hy1, hy2⟩ := info_parts Try.infoInts
  obtain ⟨k0, hk', hx0, hx1, hx2⟩ := info_parts Try.infoBool
  have d2 := (bcell hS.bel b 2 hbl).trans c2
  have Hhst := Lib.hid hst; clear hst
  have Hhst' := Lib.hid hst'; clear hst'
  have Hhre := Lib.hid hre; clear hre
  have Hhd := Lib.hid hd; clear hd
  have Hhr1 := Lib.hid hr1; clear hr1
  have Hhn := Lib.hid hn; clear hn
  have HhG := Lib.hid hG; clear hG
  have Hhgt := Lib.hid hgt; clear hgt
  have Hhgl := Lib.hid hgl; clear hgl
  have HhS0 := Lib.hid hS0; clear hS0
  have Hhi := Lib.hid hi; clear hi
  have Hhz0 := Lib.hid hz0; clear hz0
  have Hhz1 := Lib.hid hz1; clear hz1
  have Hhz2 := Lib.hid hz2; clear hz2
  have Hhj := Lib.hid hj; clear hj
  have Hhy0 := Lib.hid hy0; clear hy0
  have Hhy1 := Lib.hid hy1; clear hy1
  have Hhy2 := Lib.hid hy2; clear hy2
  have Hhk' := Lib.hid hk'; clear hk'
  have Hhx0 := Lib.hid hx0; clear hx0
  have Hhx1 := Lib.hid hx1; clear hx1
  have Hhx2 := Lib.hid hx2; clear hx2
  clear h hS
  go_enter Try.func91, Try.ntmps91
  go_wp2
  clear d2
  go_loopw [13] (fun i wr => ∃ (k c1 c2 : Nat) (a1 a2 : Option Addr) (vs1 : List Value), i = .int .i64 k ∧ k ≤ n ∧ St w wr [Ent.box w.heap.size #[.slice none 0 0, .slice none 0 0] 32, Ent.box (w.heap.size + 1) #[.slice a1 k c1, .slice a2 k c2] 32,
      Ent.rows 44 3 (.slice a1 k c1) vs1 ((G.next.take k).map intCells), Ent.row 4 1 (.slice a2 k c2) k (boolCells (G.ends.take k))])
    (fun i _ => n - (intOf i).toNat)
  case atStart => exact ⟨0, 0, 0, none, none, [], rfl, Nat.zero_le _, HhS0.out⟩
  case round =>
    obtain ⟨k, c1', c2', a1, a2, vs1, rfl, hk, hS⟩ := hrel
    obtain ⟨wo, hwo⟩ : ∃ wo : World, wo = wr := ⟨_, rfl⟩
    subst hwo
    by_cases hlt : k < n
    · obtain ⟨b1, o1, rfl, hb1, hc⟩ := Hhr1.out (by omega)
      have k1 := (bcell hS.bel b1 _ hb1).trans (hc k hlt)
      have hks : k < st.length := by rw [← Hhn.out]; exact hlt
      have hsk := Hhst.out _ (memD (d := []) hks)
      obtain ⟨gt1, gt2⟩ := Hhgt.out k hlt
      obtain ⟨s, hs⟩ : ∃ s, s = st.getD k [] := ⟨_, rfl⟩
      rw [← hs] at k1 hsk gt1 gt2
      obtain ⟨R, hR⟩ : ∃ R, R = gRow d st re s := ⟨_, rfl⟩
      rw [← hR] at gt1
      have hRl : R.length = 3 := by rw [hR]; exact gRow_len _ _ _ _
      have hkn : (k : Int) < n := by omega
      have hSn := hS.nilRow 3 1
      have HhS := Lib.hid hS; clear hS
      have HhSn := Lib.hid hSn; clear hSn
      have Hhs := Lib.hid hs; clear hs
      have Hhsk := Lib.hid hsk; clear hsk
      have Hgt1 := Lib.hid gt1; clear gt1
      have Hgt2 := Lib.hid gt2; clear gt2
      have HhR := Lib.hid hR; clear hR
      have HhRl := Lib.hid hRl; clear hRl
      clear hc
      go_wp2
      go_loopw [6, 17] (fun rv i wi => ∃ (c c3 : Nat) (a3 : Option Addr), i = .int .i64 c ∧ rv = .slice a3 c c3 ∧ c ≤ 3 ∧ St w wi [Ent.box w.heap.size #[.slice none 0 0, .slice none 0 0] 32, Ent.box (w.heap.size + 1) #[.slice a1 k c1', .slice a2 k c2'] 32,
          Ent.rows 44 3 (.slice a1 k c1') vs1 ((G.next.take k).map intCells), Ent.row 4 1 (.slice a2 k c2') k (boolCells (G.ends.take k)), Ent.row 3 1 (.slice a3 c c3) c (intCells (R.take c))])
        (fun _ i _ => 3 - (intOf i).toNat)
      case atStart => exact ⟨0, 0, none, rfl, rfl, by omega, HhSn.out⟩
      case round =>
        obtain ⟨c, c3, a3, rfl, rfl, hc3, hSi⟩ := hrel
        clear k1
        by_cases hc : c < 3
        · obtain ⟨hadd, hnlt⟩ := add_words s [c] (by have := Hhsk.out.2; omega) (by simp)
          have hcI : (c : Int) < 3 := by omega
          have hsc := fun (w' : World) (hb : Below w.heap.size w w') => startOf_any d st re (s ++ [c]) b vn ve (.slice (some ⟨b1, o1, none⟩) st.length cv) vr w' Hhd.out Hhst'.out (by rw [← Hhn.out]; exact hsl) Hhre.out hrl (isW_append Hhsk.out.1 (isW_one hc)) (by rw [List.length_append]; have := Hhsk.out.2; simp; omega) (HL.out.below hb)
          have hgt := gRow_take (d := d) (st := st) (re := re) (s := s) hc
          rw [← HhR.out] at hgt
          obtain ⟨p, hp⟩ : ∃ p, p = findB (st.map (rowW d re)) (rowW d re (s ++ [c])) := ⟨_, rfl⟩
          rw [← hp] at hsc hgt
          have Hsc := Lib.hid hsc
          have Hhp := Lib.hid hp; clear hp
          have Hhgt := Lib.hid hgt; clear hgt
          have HhSi := Lib.hid hSi; clear hSi
          clear hsc
          go_wp2_with fail
          refine (letterText_any c hc _).mono ?_
          rintro e w' ⟨rfl, rfl⟩
          go_wp2_with fail
          refine (Hsc.out _ HhSi.out.bel).mono ?_
          rintro e w2 ⟨rfl, hb2⟩
          have hSa := (HhSi.out.call hb2).alloc_ (.cells #[.int .i64 p] 3)
          have hRw := hSa.row 4 rfl
          have HhSa := Lib.hid hSa; clear hSa
          have HhRw := Lib.hid hRw; clear hRw
          clear hb2
          go_wp2_with (at_builtin; refine wpList_append_lies _ rfl _ _ _ rfl _ 3 i0 (.int .i64 0) 1 8 Try.underlying44 Hhi.out Hhz0.out Hhz1.out Hhz2.out rfl (by omega) _ c _ rfl HhRw.out ⟨w2.heap.size, 0, none⟩ 1 1 [.int .i64 p] rfl rfl (World.news_of_block (heap_alloc_new w2 _)) one_i (by omega) (by unfold maxLen; omega) (by omega) HhSa.out.size _ rfl ?_; intro g6 c6 w6 hown6 hgrow6 hat6 hlt6; have HS6 := Lib.hid (HhSa.out.app 4 rfl hown6 hgrow6 hat6); clear hown6 hgrow6 hat6 hlt6)
          go_roundw
          case rel =>
            refine ⟨c + 1, c6, some ⟨g6, 0, none⟩, by go_num, rfl, by omega, ?_⟩
            rw [Hhgt.out, intC_snoc]
            exact HS6.out
          case measure => simp [intOf]; omega
        · obtain rfl : c = 3 := by omega
          have hR3 : R.take 3 = R := List.take_of_length_le (by rw [HhRl.out]; exact Nat.le_refl _)
          rw [hR3] at hSi
          have hlm : ((G.next.take k).map intCells).length = k := by rw [List.length_map, List.length_take]; have := Hhgl.out.1; omega
          have hSa := hSi.alloc_ (.cells #[.slice a3 3 c3] 44)
          have hRw := (hSa.rows 2 rfl).1
          rw [hlm] at hRw
          have e0 := hSi.cell (v := .slice a1 k c1') 1 0 rfl rfl
          have HhR3 := Lib.hid hR3; clear hR3
          have Hhlm := Lib.hid hlm; clear hlm
          have HhSi := Lib.hid hSi; clear hSi
          have HhSa := Lib.hid hSa; clear hSa
          have HhRw := Lib.hid hRw; clear hRw
          go_wp2_with (at_builtin; refine wpList_append_lies _ rfl _ _ _ rfl _ 44 j0 (.slice none 0 0) 1 24 Try.underlying22 Hhj.out Hhy0.out Hhy1.out Hhy2.out rfl (by omega) _ k _ rfl HhRw.out ⟨wr.heap.size, 0, none⟩ 1 1 [.slice a3 3 c3] rfl rfl (World.news_of_block (heap_alloc_new wr _)) one_sl (by omega) (by unfold maxLen; omega) (by omega) HhSa.out.size _ rfl ?_; intro g6 c6 w6 hown6 hgrow6 hat6 hlt6; have HS6 := Lib.hid (HhSa.out.snoc 2 4 (by decide) rfl rfl (by decide) hgrow6 (by rw [Hhlm.out]; exact hown6) (hat_of hat6)); have y1 := HS6.out.cell (v := .slice a1 k c1') 1 0 rfl rfl; have y2 := HS6.out.fr 1 0 rfl; clear hown6 hgrow6 hat6 hlt6)
          have hSq := (HS6.out.set 1 rfl 0 (.slice (some ⟨g6, 0, none⟩) (k + 1) c6)).pick [0, 1, 2, 3] (by decide)
          obtain ⟨wq, hwq⟩ : ∃ wq, wq = w6.setCell ⟨w.heap.size + 1, 0, none⟩ (.slice (some ⟨g6, 0, none⟩) (k + 1) c6) := ⟨_, rfl⟩
          rw [← hwq] at hSq
          have hSq' : St w wq [Ent.box w.heap.size #[.slice none 0 0, .slice none 0 0] 32, Ent.box (w.heap.size + 1) #[.slice (some ⟨g6, 0, none⟩) (k + 1) c6, .slice a2 k c2'] 32,
              Ent.rows 44 3 (.slice (some ⟨g6, 0, none⟩) (k + 1) c6) (vs1 ++ [.slice a3 3 c3]) ((G.next.take (k + 1)).map intCells), Ent.row 4 1 (.slice a2 k c2') k (boolCells (G.ends.take k))] := by
            rw [Hgt1.out, List.map_append]
            exact hSq
          rw [← hwq]
          obtain ⟨r, hr⟩ : ∃ r, r = accD d s := ⟨_, rfl⟩
          have hacc := fun (w' : World) (hb : Below w.heap.size w w') => accepts_any d s (.agg #[vn, ve]) w' Hhd.out Hhsk.out.1 (by have := Hhsk.out.2; omega) (HL.out.lang.below hb)
          rw [← hr] at hacc
          have hbq : Below w.heap.size w wq.drew := hSq'.bel.drew
          have q0 := (bcell hSq'.bel b 0 hbl).trans c0
          have q1 := (bcell hSq'.bel b 1 hbl).trans c1
          have q2 := hSq'.cell (v := .slice a2 k c2') 1 1 rfl rfl
          have Hacc := Lib.hid hacc
          have HSq := Lib.hid hSq'
          have Hhwq := Lib.hid hwq; clear hwq
          have Hhr := Lib.hid hr; clear hr
          have Hhbq := Lib.hid hbq; clear hbq
          clear hacc hSq hSq' y1 y2 e0 HS6
          go_region_law (first
              | (go_simp; go_at_call 116; refine (Hacc.out _ Hhbq.out).mono ?_; rintro e u ⟨rfl, hq0⟩; have HSu := Lib.hid ((HSq.out.drew).call hq0); have z1 := HSu.out.cell (v := .slice a2 k c2') 1 1 rfl rfl; have HSa := Lib.hid (HSu.out.alloc_ (.cells #[.bool r] 4)); have z2 := HSa.out.cell (v := .slice a2 k c2') 1 1 rfl rfl; clear hq0)
              | (refine step_append_lies _ (by rfl) _ _ _ (by rfl) w.heap.size 4 k0 (.bool false) 1 1 Try.underlying23 Hhk'.out Hhx0.out Hhx1.out Hhx2.out (by rfl) (by omega) (.slice a2 k c2') k (boolCells (G.ends.take k)) (by rfl) (HSa.out.row 3 rfl) ⟨u.heap.size, 0, none⟩ 1 1 [.bool r] (by rfl) (by rfl) (World.news_of_block (heap_alloc_new u _)) one_bl (by omega) (by unfold maxLen; omega) (by omega) HSa.out.size (u.heap.size + 1) (by simp) ?_; intro g7 c7 w7 hown7 hgrow7 hat7 hlt7; have HS7 := Lib.hid (HSa.out.app 3 rfl hown7 hgrow7 (by rw [World.size_alloc]; exact hat7)); have y1 := HS7.out.cell (v := .slice a2 k c2') 1 1 rfl rfl; have y2 := HS7.out.fr 1 1 rfl; clear hown7 hgrow7 hat7))
          all_goals
            go_wp2
            go_roundw
            case rel =>
              refine ⟨k + 1, c6, c7, some ⟨g6, 0, none⟩, some ⟨g7, 0, none⟩, vs1 ++ [.slice a3 3 c3], by go_num, by omega, ?_⟩
              rw [Hgt2.out, boolC_snoc, ← Hhr.out]
              exact HS7.out.set 1 rfl 1 (.slice (some ⟨g7, 0, none⟩) (k + 1) c7)
            case measure => simp [intOf]; omega
    · obtain rfl : k = n := by omega
      have hn1 : G.next.take k = G.next := List.take_of_length_le (by rw [Hhgl.out.1]; exact Nat.le_refl _)
      have hn2 : G.ends.take k = G.ends := List.take_of_length_le (by rw [Hhgl.out.2]; exact Nat.le_refl _)
      rw [hn1, hn2] at hS
      have d0 := hS.cell (v := .slice a1 k c1') 1 0 rfl rfl
      have d1 := hS.cell (v := .slice a2 k c2') 1 1 rfl rfl
      have f0 := hS.fr 0 0 rfl
      have f1 := hS.fr 0 1 rfl
      have k0 := hS.cell (v := .slice none 0 0) 0 0 rfl rfl
      have k1 := hS.cell (v := .slice none 0 0) 0 1 rfl rfl
      have HhS := Lib.hid hS; clear hS
      clear hn1 hn2
      go_wp2
      have hq := (HhS.out.set 0 rfl 0 (.slice a1 k c1')).set 0 rfl 1 (.slice a2 k c2')
      have q0 := hq.cell (v := .slice a1 k c1') 0 0 rfl rfl
      have q1 := hq.cell (v := .slice a2 k c2') 0 1 rfl rfl
      refine bodyPost_ret (v := .agg #[.slice a1 k c1', .slice a2 k c2']) (by simp [results, Try.results91, go_sem, q0, q1]) rfl ?_
      exact ⟨a1, c1', a2, c2', vs1, rfl, hq.pick [2, 3] (by decide)⟩
end Go.Proofs.Ytclhcfmlkfiidaa
