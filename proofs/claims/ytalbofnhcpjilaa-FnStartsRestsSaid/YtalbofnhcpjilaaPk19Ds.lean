/-
  The walk over the reference's l10Small.
  Condition: the automaton is valid and reads as such.
-/
import Derived.Test.YtalbofnhcpjilaaPk16Cs
import Derived.Test.YtalbofnhcpjilaaPk18Dt
namespace Go.Proofs.Ytalbofnhcpjilaa
open Go.RowKit
set_option maxRecDepth 100000 in
set_option maxHeartbeats 8000000 in
theorem l10Small_any (d : DfaD) (v : Value) (w : World) (hd : dfaOk d.next d.ends = true) (h : DfaR 0 w v d) :
  Calls Try.prog 66 #[v] w fun e w' => RD (smallD d) w e w' := by
 have HR := Lib.hid h
 obtain ⟨v1, v2, rfl, -, -⟩ := h
 obtain ⟨X, hX⟩ : ∃ X, X = trimD d := ⟨_, rfl⟩
 have hXo := (trim_ok hd).1
 rw [← hX] at hXo
 have hsm : smallD d = trimD (foldD X) := by unfold smallD; rw [hX]
 rw [hsm]
 have hfo := fold_ok hXo
 have hS0 := ((St.start w).alloc _ rfl #[v1, v2] 27).alloc (w.heap.size + 1) (by simp) #[.slice none 0 0, .slice none 0 0] 27
 obtain ⟨i0, hi, hz0, hz1, hz2⟩ := info_parts Try.infoBool
 obtain ⟨j0, hj, hy0, hy1, hy2⟩ := info_parts Try.infoInt
 obtain ⟨k0, hk, hx0, hx1, hx2⟩ := info_parts Try.infoInts
 obtain ⟨fr, hfr⟩ : ∃ fr : Nat → List Int, fr = fun k => (List.range 3).map fun c => ((clD X (nxD X k c) : Nat) : Int) := ⟨_, rfl⟩
 have hfd : foldD X = ⟨(List.range X.next.length).map fr, X.ends⟩ := by unfold foldD; rw [hfr]
 have hfT : ∀ k c, c < 3 → (fr k).take (c + 1) = (fr k).take c ++ [((clD X (nxD X k c) : Nat) : Int)] := fun k c hc => by
  rw [hfr, List.take_succ_eq_append_getElem (by simp; omega)]
  simp
 have hf3 : ∀ k, (fr k).take 3 = fr k := fun k => List.take_of_length_le (by rw [hfr]; simp)
 have HfT := Lib.hid hfT
 have Hf3 := Lib.hid hf3
 have Hhd := Lib.hid hd; clear hd
 have HhX := Lib.hid hX; clear hX
 have Hhsm := Lib.hid hsm; clear hsm
 have Hhfo := Lib.hid hfo; clear hfo
 have Hhfr := Lib.hid hfr; clear hfr
 have Hhfd := Lib.hid hfd; clear hfd
 have HhS0 := Lib.hid hS0; clear hS0
 have Hhi := Lib.hid hi; clear hi
 have Hhz0 := Lib.hid hz0; clear hz0
 have Hhz1 := Lib.hid hz1; clear hz1
 have Hhz2 := Lib.hid hz2; clear hz2
 have Hhj := Lib.hid hj; clear hj
 have Hhy0 := Lib.hid hy0; clear hy0
 have Hhy1 := Lib.hid hy1; clear hy1
 have Hhy2 := Lib.hid hy2; clear hy2
 have Hhk := Lib.hid hk; clear hk
 have Hhx0 := Lib.hid hx0; clear hx0
 have Hhx1 := Lib.hid hx1; clear hx1
 have Hhx2 := Lib.hid hx2; clear hx2
 clear hfT hf3
 go_enter Try.func66, Try.ntmps66
 have e0 := HhS0.out.cell (v := v1) 0 0 rfl rfl
 have e1 := HhS0.out.cell (v := v2) 0 1 rfl rfl
 go_wp2_with fail
 refine (specTrim_any d _ _ Hhd.out (HR.out.below HhS0.out.bel)).mono ?_
 rintro e w1 ⟨a1, c1, a2, c2, rfl, hDR, hb1⟩
 replace hDR := hDR.mono (Nat.zero_le _)
 rw [← HhX.out] at hDR
 rw [← HhX.out]
 obtain ⟨b1, o1, cv, b2, o2, cw, hv, hC⟩ := dfa_open hXo hDR
 rw [hv] at hDR
 rw [hv]
 have hSr := HhS0.out.call hb1
 obtain ⟨L, hL⟩ : ∃ L, L = X.next.length := ⟨_, rfl⟩
 have hl1 := hC.l1
 have hl2 := hC.l2
 rw [← hL] at hDR hl1 hl2
 rw [← hL]
 have hS1 := (St.start w1).alloc _ rfl #[.slice (some ⟨b1, o1, none⟩) L cv, .slice (some ⟨b2, o2, none⟩) L cw] 27
 have HDR := Lib.hid hDR
 have HC := Lib.hid hC
 have HSr := Lib.hid hSr
 have HS1 := Lib.hid hS1
 have HhL := Lib.hid hL; clear hL
 have HhXo := Lib.hid hXo; clear hXo
 have d0 := hS1.cell (v := .slice (some ⟨b1, o1, none⟩) L cv) 0 0 rfl rfl
 have d1 := hS1.cell (v := .slice (some ⟨b2, o2, none⟩) L cw) 0 1 rfl rfl
 clear hSr hS1 hDR hC hv hb1 e0 e1
 go_wp2_with fail
 refine (l10Classes_any X _ _ HhXo.out (HDR.out.below HS1.out.bel)).mono ?_
 unfold RCl
 rw [← HhL.out]
 rintro e w2 ⟨g, cg, rfl, hS'⟩
 have hS2 := HS1.out.cat hS'
 have hS3 := (((hS2.alloc _ rfl #[.slice none 0 0, .slice none 0 0] 27).nilRow 48 1).norows 3 rfl 3).nilRow 4 1
 have HS3 := Lib.hid hS3
 clear hS2 hS3 hS' d0 d1
 go_wp2
 go_loopw [6] (fun i wr => ∃ (k : Nat) (a1 a2 : Option Addr) (c1 c2 : Nat) (vs : List Value), i = .int .i64 k ∧ k ≤ L ∧
   St w1 wr [Ent.box w1.heap.size #[.slice (some ⟨b1, o1, none⟩) L cv, .slice (some ⟨b2, o2, none⟩) L cw] 27, Ent.row 3 1 (.slice (some ⟨g, 0, none⟩) L cg) L (intCells (clsL L (clD X))), Ent.box w2.heap.size #[.slice a1 k c1, .slice a2 k c2] 27,
    Ent.rows 48 3 (.slice a1 k c1) vs (((List.range k).map fr).map intCells), Ent.row 4 1 (.slice a2 k c2) k (boolCells (X.ends.take k))])
  (fun i _ => L - (intOf i).toNat)
 case atStart => exact ⟨0, none, none, 0, 0, [], rfl, Nat.zero_le _, HS3.out⟩
 case round =>
  obtain ⟨k, a1, a2, c1, c2, vs, rfl, hk, hS⟩ := hrel
  have d0 := hS.cell (v := .slice (some ⟨b1, o1, none⟩) L cv) 0 0 rfl rfl
  by_cases hlt : k < L
  ·have hlt2 : (k : Int) < L := by omega
   have hkn : k < X.next.length := by have := HhL.out; omega
   obtain ⟨b3, o3, c3, hb3, hc3, hc3', hks, hcs3⟩ := HC.out.row k hkn
   have hen := HC.out.en k hkn
   have hSe := (hS.alloc _ rfl #[] 3).boxrow 5 0 1 [] rfl rfl (Nat.zero_le _)
   have htk1 := rangeF_snoc fr k
   have htk2 : X.ends.take (k + 1) = X.ends.take k ++ [enD X k] := by
    rw [List.take_succ_eq_append_getElem (by have := HC.out.le; omega)]
    simp [enD, show k < X.ends.length by have := HC.out.le; omega]
   have Hcs3 := Lib.hid hcs3
   have Hen := Lib.hid hen
   have HhS := Lib.hid hS; clear hS
   have Hhks := Lib.hid hks; clear hks
   have HhSe := Lib.hid hSe; clear hSe
   have Hhtk1 := Lib.hid htk1; clear htk1
   have Hhtk2 := Lib.hid htk2; clear htk2
   clear hcs3 hen
   go_wp2
   go_loopw [7, 8] (fun rv i wi => ∃ (n : Nat) (b4 c4 : Nat), i = .int .i64 n ∧ rv = .slice (some ⟨b4, 0, none⟩) n c4 ∧ n ≤ 3 ∧
     St w1 wi [Ent.box w1.heap.size #[.slice (some ⟨b1, o1, none⟩) L cv, .slice (some ⟨b2, o2, none⟩) L cw] 27, Ent.row 3 1 (.slice (some ⟨g, 0, none⟩) L cg) L (intCells (clsL L (clD X))), Ent.box w2.heap.size #[.slice a1 k c1, .slice a2 k c2] 27,
      Ent.rows 48 3 (.slice a1 k c1) vs (((List.range k).map fr).map intCells), Ent.row 4 1 (.slice a2 k c2) k (boolCells (X.ends.take k)),
      Ent.row 3 1 (.slice (some ⟨b4, 0, none⟩) n c4) n (intCells ((fr k).take n))])
    (fun _ i _ => 3 - (intOf i).toNat)
   case atStart => exact ⟨0, _, _, rfl, rfl, by omega, HhSe.out⟩
   case round =>
    obtain ⟨n, b4, c4, rfl, rfl, hn3, hSi⟩ := hrel
    obtain ⟨wo, hwo⟩ : ∃ wo : World, wo = wr := ⟨_, rfl⟩
    subst hwo
    by_cases hn : n < 3
    ·have hn2 : (n : Int) < 3 := by omega
     have e0 := hSi.cell (v := .slice (some ⟨b1, o1, none⟩) L cv) 0 0 rfl rfl
     have e2 := (bcell hSi.bel b1 _ HC.out.hb1).trans Hhks.out
     have e3 := (bcell hSi.bel b3 _ hb3).trans (Hcs3.out n hn)
     have hyl := HC.out.lt k n hkn hn
     rw [← HhL.out] at hyl
     have hT := HfT.out k n hn
     obtain ⟨y, hy⟩ : ∃ y, y = nxD X k n := ⟨_, rfl⟩
     rw [← hy] at e3 hyl hT
     have e4 := hSi.rcell (v := .int .i64 ((clD X y : Nat) : Int)) 1 y rfl (by omega) (clsL_cell (clD X) hyl)
     obtain ⟨z, hz⟩ : ∃ z, z = clD X y := ⟨_, rfl⟩
     rw [← hz] at e4 hT
     have hyI : (y : Int) < L := by omega
     have hSa := hSi.alloc_ (.cells #[.int .i64 ((z : Nat) : Int)] 3)
     have hR := hSa.row 5 rfl
     have HhSi := Lib.hid hSi; clear hSi
     have HhSa := Lib.hid hSa; clear hSa
     have HhR := Lib.hid hR; clear hR
     have Hhy := Lib.hid hy; clear hy
     have Hhz := Lib.hid hz; clear hz
     have HhT := Lib.hid hT; clear hT
     go_wp2_with (at_builtin; refine wpList_append_lies _ rfl _ _ _ rfl _ 3 j0 (.int .i64 0) 1 8 Try.underlying48 Hhj.out Hhy0.out Hhy1.out Hhy2.out rfl (by omega) _ n _ rfl HhR.out ⟨wo.heap.size, 0, none⟩ 1 1 [.int .i64 ((z : Nat) : Int)] rfl rfl (World.news_of_block (heap_alloc_new wo _)) one_int (by omega) (by unfold maxLen; omega) (by omega) HhSa.out.size _ rfl ?_; intro g7 c7 w7 hown7 hgrow7 hat7 hlt7; have HS7 := Lib.hid (HhSa.out.app 5 rfl hown7 hgrow7 hat7); clear hown7 hgrow7 hat7 hlt7)
     go_roundw
     case rel =>
      refine ⟨n + 1, g7, c7, by go_num, rfl, by omega, ?_⟩
      rw [HhT.out, intCells_snoc]
      exact HS7.out
     case measure => simp [intOf]; omega
    ·obtain rfl : n = 3 := by omega
     rw [Hf3.out] at hSi
     have hlm : (((List.range k).map fr).map intCells).length = k := by simp
     have hSa := hSi.alloc_ (.cells #[.slice (some ⟨b4, 0, none⟩) 3 c4] 48)
     have hRw := (hSa.rows 3 rfl).1
     rw [hlm] at hRw
     have e0 := hSi.cell (v := .slice a1 k c1) 2 0 rfl rfl
     have Hhlm := Lib.hid hlm; clear hlm
     have HhSi := Lib.hid hSi; clear hSi
     have HhSa := Lib.hid hSa; clear hSa
     have HhRw := Lib.hid hRw; clear hRw
     go_wp2_with (at_builtin; refine wpList_append_lies _ rfl _ _ _ rfl _ 48 k0 (.slice none 0 0) 1 24 Try.underlying24 Hhk.out Hhx0.out Hhx1.out Hhx2.out rfl (by omega) _ k _ rfl HhRw.out ⟨wo.heap.size, 0, none⟩ 1 1 [.slice (some ⟨b4, 0, none⟩) 3 c4] rfl rfl (World.news_of_block (heap_alloc_new wo _)) one_slice (by omega) (by unfold maxLen; omega) (by omega) HhSa.out.size _ rfl ?_; intro g6 c6 w6 hown6 hgrow6 hat6 hlt6; have HS6 := Lib.hid (HhSa.out.snoc 3 5 (by decide) rfl rfl (by decide) hgrow6 (by rw [Hhlm.out]; exact hown6) (hat_of hat6)); have y1 := HS6.out.cell (v := .slice a1 k c1) 2 0 rfl rfl; have y2 := HS6.out.fr 2 0 rfl; clear hown6 hgrow6 hat6 hlt6)
     have hSq := (HS6.out.set 2 rfl 0 (.slice (some ⟨g6, 0, none⟩) (k + 1) c6)).pick [0, 1, 2, 3, 4] (by decide)
     obtain ⟨wq, hwq⟩ : ∃ wq, wq = w6.setCell ⟨w2.heap.size, 0, none⟩ (.slice (some ⟨g6, 0, none⟩) (k + 1) c6) := ⟨_, rfl⟩
     rw [← hwq] at hSq
     have hSq' : St w1 wq [Ent.box w1.heap.size #[.slice (some ⟨b1, o1, none⟩) L cv, .slice (some ⟨b2, o2, none⟩) L cw] 27, Ent.row 3 1 (.slice (some ⟨g, 0, none⟩) L cg) L (intCells (clsL L (clD X))), Ent.box w2.heap.size #[.slice (some ⟨g6, 0, none⟩) (k + 1) c6, .slice a2 k c2] 27,
       Ent.rows 48 3 (.slice (some ⟨g6, 0, none⟩) (k + 1) c6) (vs ++ [.slice (some ⟨b4, 0, none⟩) 3 c4]) (((List.range (k + 1)).map fr).map intCells), Ent.row 4 1 (.slice a2 k c2) k (boolCells (X.ends.take k))] := by
      rw [Hhtk1.out, List.map_append]
      exact hSq
     rw [← hwq]
     obtain ⟨r, hr⟩ : ∃ r, r = enD X k := ⟨_, rfl⟩
     have hr2 : w1.cell? ⟨b2, o2 + k, none⟩ = some (.bool r) := by rw [hr]; exact Hen.out
     have HSq := Lib.hid hSq'
     have Hhwq := Lib.hid hwq; clear hwq
     have Hhr := Lib.hid hr; clear hr
     have Hhr2 := Lib.hid hr2; clear hr2
     clear hSq hSq' y1 y2 e0 HS6
     refine wp_region_any (by kernel_rfl) ?_
     refine wpAny_invA (fun A listed a w' => ∃ (l0 l1 l2 l3 l4 l5 l6 l7 l8 l9 l10 : Bool) (g7 : Nat) (c7 : Nat) (bn : Nat), listed = #[l0, l1, l2, l3, l4, l5, l6, l7, l8, l9, l10] ∧ (l8 = true → l1 = true ∧ l7 = true) ∧ (l10 = true → l8 = true ∧ l1 = true) ∧
       a = ⟨((((((((((A.tmps.setIfInBounds 46 (if l0 = true then .pointer (some ⟨w2.heap.size, 1, none⟩) else A.tmps.getD 46 undef)).setIfInBounds 47 (if l1 = true then .slice a2 k c2 else A.tmps.getD 47 undef)).setIfInBounds 48 (if l2 = true then .pointer (some ⟨w1.heap.size, 1, none⟩) else A.tmps.getD 48 undef)).setIfInBounds 49 (if l3 = true then .slice (some ⟨b2, o2, none⟩) L cw else A.tmps.getD 49 undef)).setIfInBounds 50 (if l4 = true then .int .i64 (k : Int) else A.tmps.getD 50 undef)).setIfInBounds 51 (if l5 = true then .pointer (some ⟨b2, o2 + k, none⟩) else A.tmps.getD 51 undef)).setIfInBounds 52 (if l6 = true then .bool r else A.tmps.getD 52 undef)).setIfInBounds 53 (if l7 = true then .slice (some ⟨bn, 0, none⟩) 1 1 else A.tmps.getD 53 undef)).setIfInBounds 54 (if l8 = true then .slice (some ⟨g7, 0, none⟩) (k + 1) c7 else A.tmps.getD 54 undef)).setIfInBounds 55 (if l9 = true then .pointer (some ⟨w2.heap.size, 1, none⟩) else A.tmps.getD 55 undef)), A.defers⟩ ∧
       St w1 w' [Ent.box w1.heap.size #[.slice (some ⟨b1, o1, none⟩) L cv, .slice (some ⟨b2, o2, none⟩) L cw] 27, Ent.row 3 1 (.slice (some ⟨g, 0, none⟩) L cg) L (intCells (clsL L (clD X))), Ent.box w2.heap.size #[.slice (some ⟨g6, 0, none⟩) (k + 1) c6, (if l10 = true then .slice (some ⟨g7, 0, none⟩) (k + 1) c7 else .slice a2 k c2)] 27, Ent.rows 48 3 (.slice (some ⟨g6, 0, none⟩) (k + 1) c6) (vs ++ [.slice (some ⟨b4, 0, none⟩) 3 c4]) (((List.range (k + 1)).map fr).map intCells), (if l8 = true then Ent.row 4 1 (.slice (some ⟨g7, 0, none⟩) (k + 1) c7) (k + 1) ((boolCells (X.ends.take k)) ++ [.bool r]) else Ent.row 4 1 (.slice a2 k c2) k (boolCells (X.ends.take k))), (if l7 = true then Ent.box bn #[.bool r] 4 else Ent.nil)]) ?_ ?_ ?_
     ·rintro listed a w' ⟨l0, l1, l2, l3, l4, l5, l6, l7, l8, l9, l10, g7, c7, bn, rfl, hd8, hd10, rfl, hS⟩ i hi
      obtain ⟨hun, o, ho, hall⟩ := mem_ready.1 hi
      have hlt := (Array.getElem?_eq_some_iff.1 ho).1
      refine wpOp_step ho (fun K hK => ?_)
      clear hi
      have HS := Lib.hid hS
      clear hS
      simp only [List.setIfInBounds_toArray, List.set_cons_zero, List.set_cons_succ, Array.getD_eq_getD_getElem?, List.getElem?_toArray, List.getElem?_cons_zero, List.getElem?_cons_succ, Option.getD_some]
      obtain h | h | h | h | h | h | h | h | h | h | h : i = 0 ∨ i = 1 ∨ i = 2 ∨ i = 3 ∨ i = 4 ∨ i = 5 ∨ i = 6 ∨ i = 7 ∨ i = 8 ∨ i = 9 ∨ i = 10 := by simp at hlt; omega
      all_goals subst h
      all_goals simp only [List.getElem?_toArray, List.getElem?_cons_zero, List.getElem?_cons_succ, Option.some.injEq] at ho
      all_goals subst ho
      all_goals simp [Region.binds] at hun hall
      ·subst hun
       go_simp
       exact hK _ _ ⟨true, l1, l2, l3, l4, l5, l6, l7, l8, l9, l10, g7, c7, bn, rfl, hd8, hd10, (by simp), HS.out⟩
      ·obtain rfl := hall
       subst hun
       obtain rfl : l8 = false := offL hd8 rfl
       obtain rfl : l10 = false := offL hd10 rfl
       have e0 := HS.out.cell (v := .slice a2 k c2) 2 1 rfl rfl
       go_simp
       exact hK _ _ ⟨true, true, l2, l3, l4, l5, l6, l7, false, l9, false, g7, c7, bn, rfl, by simp, by simp, (by simp), HS.out⟩
      ·subst hun
       go_simp
       exact hK _ _ ⟨l0, l1, true, l3, l4, l5, l6, l7, l8, l9, l10, g7, c7, bn, rfl, hd8, hd10, (by simp), HS.out⟩
      ·obtain rfl := hall
       subst hun
       have e0 := HS.out.cell (v := .slice (some ⟨b2, o2, none⟩) L cw) 0 1 rfl rfl
       go_simp
       exact hK _ _ ⟨l0, l1, true, true, l4, l5, l6, l7, l8, l9, l10, g7, c7, bn, rfl, hd8, hd10, (by simp), HS.out⟩
      ·subst hun
       go_simp
       exact hK _ _ ⟨l0, l1, l2, l3, true, l5, l6, l7, l8, l9, l10, g7, c7, bn, rfl, hd8, hd10, (by simp), HS.out⟩
      ·obtain ⟨rfl, rfl⟩ := hall
       subst hun
       go_simp
       exact hK _ _ ⟨l0, l1, l2, true, true, true, l6, l7, l8, l9, l10, g7, c7, bn, rfl, hd8, hd10, (by simp), HS.out⟩
      ·obtain rfl := hall
       subst hun
       have e0 := (bcell HS.out.bel b2 _ HC.out.hb2).trans Hhr2.out
       go_simp
       exact hK _ _ ⟨l0, l1, l2, l3, l4, true, true, l7, l8, l9, l10, g7, c7, bn, rfl, hd8, hd10, (by simp), HS.out⟩
      ·obtain rfl := hall
       subst hun
       obtain rfl : l8 = false := offR hd8 rfl
       obtain rfl : l10 = false := offL hd10 rfl
       have hS2 := (HS.out.alloc _ rfl #[.bool r] 4).pick [0, 1, 2, 3, 4, 6] (by decide)
       have HhS2 := Lib.hid hS2; clear hS2
       go_simp
       exact hK _ _ ⟨l0, l1, l2, l3, l4, l5, true, true, false, l9, false, g7, c7, _, rfl, by simp, by simp, (by simp), HhS2.out⟩
      ·obtain ⟨rfl, rfl⟩ := hall
       subst hun
       obtain rfl : l10 = false := offL hd10 rfl
       refine step_append_lies (a := ⟨_, _⟩) _ (by rfl) _ _ _ (by rfl) w1.heap.size 4 i0 (.bool false) 1 1 Try.underlying25 Hhi.out Hhz0.out Hhz1.out Hhz2.out (by rfl) (by omega) (.slice a2 k c2) k (boolCells (X.ends.take k)) (by rfl) (HS.out.row 4 rfl) ⟨bn, 0, none⟩ 1 1 [.bool r] (by rfl) (by rfl) (World.news_of_block (HS.out.box 5 rfl)) one_bool (by omega) (by unfold maxLen; omega) (by omega) HS.out.size _ rfl ?_
       intro g8 c8 w8 hown8 hgrow8 hat8 hlt8
       have HS8 := Lib.hid (HS.out.app 4 rfl hown8 hgrow8 hat8)
       clear hown8 hgrow8 hat8
       go_simp
       exact hK _ _ ⟨l0, true, l2, l3, l4, l5, l6, true, true, l9, false, g8, c8, bn, rfl, by simp, by simp, (by simp), HS8.out⟩
      ·obtain ⟨rfl, rfl, rfl, rfl, rfl, rfl, rfl, rfl, rfl⟩ := hall
       subst hun
       go_simp
       exact hK _ _ ⟨true, true, true, true, true, true, true, true, true, true, l10, g7, c7, bn, rfl, by simp, hd10, (by simp only [↓reduceIte, List.setIfInBounds_toArray, List.set_cons_zero, List.set_cons_succ]), HS.out⟩
      ·obtain ⟨rfl, rfl, rfl, rfl, rfl, rfl, rfl, rfl, rfl, rfl, -⟩ := hall
       subst hun
       have f0 := HS.out.fr 2 1 rfl
       have k0 := HS.out.cell (v := .slice a2 k c2) 2 1 rfl rfl
       go_simp
       exact hK _ _ ⟨true, true, true, true, true, true, true, true, true, true, true, g7, c7, bn, rfl, by simp, by simp, (by simp only [↓reduceIte, List.setIfInBounds_toArray, List.set_cons_zero, List.set_cons_succ]), (HS.out.set 2 rfl 1 (.slice (some ⟨g7, 0, none⟩) (k + 1) c7))⟩
     ·rintro listed a w' ⟨l0, l1, l2, l3, l4, l5, l6, l7, l8, l9, l10, g7, c7, bn, rfl, hd8, hd10, rfl, hS⟩ hr
      have hall := ready_nil (by kernel_rfl) rfl hr
      obtain rfl : l0 = true := by simpa using hall 0 (by simp)
      obtain rfl : l1 = true := by simpa using hall 1 (by simp)
      obtain rfl : l2 = true := by simpa using hall 2 (by simp)
      obtain rfl : l3 = true := by simpa using hall 3 (by simp)
      obtain rfl : l4 = true := by simpa using hall 4 (by simp)
      obtain rfl : l5 = true := by simpa using hall 5 (by simp)
      obtain rfl : l6 = true := by simpa using hall 6 (by simp)
      obtain rfl : l7 = true := by simpa using hall 7 (by simp)
      obtain rfl : l8 = true := by simpa using hall 8 (by simp)
      obtain rfl : l9 = true := by simpa using hall 9 (by simp)
      obtain rfl : l10 = true := by simpa using hall 10 (by simp)
      clear hall hr hd8 hd10
      simp only [↓reduceIte] at hS ⊢
      simp only [List.setIfInBounds_toArray, List.set_cons_zero, List.set_cons_succ]
      have hS9 := hS.pick [0, 1, 2, 3, 4] (by decide)
      have HhS9 := Lib.hid hS9; clear hS9
      clear hS
      go_wp2
      go_roundw
      case rel =>
       refine ⟨k + 1, some ⟨g6, 0, none⟩, some ⟨g7, 0, none⟩, c6, c7, vs ++ [.slice (some ⟨b4, 0, none⟩) 3 c4], by go_num, by omega, ?_⟩
       rw [Hhtk2.out, boolCells_snoc, ← Hhr.out]
       exact HhS9.out
      case measure => simp [intOf]; omega
     ·refine ⟨false, false, false, false, false, false, false, false, false, false, false, 0, 0, 0, rfl, by simp, by simp, (by simp), ?_⟩
      exact HSq.out.drew.pick [0, 1, 2, 3, 4, 5] (by decide)
  ·obtain rfl : L = k := by omega
   have hel : X.ends.take L = X.ends := List.take_of_length_le (by have := HC.out.le; have := HhL.out; omega)
   rw [hel] at hS
   have hDF : DfaR 0 wr (.agg #[.slice a1 L c1, .slice a2 L c2]) (foldD X) := by
    rw [Hhfd.out, ← HhL.out]
    refine ⟨.slice a1 L c1, .slice a2 L c2, rfl, (hS.intSS 3 rfl).intSS.mono (Nat.zero_le _), ?_⟩
    have hb := hS.row 4 rfl
    have he : L = X.ends.length := by have := HC.out.le; have := HhL.out; omega
    have hb2 : wr.ownsRow w1.heap.size 4 1 (.slice a2 L c2) X.ends.length (boolCells X.ends) := by rw [← he]; exact hb
    exact (boolsB_of_row hb2).mono (Nat.zero_le _)
   have z0 := hS.cell (v := .slice a1 L c1) 2 0 rfl rfl
   have z1 := hS.cell (v := .slice a2 L c2) 2 1 rfl rfl
   have HDF := Lib.hid hDF
   have HS8 := Lib.hid hS
   have Hhel := Lib.hid hel; clear hel
   clear hS hDF
   go_wp2_with fail
   refine (specTrim_any (foldD X) _ _ Hhfo.out HDF.out).mono ?_
   rintro e w9 ⟨a3, c3, a4, c4, rfl, hDR, hb9⟩
   have hS9 := HSr.out.call (HS8.out.bel.trans (hb9.mono HS8.out.bel.size))
   have f0 := hS9.fr 1 0 rfl
   have f1 := hS9.fr 1 1 rfl
   have k0 := hS9.cell (v := .slice none 0 0) 1 0 rfl rfl
   have k1 := hS9.cell (v := .slice none 0 0) 1 1 rfl rfl
   have hB1 := (hS9.boxlt 1 rfl).2
   have hB2 := (HSr.out.boxlt 1 rfl).2
   have HS9 := Lib.hid hS9
   have HDR9 := Lib.hid hDR
   have Hb9 := Lib.hid hb9
   obtain ⟨M, hM⟩ : ∃ M, M = trimD (foldD X) := ⟨_, rfl⟩
   rw [← hM] at HDR9
   rw [← hM]
   have HhM := Lib.hid hM; clear hM
   clear hS9 hDR hb9 z0 z1
   go_wp2
   have hq := (HS9.out.set 1 rfl 0 (.slice a3 M.next.length c3)).set 1 rfl 1 (.slice a4 M.ends.length c4)
   have q0 := hq.cell (v := .slice a3 M.next.length c3) 1 0 rfl rfl
   have q1 := hq.cell (v := .slice a4 M.ends.length c4) 1 1 rfl rfl
   refine bodyPost_ret (v := .agg #[.slice a3 M.next.length c3, .slice a4 M.ends.length c4]) (by simp [results, Try.results66, go_sem, q0, q1]) rfl ?_
   rw [← HhM.out]
   have hle := HS8.out.bel.size
   have hle1 := HSr.out.bel.size
   exact ⟨a3, c3, a4, c4, rfl, ((HDR9.out.far (by omega) 0 _).far (by omega) 1 _).mono (by omega), hq.bel⟩
end Go.Proofs.Ytalbofnhcpjilaa
