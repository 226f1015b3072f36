/-
  The walk over the reference's DfaTrim.
  Condition: the automaton is valid and reads as such.
-/
import Derived.Test.YtalbofnhcpjilaaPk11Dx
import Derived.Test.YtalbofnhcpjilaaPk14Ix
import Derived.Test.YtalbofnhcpjilaaPk17Ty
namespace Go.Proofs.Ytalbofnhcpjilaa
open Go.RowKit
theorem trim_row {d : DfaD} {F : List Int} {k x : Nat} (hx : F.getD k 0 = (x : Int)) (hk : k < F.length) (hn : ∀ c, c < 3 → dnx d (x : Int) c = (nxD d x c : Nat)) (hm : ∀ c, c < 3 → ((nxD d x c : Nat) : Int) ∈ F) :
  (F.take (k + 1)).map (numRow (dnx d) F) = (F.take k).map (numRow (dnx d) F) ++ [(List.range 3).map fun c => nameOf F (nxD d x c : Nat)] ∧ (F.take (k + 1)).map (den d) = (F.take k).map (den d) ++ [enD d x] := by
 have e : F[k] = (x : Int) := by simpa [hk] using hx
 rw [List.take_succ_eq_append_getElem hk, e, List.map_append, List.map_append]
 refine ⟨?_, by simp [den, enD]⟩
 congr 1
 simp only [List.map_cons, List.map_nil, numRow]
 congr 1
 refine List.map_congr_left fun c hc => ?_
 have hc : c < 3 := List.mem_range.1 hc
 rw [hn c hc, nameOf_mem (hm c hc)]
theorem rangeF_snoc {α : Type} (f : Nat → α) (c : Nat) : (List.range (c + 1)).map f = (List.range c).map f ++ [f c] := by
 rw [List.range_succ, List.map_append]
 rfl
set_option maxRecDepth 100000 in
set_option maxHeartbeats 8000000 in
theorem specTrim_any (d : DfaD) (v : Value) (w : World) (hd : dfaOk d.next d.ends = true) (h : DfaR 0 w v d) :
  Calls Try.prog 64 #[v] w fun e w' => RD (trimD d) w e w' := by
 have HR := Lib.hid h
 obtain ⟨b1, o1, cv, b2, o2, cw, rfl, hC⟩ := dfa_open hd h
 obtain ⟨F, hF⟩ : ∃ F, F = (bat (dnx d) 0 d.next.length).met := ⟨_, rfl⟩
 have hpos : 0 < F.length := by rw [hF]; exact bat_pos _
 have hFl := (met_facts (fine_of hd) d.next.length).2
 rw [← hF] at hFl
 have hnat := fun (k : Nat) (hk : k < F.length) => met_nat hd (k := k) (by rw [← hF]; exact hk)
 rw [← hF] at hnat
 have htr : trimD d = ⟨F.map (numRow (dnx d) F), F.map (den d)⟩ := by unfold trimD; rw [← hF]; rfl
 rw [htr]
 obtain ⟨L, hL⟩ : ∃ L, L = d.next.length := ⟨_, rfl⟩
 have hl2 := hC.l2
 rw [← hL] at hl2 hFl
 have hS0 := ((St.start w).alloc _ rfl #[.slice (some ⟨b1, o1, none⟩) L cv, .slice (some ⟨b2, o2, none⟩) L cw] 27).alloc (w.heap.size + 1) (by simp) #[.slice none 0 0, .slice none 0 0] 27
 rw [← hL] at HR
 rw [← hL]
 obtain ⟨i0, hi, hz0, hz1, hz2⟩ := info_parts Try.infoBool
 obtain ⟨j0, hj, hy0, hy1, hy2⟩ := info_parts Try.infoInt
 obtain ⟨k0, hk, hx0, hx1, hx2⟩ := info_parts Try.infoInts
 have HC := Lib.hid hC
 have Hnat := Lib.hid hnat
 have HhF := Lib.hid hF; clear hF
 have Hhd := Lib.hid hd; clear hd
 have HhL := Lib.hid hL; clear hL
 have HhS0 := Lib.hid hS0; clear hS0
 have Hhtr := Lib.hid htr; clear htr
 have Hhi := Lib.hid hi; clear hi
 have Hhz0 := Lib.hid hz0; clear hz0
 have Hhz1 := Lib.hid hz1; clear hz1
 have Hhz2 := Lib.hid hz2; clear hz2
 have Hhj := Lib.hid hj; clear hj
 have Hhy0 := Lib.hid hy0; clear hy0
 have Hhy1 := Lib.hid hy1; clear hy1
 have Hhy2 := Lib.hid hy2; clear hy2
 have Hhk := Lib.hid hk; clear hk
 have Hhx0 := Lib.hid hx0; clear hx0
 have Hhx1 := Lib.hid hx1; clear hx1
 have Hhx2 := Lib.hid hx2; clear hx2
 clear hC hnat h
 go_enter Try.func64, Try.ntmps64
 go_wp2_with fail
 refine (specDfaValidD2_any d _ _ (HR.out.below HhS0.out.bel) true Hhd.out).mono ?_
 rintro e w1 ⟨rfl, hb1⟩
 have hS1 := HhS0.out.call hb1
 have c0 := hS1.cell (v := .slice (some ⟨b1, o1, none⟩) L cv) 0 0 rfl rfl
 have c1 := hS1.cell (v := .slice (some ⟨b2, o2, none⟩) L cw) 0 1 rfl rfl
 have HhS1 := Lib.hid hS1; clear hS1
 clear hb1
 go_wp2_with fail
 refine (l7Order_any d _ _ Hhd.out (HR.out.below HhS1.out.bel) F (by rw [HhF.out])).mono ?_
 rintro e w2 ⟨a, c, rfl, hS'⟩
 have hS2 := HhS1.out.cat hS'
 obtain ⟨g, cg, hv⟩ := hS2.rowform 2 rfl hpos
 simp only [Value.slice.injEq, true_and] at hv
 obtain ⟨rfl, rfl⟩ := hv
 have hS3 := (((hS2.alloc _ rfl #[.slice none 0 0, .slice none 0 0] 27).nilRow 48 1).norows 4 rfl 3).nilRow 4 1
 have HhS3 := Lib.hid hS3; clear hS3
 clear hS2 hS' c0 c1
 go_wp2
 go_loopw [5] (fun i wr => ∃ (k : Nat) (a1 a2 : Option Addr) (c1 c2 : Nat) (vs : List Value), i = .int .i64 k ∧ k ≤ F.length ∧
   St w wr [Ent.box w.heap.size #[.slice (some ⟨b1, o1, none⟩) L cv, .slice (some ⟨b2, o2, none⟩) L cw] 27, Ent.box (w.heap.size + 1) #[.slice none 0 0, .slice none 0 0] 27,
    Ent.row 3 1 (.slice (some ⟨g, 0, none⟩) F.length c) F.length (intCells F), Ent.box w2.heap.size #[.slice a1 k c1, .slice a2 k c2] 27,
    Ent.rows 48 3 (.slice a1 k c1) vs (((F.take k).map (numRow (dnx d) F)).map intCells), Ent.row 4 1 (.slice a2 k c2) k (boolCells ((F.take k).map (den d)))])
  (fun i _ => F.length - (intOf i).toNat)
 case atStart => exact ⟨0, none, none, 0, 0, [], rfl, Nat.zero_le _, HhS3.out⟩
 case round =>
  obtain ⟨k, a1, a2, c1, c2, vs, rfl, hk, hS⟩ := hrel
  by_cases hlt : k < F.length
  ·have hlt2 : (k : Int) < F.length := by omega
   obtain ⟨x, hx, hxL, hxm⟩ := Hnat.out k hlt
   have htk := trim_row (d := d) hx hlt (fun c hc => HC.out.dx x c hxL hc) hxm
   obtain ⟨b3, o3, c3, hb3, hc3, hc3', hks, hcs3⟩ := HC.out.row x hxL
   have hen := HC.out.en x hxL
   have hxI : (x : Int) < L := by have := HhL.out; omega
   have hSe := (hS.alloc _ rfl #[] 3).boxrow 6 0 1 [] rfl rfl (Nat.zero_le _)
   obtain ⟨R, hR⟩ : ∃ R, R = (List.range 3).map fun c => nameOf F (nxD d x c : Nat) := ⟨_, rfl⟩
   rw [← hR] at htk
   have htk1 := htk.1
   have htk2 := htk.2
   have hRs : ∀ c, c < 3 → R.take (c + 1) = R.take c ++ [nameOf F (nxD d x c : Nat)] := fun c hc => by
    rw [hR, List.take_succ_eq_append_getElem (by simp; omega)]
    simp
   have hR3 : R.take 3 = R := List.take_of_length_le (by rw [hR]; simp)
   have Hcs3 := Lib.hid hcs3
   have Hen := Lib.hid hen
   have HhS := Lib.hid hS; clear hS
   have Hhx := Lib.hid hx; clear hx
   have Hhxm := Lib.hid hxm; clear hxm
   have Hhks := Lib.hid hks; clear hks
   have HhSe := Lib.hid hSe; clear hSe
   have Hhtk1 := Lib.hid htk1; clear htk1
   have Hhtk2 := Lib.hid htk2; clear htk2
   have HhRs := Lib.hid hRs; clear hRs
   have HhR3 := Lib.hid hR3; clear hR3
   have HhR := Lib.hid hR; clear hR
   clear hcs3 hen htk
   go_wp2
   go_loopw [6, 7] (fun rv i wi => ∃ (n : Nat) (b4 c4 : Nat), i = .int .i64 n ∧ rv = .slice (some ⟨b4, 0, none⟩) n c4 ∧ n ≤ 3 ∧
     St w wi [Ent.box w.heap.size #[.slice (some ⟨b1, o1, none⟩) L cv, .slice (some ⟨b2, o2, none⟩) L cw] 27, Ent.box (w.heap.size + 1) #[.slice none 0 0, .slice none 0 0] 27,
      Ent.row 3 1 (.slice (some ⟨g, 0, none⟩) F.length c) F.length (intCells F), Ent.box w2.heap.size #[.slice a1 k c1, .slice a2 k c2] 27,
      Ent.rows 48 3 (.slice a1 k c1) vs (((F.take k).map (numRow (dnx d) F)).map intCells), Ent.row 4 1 (.slice a2 k c2) k (boolCells ((F.take k).map (den d))),
      Ent.row 3 1 (.slice (some ⟨b4, 0, none⟩) n c4) n (intCells (R.take n))])
    (fun _ i _ => 3 - (intOf i).toNat)
   case atStart => exact ⟨0, _, _, rfl, rfl, by omega, HhSe.out⟩
   case round =>
    obtain ⟨n, b4, c4, rfl, rfl, hn3, hSi⟩ := hrel
    obtain ⟨wo, hwo⟩ : ∃ wo : World, wo = wr := ⟨_, rfl⟩
    subst hwo
    by_cases hn : n < 3
    ·have hn2 : (n : Int) < 3 := by omega
     have e0 := hSi.cell (v := .slice (some ⟨b1, o1, none⟩) L cv) 0 0 rfl rfl
     have e1 := hSi.rcell (v := .int .i64 (x : Int)) 2 k rfl (by omega) (by rw [← Hhx.out]; simp [intCells, hlt])
     have e2 := (bcell hSi.bel b1 _ HC.out.hb1).trans Hhks.out
     have e3 := (bcell hSi.bel b3 _ hb3).trans (Hcs3.out n hn)
     have hname := fun (w' : World) (hb : Below w.heap.size w w') (h2 : Ints 0 w' (.slice (some ⟨g, 0, none⟩) F.length c) F) => l7Name_any F (nxD d x n : Nat) (.slice (some ⟨g, 0, none⟩) F.length c) w' (by omega) h2
     have hrs := HhRs.out n hn
     obtain ⟨y, hy⟩ : ∃ y, y = nxD d x n := ⟨_, rfl⟩
     rw [← hy] at e3 hname hrs
     obtain ⟨z, hz⟩ : ∃ z, z = nameOf F (y : Nat) := ⟨_, rfl⟩
     rw [← hz] at hname hrs
     have Hname := Lib.hid hname
     have HhSi := Lib.hid hSi; clear hSi
     have Hhy := Lib.hid hy; clear hy
     have Hhz := Lib.hid hz; clear hz
     have Hhrs := Lib.hid hrs; clear hrs
     clear hname
     go_wp2
     go_region_law (first
      | (go_simp; go_at_call 115; refine (Hname.out _ HhSi.out.drew.bel (HhSi.out.drew.intsR 2 rfl)).mono ?_; rintro e u ⟨rfl, hq0⟩; have HSu := Lib.hid ((HhSi.out.drew.call hq0).alloc_ (.cells #[.int .i64 z] 3)); clear hq0)
      | (refine step_append_lies _ (by rfl) _ _ _ (by rfl) w.heap.size 3 j0 (.int .i64 0) 1 8 Try.underlying48 Hhj.out Hhy0.out Hhy1.out Hhy2.out (by rfl) (by omega) (.slice (some ⟨b4, 0, none⟩) n c4) n (intCells (R.take n)) (by rfl) (HSu.out.row 6 rfl) ⟨u.heap.size, 0, none⟩ 1 1 [.int .i64 z] (by rfl) (by rfl) (World.news_of_block (heap_alloc_new u _)) one_int (by omega) (by unfold maxLen; omega) (by omega) HSu.out.size (u.heap.size + 1) (by simp) ?_; intro g7 c7 w7 hown7 hgrow7 hat7 hlt7; have HS7 := Lib.hid (HSu.out.app 6 rfl hown7 hgrow7 (by rw [World.size_alloc]; exact hat7)); clear hown7 hgrow7 hat7))
     all_goals
      go_wp2
      go_roundw
      case rel =>
       refine ⟨n + 1, g7, c7, by go_num, rfl, by omega, ?_⟩
       rw [Hhrs.out, intCells_snoc]
       exact HS7.out
      case measure => simp [intOf]; omega
    ·obtain rfl : n = 3 := by omega
     rw [HhR3.out] at hSi
     have hlm : (((F.take k).map (numRow (dnx d) F)).map intCells).length = k := by rw [map2_len, List.length_take]; omega
     have hSa := hSi.alloc_ (.cells #[.slice (some ⟨b4, 0, none⟩) 3 c4] 48)
     have hRw := (hSa.rows 4 rfl).1
     rw [hlm] at hRw
     have e0 := hSi.cell (v := .slice a1 k c1) 3 0 rfl rfl
     have Hhlm := Lib.hid hlm; clear hlm
     have HhSi := Lib.hid hSi; clear hSi
     have HhSa := Lib.hid hSa; clear hSa
     have HhRw := Lib.hid hRw; clear hRw
     go_wp2_with (at_builtin; refine wpList_append_lies _ rfl _ _ _ rfl _ 48 k0 (.slice none 0 0) 1 24 Try.underlying24 Hhk.out Hhx0.out Hhx1.out Hhx2.out rfl (by omega) _ k _ rfl HhRw.out ⟨wo.heap.size, 0, none⟩ 1 1 [.slice (some ⟨b4, 0, none⟩) 3 c4] rfl rfl (World.news_of_block (heap_alloc_new wo _)) one_slice (by omega) (by unfold maxLen; omega) (by omega) HhSa.out.size _ rfl ?_; intro g6 c6 w6 hown6 hgrow6 hat6 hlt6; have HS6 := Lib.hid (HhSa.out.snoc 4 6 (by decide) rfl rfl (by decide) hgrow6 (by rw [Hhlm.out]; exact hown6) (hat_of hat6)); have y1 := HS6.out.cell (v := .slice a1 k c1) 3 0 rfl rfl; have y2 := HS6.out.fr 3 0 rfl; clear hown6 hgrow6 hat6 hlt6)
     have hSq := (HS6.out.set 3 rfl 0 (.slice (some ⟨g6, 0, none⟩) (k + 1) c6)).pick [0, 1, 2, 3, 4, 5] (by decide)
     obtain ⟨wq, hwq⟩ : ∃ wq, wq = w6.setCell ⟨w2.heap.size, 0, none⟩ (.slice (some ⟨g6, 0, none⟩) (k + 1) c6) := ⟨_, rfl⟩
     rw [← hwq] at hSq
     have hSq' : St w wq [Ent.box w.heap.size #[.slice (some ⟨b1, o1, none⟩) L cv, .slice (some ⟨b2, o2, none⟩) L cw] 27, Ent.box (w.heap.size + 1) #[.slice none 0 0, .slice none 0 0] 27,
       Ent.row 3 1 (.slice (some ⟨g, 0, none⟩) F.length c) F.length (intCells F), Ent.box w2.heap.size #[.slice (some ⟨g6, 0, none⟩) (k + 1) c6, .slice a2 k c2] 27,
       Ent.rows 48 3 (.slice (some ⟨g6, 0, none⟩) (k + 1) c6) (vs ++ [.slice (some ⟨b4, 0, none⟩) 3 c4]) (((F.take (k + 1)).map (numRow (dnx d) F)).map intCells), Ent.row 4 1 (.slice a2 k c2) k (boolCells ((F.take k).map (den d)))] := by
      rw [Hhtk1.out, List.map_append]
      exact hSq
     rw [← hwq]
     have q0 := hSq'.cell (v := .slice (some ⟨b2, o2, none⟩) L cw) 0 1 rfl rfl
     have q1 := hSq'.rcell (v := .int .i64 (x : Int)) 2 k rfl (by omega) (by rw [← Hhx.out]; simp [intCells, hlt])
     have q2 := (bcell hSq'.bel b2 _ HC.out.hb2).trans Hen.out
     have q3 := hSq'.cell (v := .slice a2 k c2) 3 1 rfl rfl
     obtain ⟨r, hr⟩ : ∃ r, r = enD d x := ⟨_, rfl⟩
     rw [← hr] at q2
     have hxk : (intCells F)[k]? = some (.int .i64 (x : Int)) := by rw [← Hhx.out]; simp [intCells, hlt]
     have hr2 : w.cell? ⟨b2, o2 + x, none⟩ = some (.bool r) := by rw [hr]; exact Hen.out
     have HSq := Lib.hid hSq'
     have Hhwq := Lib.hid hwq; clear hwq
     have Hhr := Lib.hid hr; clear hr
     have Hhxk := Lib.hid hxk; clear hxk
     have Hhr2 := Lib.hid hr2; clear hr2
     clear hSq hSq' y1 y2 e0 HS6 q0 q1 q2 q3
     refine wp_region_any (by kernel_rfl) ?_
     refine wpAny_invA (fun A listed a w' => ∃ (l0 l1 l2 l3 l4 l5 l6 l7 l8 l9 l10 l11 l12 l13 : Bool) (g7 : Nat) (c7 : Nat) (bn : Nat), listed = #[l0, l1, l2, l3, l4, l5, l6, l7, l8, l9, l10, l11, l12, l13] ∧ (l11 = true → l1 = true ∧ l10 = true) ∧ (l13 = true → l11 = true ∧ l1 = true) ∧
       a = ⟨(((((((((((((A.tmps.setIfInBounds 48 (if l0 = true then .pointer (some ⟨w2.heap.size, 1, none⟩) else A.tmps.getD 48 undef)).setIfInBounds 49 (if l1 = true then .slice a2 k c2 else A.tmps.getD 49 undef)).setIfInBounds 50 (if l2 = true then .pointer (some ⟨w.heap.size, 1, none⟩) else A.tmps.getD 50 undef)).setIfInBounds 51 (if l3 = true then .slice (some ⟨b2, o2, none⟩) L cw else A.tmps.getD 51 undef)).setIfInBounds 52 (if l4 = true then .slice (some ⟨g, 0, none⟩) F.length c else A.tmps.getD 52 undef)).setIfInBounds 53 (if l5 = true then .int .i64 (k : Int) else A.tmps.getD 53 undef)).setIfInBounds 54 (if l6 = true then .pointer (some ⟨g, k, none⟩) else A.tmps.getD 54 undef)).setIfInBounds 55 (if l7 = true then .int .i64 (x : Int) else A.tmps.getD 55 undef)).setIfInBounds 56 (if l8 = true then .pointer (some ⟨b2, o2 + x, none⟩) else A.tmps.getD 56 undef)).setIfInBounds 57 (if l9 = true then .bool r else A.tmps.getD 57 undef)).setIfInBounds 58 (if l10 = true then .slice (some ⟨bn, 0, none⟩) 1 1 else A.tmps.getD 58 undef)).setIfInBounds 59 (if l11 = true then .slice (some ⟨g7, 0, none⟩) (k + 1) c7 else A.tmps.getD 59 undef)).setIfInBounds 60 (if l12 = true then .pointer (some ⟨w2.heap.size, 1, none⟩) else A.tmps.getD 60 undef)), A.defers⟩ ∧
       St w w' [Ent.box w.heap.size #[.slice (some ⟨b1, o1, none⟩) L cv, .slice (some ⟨b2, o2, none⟩) L cw] 27, Ent.box (w.heap.size + 1) #[.slice none 0 0, .slice none 0 0] 27, Ent.row 3 1 (.slice (some ⟨g, 0, none⟩) F.length c) F.length (intCells F), Ent.box w2.heap.size #[.slice (some ⟨g6, 0, none⟩) (k + 1) c6, (if l13 = true then .slice (some ⟨g7, 0, none⟩) (k + 1) c7 else .slice a2 k c2)] 27, Ent.rows 48 3 (.slice (some ⟨g6, 0, none⟩) (k + 1) c6) (vs ++ [.slice (some ⟨b4, 0, none⟩) 3 c4]) (((F.take (k + 1)).map (numRow (dnx d) F)).map intCells), (if l11 = true then Ent.row 4 1 (.slice (some ⟨g7, 0, none⟩) (k + 1) c7) (k + 1) ((boolCells ((F.take k).map (den d))) ++ [.bool r]) else Ent.row 4 1 (.slice a2 k c2) k (boolCells ((F.take k).map (den d)))), (if l10 = true then Ent.box bn #[.bool r] 4 else Ent.nil)]) ?_ ?_ ?_
     ·rintro listed a w' ⟨l0, l1, l2, l3, l4, l5, l6, l7, l8, l9, l10, l11, l12, l13, g7, c7, bn, rfl, hd11, hd13, rfl, hS⟩ i hi
      obtain ⟨hun, o, ho, hall⟩ := mem_ready.1 hi
      have hlt := (Array.getElem?_eq_some_iff.1 ho).1
      refine wpOp_step ho (fun K hK => ?_)
      clear hi
      have HS := Lib.hid hS
      clear hS
      simp only [List.setIfInBounds_toArray, List.set_cons_zero, List.set_cons_succ, Array.getD_eq_getD_getElem?, List.getElem?_toArray, List.getElem?_cons_zero, List.getElem?_cons_succ, Option.getD_some]
      obtain h | h | h | h | h | h | h | h | h | h | h | h | h | h : i = 0 ∨ i = 1 ∨ i = 2 ∨ i = 3 ∨ i = 4 ∨ i = 5 ∨ i = 6 ∨ i = 7 ∨ i = 8 ∨ i = 9 ∨ i = 10 ∨ i = 11 ∨ i = 12 ∨ i = 13 := by simp at hlt; omega
      all_goals subst h
      all_goals simp only [List.getElem?_toArray, List.getElem?_cons_zero, List.getElem?_cons_succ, Option.some.injEq] at ho
      all_goals subst ho
      all_goals simp [Region.binds] at hun hall
      ·subst hun
       go_simp
       exact hK _ _ ⟨true, l1, l2, l3, l4, l5, l6, l7, l8, l9, l10, l11, l12, l13, g7, c7, bn, rfl, hd11, hd13, (by simp), HS.out⟩
      ·obtain rfl := hall
       subst hun
       obtain rfl : l11 = false := offL hd11 rfl
       obtain rfl : l13 = false := offL hd13 rfl
       have e0 := HS.out.cell (v := .slice a2 k c2) 3 1 rfl rfl
       go_simp
       exact hK _ _ ⟨true, true, l2, l3, l4, l5, l6, l7, l8, l9, l10, false, l12, false, g7, c7, bn, rfl, by simp, by simp, (by simp), HS.out⟩
      ·subst hun
       go_simp
       exact hK _ _ ⟨l0, l1, true, l3, l4, l5, l6, l7, l8, l9, l10, l11, l12, l13, g7, c7, bn, rfl, hd11, hd13, (by simp), HS.out⟩
      ·obtain rfl := hall
       subst hun
       have e0 := HS.out.cell (v := .slice (some ⟨b2, o2, none⟩) L cw) 0 1 rfl rfl
       go_simp
       exact hK _ _ ⟨l0, l1, true, true, l4, l5, l6, l7, l8, l9, l10, l11, l12, l13, g7, c7, bn, rfl, hd11, hd13, (by simp), HS.out⟩
      ·subst hun
       go_simp
       exact hK _ _ ⟨l0, l1, l2, l3, true, l5, l6, l7, l8, l9, l10, l11, l12, l13, g7, c7, bn, rfl, hd11, hd13, (by simp), HS.out⟩
      ·subst hun
       go_simp
       exact hK _ _ ⟨l0, l1, l2, l3, l4, true, l6, l7, l8, l9, l10, l11, l12, l13, g7, c7, bn, rfl, hd11, hd13, (by simp), HS.out⟩
      ·obtain ⟨rfl, rfl⟩ := hall
       subst hun
       go_simp
       exact hK _ _ ⟨l0, l1, l2, l3, true, true, true, l7, l8, l9, l10, l11, l12, l13, g7, c7, bn, rfl, hd11, hd13, (by simp), HS.out⟩
      ·obtain rfl := hall
       subst hun
       have e0 := HS.out.rcell (v := .int .i64 (x : Int)) 2 k rfl (by omega) Hhxk.out
       go_simp
       exact hK _ _ ⟨l0, l1, l2, l3, l4, l5, true, true, l8, l9, l10, l11, l12, l13, g7, c7, bn, rfl, hd11, hd13, (by simp), HS.out⟩
      ·obtain ⟨rfl, rfl⟩ := hall
       subst hun
       go_simp
       exact hK _ _ ⟨l0, l1, l2, true, l4, l5, l6, true, true, l9, l10, l11, l12, l13, g7, c7, bn, rfl, hd11, hd13, (by simp), HS.out⟩
      ·obtain rfl := hall
       subst hun
       have e0 := (bcell HS.out.bel b2 _ HC.out.hb2).trans Hhr2.out
       go_simp
       exact hK _ _ ⟨l0, l1, l2, l3, l4, l5, l6, l7, true, true, l10, l11, l12, l13, g7, c7, bn, rfl, hd11, hd13, (by simp), HS.out⟩
      ·obtain rfl := hall
       subst hun
       obtain rfl : l11 = false := offR hd11 rfl
       obtain rfl : l13 = false := offL hd13 rfl
       have hS2 := (HS.out.alloc _ rfl #[.bool r] 4).pick [0, 1, 2, 3, 4, 5, 7] (by decide)
       have HhS2 := Lib.hid hS2; clear hS2
       go_simp
       exact hK _ _ ⟨l0, l1, l2, l3, l4, l5, l6, l7, l8, true, true, false, l12, false, g7, c7, _, rfl, by simp, by simp, (by simp), HhS2.out⟩
      ·obtain ⟨rfl, rfl⟩ := hall
       subst hun
       obtain rfl : l13 = false := offL hd13 rfl
       refine step_append_lies (a := ⟨_, _⟩) _ (by rfl) _ _ _ (by rfl) w.heap.size 4 i0 (.bool false) 1 1 Try.underlying25 Hhi.out Hhz0.out Hhz1.out Hhz2.out (by rfl) (by omega) (.slice a2 k c2) k (boolCells ((F.take k).map (den d))) (by rfl) (HS.out.row 5 rfl) ⟨bn, 0, none⟩ 1 1 [.bool r] (by rfl) (by rfl) (World.news_of_block (HS.out.box 6 rfl)) one_bool (by omega) (by unfold maxLen; omega) (by omega) HS.out.size _ rfl ?_
       intro g8 c8 w8 hown8 hgrow8 hat8 hlt8
       have HS8 := Lib.hid (HS.out.app 5 rfl hown8 hgrow8 hat8)
       clear hown8 hgrow8 hat8
       go_simp
       exact hK _ _ ⟨l0, true, l2, l3, l4, l5, l6, l7, l8, l9, true, true, l12, false, g8, c8, bn, rfl, by simp, by simp, (by simp), HS8.out⟩
      ·obtain ⟨rfl, rfl, rfl, rfl, rfl, rfl, rfl, rfl, rfl, rfl, rfl, rfl⟩ := hall
       subst hun
       go_simp
       exact hK _ _ ⟨true, true, true, true, true, true, true, true, true, true, true, true, true, l13, g7, c7, bn, rfl, by simp, hd13, (by simp only [↓reduceIte, List.setIfInBounds_toArray, List.set_cons_zero, List.set_cons_succ]), HS.out⟩
      ·obtain ⟨rfl, rfl, rfl, rfl, rfl, rfl, rfl, rfl, rfl, rfl, rfl, rfl, rfl, -⟩ := hall
       subst hun
       have f0 := HS.out.fr 3 1 rfl
       have k0 := HS.out.cell (v := .slice a2 k c2) 3 1 rfl rfl
       go_simp
       exact hK _ _ ⟨true, true, true, true, true, true, true, true, true, true, true, true, true, true, g7, c7, bn, rfl, by simp, by simp, (by simp only [↓reduceIte, List.setIfInBounds_toArray, List.set_cons_zero, List.set_cons_succ]), (HS.out.set 3 rfl 1 (.slice (some ⟨g7, 0, none⟩) (k + 1) c7))⟩
     ·rintro listed a w' ⟨l0, l1, l2, l3, l4, l5, l6, l7, l8, l9, l10, l11, l12, l13, g7, c7, bn, rfl, hd11, hd13, rfl, hS⟩ hr
      have hall := ready_nil (by kernel_rfl) rfl hr
      obtain rfl : l0 = true := by simpa using hall 0 (by simp)
      obtain rfl : l1 = true := by simpa using hall 1 (by simp)
      obtain rfl : l2 = true := by simpa using hall 2 (by simp)
      obtain rfl : l3 = true := by simpa using hall 3 (by simp)
      obtain rfl : l4 = true := by simpa using hall 4 (by simp)
      obtain rfl : l5 = true := by simpa using hall 5 (by simp)
      obtain rfl : l6 = true := by simpa using hall 6 (by simp)
      obtain rfl : l7 = true := by simpa using hall 7 (by simp)
      obtain rfl : l8 = true := by simpa using hall 8 (by simp)
      obtain rfl : l9 = true := by simpa using hall 9 (by simp)
      obtain rfl : l10 = true := by simpa using hall 10 (by simp)
      obtain rfl : l11 = true := by simpa using hall 11 (by simp)
      obtain rfl : l12 = true := by simpa using hall 12 (by simp)
      obtain rfl : l13 = true := by simpa using hall 13 (by simp)
      clear hall hr hd11 hd13
      simp only [↓reduceIte] at hS ⊢
      simp only [List.setIfInBounds_toArray, List.set_cons_zero, List.set_cons_succ]
      have hS9 := hS.pick [0, 1, 2, 3, 4, 5] (by decide)
      have HhS9 := Lib.hid hS9; clear hS9
      clear hS
      go_wp2
      go_roundw
      case rel =>
       refine ⟨k + 1, some ⟨g6, 0, none⟩, some ⟨g7, 0, none⟩, c6, c7, vs ++ [.slice (some ⟨b4, 0, none⟩) 3 c4], by go_num, by omega, ?_⟩
       rw [Hhtk2.out, boolCells_snoc, ← Hhr.out]
       exact HhS9.out
      case measure => simp [intOf]; omega
     ·refine ⟨false, false, false, false, false, false, false, false, false, false, false, false, false, false, 0, 0, 0, rfl, by simp, by simp, (by simp), ?_⟩
      exact HSq.out.drew.pick [0, 1, 2, 3, 4, 5, 6] (by decide)
  ·obtain rfl : k = F.length := by omega
   rw [List.take_length] at hS
   have d0 := hS.cell (v := .slice a1 F.length c1) 3 0 rfl rfl
   have d1 := hS.cell (v := .slice a2 F.length c2) 3 1 rfl rfl
   have f0 := hS.fr 1 0 rfl
   have f1 := hS.fr 1 1 rfl
   have k0 := hS.cell (v := .slice none 0 0) 1 0 rfl rfl
   have k1 := hS.cell (v := .slice none 0 0) 1 1 rfl rfl
   have HhS := Lib.hid hS; clear hS
   go_wp2
   have hq := (HhS.out.set 1 rfl 0 (.slice a1 F.length c1)).set 1 rfl 1 (.slice a2 F.length c2)
   have q0 := hq.cell (v := .slice a1 F.length c1) 1 0 rfl rfl
   have q1 := hq.cell (v := .slice a2 F.length c2) 1 1 rfl rfl
   refine bodyPost_ret (v := .agg #[.slice a1 F.length c1, .slice a2 F.length c2]) (by simp [results, Try.results64, go_sem, q0, q1]) rfl ?_
   refine ⟨a1, c1, a2, c2, by simp only [List.length_map], ⟨.slice a1 F.length c1, .slice a2 F.length c2, by simp only [List.length_map], (hq.intSS 4 rfl).intSS, ?_⟩, hq.bel⟩
   exact boolsB_of_row (hq.row 5 rfl)
end Go.Proofs.Ytalbofnhcpjilaa
