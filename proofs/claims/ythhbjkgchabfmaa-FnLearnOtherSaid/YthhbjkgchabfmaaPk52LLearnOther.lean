/-
  Facts about automata with choices that are in order, and their rows in memory; appending a slice that may be empty.
  No condition.
-/
import Derived.Test.YthhbjkgchabfmaaPk40LGuessGrow
import Derived.Test.YthhbjkgchabfmaaPk47Po
namespace Go.Proofs.Ythhbjkgchabfmaa
open Go.RowKit Go.Maps
end Go.Proofs.Ythhbjkgchabfmaa
namespace Go.Proofs.Ythhbjkgchabfmaa
open Go.RowKit
section
variable {P : Program} (w : World)
end
theorem boolC_sn (l : List Bool) (x : Bool) : boolCells (l ++ [x]) = boolCells l ++ [.bool x] := by simp [boolCells]
end Go.Proofs.Ythhbjkgchabfmaa
namespace Go.Proofs.Ythhbjkgchabfmaa
open Go.RowKit
section
variable {key key' : List Nat → List Bool} {f : List Bool → List Bool}
end
section
variable {b : Bool} {d M : DfaD}
theorem sts_lang (hd : dfaOk d.next d.ends = true) (hM : dfaOk M.next M.ends = true) (h : ∀ w, isW w → accD M w = xb b (accD d w)) {J : Nat} (hJ : lastG d J) : stsG M J = stsG d J := by
  unfold stsG
  rw [if_pos hd, if_pos hM]
  refine List.map_congr_left fun i hi => ?_
  have hi := List.mem_range.1 hi
  rw [gue_lang hd hM h fun k hk => (hJ hd).2 k (by omega)]
  rfl
end
theorem oth_lang {d : DfaD} (hd : dfaOk d.next d.ends = true) (w : List Nat) (hw : isW w) : accD (minD (flB true d)) w = xb true (accD d w) := by
  rw [min_acc (fine_of (flB_ok hd)) hw, flB_acc hd hw]
theorem notC_snoc {l : List Bool} {k : Nat} (hk : k < l.length) {y : Bool} (hy : (!l.getD k false) = y) : boolCells ((l.take (k + 1)).map (!·)) = boolCells ((l.take k).map (!·)) ++ [.bool y] := by
  have e : l.getD k false = l[k] := by simp [hk]
  rw [e] at hy
  rw [List.take_succ_eq_append_getElem hk, List.map_append]
  show boolCells ((l.take k).map (!·) ++ [!l[k]]) = _
  rw [boolC_sn, hy]
theorem flB_true (d : DfaD) : flB true d = ⟨d.next, d.ends.map (!·)⟩ := by
  unfold flB
  congr 1
  exact List.map_congr_left fun x _ => by cases x <;> rfl
set_option maxRecDepth 100000 in
set_option maxHeartbeats 4000000 in
theorem implOther_any (d : DfaD) (v : Value) (w : World) (hd : dfaOk d.next d.ends = true) (h : DfaR 0 w v d) :
    Calls Try.prog 99 #[v] w fun e w' => ∃ u1 u2, e = .returned (.agg #[u1, u2]) ∧ DfaR 0 w' (.agg #[u1, u2]) (flB true d) ∧ Below w.heap.size w w' := by
  rw [flB_true]
  obtain ⟨L, hL⟩ : ∃ L, L = d.ends.length := ⟨_, rfl⟩
  have hl := dfaOk_len hd
  have hL40 : L ≤ 40 := by omega
  obtain ⟨v1, v2, rfl, q1, q2⟩ := h
  have HQ := Lib.hid q1
  obtain ⟨a1, c1, rfl, hca, hcb, -⟩ := q1.formI
  have hS0 := (((St.start w).alloc w.heap.size rfl #[.slice a1 d.next.length c1, v2] 26).alloc (w.heap.size + 1) (by simp) #[.slice none 0 0, .slice none 0 0] 26).alloc (w.heap.size + 1 + 1) (by simp) #[.slice a1 d.next.length c1, .slice none 0 0] 26
  have HS0 := Lib.hid (hS0.nilRow 4 1)
  obtain ⟨a2, c2, rfl, hc1, hc2, hr2⟩ := q2.form
  rw [← hL] at hc1 hr2
  rw [← hL] at HS0
  obtain ⟨i0, hi, hz0, hz1, hz2⟩ := info_parts Try.infoBool
  have Hr := Lib.hid hr2
  have e0 := hS0.cell (v := .slice a1 d.next.length c1) 0 0 rfl rfl
  have e1 := hS0.cell (v := .slice a2 d.ends.length c2) 0 1 rfl rfl
  rw [← hL] at e1
  rw [← hL]
  have Hhi := Lib.hid hi; clear hi
  have Hhz0 := Lib.hid hz0; clear hz0
  have Hhz1 := Lib.hid hz1; clear hz1
  have Hhz2 := Lib.hid hz2; clear hz2
  have HhL := Lib.hid hL; clear hL
  clear hr2 q1 q2 hl hS0
  go_enter Try.func99, Try.ntmps99
  go_wp2
  clear e0 e1
  go_loopw [5, 12] (fun _ i wr => ∃ (k c : Nat) (a : Option Addr), i = .int .i64 (k : Int) ∧ k ≤ L ∧ St w wr [Ent.box w.heap.size #[.slice a1 d.next.length c1, .slice a2 L c2] 26, Ent.box (w.heap.size + 1) #[.slice none 0 0, .slice none 0 0] 26, Ent.box (w.heap.size + 1 + 1) #[.slice a1 d.next.length c1, .slice a k c] 26, Ent.row 4 1 (.slice a k c) k (boolCells ((d.ends.take k).map (!·)))])
    (fun _ i _ => L - (intOf i).toNat)
  case atStart => exact ⟨0, 0, none, rfl, Nat.zero_le _, HS0.out⟩
  case round =>
    obtain ⟨k, c, a, rfl, hk, hS⟩ := hrel
    by_cases hlt : k < L
    · have hlt2 : (k : Int) < L := by omega
      obtain ⟨b2, o2, rfl, -, hb2, hcs⟩ := Hr.out (by omega)
      have k2 := (bcell hS.bel b2 _ hb2).trans (hcs k hlt)
      obtain ⟨x, hx⟩ : ∃ x, d.ends.getD k false = x := ⟨_, rfl⟩
      rw [hx] at k2
      obtain ⟨y, hy⟩ : ∃ y, (!x) = y := ⟨_, rfl⟩
      have hsn := notC_snoc (l := d.ends) (k := k) (by rw [← HhL.out]; exact hlt) (by rw [hx, hy])
      have HS := Lib.hid hS
      have HSa := Lib.hid (hS.alloc_ (.cells #[.bool y] 4))
      have HRw := Lib.hid (HSa.out.row 3 rfl)
      have x1 := hS.cell (v := .slice a k c) 2 1 rfl rfl
      have Hhx := Lib.hid hx; clear hx
      have Hhsn := Lib.hid hsn; clear hsn
      clear hcs hS
      go_wp2_with (at_builtin; refine wpList_append_lies _ rfl _ _ _ rfl _ 4 i0 (.bool false) 1 1 Try.underlying24 Hhi.out Hhz0.out Hhz1.out Hhz2.out rfl (by omega) _ k _ rfl HRw.out ⟨wr.heap.size, 0, none⟩ 1 1 [.bool y] rfl rfl (World.news_of_block (heap_alloc_new wr _)) one_bool (by omega) (by unfold maxLen; omega) (by omega) HSa.out.size _ rfl ?_; intro g6 c6 w6 hown6 hgrow6 hat6 hlt6; have HS6 := Lib.hid (HSa.out.app 3 rfl hown6 hgrow6 hat6); have y1 := HS6.out.cell (v := .slice a k c) 2 1 rfl rfl; have y2 := HS6.out.fr 2 1 rfl; clear hown6 hgrow6 hat6 hlt6)
      go_roundw
      case rel =>
        refine ⟨k + 1, c6, some ⟨g6, 0, none⟩, by go_num, by omega, ?_⟩
        rw [Hhsn.out]
        exact HS6.out.set 2 rfl 1 (.slice (some ⟨g6, 0, none⟩) (k + 1) c6)
      case measure => simp [intOf]; omega
    · obtain rfl : k = L := by omega
      have HSe := Lib.hid hS
      have t0 := hS.cell (v := .slice a1 d.next.length c1) 2 0 rfl rfl
      have t1 := hS.cell (v := .slice a k c) 2 1 rfl rfl
      have f0 := hS.fr 1 0 rfl
      have f1 := hS.fr 1 1 rfl
      have k0 := hS.cell (v := .slice none 0 0) 1 0 rfl rfl
      have k1 := hS.cell (v := .slice none 0 0) 1 1 rfl rfl
      clear hS
      go_wp2
      have hq := (HSe.out.set 1 rfl 0 (.slice a1 d.next.length c1)).set 1 rfl 1 (.slice a k c)
      have q0 := hq.cell (v := .slice a1 d.next.length c1) 1 0 rfl rfl
      have q1 := hq.cell (v := .slice a k c) 1 1 rfl rfl
      refine bodyPost_ret (v := .agg #[.slice a1 d.next.length c1, .slice a k c]) (by simp [results, Try.results99, go_sem, q0, q1]) rfl ?_
      refine ⟨.slice a1 d.next.length c1, .slice a k c, rfl, ⟨_, _, rfl, HQ.out.below hq.bel, ?_⟩, hq.bel⟩
      have hrow := hq.row 3 rfl
      have e : d.ends.take k = d.ends := by rw [HhL.out]; exact List.take_length
      rw [e] at hrow
      have e2 : k = (d.ends.map (!·)).length := by rw [List.length_map]; exact HhL.out
      exact ((own_of_row hrow).sl (by omega)).mono (Nat.zero_le _) |> fun z => by rw [e2] at z; exact e2 ▸ z
def othQ (d : DfaD) : DfaD := if dfaOk d.next d.ends = true then minD (flB true d) else ⟨[], []⟩
set_option maxRecDepth 100000 in
set_option maxHeartbeats 4000000 in
theorem implDfaOther_any (d : DfaD) (D : DfaD) (hD : othQ d = D) (v : Value) (w : World) (h : DfaR 0 w v d) :
    Calls Try.prog 60 #[v] w fun e w' => RDs D w e w' := by
  have H := Lib.hid h
  obtain ⟨v1, v2, rfl, g1, g2⟩ := h
  have hS0 := ((St.start w).alloc _ rfl #[v1, v2] 26).alloc (w.heap.size + 1) (by simp) #[.slice none 0 0, .slice none 0 0] 26
  have e0 := hS0.cell (v := v1) 0 0 rfl rfl
  have e1 := hS0.cell (v := v2) 0 1 rfl rfl
  have HhS0 := Lib.hid hS0; clear hS0
  clear g1 g2
  cases hok : dfaOk d.next d.ends
  · have hz : D = ⟨[], []⟩ := by rw [← hD]; unfold othQ; rw [if_neg (by rw [hok]; simp)]
    subst hz
    have Hhok := Lib.hid hok; clear hok
    clear hD
    go_enter Try.func60, Try.ntmps60
    go_wp2_with fail
    refine (implDfaValid_any d _ _ (H.out.below HhS0.out.bel) _ Hhok.out).mono ?_
    rintro e w1 ⟨rfl, hb1⟩
    have HS1 := Lib.hid (HhS0.out.call hb1)
    clear hb1 e0 e1
    have f0 := HS1.out.fr 1 0 rfl
    have f1 := HS1.out.fr 1 1 rfl
    have k0 := HS1.out.cell (v := .slice none 0 0) 1 0 rfl rfl
    have k1 := HS1.out.cell (v := .slice none 0 0) 1 1 rfl rfl
    go_wp2
    have hq := (HS1.out.set 1 rfl 0 (.slice none 0 0)).set 1 rfl 1 (.slice none 0 0)
    have q0 := hq.cell (v := .slice none 0 0) 1 0 rfl rfl
    have q1 := hq.cell (v := .slice none 0 0) 1 1 rfl rfl
    refine bodyPost_ret (v := .agg #[.slice none 0 0, .slice none 0 0]) (by simp [results, Try.results60, go_sem, q0, q1]) rfl ?_
    exact ⟨none, 0, none, 0, rfl, nil_r _ _, hq.bel⟩
  · have hz : minD (flB true d) = D := by rw [← hD]; unfold othQ; rw [if_pos hok]
    have Hhok := Lib.hid hok; clear hok
    have Hz := Lib.hid hz
    clear hD hz
    go_enter Try.func60, Try.ntmps60
    go_wp2_with fail
    refine (implDfaValid_any d _ _ (H.out.below HhS0.out.bel) _ Hhok.out).mono ?_
    rintro e w1 ⟨rfl, hb1⟩
    have HS1 := Lib.hid (HhS0.out.call hb1)
    clear hb1 e0 e1
    have e0 := HS1.out.cell (v := v1) 0 0 rfl rfl
    have e1 := HS1.out.cell (v := v2) 0 1 rfl rfl
    go_wp2_with fail
    refine (implOther_any d _ _ Hhok.out (H.out.below HS1.out.bel)).mono ?_
    rintro e w1' ⟨u1, u2, rfl, hou, hb1'⟩
    have HS1' := Lib.hid (HS1.out.call hb1')
    have HS1 := HS1'
    clear hb1' e0 e1
    go_wp2_with fail
    refine (implMin_any (flB true d) _ _ (flB_ok Hhok.out) hou).mono ?_
    rintro e w2 ⟨a1, c1, a2, c2, rfl, hdo, hb2⟩
    rw [Hz.out] at hdo
    rw [Hz.out]
    have HS2 := Lib.hid (HS1.out.call hb2)
    have HDr := Lib.hid hdo.r
    have hB1 := (HS1.out.boxlt 1 rfl).2
    have hsz := HS1.out.size
    clear hb2 hdo hou
    have f0 := HS2.out.fr 1 0 rfl
    have f1 := HS2.out.fr 1 1 rfl
    have k0 := HS2.out.cell (v := .slice none 0 0) 1 0 rfl rfl
    have k1 := HS2.out.cell (v := .slice none 0 0) 1 1 rfl rfl
    go_wp2
    have hq := (HS2.out.set 1 rfl 0 (.slice a1 D.next.length c1)).set 1 rfl 1 (.slice a2 D.ends.length c2)
    have q0 := hq.cell (v := .slice a1 D.next.length c1) 1 0 rfl rfl
    have q1 := hq.cell (v := .slice a2 D.ends.length c2) 1 1 rfl rfl
    refine bodyPost_ret (v := .agg #[.slice a1 D.next.length c1, .slice a2 D.ends.length c2]) (by simp [results, Try.results60, go_sem, q0, q1]) rfl ?_
    exact ⟨a1, c1, a2, c2, rfl, ((HDr.out.far hB1 0 _).far hB1 1 _).mono hsz, hq.bel⟩
set_option maxRecDepth 100000 in
set_option maxHeartbeats 16000000 in
theorem learnOther_walk (bs : List Nat) (v : Value) (w : World) (hb : Bytes 0 w v bs) :
    Calls Try.prog 14 #[v] w fun e w' => e = .returned (.bool true) ∧ Below w.heap.size w w' := by
  have HB := Lib.hid hb
  obtain ⟨av, cv, rfl, hcv1, hcv2, -⟩ := hb.form
  clear hb
  by_cases hlen : 1048576 < bs.length
  · have hl2 : (1048576 : Int) < bs.length := by omega
    go_enter Try.func14, Try.ntmps14
    go_wp2
    go_ret
    exact ⟨rfl, Below.refl _ _⟩
  have hl2 : ¬ (1048576 : Int) < bs.length := by omega
  go_enter Try.func14, Try.ntmps14
  go_wp2_with fail
  refine (drawGuessStatesD_any bs _ _ HB.out (by omega)).mono ?_
  rintro e w1 ⟨d, a1, a2, c1, c2, hsm, rfl, hd, hb1⟩
  have HS1 := Lib.hid (((St.start w).call hb1).alloc _ rfl #[.slice a1 d.next.length c1, .slice a2 d.ends.length c2] 26)
  have HR := Lib.hid (hd.below ((Below.refl w1.heap.size w1).alloc (Nat.le_refl _) (.cells #[.slice a1 d.next.length c1, .slice a2 d.ends.length c2] 26)))
  clear hb1 hd
  obtain ⟨J, hJ⟩ := lastG_ex d
  obtain ⟨F, hF⟩ : ∃ F, stsG d J = F := ⟨_, rfl⟩
  obtain ⟨n, hFl⟩ : ∃ n, F.length = n := ⟨_, rfl⟩
  obtain ⟨M, hM⟩ : ∃ M, othQ d = M := ⟨_, rfl⟩
  obtain ⟨JM, hJM, hFM⟩ : ∃ JM, lastG M JM ∧ stsG M JM = F := by
    by_cases hok : dfaOk d.next d.ends = true
    · have hM2 : minD (flB true d) = M := by rw [← hM, othQ, if_pos hok]
      have hmo : dfaOk M.next M.ends = true := by rw [← hM2]; exact min_dfaOk (flB_ok hok)
      have hl : ∀ l, isW l → accD M l = xb true (accD d l) := fun l hl => by rw [← hM2]; exact oth_lang hok l hl
      exact ⟨J, last_lang hok hmo hl hJ, by rw [sts_lang hok hmo hl hJ, hF]⟩
    · have hM2 : M = ⟨[], []⟩ := by rw [← hM, othQ, if_neg hok]
      have hno : ¬ dfaOk M.next M.ends = true := by rw [hM2]; decide
      exact ⟨0, fun h => absurd h hno, by rw [← hF, stsG, if_neg hno, stsG, if_neg hok]⟩
  have HhJ := Lib.hid hJ; clear hJ
  have HhF := Lib.hid hF; clear hF
  have HhFl := Lib.hid hFl; clear hFl
  have HhM := Lib.hid hM; clear hM
  have HhJM := Lib.hid hJM; clear hJM
  have HhFM := Lib.hid hFM; clear hFM
  have e0 := HS1.out.cell (v := .slice a1 d.next.length c1) 0 0 rfl rfl
  have e1 := HS1.out.cell (v := .slice a2 d.ends.length c2) 0 1 rfl rfl
  go_wp2_with fail
  refine (implGSn_any d J HhJ.out F HhF.out n HhFl.out _ _ HR.out).mono ?_
  rintro e w2 ⟨a3, c3, rfl, hx, hb⟩
  have HS2 := Lib.hid (HS1.out.call hb)
  have HR2 := Lib.hid (HR.out.below hb)
  have HX := Lib.hid hx
  clear hb hx e0 e1
  have e0 := HS2.out.cell (v := .slice a1 d.next.length c1) 0 0 rfl rfl
  have e1 := HS2.out.cell (v := .slice a2 d.ends.length c2) 0 1 rfl rfl
  go_wp2_with fail
  refine (specGSn_any d J HhJ.out F HhF.out n HhFl.out _ _ HR2.out).mono ?_
  rintro e w3 ⟨a4, c4, rfl, hy, hb⟩
  have HS3 := Lib.hid (HS2.out.call hb)
  have HR3 := Lib.hid (HR2.out.below hb)
  have HX3 := Lib.hid (HX.out.below hb)
  have HY := Lib.hid hy
  clear hb hy e0 e1
  go_wp2_with fail
  refine (sameInts_any F F _ _ _ HX3.out HY.out true (by simp)).mono ?_
  rintro e w4 ⟨rfl, hb⟩
  have HS4 := Lib.hid (HS3.out.call hb)
  have HR4 := Lib.hid (HR3.out.below hb)
  have HX4 := Lib.hid (HX3.out.below hb)
  clear hb
  have e0 := HS4.out.cell (v := .slice a1 d.next.length c1) 0 0 rfl rfl
  have e1 := HS4.out.cell (v := .slice a2 d.ends.length c2) 0 1 rfl rfl
  go_wp2_with fail
  refine (implDfaOther_any d M HhM.out _ _ HR4.out).mono ?_
  rintro e w5 ⟨x1, y1, x2, y2, rfl, hx, hb⟩
  have HS5 := Lib.hid (HS4.out.call hb)
  have HX5 := Lib.hid (HX4.out.below hb)
  have HM := Lib.hid (hx.mono (Nat.zero_le _))
  clear hb hx e0 e1
  go_wp2_with fail
  refine (implGSn_any M JM HhJM.out F HhFM.out n HhFl.out _ _ HM.out).mono ?_
  rintro e w6 ⟨a7, c7, rfl, hx, hb⟩
  have HS6 := Lib.hid (HS5.out.call hb)
  have HX6 := Lib.hid (HX5.out.below hb)
  have HZ := Lib.hid hx
  clear hb hx
  go_wp2_with fail
  refine (sameInts_any F F _ _ _ HZ.out HX6.out true (by simp)).mono ?_
  rintro e w7 ⟨rfl, hb⟩
  have HS7 := Lib.hid (HS6.out.call hb)
  clear hb
  go_wp2_with (go_at_call 20; refine (alive_any _).mono ?_; rintro e w' ⟨rfl, rfl⟩)
  go_ret
  exact ⟨rfl, HS7.out.bel⟩
end Go.Proofs.Ythhbjkgchabfmaa
