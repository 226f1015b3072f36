/-
  The walk over the law FnDfaRests.
  Conditions: the arguments read as bytes.
-/
import Derived.Test.YthhbjkgchabfmaaPk37Sd
import Derived.Test.YthhbjkgchabfmaaPk57Wr
namespace Go.Proofs.Ythhbjkgchabfmaa
open Go.RowKit
set_option maxRecDepth 100000 in
set_option maxHeartbeats 4000000 in
theorem implFirst_any (d : DfaD) (v : Value) (w : World) (hd : dfaOk d.next d.ends = true) (h : DfaR 0 w v d) (o : Option (List Nat)) (ho : firstHit (den d) (bat (dnx d) 0 d.next.length) = o) :
    Calls Try.prog 35 #[v] w fun e w' => e = wordRes o ∧ Below w.heap.size w w' := by
  have H := Lib.hid h
  obtain ⟨v1, v2, rfl, g1, g2⟩ := h
  have hS0 := (St.start w).alloc _ rfl #[v1, v2] 26
  have e0 := hS0.cell (v := v1) 0 0 rfl rfl
  have e1 := hS0.cell (v := v2) 0 1 rfl rfl
  have HhS0 := Lib.hid hS0; clear hS0
  have Hhd := Lib.hid hd; clear hd
  have Hho := Lib.hid ho; clear ho
  clear g1 g2
  go_enter Try.func35, Try.ntmps35
  go_wp2_with fail
  refine (implDfaValid_any d _ _ (H.out.below HhS0.out.bel) true Hhd.out).mono ?_
  rintro e w1 ⟨rfl, hb1⟩
  have HS1 := Lib.hid (HhS0.out.call hb1)
  clear hb1 e0 e1
  have e0 := HS1.out.cell (v := v1) 0 0 rfl rfl
  have e1 := HS1.out.cell (v := v2) 0 1 rfl rfl
  have hfw := fun (u : World) (hb : Below w.heap.size w u) => firstWord_any d (.agg #[v1, v2]) u (fine_of Hhd.out) (H.out.below hb)
  rw [Hho.out] at hfw
  have Hfw := Lib.hid hfw
  clear hfw
  cases o with
  | none =>
    go_wp2_with fail
    refine (Hfw.out _ HS1.out.bel).mono ?_
    rintro e w2 ⟨he, hb2⟩
    obtain rfl : e = .returned (.tuple #[.string { data := #[] }, .bool false]) := he
    go_wp2
    go_ret2
    exact ⟨rfl, (HS1.out.call hb2).bel⟩
  | some u =>
    go_wp2_with fail
    refine (Hfw.out _ HS1.out.bel).mono ?_
    rintro e w2 ⟨he, hb2⟩
    obtain rfl : e = .returned (.tuple #[.string (wdB u), .bool true]) := he
    go_wp2
    go_ret2
    exact ⟨rfl, (HS1.out.call hb2).bel⟩
theorem accEmpty_any (d : DfaD) (v : Value) (w : World) (h : DfaR 0 w v d) (hd : dfaOk d.next d.ends = true) (q : Bool) (hq : (wdOk [] && accD d (lets [])) = q) :
    Calls Try.prog 34 #[v, .string { data := #[] }] w fun e w' => e = .returned (.bool q) ∧ Below w.heap.size w w' :=
  dfaAccT_any d [] v w (fun b hb => by cases hb) (by simp) h hd q hq
theorem rs_no {d X : DfaD} (hX : (rs d).getD zeD = X) (hfb : (rs d).isSome = false) : X.next.length = 0 := by
  cases h : rs d with
  | none => rw [← hX, h]; rfl
  | some x => rw [h] at hfb; cases hfb
theorem rs_yes {d X : DfaD} (hX : (rs d).getD zeD = X) (hfb : (rs d).isSome = true) : rs d = some X := by
  cases h : rs d with
  | none => rw [h] at hfb; cases hfb
  | some x => rw [h] at hX; exact congrArg some hX
theorem rs_tailT {d X : DfaD} (h : rs d = some X) (l : List Nat) (hl : l ≠ []) (hq : (wdOk l && accD X (lets l)) = true) : (wdOk (l.drop 1) && accD X (lets (l.drop 1))) = true := by
  rw [Bool.and_eq_true] at hq ⊢
  refine ⟨wdOk_drop hq.1 1, ?_⟩
  cases l with
  | nil => exact absurd rfl hl
  | cons c l => exact rs_tail h (c := c - 97) (w := lets l) (lets_isW hq.1) hq.2
theorem rs_allT {d X : DfaD} (h : rs d = some X) (l : List Nat) (hq : (wdOk l && accD d (lets l)) = true) : (wdOk l && accD X (lets l)) = true := by
  rw [Bool.and_eq_true] at hq ⊢
  exact ⟨hq.1, rs_all h (lets_isW hq.1) hq.2⟩
set_option maxRecDepth 100000 in
set_option maxHeartbeats 16000000 in
theorem restsEnd_walk (bs cs : List Nat) (v u : Value) (w : World) (hb : Bytes 0 w v bs) (hc : Bytes 0 w u cs) :
    Calls Try.prog 5 #[v, u] w fun e w' => e = .returned (.bool true) ∧ Below w.heap.size w w' := by
  have HB := Lib.hid hb
  have HC := Lib.hid hc
  obtain ⟨av, cv, rfl, hcv1, hcv2, -⟩ := hb.form
  obtain ⟨au, cu, rfl, hcu1, hcu2, -⟩ := hc.form
  clear hb hc
  by_cases hlen : 1048576 < bs.length
  · have hl2 : (1048576 : Int) < bs.length := by omega
    go_enter Try.func5, Try.ntmps5
    go_wp2
    go_ret
    exact ⟨rfl, Below.refl _ _⟩
  have hl2 : ¬ (1048576 : Int) < bs.length := by omega
  by_cases hlen2 : 1048576 < cs.length
  · have hl3 : (1048576 : Int) < cs.length := by omega
    go_enter Try.func5, Try.ntmps5
    go_wp2
    go_ret
    exact ⟨rfl, Below.refl _ _⟩
  have hl3 : ¬ (1048576 : Int) < cs.length := by omega
  go_enter Try.func5, Try.ntmps5
  go_wp2_with fail
  refine (drawDfaRestsD_any bs _ _ HB.out (by omega)).mono ?_
  rintro e w1 ⟨d, a1, a2, c1, c2, hsm, rfl, hd, hb1⟩
  have HS1 := Lib.hid (((St.start w).call hb1).alloc _ rfl #[.slice a1 d.next.length c1, .slice a2 d.ends.length c2] 26)
  have HR := Lib.hid (hd.below ((Below.refl w1.heap.size w1).alloc (Nat.le_refl _) (.cells #[.slice a1 d.next.length c1, .slice a2 d.ends.length c2] 26)))
  clear hb1 hd
  obtain ⟨X, hX⟩ : ∃ X, (rs d).getD zeD = X := ⟨_, rfl⟩
  cases hfb : (rs d).isSome
  · have hz := rs_no hX hfb
    have hz0 : ((X.next.length : Int) == 0) = true := by rw [hz]; rfl
    have Hhz := Lib.hid hz; clear hz
    have HhX := Lib.hid hX; clear hX
    have Hhfb := Lib.hid hfb; clear hfb
    have e0 := HS1.out.cell (v := .slice a1 d.next.length c1) 0 0 rfl rfl
    have e1 := HS1.out.cell (v := .slice a2 d.ends.length c2) 0 1 rfl rfl
    go_wp2_with fail
    refine (implRs_any d X _ HhX.out Hhfb.out _ _ HR.out).mono ?_
    rintro e w2 ⟨⟨x1, y1, x2, y2, rfl, hx⟩, hb⟩
    have HS2 := Lib.hid ((HS1.out.call hb).alloc _ rfl #[.slice x1 X.next.length y1, .slice x2 X.ends.length y2] 26)
    have HX := Lib.hid (((hx.r).mono (Nat.zero_le _)).below ((Below.refl w2.heap.size w2).alloc (Nat.le_refl _) (.cells #[.slice x1 X.next.length y1, .slice x2 X.ends.length y2] 26)))
    have HR2 := Lib.hid ((HR.out.below hb).below ((Below.refl w2.heap.size w2).alloc (Nat.le_refl _) (.cells #[.slice x1 X.next.length y1, .slice x2 X.ends.length y2] 26)))
    clear HR hb hx e0 e1
    have HR := HR2
    have e0 := HS2.out.cell (v := .slice a1 d.next.length c1) 0 0 rfl rfl
    have e1 := HS2.out.cell (v := .slice a2 d.ends.length c2) 0 1 rfl rfl
    go_wp2_with fail
    refine (specRs_any d X _ HhX.out Hhfb.out _ _ HR.out).mono ?_
    rintro e w3 ⟨⟨z1, u1, z2, u2, rfl, hx⟩, hb⟩
    have HS3 := Lib.hid ((HS2.out.call hb).alloc _ rfl #[.slice z1 X.next.length u1, .slice z2 X.ends.length u2] 26)
    have HY := Lib.hid (hx.below ((Below.refl w3.heap.size w3).alloc (Nat.le_refl _) (.cells #[.slice z1 X.next.length u1, .slice z2 X.ends.length u2] 26)))
    have HX3 := Lib.hid ((HX.out.below hb).below ((Below.refl w3.heap.size w3).alloc (Nat.le_refl _) (.cells #[.slice z1 X.next.length u1, .slice z2 X.ends.length u2] 26)))
    have HR3 := Lib.hid ((HR.out.below hb).below ((Below.refl w3.heap.size w3).alloc (Nat.le_refl _) (.cells #[.slice z1 X.next.length u1, .slice z2 X.ends.length u2] 26)))
    clear HR hb hx e0 e1
    have e0 := HS3.out.cell (v := .slice x1 X.next.length y1) 1 0 rfl rfl
    have e1 := HS3.out.cell (v := .slice x2 X.ends.length y2) 1 1 rfl rfl
    have f0 := HS3.out.cell (v := .slice z1 X.next.length u1) 2 0 rfl rfl
    have f1 := HS3.out.cell (v := .slice z2 X.ends.length u2) 2 1 rfl rfl
    go_wp2_with fail
    refine (sameDfa_any X _ _ _ HX3.out HY.out).mono ?_
    rintro e w4 ⟨rfl, hb⟩
    have HS4 := Lib.hid (HS3.out.call hb)
    have HX4 := Lib.hid (HX3.out.below hb)
    have HR4 := Lib.hid (HR3.out.below hb)
    clear hb e0 e1 f0 f1
    have e0 := HS4.out.cell (v := .slice x1 X.next.length y1) 1 0 rfl rfl
    have e1 := HS4.out.cell (v := .slice x2 X.ends.length y2) 1 1 rfl rfl
    go_wp2_with (go_at_call 20; refine (alive_any _).mono ?_; rintro e w' ⟨rfl, rfl⟩)
    go_ret
    exact ⟨rfl, HS4.out.bel⟩
  · have hrs := rs_yes hX hfb
    have hemp := rs_empty hrs
    have htail := rs_tailT hrs
    have hall := rs_allT hrs
    have hdok := (rs_acc hrs).1
    have hxok := (rs_acc hrs).2.1
    have Hhrs := Lib.hid hrs; clear hrs
    have Hhemp := Lib.hid hemp; clear hemp
    have Hhtail := Lib.hid htail; clear htail
    have Hhall := Lib.hid hall; clear hall
    have Hhdok := Lib.hid hdok; clear hdok
    have Hhxok := Lib.hid hxok; clear hxok
    have HhX := Lib.hid hX; clear hX
    have Hhfb := Lib.hid hfb; clear hfb
    have e0 := HS1.out.cell (v := .slice a1 d.next.length c1) 0 0 rfl rfl
    have e1 := HS1.out.cell (v := .slice a2 d.ends.length c2) 0 1 rfl rfl
    go_wp2_with fail
    refine (implRs_any d X _ HhX.out Hhfb.out _ _ HR.out).mono ?_
    rintro e w2 ⟨⟨x1, y1, x2, y2, rfl, hx⟩, hb⟩
    have HS2 := Lib.hid ((HS1.out.call hb).alloc _ rfl #[.slice x1 X.next.length y1, .slice x2 X.ends.length y2] 26)
    have HX := Lib.hid (((hx.r).mono (Nat.zero_le _)).below ((Below.refl w2.heap.size w2).alloc (Nat.le_refl _) (.cells #[.slice x1 X.next.length y1, .slice x2 X.ends.length y2] 26)))
    have HR2 := Lib.hid ((HR.out.below hb).below ((Below.refl w2.heap.size w2).alloc (Nat.le_refl _) (.cells #[.slice x1 X.next.length y1, .slice x2 X.ends.length y2] 26)))
    clear HR hb hx e0 e1
    have HR := HR2
    have e0 := HS2.out.cell (v := .slice a1 d.next.length c1) 0 0 rfl rfl
    have e1 := HS2.out.cell (v := .slice a2 d.ends.length c2) 0 1 rfl rfl
    go_wp2_with fail
    refine (specRs_any d X _ HhX.out Hhfb.out _ _ HR.out).mono ?_
    rintro e w3 ⟨⟨z1, u1, z2, u2, rfl, hx⟩, hb⟩
    have HS3 := Lib.hid ((HS2.out.call hb).alloc _ rfl #[.slice z1 X.next.length u1, .slice z2 X.ends.length u2] 26)
    have HY := Lib.hid (hx.below ((Below.refl w3.heap.size w3).alloc (Nat.le_refl _) (.cells #[.slice z1 X.next.length u1, .slice z2 X.ends.length u2] 26)))
    have HX3 := Lib.hid ((HX.out.below hb).below ((Below.refl w3.heap.size w3).alloc (Nat.le_refl _) (.cells #[.slice z1 X.next.length u1, .slice z2 X.ends.length u2] 26)))
    have HR3 := Lib.hid ((HR.out.below hb).below ((Below.refl w3.heap.size w3).alloc (Nat.le_refl _) (.cells #[.slice z1 X.next.length u1, .slice z2 X.ends.length u2] 26)))
    clear HR hb hx e0 e1
    have e0 := HS3.out.cell (v := .slice x1 X.next.length y1) 1 0 rfl rfl
    have e1 := HS3.out.cell (v := .slice x2 X.ends.length y2) 1 1 rfl rfl
    have f0 := HS3.out.cell (v := .slice z1 X.next.length u1) 2 0 rfl rfl
    have f1 := HS3.out.cell (v := .slice z2 X.ends.length u2) 2 1 rfl rfl
    go_wp2_with fail
    refine (sameDfa_any X _ _ _ HX3.out HY.out).mono ?_
    rintro e w4 ⟨rfl, hb⟩
    have HS4 := Lib.hid (HS3.out.call hb)
    have HX4 := Lib.hid (HX3.out.below hb)
    have HR4 := Lib.hid (HR3.out.below hb)
    clear hb e0 e1 f0 f1
    go_wp2_with fail
    refine (drawWord_any cs _ _ (HC.out.below HS4.out.bel) (by omega)).mono ?_
    rintro e w5 ⟨l, ht, hl, rfl, hb⟩
    have HS5 := Lib.hid (HS4.out.call hb)
    have HX5 := Lib.hid (HX4.out.below hb)
    have HR5 := Lib.hid (HR4.out.below hb)
    have Hht := Lib.hid ht; clear ht
    clear hb
    go_upto_region 11 with fail
    go_cut [70] from 53 (fun r wx => r = .bool false ∧ St w5 wx [])
    case rest =>
      obtain ⟨rfl, hSc⟩ := hcut
      have HS6 := Lib.hid (HS5.out.call hSc.bel)
      have HX6 := Lib.hid (HX5.out.below hSc.bel)
      have HR6 := Lib.hid (HR5.out.below hSc.bel)
      clear hSc
      have e0 := HS6.out.cell (v := .slice a1 d.next.length c1) 0 0 rfl rfl
      have e1 := HS6.out.cell (v := .slice a2 d.ends.length c2) 0 1 rfl rfl
      obtain ⟨o, ho⟩ : ∃ o, firstHit (den d) (bat (dnx d) 0 d.next.length) = o := ⟨_, rfl⟩
      have hse : (wdOk [] && accD X (lets [])) = o.isSome := by
        rw [← ho, ← Hhemp.out]
        rfl
      obtain ⟨qd, hqd⟩ : ∃ b, (wdOk l && accD d (lets l)) = b := ⟨_, rfl⟩
      have Hho := Lib.hid ho; clear ho
      have Hhse := Lib.hid hse; clear hse
      cases o with
      | none =>
        go_wp2_with fail
        refine (implFirst_any d _ _ Hhdok.out HR6.out _ Hho.out).mono ?_
        rintro e w6 ⟨he, hb⟩
        obtain rfl : e = .returned (.tuple #[.string { data := #[] }, .bool false]) := he
        have HS7 := Lib.hid (HS6.out.call hb)
        have HX7 := Lib.hid (HX6.out.below hb)
        have HR7 := Lib.hid (HR6.out.below hb)
        clear hb e0 e1
        have e0 := HS7.out.cell (v := .slice a1 d.next.length c1) 0 0 rfl rfl
        have e1 := HS7.out.cell (v := .slice a2 d.ends.length c2) 0 1 rfl rfl
        have f0 := HS7.out.cell (v := .slice x1 X.next.length y1) 1 0 rfl rfl
        have f1 := HS7.out.cell (v := .slice x2 X.ends.length y2) 1 1 rfl rfl
        cases qd
        · have Hhqd := Lib.hid hqd; clear hqd
          go_wp2_with fail
          refine (dfaAccT_any d l _ _ Hht.out (by omega) HR7.out Hhdok.out _ Hhqd.out).mono ?_
          rintro e w7 ⟨rfl, hb⟩
          have HS8 := Lib.hid (HS7.out.call hb)
          have HX8 := Lib.hid (HX7.out.below hb)
          clear hb e0 e1 f0 f1
          have f0 := HS8.out.cell (v := .slice x1 X.next.length y1) 1 0 rfl rfl
          have f1 := HS8.out.cell (v := .slice x2 X.ends.length y2) 1 1 rfl rfl
          have HS9 := HS8
          have HX9 := HX8
          go_wp2_with fail
          refine (accEmpty_any X _ _ HX9.out Hhxok.out _ Hhse.out).mono ?_
          rintro e w9 ⟨rfl, hb⟩
          have HSa := Lib.hid (HS9.out.call hb)
          clear hb f0 f1
          go_wp2
          go_ret
          exact ⟨rfl, HSa.out.bel⟩
        · have Hhqd := Lib.hid hqd; clear hqd
          go_wp2_with fail
          refine (dfaAccT_any d l _ _ Hht.out (by omega) HR7.out Hhdok.out _ Hhqd.out).mono ?_
          rintro e w7 ⟨rfl, hb⟩
          have HS8 := Lib.hid (HS7.out.call hb)
          have HX8 := Lib.hid (HX7.out.below hb)
          clear hb e0 e1 f0 f1
          have f0 := HS8.out.cell (v := .slice x1 X.next.length y1) 1 0 rfl rfl
          have f1 := HS8.out.cell (v := .slice x2 X.ends.length y2) 1 1 rfl rfl
          have hqx := Hhall.out l Hhqd.out
          have Hhqx := Lib.hid hqx; clear hqx
          go_wp2_with fail
          refine (dfaAccT_any X l _ _ Hht.out (by omega) HX8.out Hhxok.out _ Hhqx.out).mono ?_
          rintro e w8 ⟨rfl, hb⟩
          have HS9 := Lib.hid (HS8.out.call hb)
          have HX9 := Lib.hid (HX8.out.below hb)
          clear hb f0 f1
          have f0 := HS9.out.cell (v := .slice x1 X.next.length y1) 1 0 rfl rfl
          have f1 := HS9.out.cell (v := .slice x2 X.ends.length y2) 1 1 rfl rfl
          go_wp2_with fail
          refine (accEmpty_any X _ _ HX9.out Hhxok.out _ Hhse.out).mono ?_
          rintro e w9 ⟨rfl, hb⟩
          have HSa := Lib.hid (HS9.out.call hb)
          clear hb f0 f1
          go_wp2
          go_ret
          exact ⟨rfl, HSa.out.bel⟩
      | some u =>
        go_wp2_with fail
        refine (implFirst_any d _ _ Hhdok.out HR6.out _ Hho.out).mono ?_
        rintro e w6 ⟨he, hb⟩
        obtain rfl : e = .returned (.tuple #[.string (wdB u), .bool true]) := he
        have HS7 := Lib.hid (HS6.out.call hb)
        have HX7 := Lib.hid (HX6.out.below hb)
        have HR7 := Lib.hid (HR6.out.below hb)
        clear hb e0 e1
        have e0 := HS7.out.cell (v := .slice a1 d.next.length c1) 0 0 rfl rfl
        have e1 := HS7.out.cell (v := .slice a2 d.ends.length c2) 0 1 rfl rfl
        have f0 := HS7.out.cell (v := .slice x1 X.next.length y1) 1 0 rfl rfl
        have f1 := HS7.out.cell (v := .slice x2 X.ends.length y2) 1 1 rfl rfl
        cases qd
        · have Hhqd := Lib.hid hqd; clear hqd
          go_wp2_with fail
          refine (dfaAccT_any d l _ _ Hht.out (by omega) HR7.out Hhdok.out _ Hhqd.out).mono ?_
          rintro e w7 ⟨rfl, hb⟩
          have HS8 := Lib.hid (HS7.out.call hb)
          have HX8 := Lib.hid (HX7.out.below hb)
          clear hb e0 e1 f0 f1
          have f0 := HS8.out.cell (v := .slice x1 X.next.length y1) 1 0 rfl rfl
          have f1 := HS8.out.cell (v := .slice x2 X.ends.length y2) 1 1 rfl rfl
          have HS9 := HS8
          have HX9 := HX8
          go_wp2_with fail
          refine (accEmpty_any X _ _ HX9.out Hhxok.out _ Hhse.out).mono ?_
          rintro e w9 ⟨rfl, hb⟩
          have HSa := Lib.hid (HS9.out.call hb)
          clear hb f0 f1
          go_wp2
          go_ret
          exact ⟨rfl, HSa.out.bel⟩
        · have Hhqd := Lib.hid hqd; clear hqd
          go_wp2_with fail
          refine (dfaAccT_any d l _ _ Hht.out (by omega) HR7.out Hhdok.out _ Hhqd.out).mono ?_
          rintro e w7 ⟨rfl, hb⟩
          have HS8 := Lib.hid (HS7.out.call hb)
          have HX8 := Lib.hid (HX7.out.below hb)
          clear hb e0 e1 f0 f1
          have f0 := HS8.out.cell (v := .slice x1 X.next.length y1) 1 0 rfl rfl
          have f1 := HS8.out.cell (v := .slice x2 X.ends.length y2) 1 1 rfl rfl
          have hqx := Hhall.out l Hhqd.out
          have Hhqx := Lib.hid hqx; clear hqx
          go_wp2_with fail
          refine (dfaAccT_any X l _ _ Hht.out (by omega) HX8.out Hhxok.out _ Hhqx.out).mono ?_
          rintro e w8 ⟨rfl, hb⟩
          have HS9 := Lib.hid (HS8.out.call hb)
          have HX9 := Lib.hid (HX8.out.below hb)
          clear hb f0 f1
          have f0 := HS9.out.cell (v := .slice x1 X.next.length y1) 1 0 rfl rfl
          have f1 := HS9.out.cell (v := .slice x2 X.ends.length y2) 1 1 rfl rfl
          go_wp2_with fail
          refine (accEmpty_any X _ _ HX9.out Hhxok.out _ Hhse.out).mono ?_
          rintro e w9 ⟨rfl, hb⟩
          have HSa := Lib.hid (HS9.out.call hb)
          clear hb f0 f1
          go_wp2
          go_ret
          exact ⟨rfl, HSa.out.bel⟩
    have C0 := Lib.hid (HS5.out.cell (v := .slice x1 X.next.length y1) 1 0 rfl rfl)
    have C1 := Lib.hid (HS5.out.cell (v := .slice x2 X.ends.length y2) 1 1 rfl rfl)
    have HltC := Lib.hid (HS5.out.boxlt 1 rfl).2
    cases hwd : wdOk l
    · have Hhwd := Lib.hid hwd; clear hwd
      refine wp_region_any (by kernel_rfl) ?_
      refine wpAny_invA (fun A listed a w' => ∃ (l0 l1 l2 l3 l4 l5 l6 l7 l8 l9 l10 l11 l12 l13 l14 l15 l16 l17 : Bool) , listed = #[l0, l1, l2, l3, l4, l5, l6, l7, l8, l9, l10, l11, l12, l13, l14, l15, l16, l17] ∧
          a = ⟨((((((((A.tmps.setIfInBounds 53 (if l0 = true then .string (txB l) else A.tmps.getD 53 undef)).setIfInBounds 54 (if l1 = true then .bool false else A.tmps.getD 54 undef)).setIfInBounds 55 (if l2 = true then .bool false else A.tmps.getD 55 undef)).setIfInBounds 58 (if l5 = true then .bool false else A.tmps.getD 58 undef)).setIfInBounds 59 (if l6 = true then .bool false else A.tmps.getD 59 undef)).setIfInBounds 63 (if l10 = true then .bool false else A.tmps.getD 63 undef)).setIfInBounds 64 (if l11 = true then .bool false else A.tmps.getD 64 undef)).setIfInBounds 70 (if l17 = true then .bool false else A.tmps.getD 70 undef)), A.defers⟩ ∧
          St w5 w' []) ?_ ?_ ?_
      · rintro listed a w' ⟨l0, l1, l2, l3, l4, l5, l6, l7, l8, l9, l10, l11, l12, l13, l14, l15, l16, l17, rfl, rfl, hS⟩ i hi
        obtain ⟨hun, o, ho, hall⟩ := mem_ready.1 hi
        have hlt := (Array.getElem?_eq_some_iff.1 ho).1
        refine wpOp_step ho (fun K hK => ?_)
        clear hi
        have HS := Lib.hid hS
        clear hS
        simp only [List.setIfInBounds_toArray, List.set_cons_zero, List.set_cons_succ, Array.getD_eq_getD_getElem?, List.getElem?_toArray, List.getElem?_cons_zero, List.getElem?_cons_succ, Option.getD_some]
        obtain h | h | h | h | h | h | h | h | h | h | h | h | h | h | h | h | h | h : i = 0 ∨ i = 1 ∨ i = 2 ∨ i = 3 ∨ i = 4 ∨ i = 5 ∨ i = 6 ∨ i = 7 ∨ i = 8 ∨ i = 9 ∨ i = 10 ∨ i = 11 ∨ i = 12 ∨ i = 13 ∨ i = 14 ∨ i = 15 ∨ i = 16 ∨ i = 17 := by simp at hlt; omega
        all_goals subst h
        all_goals simp only [List.getElem?_toArray, List.getElem?_cons_zero, List.getElem?_cons_succ, Option.some.injEq] at ho
        all_goals subst ho
        all_goals simp [Region.binds] at hun hall
        · subst hun
          go_simp
          exact hK _ _ ⟨true, l1, l2, l3, l4, l5, l6, l7, l8, l9, l10, l11, l12, l13, l14, l15, l16, l17, rfl, (by simp), HS.out⟩
        · obtain rfl := hall
          subst hun
          go_simp
          go_at_call 33
          refine (specWordValid_any l _ Hht.out (by omega) _ Hhwd.out).mono ?_
          rintro e u1 ⟨rfl, rfl⟩
          go_simp
          exact hK _ _ ⟨true, true, l2, l3, l4, l5, l6, l7, l8, l9, l10, l11, l12, l13, l14, l15, l16, l17, rfl, (by simp), HS.out⟩
        · obtain rfl := hall
          subst hun
          go_simp
          exact hK _ _ ⟨l0, true, true, l3, l4, l5, l6, l7, l8, l9, l10, l11, l12, l13, l14, l15, l16, l17, rfl, (by simp), HS.out⟩
        · obtain rfl := hall
          subst hun
          go_simp
          exact hK _ _ ⟨l0, l1, true, true, l4, l5, l6, l7, l8, l9, l10, l11, l12, l13, l14, l15, l16, l17, rfl, (by simp), HS.out⟩
        · obtain ⟨rfl, rfl⟩ := hall
          subst hun
          go_simp
          exact hK _ _ ⟨l0, l1, true, true, true, l5, l6, l7, l8, l9, l10, l11, l12, l13, l14, l15, l16, l17, rfl, (by simp), HS.out⟩
        · obtain ⟨rfl, rfl⟩ := hall
          subst hun
          go_simp
          exact hK _ _ ⟨l0, l1, true, l3, true, true, l6, l7, l8, l9, l10, l11, l12, l13, l14, l15, l16, l17, rfl, (by simp), HS.out⟩
        · obtain ⟨rfl, rfl⟩ := hall
          subst hun
          go_simp
          exact hK _ _ ⟨l0, l1, true, l3, l4, true, true, l7, l8, l9, l10, l11, l12, l13, l14, l15, l16, l17, rfl, (by simp), HS.out⟩
        · obtain rfl := hall
          subst hun
          go_simp
          exact hK _ _ ⟨l0, l1, l2, l3, l4, l5, true, true, l8, l9, l10, l11, l12, l13, l14, l15, l16, l17, rfl, (by simp), HS.out⟩
        · obtain rfl := hall
          subst hun
          go_simp
          exact hK _ _ ⟨l0, l1, l2, l3, l4, l5, true, l7, true, l9, l10, l11, l12, l13, l14, l15, l16, l17, rfl, (by simp), HS.out⟩
        · obtain ⟨rfl, rfl, rfl⟩ := hall
          subst hun
          go_simp
          exact hK _ _ ⟨l0, l1, l2, l3, l4, l5, true, true, true, true, l10, l11, l12, l13, l14, l15, l16, l17, rfl, (by simp), HS.out⟩
        · obtain ⟨rfl, rfl⟩ := hall
          subst hun
          go_simp
          exact hK _ _ ⟨l0, l1, l2, l3, l4, l5, true, l7, l8, true, true, l11, l12, l13, l14, l15, l16, l17, rfl, (by simp), HS.out⟩
        · obtain ⟨rfl, rfl⟩ := hall
          subst hun
          go_simp
          exact hK _ _ ⟨l0, l1, l2, l3, l4, l5, l6, l7, l8, true, true, true, l12, l13, l14, l15, l16, l17, rfl, (by simp), HS.out⟩
        · obtain rfl := hall
          subst hun
          go_simp
          exact hK _ _ ⟨l0, l1, l2, l3, l4, l5, l6, l7, l8, l9, l10, true, true, l13, l14, l15, l16, l17, rfl, (by simp), HS.out⟩
        · obtain rfl := hall
          subst hun
          go_simp
          exact hK _ _ ⟨l0, l1, l2, l3, l4, l5, l6, l7, l8, l9, l10, true, l12, true, l14, l15, l16, l17, rfl, (by simp), HS.out⟩
        · obtain ⟨rfl, rfl⟩ := hall
          subst hun
          go_simp
          exact hK _ _ ⟨l0, l1, l2, l3, l4, l5, l6, l7, l8, l9, l10, true, l12, true, true, l15, l16, l17, rfl, (by simp), HS.out⟩
        · obtain ⟨rfl, rfl, rfl⟩ := hall
          subst hun
          go_simp
          exact hK _ _ ⟨l0, l1, l2, l3, l4, l5, l6, l7, l8, l9, l10, true, true, l13, true, true, l16, l17, rfl, (by simp), HS.out⟩
        · obtain ⟨rfl, rfl⟩ := hall
          subst hun
          go_simp
          exact hK _ _ ⟨l0, l1, l2, l3, l4, l5, l6, l7, l8, l9, l10, true, l12, l13, l14, true, true, l17, rfl, (by simp), HS.out⟩
        · obtain ⟨rfl, rfl⟩ := hall
          subst hun
          go_simp
          exact hK _ _ ⟨l0, l1, l2, l3, l4, l5, l6, l7, l8, l9, l10, true, l12, l13, l14, l15, true, true, rfl, (by simp), HS.out⟩
      · rintro listed a w' ⟨l0, l1, l2, l3, l4, l5, l6, l7, l8, l9, l10, l11, l12, l13, l14, l15, l16, l17, rfl, rfl, hS⟩ hr
        have hall := ready_nilM (by kernel_rfl) rfl hr
        obtain rfl : l0 = true := by simpa using hall 0 (by simp)
        obtain rfl : l1 = true := by simpa using hall 1 (by simp)
        obtain rfl : l2 = true := by simpa using hall 2 (by simp)
        obtain rfl : l3 = true := by simpa using hall 3 (by simp)
        obtain rfl : l4 = true := by simpa using hall 4 (by simp)
        obtain rfl : l5 = true := by simpa using hall 5 (by simp)
        obtain rfl : l6 = true := by simpa using hall 6 (by simp)
        obtain rfl : l7 = true := by simpa using hall 7 (by simp)
        obtain rfl : l8 = true := by simpa using hall 8 (by simp)
        obtain rfl : l9 = true := by simpa using hall 9 (by simp)
        obtain rfl : l10 = true := by simpa using hall 10 (by simp)
        obtain rfl : l11 = true := by simpa using hall 11 (by simp)
        obtain rfl : l12 = true := by simpa using hall 12 (by simp)
        obtain rfl : l13 = true := by simpa using hall 13 (by simp)
        obtain rfl : l14 = true := by simpa using hall 14 (by simp)
        obtain rfl : l15 = true := by simpa using hall 15 (by simp)
        obtain rfl : l16 = true := by simpa using hall 16 (by simp)
        obtain rfl : l17 = true := by simpa using hall 17 (by simp)
        clear hall hr 
        simp only [↓reduceIte] at hS ⊢
        simp only [List.setIfInBounds_toArray, List.set_cons_zero, List.set_cons_succ]
        have HSf := Lib.hid hS
        clear hS
        go_wp2_with fail
        go_meet
        case rel => exact ⟨rfl, HSf.out⟩
      · refine ⟨false, false, false, false, false, false, false, false, false, false, false, false, false, false, false, false, false, false, rfl, (by simp), ?_⟩
        exact (St.start w5).drew.pick [] (by decide)
    · have Hhwd := Lib.hid hwd; clear hwd
      by_cases hl0 : l = []
      · have hem : (txB l).toList.isEmpty = true := by rw [txB_empty, hl0]; rfl
        have Hhl0 := Lib.hid hl0; clear hl0
        refine wp_region_any (by kernel_rfl) ?_
        refine wpAny_invA (fun A listed a w' => ∃ (l0 l1 l2 l3 l4 l5 l6 l7 l8 l9 l10 l11 l12 l13 l14 l15 l16 l17 : Bool) , listed = #[l0, l1, l2, l3, l4, l5, l6, l7, l8, l9, l10, l11, l12, l13, l14, l15, l16, l17] ∧
            a = ⟨((((((((((A.tmps.setIfInBounds 53 (if l0 = true then .string (txB l) else A.tmps.getD 53 undef)).setIfInBounds 54 (if l1 = true then .bool true else A.tmps.getD 54 undef)).setIfInBounds 55 (if l2 = true then .bool true else A.tmps.getD 55 undef)).setIfInBounds 56 (if l3 = true then .string (txB l) else A.tmps.getD 56 undef)).setIfInBounds 57 (if l4 = true then .bool false else A.tmps.getD 57 undef)).setIfInBounds 58 (if l5 = true then .bool false else A.tmps.getD 58 undef)).setIfInBounds 59 (if l6 = true then .bool false else A.tmps.getD 59 undef)).setIfInBounds 63 (if l10 = true then .bool false else A.tmps.getD 63 undef)).setIfInBounds 64 (if l11 = true then .bool false else A.tmps.getD 64 undef)).setIfInBounds 70 (if l17 = true then .bool false else A.tmps.getD 70 undef)), A.defers⟩ ∧
            St w5 w' []) ?_ ?_ ?_
        · rintro listed a w' ⟨l0, l1, l2, l3, l4, l5, l6, l7, l8, l9, l10, l11, l12, l13, l14, l15, l16, l17, rfl, rfl, hS⟩ i hi
          obtain ⟨hun, o, ho, hall⟩ := mem_ready.1 hi
          have hlt := (Array.getElem?_eq_some_iff.1 ho).1
          refine wpOp_step ho (fun K hK => ?_)
          clear hi
          have HS := Lib.hid hS
          clear hS
          simp only [List.setIfInBounds_toArray, List.set_cons_zero, List.set_cons_succ, Array.getD_eq_getD_getElem?, List.getElem?_toArray, List.getElem?_cons_zero, List.getElem?_cons_succ, Option.getD_some]
          obtain h | h | h | h | h | h | h | h | h | h | h | h | h | h | h | h | h | h : i = 0 ∨ i = 1 ∨ i = 2 ∨ i = 3 ∨ i = 4 ∨ i = 5 ∨ i = 6 ∨ i = 7 ∨ i = 8 ∨ i = 9 ∨ i = 10 ∨ i = 11 ∨ i = 12 ∨ i = 13 ∨ i = 14 ∨ i = 15 ∨ i = 16 ∨ i = 17 := by simp at hlt; omega
          all_goals subst h
          all_goals simp only [List.getElem?_toArray, List.getElem?_cons_zero, List.getElem?_cons_succ, Option.some.injEq] at ho
          all_goals subst ho
          all_goals simp [Region.binds] at hun hall
          · subst hun
            go_simp
            exact hK _ _ ⟨true, l1, l2, l3, l4, l5, l6, l7, l8, l9, l10, l11, l12, l13, l14, l15, l16, l17, rfl, (by simp), HS.out⟩
          · obtain rfl := hall
            subst hun
            go_simp
            go_at_call 33
            refine (specWordValid_any l _ Hht.out (by omega) _ Hhwd.out).mono ?_
            rintro e u1 ⟨rfl, rfl⟩
            go_simp
            exact hK _ _ ⟨true, true, l2, l3, l4, l5, l6, l7, l8, l9, l10, l11, l12, l13, l14, l15, l16, l17, rfl, (by simp), HS.out⟩
          · obtain rfl := hall
            subst hun
            go_simp
            exact hK _ _ ⟨l0, true, true, l3, l4, l5, l6, l7, l8, l9, l10, l11, l12, l13, l14, l15, l16, l17, rfl, (by simp), HS.out⟩
          · obtain rfl := hall
            subst hun
            go_simp
            exact hK _ _ ⟨l0, l1, true, true, l4, l5, l6, l7, l8, l9, l10, l11, l12, l13, l14, l15, l16, l17, rfl, (by simp), HS.out⟩
          · obtain ⟨rfl, rfl⟩ := hall
            subst hun
            go_simp
            exact hK _ _ ⟨l0, l1, true, true, true, l5, l6, l7, l8, l9, l10, l11, l12, l13, l14, l15, l16, l17, rfl, (by simp), HS.out⟩
          · obtain ⟨rfl, rfl⟩ := hall
            subst hun
            go_simp
            exact hK _ _ ⟨l0, l1, true, l3, true, true, l6, l7, l8, l9, l10, l11, l12, l13, l14, l15, l16, l17, rfl, (by simp), HS.out⟩
          · obtain ⟨rfl, rfl⟩ := hall
            subst hun
            go_simp
            exact hK _ _ ⟨l0, l1, true, l3, l4, true, true, l7, l8, l9, l10, l11, l12, l13, l14, l15, l16, l17, rfl, (by simp), HS.out⟩
          · obtain rfl := hall
            subst hun
            go_simp
            exact hK _ _ ⟨l0, l1, l2, l3, l4, l5, true, true, l8, l9, l10, l11, l12, l13, l14, l15, l16, l17, rfl, (by simp), HS.out⟩
          · obtain rfl := hall
            subst hun
            go_simp
            exact hK _ _ ⟨l0, l1, l2, l3, l4, l5, true, l7, true, l9, l10, l11, l12, l13, l14, l15, l16, l17, rfl, (by simp), HS.out⟩
          · obtain ⟨rfl, rfl, rfl⟩ := hall
            subst hun
            go_simp
            exact hK _ _ ⟨l0, l1, l2, l3, l4, l5, true, true, true, true, l10, l11, l12, l13, l14, l15, l16, l17, rfl, (by simp), HS.out⟩
          · obtain ⟨rfl, rfl⟩ := hall
            subst hun
            go_simp
            exact hK _ _ ⟨l0, l1, l2, l3, l4, l5, true, l7, l8, true, true, l11, l12, l13, l14, l15, l16, l17, rfl, (by simp), HS.out⟩
          · obtain ⟨rfl, rfl⟩ := hall
            subst hun
            go_simp
            exact hK _ _ ⟨l0, l1, l2, l3, l4, l5, l6, l7, l8, true, true, true, l12, l13, l14, l15, l16, l17, rfl, (by simp), HS.out⟩
          · obtain rfl := hall
            subst hun
            go_simp
            exact hK _ _ ⟨l0, l1, l2, l3, l4, l5, l6, l7, l8, l9, l10, true, true, l13, l14, l15, l16, l17, rfl, (by simp), HS.out⟩
          · obtain rfl := hall
            subst hun
            go_simp
            exact hK _ _ ⟨l0, l1, l2, l3, l4, l5, l6, l7, l8, l9, l10, true, l12, true, l14, l15, l16, l17, rfl, (by simp), HS.out⟩
          · obtain ⟨rfl, rfl⟩ := hall
            subst hun
            go_simp
            exact hK _ _ ⟨l0, l1, l2, l3, l4, l5, l6, l7, l8, l9, l10, true, l12, true, true, l15, l16, l17, rfl, (by simp), HS.out⟩
          · obtain ⟨rfl, rfl, rfl⟩ := hall
            subst hun
            go_simp
            exact hK _ _ ⟨l0, l1, l2, l3, l4, l5, l6, l7, l8, l9, l10, true, true, l13, true, true, l16, l17, rfl, (by simp), HS.out⟩
          · obtain ⟨rfl, rfl⟩ := hall
            subst hun
            go_simp
            exact hK _ _ ⟨l0, l1, l2, l3, l4, l5, l6, l7, l8, l9, l10, true, l12, l13, l14, true, true, l17, rfl, (by simp), HS.out⟩
          · obtain ⟨rfl, rfl⟩ := hall
            subst hun
            go_simp
            exact hK _ _ ⟨l0, l1, l2, l3, l4, l5, l6, l7, l8, l9, l10, true, l12, l13, l14, l15, true, true, rfl, (by simp), HS.out⟩
        · rintro listed a w' ⟨l0, l1, l2, l3, l4, l5, l6, l7, l8, l9, l10, l11, l12, l13, l14, l15, l16, l17, rfl, rfl, hS⟩ hr
          have hall := ready_nilM (by kernel_rfl) rfl hr
          obtain rfl : l0 = true := by simpa using hall 0 (by simp)
          obtain rfl : l1 = true := by simpa using hall 1 (by simp)
          obtain rfl : l2 = true := by simpa using hall 2 (by simp)
          obtain rfl : l3 = true := by simpa using hall 3 (by simp)
          obtain rfl : l4 = true := by simpa using hall 4 (by simp)
          obtain rfl : l5 = true := by simpa using hall 5 (by simp)
          obtain rfl : l6 = true := by simpa using hall 6 (by simp)
          obtain rfl : l7 = true := by simpa using hall 7 (by simp)
          obtain rfl : l8 = true := by simpa using hall 8 (by simp)
          obtain rfl : l9 = true := by simpa using hall 9 (by simp)
          obtain rfl : l10 = true := by simpa using hall 10 (by simp)
          obtain rfl : l11 = true := by simpa using hall 11 (by simp)
          obtain rfl : l12 = true := by simpa using hall 12 (by simp)
          obtain rfl : l13 = true := by simpa using hall 13 (by simp)
          obtain rfl : l14 = true := by simpa using hall 14 (by simp)
          obtain rfl : l15 = true := by simpa using hall 15 (by simp)
          obtain rfl : l16 = true := by simpa using hall 16 (by simp)
          obtain rfl : l17 = true := by simpa using hall 17 (by simp)
          clear hall hr 
          simp only [↓reduceIte] at hS ⊢
          simp only [List.setIfInBounds_toArray, List.set_cons_zero, List.set_cons_succ]
          have HSf := Lib.hid hS
          clear hS
          go_wp2_with fail
          go_meet
          case rel => exact ⟨rfl, HSf.out⟩
        · refine ⟨false, false, false, false, false, false, false, false, false, false, false, false, false, false, false, false, false, false, rfl, (by simp), ?_⟩
          exact (St.start w5).drew.pick [] (by decide)
      · have hem : (txB l).toList.isEmpty = false := by rw [txB_empty]; cases l <;> simp_all
        have hln := List.length_pos_iff.2 hl0
        have Hhl0 := Lib.hid hl0; clear hl0
        cases hq : (wdOk l && accD X (lets l))
        · have Hhq := Lib.hid hq; clear hq
          refine wp_region_any (by kernel_rfl) ?_
          refine wpAny_invA (fun A listed a w' => ∃ (l0 l1 l2 l3 l4 l5 l6 l7 l8 l9 l10 l11 l12 l13 l14 l15 l16 l17 : Bool) , listed = #[l0, l1, l2, l3, l4, l5, l6, l7, l8, l9, l10, l11, l12, l13, l14, l15, l16, l17] ∧
              a = ⟨(((((((((((((A.tmps.setIfInBounds 53 (if l0 = true then .string (txB l) else A.tmps.getD 53 undef)).setIfInBounds 54 (if l1 = true then .bool true else A.tmps.getD 54 undef)).setIfInBounds 55 (if l2 = true then .bool true else A.tmps.getD 55 undef)).setIfInBounds 56 (if l3 = true then .string (txB l) else A.tmps.getD 56 undef)).setIfInBounds 57 (if l4 = true then .bool true else A.tmps.getD 57 undef)).setIfInBounds 58 (if l5 = true then .bool true else A.tmps.getD 58 undef)).setIfInBounds 59 (if l6 = true then .bool true else A.tmps.getD 59 undef)).setIfInBounds 60 (if l7 = true then .agg #[.slice x1 X.next.length y1, .slice x2 X.ends.length y2] else A.tmps.getD 60 undef)).setIfInBounds 61 (if l8 = true then .string (txB l) else A.tmps.getD 61 undef)).setIfInBounds 62 (if l9 = true then .bool false else A.tmps.getD 62 undef)).setIfInBounds 63 (if l10 = true then .bool false else A.tmps.getD 63 undef)).setIfInBounds 64 (if l11 = true then .bool false else A.tmps.getD 64 undef)).setIfInBounds 70 (if l17 = true then .bool false else A.tmps.getD 70 undef)), A.defers⟩ ∧
              St w5 w' []) ?_ ?_ ?_
          · rintro listed a w' ⟨l0, l1, l2, l3, l4, l5, l6, l7, l8, l9, l10, l11, l12, l13, l14, l15, l16, l17, rfl, rfl, hS⟩ i hi
            obtain ⟨hun, o, ho, hall⟩ := mem_ready.1 hi
            have hlt := (Array.getElem?_eq_some_iff.1 ho).1
            refine wpOp_step ho (fun K hK => ?_)
            clear hi
            have HS := Lib.hid hS
            clear hS
            simp only [List.setIfInBounds_toArray, List.set_cons_zero, List.set_cons_succ, Array.getD_eq_getD_getElem?, List.getElem?_toArray, List.getElem?_cons_zero, List.getElem?_cons_succ, Option.getD_some]
            obtain h | h | h | h | h | h | h | h | h | h | h | h | h | h | h | h | h | h : i = 0 ∨ i = 1 ∨ i = 2 ∨ i = 3 ∨ i = 4 ∨ i = 5 ∨ i = 6 ∨ i = 7 ∨ i = 8 ∨ i = 9 ∨ i = 10 ∨ i = 11 ∨ i = 12 ∨ i = 13 ∨ i = 14 ∨ i = 15 ∨ i = 16 ∨ i = 17 := by simp at hlt; omega
            all_goals subst h
            all_goals simp only [List.getElem?_toArray, List.getElem?_cons_zero, List.getElem?_cons_succ, Option.some.injEq] at ho
            all_goals subst ho
            all_goals simp [Region.binds] at hun hall
            · subst hun
              go_simp
              exact hK _ _ ⟨true, l1, l2, l3, l4, l5, l6, l7, l8, l9, l10, l11, l12, l13, l14, l15, l16, l17, rfl, (by simp), HS.out⟩
            · obtain rfl := hall
              subst hun
              go_simp
              go_at_call 33
              refine (specWordValid_any l _ Hht.out (by omega) _ Hhwd.out).mono ?_
              rintro e u1 ⟨rfl, rfl⟩
              go_simp
              exact hK _ _ ⟨true, true, l2, l3, l4, l5, l6, l7, l8, l9, l10, l11, l12, l13, l14, l15, l16, l17, rfl, (by simp), HS.out⟩
            · obtain rfl := hall
              subst hun
              go_simp
              exact hK _ _ ⟨l0, true, true, l3, l4, l5, l6, l7, l8, l9, l10, l11, l12, l13, l14, l15, l16, l17, rfl, (by simp), HS.out⟩
            · obtain rfl := hall
              subst hun
              go_simp
              exact hK _ _ ⟨l0, l1, true, true, l4, l5, l6, l7, l8, l9, l10, l11, l12, l13, l14, l15, l16, l17, rfl, (by simp), HS.out⟩
            · obtain ⟨rfl, rfl⟩ := hall
              subst hun
              go_simp
              exact hK _ _ ⟨l0, l1, true, true, true, l5, l6, l7, l8, l9, l10, l11, l12, l13, l14, l15, l16, l17, rfl, (by simp), HS.out⟩
            · obtain ⟨rfl, rfl⟩ := hall
              subst hun
              go_simp
              exact hK _ _ ⟨l0, l1, true, l3, true, true, l6, l7, l8, l9, l10, l11, l12, l13, l14, l15, l16, l17, rfl, (by simp), HS.out⟩
            · obtain ⟨rfl, rfl⟩ := hall
              subst hun
              go_simp
              exact hK _ _ ⟨l0, l1, true, l3, l4, true, true, l7, l8, l9, l10, l11, l12, l13, l14, l15, l16, l17, rfl, (by simp), HS.out⟩
            · obtain rfl := hall
              subst hun
              have e0 := (bcell HS.out.bel (w2.heap.size) 0 HltC.out).trans C0.out
              have e1 := (bcell HS.out.bel (w2.heap.size) 1 HltC.out).trans C1.out
              go_simp
              exact hK _ _ ⟨l0, l1, l2, l3, l4, l5, true, true, l8, l9, l10, l11, l12, l13, l14, l15, l16, l17, rfl, (by simp), HS.out⟩
            · obtain rfl := hall
              subst hun
              go_simp
              exact hK _ _ ⟨l0, l1, l2, l3, l4, l5, true, l7, true, l9, l10, l11, l12, l13, l14, l15, l16, l17, rfl, (by simp), HS.out⟩
            · obtain ⟨rfl, rfl, rfl⟩ := hall
              subst hun
              go_simp
              go_at_call 34
              refine (dfaAccT_any X l _ _ Hht.out (by omega) (HX5.out.below HS.out.bel) Hhxok.out _ Hhq.out).mono ?_
              rintro e u1 ⟨rfl, hb⟩
              have hS2 := HS.out.call hb
              have HhS2 := Lib.hid hS2; clear hS2
              go_simp
              exact hK _ _ ⟨l0, l1, l2, l3, l4, l5, true, true, true, true, l10, l11, l12, l13, l14, l15, l16, l17, rfl, (by simp), HhS2.out⟩
            · obtain ⟨rfl, rfl⟩ := hall
              subst hun
              go_simp
              exact hK _ _ ⟨l0, l1, l2, l3, l4, l5, true, l7, l8, true, true, l11, l12, l13, l14, l15, l16, l17, rfl, (by simp), HS.out⟩
            · obtain ⟨rfl, rfl⟩ := hall
              subst hun
              go_simp
              exact hK _ _ ⟨l0, l1, l2, l3, l4, l5, l6, l7, l8, true, true, true, l12, l13, l14, l15, l16, l17, rfl, (by simp), HS.out⟩
            · obtain rfl := hall
              subst hun
              go_simp
              exact hK _ _ ⟨l0, l1, l2, l3, l4, l5, l6, l7, l8, l9, l10, true, true, l13, l14, l15, l16, l17, rfl, (by simp), HS.out⟩
            · obtain rfl := hall
              subst hun
              go_simp
              exact hK _ _ ⟨l0, l1, l2, l3, l4, l5, l6, l7, l8, l9, l10, true, l12, true, l14, l15, l16, l17, rfl, (by simp), HS.out⟩
            · obtain ⟨rfl, rfl⟩ := hall
              subst hun
              go_simp
              exact hK _ _ ⟨l0, l1, l2, l3, l4, l5, l6, l7, l8, l9, l10, true, l12, true, true, l15, l16, l17, rfl, (by simp), HS.out⟩
            · obtain ⟨rfl, rfl, rfl⟩ := hall
              subst hun
              go_simp
              exact hK _ _ ⟨l0, l1, l2, l3, l4, l5, l6, l7, l8, l9, l10, true, true, l13, true, true, l16, l17, rfl, (by simp), HS.out⟩
            · obtain ⟨rfl, rfl⟩ := hall
              subst hun
              go_simp
              exact hK _ _ ⟨l0, l1, l2, l3, l4, l5, l6, l7, l8, l9, l10, true, l12, l13, l14, true, true, l17, rfl, (by simp), HS.out⟩
            · obtain ⟨rfl, rfl⟩ := hall
              subst hun
              go_simp
              exact hK _ _ ⟨l0, l1, l2, l3, l4, l5, l6, l7, l8, l9, l10, true, l12, l13, l14, l15, true, true, rfl, (by simp), HS.out⟩
          · rintro listed a w' ⟨l0, l1, l2, l3, l4, l5, l6, l7, l8, l9, l10, l11, l12, l13, l14, l15, l16, l17, rfl, rfl, hS⟩ hr
            have hall := ready_nilM (by kernel_rfl) rfl hr
            obtain rfl : l0 = true := by simpa using hall 0 (by simp)
            obtain rfl : l1 = true := by simpa using hall 1 (by simp)
            obtain rfl : l2 = true := by simpa using hall 2 (by simp)
            obtain rfl : l3 = true := by simpa using hall 3 (by simp)
            obtain rfl : l4 = true := by simpa using hall 4 (by simp)
            obtain rfl : l5 = true := by simpa using hall 5 (by simp)
            obtain rfl : l6 = true := by simpa using hall 6 (by simp)
            obtain rfl : l7 = true := by simpa using hall 7 (by simp)
            obtain rfl : l8 = true := by simpa using hall 8 (by simp)
            obtain rfl : l9 = true := by simpa using hall 9 (by simp)
            obtain rfl : l10 = true := by simpa using hall 10 (by simp)
            obtain rfl : l11 = true := by simpa using hall 11 (by simp)
            obtain rfl : l12 = true := by simpa using hall 12 (by simp)
            obtain rfl : l13 = true := by simpa using hall 13 (by simp)
            obtain rfl : l14 = true := by simpa using hall 14 (by simp)
            obtain rfl : l15 = true := by simpa using hall 15 (by simp)
            obtain rfl : l16 = true := by simpa using hall 16 (by simp)
            obtain rfl : l17 = true := by simpa using hall 17 (by simp)
            clear hall hr 
            simp only [↓reduceIte] at hS ⊢
            simp only [List.setIfInBounds_toArray, List.set_cons_zero, List.set_cons_succ]
            have HSf := Lib.hid hS
            clear hS
            go_wp2_with fail
            go_meet
            case rel => exact ⟨rfl, HSf.out⟩
          · refine ⟨false, false, false, false, false, false, false, false, false, false, false, false, false, false, false, false, false, false, rfl, (by simp), ?_⟩
            exact (St.start w5).drew.pick [] (by decide)
        · have hq2 := Hhtail.out l Hhl0.out hq
          have hrun := cut_from l 1 1 rfl hln
          have htz := isT_drop Hht.out 1
          have hlz : (l.drop 1).length ≤ 10 := by rw [List.length_drop]; omega
          obtain ⟨z, hz⟩ : ∃ z, l.drop 1 = z := ⟨_, rfl⟩
          rw [hz] at hrun htz hlz hq2
          have Hhz := Lib.hid hz; clear hz
          have Hhtz := Lib.hid htz; clear htz
          have Hhq := Lib.hid hq; clear hq
          have Hhq2 := Lib.hid hq2; clear hq2
          refine wp_region_any (by kernel_rfl) ?_
          refine wpAny_invA (fun A listed a w' => ∃ (l0 l1 l2 l3 l4 l5 l6 l7 l8 l9 l10 l11 l12 l13 l14 l15 l16 l17 : Bool) , listed = #[l0, l1, l2, l3, l4, l5, l6, l7, l8, l9, l10, l11, l12, l13, l14, l15, l16, l17] ∧
              a = ⟨((((((((((((((((((A.tmps.setIfInBounds 53 (if l0 = true then .string (txB l) else A.tmps.getD 53 undef)).setIfInBounds 54 (if l1 = true then .bool true else A.tmps.getD 54 undef)).setIfInBounds 55 (if l2 = true then .bool true else A.tmps.getD 55 undef)).setIfInBounds 56 (if l3 = true then .string (txB l) else A.tmps.getD 56 undef)).setIfInBounds 57 (if l4 = true then .bool true else A.tmps.getD 57 undef)).setIfInBounds 58 (if l5 = true then .bool true else A.tmps.getD 58 undef)).setIfInBounds 59 (if l6 = true then .bool true else A.tmps.getD 59 undef)).setIfInBounds 60 (if l7 = true then .agg #[.slice x1 X.next.length y1, .slice x2 X.ends.length y2] else A.tmps.getD 60 undef)).setIfInBounds 61 (if l8 = true then .string (txB l) else A.tmps.getD 61 undef)).setIfInBounds 62 (if l9 = true then .bool true else A.tmps.getD 62 undef)).setIfInBounds 63 (if l10 = true then .bool true else A.tmps.getD 63 undef)).setIfInBounds 64 (if l11 = true then .bool true else A.tmps.getD 64 undef)).setIfInBounds 65 (if l12 = true then .agg #[.slice x1 X.next.length y1, .slice x2 X.ends.length y2] else A.tmps.getD 65 undef)).setIfInBounds 66 (if l13 = true then .string (txB l) else A.tmps.getD 66 undef)).setIfInBounds 67 (if l14 = true then .string (txB z) else A.tmps.getD 67 undef)).setIfInBounds 68 (if l15 = true then .bool true else A.tmps.getD 68 undef)).setIfInBounds 69 (if l16 = true then .bool false else A.tmps.getD 69 undef)).setIfInBounds 70 (if l17 = true then .bool false else A.tmps.getD 70 undef)), A.defers⟩ ∧
              St w5 w' []) ?_ ?_ ?_
          · rintro listed a w' ⟨l0, l1, l2, l3, l4, l5, l6, l7, l8, l9, l10, l11, l12, l13, l14, l15, l16, l17, rfl, rfl, hS⟩ i hi
            obtain ⟨hun, o, ho, hall⟩ := mem_ready.1 hi
            have hlt := (Array.getElem?_eq_some_iff.1 ho).1
            refine wpOp_step ho (fun K hK => ?_)
            clear hi
            have HS := Lib.hid hS
            clear hS
            simp only [List.setIfInBounds_toArray, List.set_cons_zero, List.set_cons_succ, Array.getD_eq_getD_getElem?, List.getElem?_toArray, List.getElem?_cons_zero, List.getElem?_cons_succ, Option.getD_some]
            obtain h | h | h | h | h | h | h | h | h | h | h | h | h | h | h | h | h | h : i = 0 ∨ i = 1 ∨ i = 2 ∨ i = 3 ∨ i = 4 ∨ i = 5 ∨ i = 6 ∨ i = 7 ∨ i = 8 ∨ i = 9 ∨ i = 10 ∨ i = 11 ∨ i = 12 ∨ i = 13 ∨ i = 14 ∨ i = 15 ∨ i = 16 ∨ i = 17 := by simp at hlt; omega
            all_goals subst h
            all_goals simp only [List.getElem?_toArray, List.getElem?_cons_zero, List.getElem?_cons_succ, Option.some.injEq] at ho
            all_goals subst ho
            all_goals simp [Region.binds] at hun hall
            · subst hun
              go_simp
              exact hK _ _ ⟨true, l1, l2, l3, l4, l5, l6, l7, l8, l9, l10, l11, l12, l13, l14, l15, l16, l17, rfl, (by simp), HS.out⟩
            · obtain rfl := hall
              subst hun
              go_simp
              go_at_call 33
              refine (specWordValid_any l _ Hht.out (by omega) _ Hhwd.out).mono ?_
              rintro e u1 ⟨rfl, rfl⟩
              go_simp
              exact hK _ _ ⟨true, true, l2, l3, l4, l5, l6, l7, l8, l9, l10, l11, l12, l13, l14, l15, l16, l17, rfl, (by simp), HS.out⟩
            · obtain rfl := hall
              subst hun
              go_simp
              exact hK _ _ ⟨l0, true, true, l3, l4, l5, l6, l7, l8, l9, l10, l11, l12, l13, l14, l15, l16, l17, rfl, (by simp), HS.out⟩
            · obtain rfl := hall
              subst hun
              go_simp
              exact hK _ _ ⟨l0, l1, true, true, l4, l5, l6, l7, l8, l9, l10, l11, l12, l13, l14, l15, l16, l17, rfl, (by simp), HS.out⟩
            · obtain ⟨rfl, rfl⟩ := hall
              subst hun
              go_simp
              exact hK _ _ ⟨l0, l1, true, true, true, l5, l6, l7, l8, l9, l10, l11, l12, l13, l14, l15, l16, l17, rfl, (by simp), HS.out⟩
            · obtain ⟨rfl, rfl⟩ := hall
              subst hun
              go_simp
              exact hK _ _ ⟨l0, l1, true, l3, true, true, l6, l7, l8, l9, l10, l11, l12, l13, l14, l15, l16, l17, rfl, (by simp), HS.out⟩
            · obtain ⟨rfl, rfl⟩ := hall
              subst hun
              go_simp
              exact hK _ _ ⟨l0, l1, true, l3, l4, true, true, l7, l8, l9, l10, l11, l12, l13, l14, l15, l16, l17, rfl, (by simp), HS.out⟩
            · obtain rfl := hall
              subst hun
              have e0 := (bcell HS.out.bel (w2.heap.size) 0 HltC.out).trans C0.out
              have e1 := (bcell HS.out.bel (w2.heap.size) 1 HltC.out).trans C1.out
              go_simp
              exact hK _ _ ⟨l0, l1, l2, l3, l4, l5, true, true, l8, l9, l10, l11, l12, l13, l14, l15, l16, l17, rfl, (by simp), HS.out⟩
            · obtain rfl := hall
              subst hun
              go_simp
              exact hK _ _ ⟨l0, l1, l2, l3, l4, l5, true, l7, true, l9, l10, l11, l12, l13, l14, l15, l16, l17, rfl, (by simp), HS.out⟩
            · obtain ⟨rfl, rfl, rfl⟩ := hall
              subst hun
              go_simp
              go_at_call 34
              refine (dfaAccT_any X l _ _ Hht.out (by omega) (HX5.out.below HS.out.bel) Hhxok.out _ Hhq.out).mono ?_
              rintro e u1 ⟨rfl, hb⟩
              have hS2 := HS.out.call hb
              have HhS2 := Lib.hid hS2; clear hS2
              go_simp
              exact hK _ _ ⟨l0, l1, l2, l3, l4, l5, true, true, true, true, l10, l11, l12, l13, l14, l15, l16, l17, rfl, (by simp), HhS2.out⟩
            · obtain ⟨rfl, rfl⟩ := hall
              subst hun
              go_simp
              exact hK _ _ ⟨l0, l1, l2, l3, l4, l5, true, l7, l8, true, true, l11, l12, l13, l14, l15, l16, l17, rfl, (by simp), HS.out⟩
            · obtain ⟨rfl, rfl⟩ := hall
              subst hun
              go_simp
              exact hK _ _ ⟨l0, l1, l2, l3, l4, l5, l6, l7, l8, true, true, true, l12, l13, l14, l15, l16, l17, rfl, (by simp), HS.out⟩
            · obtain rfl := hall
              subst hun
              have e0 := (bcell HS.out.bel (w2.heap.size) 0 HltC.out).trans C0.out
              have e1 := (bcell HS.out.bel (w2.heap.size) 1 HltC.out).trans C1.out
              go_simp
              exact hK _ _ ⟨l0, l1, l2, l3, l4, l5, l6, l7, l8, l9, l10, true, true, l13, l14, l15, l16, l17, rfl, (by simp), HS.out⟩
            · obtain rfl := hall
              subst hun
              go_simp
              exact hK _ _ ⟨l0, l1, l2, l3, l4, l5, l6, l7, l8, l9, l10, true, l12, true, l14, l15, l16, l17, rfl, (by simp), HS.out⟩
            · obtain ⟨rfl, rfl⟩ := hall
              subst hun
              go_simp
              exact hK _ _ ⟨l0, l1, l2, l3, l4, l5, l6, l7, l8, l9, l10, true, l12, true, true, l15, l16, l17, rfl, (by simp), HS.out⟩
            · obtain ⟨rfl, rfl, rfl⟩ := hall
              subst hun
              go_simp
              go_at_call 34
              refine (dfaAccT_any X z _ _ Hhtz.out (by omega) (HX5.out.below HS.out.bel) Hhxok.out _ Hhq2.out).mono ?_
              rintro e u1 ⟨rfl, hb⟩
              have hS2 := HS.out.call hb
              have HhS2 := Lib.hid hS2; clear hS2
              go_simp
              exact hK _ _ ⟨l0, l1, l2, l3, l4, l5, l6, l7, l8, l9, l10, true, true, l13, true, true, l16, l17, rfl, (by simp), HhS2.out⟩
            · obtain ⟨rfl, rfl⟩ := hall
              subst hun
              go_simp
              exact hK _ _ ⟨l0, l1, l2, l3, l4, l5, l6, l7, l8, l9, l10, true, l12, l13, l14, true, true, l17, rfl, (by simp), HS.out⟩
            · obtain ⟨rfl, rfl⟩ := hall
              subst hun
              go_simp
              exact hK _ _ ⟨l0, l1, l2, l3, l4, l5, l6, l7, l8, l9, l10, true, l12, l13, l14, l15, true, true, rfl, (by simp), HS.out⟩
          · rintro listed a w' ⟨l0, l1, l2, l3, l4, l5, l6, l7, l8, l9, l10, l11, l12, l13, l14, l15, l16, l17, rfl, rfl, hS⟩ hr
            have hall := ready_nilM (by kernel_rfl) rfl hr
            obtain rfl : l0 = true := by simpa using hall 0 (by simp)
            obtain rfl : l1 = true := by simpa using hall 1 (by simp)
            obtain rfl : l2 = true := by simpa using hall 2 (by simp)
            obtain rfl : l3 = true := by simpa using hall 3 (by simp)
            obtain rfl : l4 = true := by simpa using hall 4 (by simp)
            obtain rfl : l5 = true := by simpa using hall 5 (by simp)
            obtain rfl : l6 = true := by simpa using hall 6 (by simp)
            obtain rfl : l7 = true := by simpa using hall 7 (by simp)
            obtain rfl : l8 = true := by simpa using hall 8 (by simp)
            obtain rfl : l9 = true := by simpa using hall 9 (by simp)
            obtain rfl : l10 = true := by simpa using hall 10 (by simp)
            obtain rfl : l11 = true := by simpa using hall 11 (by simp)
            obtain rfl : l12 = true := by simpa using hall 12 (by simp)
            obtain rfl : l13 = true := by simpa using hall 13 (by simp)
            obtain rfl : l14 = true := by simpa using hall 14 (by simp)
            obtain rfl : l15 = true := by simpa using hall 15 (by simp)
            obtain rfl : l16 = true := by simpa using hall 16 (by simp)
            obtain rfl : l17 = true := by simpa using hall 17 (by simp)
            clear hall hr 
            simp only [↓reduceIte] at hS ⊢
            simp only [List.setIfInBounds_toArray, List.set_cons_zero, List.set_cons_succ]
            have HSf := Lib.hid hS
            clear hS
            go_wp2_with fail
            go_meet
            case rel => exact ⟨rfl, HSf.out⟩
          · refine ⟨false, false, false, false, false, false, false, false, false, false, false, false, false, false, false, false, false, false, rfl, (by simp), ?_⟩
            exact (St.start w5).drew.pick [] (by decide)
end Go.Proofs.Ythhbjkgchabfmaa
