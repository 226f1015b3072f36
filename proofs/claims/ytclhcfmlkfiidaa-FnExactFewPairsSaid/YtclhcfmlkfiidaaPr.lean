/-
  The walks over the program's CheckPairs and over the function behind it.
  Conditions: the arguments read as automata and as a list of pairs; for the function behind it, the automata are valid.
-/
import Derived.Test.YtclhcfmlkfiidaaCp
import Derived.Test.YtclhcfmlkfiidaaKeys
namespace Go.Proofs.Ytclhcfmlkfiidaa
open Go.RowKit Go.Maps

theorem zeroBool (w : World) : (zeroValue 4).run Try.prog w = .ok (.bool false) w := by kernel_rfl

/-- The map holds just the pairs of a list, each with true. -/
def Among (w : World) (B : Nat) (K : List (Int × Int)) : Prop :=
  ∃ L, MapL Try.prog 55 pairEnc w B L ∧ (∀ p, p ∈ L.map (·.1) ↔ p ∈ K) ∧ ∀ p v, look p L = some v → v = .bool true
theorem Among.below {w w' : World} {B : Nat} {K : List (Int × Int)} (h : Among w B K) (hb : Below w.heap.size w w') : Among w' B K := by
  obtain ⟨L, h1, h2⟩ := h
  exact ⟨L, h1.below hb, h2⟩
theorem Among.look {w : World} {B : Nat} {K : List (Int × Int)} (h : Among w B K) (p : Int × Int) (h1 : fitI p.1) (h2 : fitI p.2) (r : Bool) (hr : decide (p ∈ K) = r) :
    (Instr.lookup 119 (.map (some B)) (.agg #[.int .i64 p.1, .int .i64 p.2]) false).run Try.prog w = .ok (.bool r) w := by
  obtain ⟨L, hL, hK, hv⟩ := h
  obtain ⟨l, hl⟩ := Try.keyOfPair p h1 h2
  have h := hL.lookup Try.lawPair pairEnc_inj Try.underlying119 (zeroBool w) hl
  have e : (Go.Proofs.Ytclhcfmlkfiidaa.look p L).getD (.bool false) = .bool r := by
    subst hr
    by_cases hp : p ∈ K
    · have : (Go.Proofs.Ytclhcfmlkfiidaa.look p L).isSome = true := look_isSome.2 ((hK p).2 hp)
      obtain ⟨v, hv'⟩ := Option.isSome_iff_exists.1 this
      rw [hv', hv p v hv', decide_eq_true hp]
      rfl
    · have : Go.Proofs.Ytclhcfmlkfiidaa.look p L = none := by
        cases hc : Go.Proofs.Ytclhcfmlkfiidaa.look p L with
        | none => rfl
        | some v =>
          have : (Go.Proofs.Ytclhcfmlkfiidaa.look p L).isSome = true := by rw [hc]; rfl
          exact absurd ((hK p).1 (look_isSome.1 this)) hp
      rw [this, decide_eq_false hp]
      rfl
  rw [e] at h
  exact h
theorem Among.lt {w : World} {B : Nat} {K : List (Int × Int)} (h : Among w B K) : B < w.heap.size := by
  obtain ⟨L, h1, h2⟩ := h
  exact h1.lt
theorem among_upd {L : List ((Int × Int) × Value)} {K : List (Int × Int)} {p : Int × Int} (h1 : ∀ q, q ∈ L.map (·.1) ↔ q ∈ K) (h2 : ∀ q v, look q L = some v → v = .bool true) :
    (∀ q, q ∈ (upd p (.bool true) L).map (·.1) ↔ q ∈ K ++ [p]) ∧ ∀ q v, look q (upd p (.bool true) L) = some v → v = .bool true := by
  refine ⟨fun q => ?_, fun q v hq => ?_⟩
  · rw [keys_upd_mem, h1, List.mem_append, List.mem_singleton]
    exact Or.comm
  · rw [look_upd] at hq
    split at hq
    · simpa using hq.symm
    · exact h2 q v hq

theorem grown_map {B : Nat} {a w w' : World} {b : Nat} (h : Below B a w) (hg : w.grownBy w' (some b)) (hB : B ≤ b) (hs : B ≤ w.heap.size) : Below B a w' :=
  h.grown hg hs (fun k hk => by cases hk; exact hB)

set_option maxRecDepth 100000 in
set_option maxHeartbeats 8000000 in
theorem proves_any (a b : DfaD) (ps : List (Int × Int)) (v1 v2 v3 : Value) (w : World) (h1 : DfaR 0 w v1 a) (h2 : DfaR 0 w v2 b) (h3 : Pairs 0 w v3 ps) (hda : dfaOk a.next a.ends = true) (hdb : dfaOk b.next b.ends = true)
    (r : Bool) (hr : provesB a b ps = r) :
    Calls Try.prog 70 #[v1, v2, v3] w fun e w' => e = .returned (.bool r) ∧ Below w.heap.size w w' := by
  obtain ⟨u1, u2, rfl, g1, g2⟩ := h1
  obtain ⟨u3, u4, rfl, g3, g4⟩ := h2
  obtain ⟨a1, c1, rfl, hc1, hm1, hr1⟩ := g1.formI
  obtain ⟨a2, c2, rfl, hc2, hm2, hr2⟩ := g2.form
  obtain ⟨a3, c3, rfl, hc3, hm3, hr3⟩ := g3.formI
  obtain ⟨a4, c4, rfl, hc4, hm4, hr4⟩ := g4.form
  obtain ⟨a5, c5, rfl, hc5, hm5, hr5⟩ := h3.form
  have Hrow1 := Lib.hid (fun i hi => dfaOk_row hda (i := i) hi)
  have Hrow2 := Lib.hid (fun i hi => dfaOk_row hdb (i := i) hi)
  have hla := dfaOk_len hda
  have hlb := dfaOk_len hdb
  clear g1 g2 g3 g4 h3 hda hdb
  have Hhr := Lib.hid hr; clear hr
  have Hhr1 := Lib.hid hr1; clear hr1
  have Hhr2 := Lib.hid hr2; clear hr2
  have Hhr3 := Lib.hid hr3; clear hr3
  have Hhr4 := Lib.hid hr4; clear hr4
  have Hhr5 := Lib.hid hr5; clear hr5
  have Hhla := Lib.hid hla; clear hla
  have Hhlb := Lib.hid hlb; clear hlb
  by_cases hlen : ps.length ≤ 1600
  · have Hlen := Lib.hid hlen
    have hmm := @run_makeMap Try.prog
    go_enter Try.func70, Try.ntmps70
    go_wp2
    go_loopw [6, 19] (fun r i wr => ∃ k : Nat, k ≤ ps.length ∧ i = .int .i64 k ∧ (ps.take k).all (inPair a b) = true ∧ Among wr (w.heap.size + 1 + 1) (ps.take k) ∧
        Below (w.heap.size + 2) ((w.alloc (.cells #[.slice a1 a.next.length c1, .slice a2 a.ends.length c2] 32)).alloc (.cells #[.slice a3 b.next.length c3, .slice a4 b.ends.length c4] 32)) wr)
      (fun _ i _ => ps.length - (intOf i).toNat)
    case atStart =>
      refine ⟨0, Nat.zero_le _, rfl, rfl, ⟨[], ?_, by simp, by simp [look]⟩, (Below.refl _ _).alloc (by simp) _⟩
      have := MapL.made (P := Try.prog) (kt := 55) (enc := pairEnc) ((w.alloc (.cells #[.slice a1 a.next.length c1, .slice a2 a.ends.length c2] 32)).alloc (.cells #[.slice a3 b.next.length c3, .slice a4 b.ends.length c4] 32))
      simpa using this
    case round =>
      obtain ⟨k, hk, rfl, hall, ham, hb⟩ := hrel
      have hend := below_two hb (by omega)
      have hsz := hb.size
      simp only [World.size_alloc] at hsz
      have hml := ham.lt
      have x0 := ((Bx.new w _ _).alloc _).below hb (by omega)
      have x1 := (Bx.new (w.alloc _) _ _).below hb (by simp)
      have b0 := x0.cell 0
      have b1 := x0.cell 1
      have b2 := x1.cell 0
      have b3 := x1.cell 1
      simp only [List.getElem?_toArray, List.getElem?_cons_zero, List.getElem?_cons_succ, World.size_alloc] at b0 b1 b2 b3
      have hs0 : w.heap.size < wr.heap.size := by omega
      have hs1 : w.heap.size + 1 < wr.heap.size := by omega
      have hwa : IntKind.i64.wrap ((a.next.length : Int) - 1) = (a.next.length : Int) - 1 := IntWalk.i64_in _ (by have := Hhla.out; omega)
      have hwb : IntKind.i64.wrap ((b.next.length : Int) - 1) = (b.next.length : Int) - 1 := IntWalk.i64_in _ (by have := Hhlb.out; omega)
      have Hhall := Lib.hid hall; clear hall
      have Hhb := Lib.hid hb; clear hb
      have Hhend := Lib.hid hend; clear hend
      have Hham := Lib.hid ham; clear ham
      clear x0 x1
      by_cases hlt : k < ps.length
      · obtain ⟨q5, o5, rfl, hB5, hbl5, hcs5⟩ := Hhr5.out (by omega)
        have p1 := (bcell Hhend.out q5 (o5 + k * 2) hbl5).trans (hcs5 k hlt).1
        have p2 := (bcell Hhend.out q5 (o5 + k * 2 + 1) hbl5).trans (hcs5 k hlt).2
        obtain ⟨x, hxx⟩ : ∃ x, x = ps.getD k (0, 0) := ⟨_, rfl⟩
        rw [← hxx] at p1 p2
        obtain ⟨x1, x2⟩ := x
        have Hhxx := Lib.hid hxx; clear hxx
        simp only at p1 p2
        clear hcs5
        cases hin1 : inB x1 0 ((a.next.length : Int) - 1)
        · have Hhin1 := Lib.hid hin1; clear hin1
          go_wp2_with (go_at_call 79; (with_reducible refine (within_any _ _ _ _ _ Hhin1.out).mono ?_); rintro e w' ⟨rfl, rfl⟩)
          go_ret
          exact ⟨by rw [← Hhr.out, provesB_bad hlt (by rw [← Hhxx.out]; exact pairOk_in (by simp [inPair, Hhin1.out]))]; rfl, Hhend.out.alloc (by omega) _⟩
        · cases hin2 : inB x2 0 ((b.next.length : Int) - 1)
          · have Hhin1 := Lib.hid hin1; clear hin1
            have Hhin2 := Lib.hid hin2; clear hin2
            go_wp2_with (first | (go_at_call 79; (with_reducible refine (within_any _ _ _ _ _ Hhin1.out).mono ?_); rintro e w' ⟨rfl, rfl⟩) | (go_at_call 79; (with_reducible refine (within_any _ _ _ _ _ Hhin2.out).mono ?_); rintro e w' ⟨rfl, rfl⟩))
            go_ret
            exact ⟨by rw [← Hhr.out, provesB_bad hlt (by rw [← Hhxx.out]; exact pairOk_in (by simp [inPair, Hhin2.out]))]; rfl, Hhend.out.alloc (by omega) _⟩
          · have hinp : inPair a b (x1, x2) = true := by simp [inPair, hin1, hin2]
            have hf1 : fitI x1 := by have := inB_true hin1; have := Hhla.out; unfold fitI; omega
            have hf2 : fitI x2 := by have := inB_true hin2; have := Hhlb.out; unfold fitI; omega
            obtain ⟨L, hL, hLK, hLv⟩ := Hham.out
            obtain ⟨l, hl⟩ := Try.keyOfPair (x1, x2) hf1 hf2
            have HL := Lib.hid (hL.below ((Below.refl wr.heap.size wr).alloc (Nat.le_refl _) (.cells #[.int .i64 x1, .int .i64 x2] 55)))
            have Hhin1 := Lib.hid hin1; clear hin1
            have Hhin2 := Lib.hid hin2; clear hin2
            have Hhinp := Lib.hid hinp; clear hinp
            have Hhl := Lib.hid hl; clear hl
            have HhLK := Lib.hid hLK; clear hLK
            have HhLv := Lib.hid hLv; clear hLv
            clear hL hf1 hf2
            go_wp2_with (first
              | (go_at_call 79; (with_reducible refine (within_any _ _ _ _ _ Hhin1.out).mono ?_); rintro e w' ⟨rfl, rfl⟩)
              | (go_at_call 79; (with_reducible refine (within_any _ _ _ _ _ Hhin2.out).mono ?_); rintro e w' ⟨rfl, rfl⟩)
              | (at_mapUpdate; refine wpList_mapStore rfl _ _ _ 119 rfl HL.out Try.lawPair pairEnc_inj Try.underlying119 (x1, x2) l Hhl.out (.bool true) rfl rfl rfl ?_; intro w1 hm1 hg1))
            go_roundw
            case rel =>
              refine ⟨k + 1, by omega, by go_num, all_snoc (d := (0, 0)) hlt Hhall.out (by rw [← Hhxx.out]; exact Hhinp.out), ⟨_, hm1, ?_⟩, grown_map (Hhb.out.alloc (by omega) _) hg1 (by omega) (by simp; omega)⟩
              have hu := among_upd (p := (x1, x2)) HhLK.out HhLv.out
              rw [List.take_succ_eq_append_getElem hlt]
              have hxe : ps[k] = (x1, x2) := by have := Hhxx.out; simpa [hlt] using this.symm
              rw [hxe]
              exact hu
            case measure => simp [intOf]; omega
      · have hallps : ps.all (inPair a b) = true := by
          have h3 := Hhall.out
          rwa [List.take_of_length_le (by omega)] at h3
        have hamps : Among wr (w.heap.size + 1 + 1) ps := by
          have h3 := Hham.out
          rwa [List.take_of_length_le (by omega)] at h3
        have Hhallps := Lib.hid hallps; clear hallps
        have Hhamps := Lib.hid hamps; clear hamps
        obtain ⟨wl, hwl⟩ : ∃ wl : World, wl = wr := ⟨_, rfl⟩
        subst hwl
        go_wp2
        go_loopw [6, 46] (fun r i wr => ∃ k : Nat, k ≤ ps.length ∧ i = .int .i64 k ∧ (ps.take k).all (pairOk a b ps) = true ∧ Below wl.heap.size wl wr)
          (fun _ i _ => ps.length - (intOf i).toNat)
        case atStart => exact ⟨0, Nat.zero_le _, rfl, rfl, Below.refl _ _⟩
        case round =>
          obtain ⟨k, hk, rfl, hall2, hb2⟩ := hrel
          have hend2 : Below w.heap.size w wr := Hhend.out.trans (hb2.mono Hhend.out.size)
          have hsz2 := hb2.size
          have e0 := (bcell hb2 _ _ hs0).trans b0
          have e1 := (bcell hb2 _ _ hs0).trans b1
          have e2 := (bcell hb2 _ _ hs1).trans b2
          have e3 := (bcell hb2 _ _ hs1).trans b3
          have ham2 := Hhamps.out.below hb2
          have hz0 : w.heap.size < wr.heap.size := by omega
          have hz1 : w.heap.size + 1 < wr.heap.size := by omega
          have Hhall2 := Lib.hid hall2; clear hall2
          have Hhb2 := Lib.hid hb2; clear hb2
          have Hhend2 := Lib.hid hend2; clear hend2
          by_cases hlt : k < ps.length
          · obtain ⟨q5, o5, rfl, hB5, hbl5, hcs5⟩ := Hhr5.out (by omega)
            have p1 := (bcell Hhend2.out q5 (o5 + k * 2) hbl5).trans (hcs5 k hlt).1
            have p2 := (bcell Hhend2.out q5 (o5 + k * 2 + 1) hbl5).trans (hcs5 k hlt).2
            have hinp : inPair a b (ps.getD k (0, 0)) = true := List.all_eq_true.1 Hhallps.out _ (mem_getD hlt)
            obtain ⟨x, hxx⟩ : ∃ x, x = ps.getD k (0, 0) := ⟨_, rfl⟩
            rw [← hxx] at p1 p2 hinp
            obtain ⟨x1, x2⟩ := x
            have Hhxx := Lib.hid hxx; clear hxx
            simp only at p1 p2
            clear hcs5 b0 b1 b2 b3
            have hinp' := hinp
            unfold inPair at hinp'
            rw [Bool.and_eq_true] at hinp'
            obtain ⟨hi1, hi2⟩ := inB_true hinp'.1
            obtain ⟨hj1, hj2⟩ := inB_true hinp'.2
            simp only at hi1 hi2 hj1 hj2
            obtain ⟨i, rfl⟩ := Int.eq_ofNat_of_zero_le hi1
            obtain ⟨j, rfl⟩ := Int.eq_ofNat_of_zero_le hj1
            have hia : i < a.next.length := by omega
            have hjb : j < b.next.length := by omega
            have hie : (i : Int) < a.ends.length := by have := Hhla.out; omega
            have hje : (j : Int) < b.ends.length := by have := Hhlb.out; omega
            obtain ⟨q2, o2, rfl, hB2, hbl2, hcs2⟩ := Hhr2.out (by omega)
            obtain ⟨q4, o4, rfl, hB4, hbl4, hcs4⟩ := Hhr4.out (by omega)
            have ea0 := (bcell Hhend2.out q2 (o2 + i) hbl2).trans (hcs2 i (by omega))
            have eb0 := (bcell Hhend2.out q4 (o4 + j) hbl4).trans (hcs4 j (by omega))
            obtain ⟨ea, hea⟩ : ∃ ea, ea = a.ends.getD i false := ⟨_, rfl⟩
            obtain ⟨eb, heb⟩ : ∃ eb, eb = b.ends.getD j false := ⟨_, rfl⟩
            rw [← hea] at ea0
            rw [← heb] at eb0
            have hq2 : q2 < wr.heap.size := by omega
            have hq4 : q4 < wr.heap.size := by omega
            have Hhea := Lib.hid hea; clear hea
            have Hheb := Lib.hid heb; clear heb
            have Hhinp := Lib.hid hinp; clear hinp
            have Hham2 := Lib.hid ham2; clear ham2
            clear hi1 hi2 hj1 hj2 hcs2 hcs4 hinp'
            by_cases hee : ea = eb
            · have g1 : (ea != eb) = false := by simpa using hee
              have g2 : (!(ea == eb)) = false := by simpa using hee
              have Hhee := Lib.hid hee; clear hee
              go_wp2
              go_quiet (fail)
              go_wp2
              obtain ⟨wo, hwo⟩ : ∃ wo : World, wo = wr := ⟨_, rfl⟩
              subst hwo
              clear p1 p2 e1 e3 ea0 eb0
              go_loopw [6, 63] (fun r c wi => ∃ n : Nat, n ≤ 3 ∧ c = .int .i64 n ∧ ((List.range n).all fun c => decide (stepP a b ((i : Int), (j : Int)) c ∈ ps)) = true ∧ Below (wo.heap.size + 1) ((wo.alloc (.cells #[.int .i64 i, .int .i64 j] 55)).drewN nq) wi) (fun _ c _ => 3 - (intOf c).toNat)
              case atStart => exact ⟨0, by omega, rfl, rfl, Below.refl _ _⟩
              case round =>
                obtain ⟨n, hn, rfl, hall', hbi⟩ := hrel
                have hW : Below wo.heap.size wo wr := (below_drewN ((Below.refl _ _).alloc (Nat.le_refl _) _) _).trans (hbi.mono (by omega))
                have hsz3 := hbi.size
                have hsz4 : wo.heap.size + 1 ≤ wr.heap.size := by simpa using hsz3
                have y0 := (bcell hW _ _ hz0).trans e0
                have y1 := (bcell hW _ _ hz1).trans e2
                have y2 := (show Bx ((wo.alloc (.cells #[.int .i64 i, .int .i64 j] 55)).drewN nq) wo.heap.size _ _ from Bx.new wo _ _).below hbi (by omega)
                have y3 := y2.cell 0
                have y4 := y2.cell 1
                simp only [List.getElem?_toArray, List.getElem?_cons_zero, List.getElem?_cons_succ] at y3 y4
                have hendi : Below w.heap.size w wr := Hhend2.out.trans (hW.mono Hhend2.out.size)
                have hami := Hham2.out.below hW
                have Hhall' := Lib.hid hall'; clear hall'
                have Hhbi := Lib.hid hbi; clear hbi
                have HhW := Lib.hid hW; clear hW
                have Hhendi := Lib.hid hendi; clear hendi
                have Hhami := Lib.hid hami; clear hami
                clear y2 hsz3
                by_cases hn3 : n < 3
                · obtain ⟨q1, o1, rfl, hB1, hbl1, hcs1⟩ := Hhr1.out (by omega)
                  obtain ⟨q3, o3, rfl, hB3, hbl3, hcs3⟩ := Hhr3.out (by omega)
                  obtain ⟨r1, s1, hc1', hl1', hm1', hI1⟩ := hcs1 i hia
                  obtain ⟨r3, s3, hc3', hl3', hm3', hI3⟩ := hcs3 j hjb
                  obtain ⟨hL1, hT1⟩ := Hrow1.out i hia
                  obtain ⟨hL3, hT3⟩ := Hrow2.out j hjb
                  obtain ⟨ra, hra⟩ : ∃ ra, ra = a.next.getD i [] := ⟨_, rfl⟩
                  obtain ⟨rb, hrb⟩ : ∃ rb, rb = b.next.getD j [] := ⟨_, rfl⟩
                  rw [← hra] at hc1' hl1' hI1 hL1 hT1
                  rw [← hrb] at hc3' hl3' hI3 hL3 hT3
                  obtain ⟨_, _, he1, -, -, hf1⟩ := hI1.form
                  obtain ⟨_, _, he3, -, -, hf3⟩ := hI3.form
                  simp only [Value.slice.injEq, true_and] at he1 he3
                  obtain ⟨rfl, rfl⟩ := he1
                  obtain ⟨rfl, rfl⟩ := he3
                  obtain ⟨z1, t1, rfl, -, hz1', hg1⟩ := hf1 (by omega)
                  obtain ⟨z3, t3, rfl, -, hz3', hg3⟩ := hf3 (by omega)
                  have k1 := (bcell Hhendi.out q1 (o1 + i) hbl1).trans hc1'
                  have k3 := (bcell Hhendi.out q3 (o3 + j) hbl3).trans hc3'
                  have k2 := (bcell Hhendi.out z1 (t1 + n) hz1').trans (hg1 n (by omega))
                  have k4 := (bcell Hhendi.out z3 (t3 + n) hz3').trans (hg3 n (by omega))
                  have hTa := hT1 n hn3
                  have hTb := hT3 n hn3
                  obtain ⟨ta, hta⟩ : ∃ ta, ta = ra.getD n 0 := ⟨_, rfl⟩
                  obtain ⟨tb, htb⟩ : ∃ tb, tb = rb.getD n 0 := ⟨_, rfl⟩
                  rw [← hta] at k2 hTa
                  rw [← htb] at k4 hTb
                  have hiA : (i : Int) < a.next.length := by omega
                  have hjB : (j : Int) < b.next.length := by omega
                  have hnA : (n : Int) < ra.length := by omega
                  have hnB : (n : Int) < rb.length := by omega
                  have hf1 : fitI ta := by have := Hhla.out; unfold fitI; omega
                  have hf2 : fitI tb := by have := Hhlb.out; unfold fitI; omega
                  have hstep : stepP a b ((i : Int), (j : Int)) n = (ta, tb) := by
                    simp only [stepP, Int.toNat_natCast, ← hra, ← hrb, ← hta, ← htb]
                  have Hhra := Lib.hid hra; clear hra
                  have Hhrb := Lib.hid hrb; clear hrb
                  have Hhta := Lib.hid hta; clear hta
                  have Hhtb := Lib.hid htb; clear htb
                  have Hhstep := Lib.hid hstep; clear hstep
                  clear hcs1 hcs3 hg1 hg3 hc1' hc3' hI1 hI3 hL1 hL3 hT1 hT3 hTa hTb
                  cases hmem : decide ((ta, tb) ∈ ps)
                  all_goals
                    have hlk := fun m => (Hhami.out.below (below_drewN (Below.refl _ _) m)).look (ta, tb) hf1 hf2 _ hmem
                    simp only at hlk
                    have Hhmem := Lib.hid hmem; clear hmem
                    have Hhf1 := Lib.hid hf1; clear hf1
                    have Hhf2 := Lib.hid hf2; clear hf2
                    go_wp2
                    go_quiet (fail)
                    go_wp2
                  · go_ret
                    exact ⟨by rw [← Hhr.out, provesB_bad hlt (by rw [← Hhxx.out]; exact pairOk_next hn3 (by rw [Hhstep.out]; exact Hhmem.out))]; rfl, below_drewN Hhendi.out _⟩
                  · go_roundw
                    case rel => exact ⟨n + 1, by omega, by go_num, by rw [List.range_succ, List.all_append, Hhall'.out]; simp only [List.all_cons, List.all_nil, Bool.and_true, Bool.true_and]; rw [Hhstep.out]; exact Hhmem.out, below_drewN Hhbi.out _⟩
                    case measure => simp [intOf]; omega
                · obtain rfl : n = 3 := by omega
                  go_wp2
                  go_roundw
                  case rel =>
                    have hok : pairOk a b ps (ps.getD k (0, 0)) = true := by
                      rw [← Hhxx.out]
                      have hends : endsPair a b ((i : Int), (j : Int)) = true := by
                        simp [endsPair, -List.getD_eq_getElem?_getD, ← Hhea.out, ← Hheb.out, Hhee.out]
                      unfold pairOk nextPair
                      rw [Hhinp.out, hends, Hhall'.out]
                      rfl
                    exact ⟨k + 1, by omega, by go_num, all_snoc (d := (0, 0)) hlt Hhall2.out hok, Hhb2.out.trans (HhW.out.mono Hhb2.out.size)⟩
                  case measure => simp [intOf]; omega
            · have g1 : (ea != eb) = true := by simpa using hee
              have g2 : (!(ea == eb)) = true := by simpa using hee
              have Hhee := Lib.hid hee; clear hee
              go_wp2
              go_quiet (fail)
              go_wp2
              go_ret
              exact ⟨by rw [← Hhr.out, provesB_bad hlt (by rw [← Hhxx.out]; exact pairOk_ends (by simp [endsPair, -List.getD_eq_getElem?_getD, ← Hhea.out, ← Hheb.out, Hhee.out]))]; rfl, below_drewN (Hhend2.out.alloc (by omega) _) _⟩
          · have hfin : provesB a b ps = decide ((0, 0) ∈ ps) := by
              have h3 := Hhall2.out
              rw [List.take_of_length_le (by omega)] at h3
              simp [provesB, h3, Hlen.out]
            have Hhfin := Lib.hid hfin; clear hfin
            cases hz : decide ((0, 0) ∈ ps)
            all_goals
              have hlk := ham2.look (0, 0) (by unfold fitI; simp) (by unfold fitI; simp) _ hz
              simp only at hlk
              have Hhz := Lib.hid hz; clear hz
              go_wp2
              go_ret
              exact ⟨by rw [← Hhr.out, Hhfin.out, Hhz.out]; rfl, Hhend2.out⟩
  · go_enter Try.func70, Try.ntmps70
    go_wp2
    go_ret
    exact ⟨by rw [← Hhr.out, provesB, decide_eq_false hlen]; rfl, ((Below.refl _ _).alloc (Nat.le_refl _) _).alloc (by simp) _⟩

set_option maxRecDepth 100000 in
set_option maxHeartbeats 2000000 in
theorem implCheckPairs_any (a b : DfaD) (ps : List (Int × Int)) (v1 v2 v3 : Value) (w : World) (h1 : DfaR 0 w v1 a) (h2 : DfaR 0 w v2 b) (h3 : Pairs 0 w v3 ps) (r : Bool) (hr : checkB a b ps = r) :
    Calls Try.prog 42 #[v1, v2, v3] w fun e w' => e = .returned (.bool r) ∧ Below w.heap.size w w' := by
  have H1 := Lib.hid h1
  have H2 := Lib.hid h2
  have H3 := Lib.hid h3
  obtain ⟨u1, u2, rfl, g1, g2⟩ := h1
  obtain ⟨u3, u4, rfl, g3, g4⟩ := h2
  obtain ⟨a1, c1, rfl, -⟩ := g1.formI
  obtain ⟨a2, c2, rfl, -⟩ := g2.form
  obtain ⟨a3, c3, rfl, -⟩ := g3.formI
  obtain ⟨a4, c4, rfl, -⟩ := g4.form
  obtain ⟨a5, c5, rfl, -⟩ := h3.form
  clear g1 g2 g3 g4 h3
  have Hhr := Lib.hid hr; clear hr
  cases hda : dfaOk a.next a.ends
  · have Hhda := Lib.hid hda; clear hda
    go_enter Try.func42, Try.ntmps42
    go_wp2_with fail
    refine (implDfaValid_any a _ _ (H1.out.below (((Below.refl _ _).alloc (Nat.le_refl _) _).alloc (by simp) _)) _ Hhda.out).mono ?_
    rintro e w1 ⟨rfl, hb1⟩
    have Hhb1 := Lib.hid hb1; clear hb1
    go_wp2
    go_ret
    exact ⟨by rw [← Hhr.out, checkB, Hhda.out]; rfl, below_two Hhb1.out (by simp; omega)⟩
  · have Hhda := Lib.hid hda; clear hda
    go_enter Try.func42, Try.ntmps42
    go_wp2_with fail
    refine (implDfaValid_any a _ _ (H1.out.below (((Below.refl _ _).alloc (Nat.le_refl _) _).alloc (by simp) _)) _ Hhda.out).mono ?_
    rintro e w1 ⟨rfl, hb1⟩
    have x0 := ((Bx.new w _ _).alloc _).below hb1 (by simp; omega)
    have x1 := (Bx.new (w.alloc _) _ _).below hb1 (by simp)
    have e0 := x1.cell 0
    have e1 := x1.cell 1
    simp only [List.getElem?_toArray, List.getElem?_cons_zero, List.getElem?_cons_succ, World.size_alloc] at e0 e1
    have hbw := below_two hb1 (by simp; omega)
    have Hhb1 := Lib.hid hb1; clear hb1
    have Hhbw := Lib.hid hbw; clear hbw
    have Hx0 := Lib.hid x0; clear x0
    have Hx1 := Lib.hid x1; clear x1
    cases hdb : dfaOk b.next b.ends
    · have Hhdb := Lib.hid hdb; clear hdb
      go_wp2_with fail
      refine (implDfaValid_any b _ _ (H2.out.below Hhbw.out) _ Hhdb.out).mono ?_
      rintro e w2 ⟨rfl, hb2⟩
      have Hhb2 := Lib.hid hb2; clear hb2
      go_wp2
      go_ret
      exact ⟨by rw [← Hhr.out, checkB, Hhda.out, Hhdb.out]; rfl, Hhbw.out.trans (Hhb2.out.mono Hhbw.out.size)⟩
    · have hchk : checkB a b ps = provesB a b ps := by rw [checkB, Hhda.out, hdb]; rfl
      have Hhchk := Lib.hid hchk; clear hchk
      have Hhdb := Lib.hid hdb; clear hdb
      go_wp2_with fail
      refine (implDfaValid_any b _ _ (H2.out.below Hhbw.out) _ Hhdb.out).mono ?_
      rintro e w2 ⟨rfl, hb2⟩
      have hbb := Hhbw.out.trans (hb2.mono Hhbw.out.size)
      have y0 := Hx0.out.below hb2 (by have := Hx0.out.lt; exact this)
      have y1 := Hx1.out.below hb2 (by have := Hx1.out.lt; exact this)
      have f0 := y0.cell 0
      have f1 := y0.cell 1
      have f2 := y1.cell 0
      have f3 := y1.cell 1
      simp only [List.getElem?_toArray, List.getElem?_cons_zero, List.getElem?_cons_succ, World.size_alloc] at f0 f1 f2 f3
      have Hhb2 := Lib.hid hb2; clear hb2
      have Hhbb := Lib.hid hbb; clear hbb
      clear e0 e1 y0 y1
      go_wp2_with fail
      refine (proves_any a b ps _ _ _ _ (H1.out.below Hhbb.out) (H2.out.below Hhbb.out) (H3.out.below Hhbb.out) Hhda.out Hhdb.out r (by rw [← Hhr.out, Hhchk.out])).mono ?_
      rintro e w3 ⟨rfl, hb3⟩
      have Hhb3 := Lib.hid hb3; clear hb3
      go_wp2
      go_ret
      exact ⟨rfl, Hhbb.out.trans (Hhb3.out.mono Hhbb.out.size)⟩
end Go.Proofs.Ytclhcfmlkfiidaa
