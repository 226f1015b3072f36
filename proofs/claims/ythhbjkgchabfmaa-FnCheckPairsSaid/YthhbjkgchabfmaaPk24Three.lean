/-
  The walk over the reference's l20Proof: two automata and pairs are drawn.
  Conditions: the reader is among the things that the call owns.
-/
import Derived.Test.YthhbjkgchabfmaaPk19Jk
import Derived.Test.YthhbjkgchabfmaaPk23Pa
namespace Go.Proofs.Ythhbjkgchabfmaa
open Go.RowKit
theorem sl_nil3 (w : World) (a : Option Addr) : Sl 0 w (.slice a 0 0) 0 2 [] := ⟨rfl, a, 0, rfl, Nat.le_refl _, Nat.zero_le _, fun h => absurd h (by simp)⟩
theorem drop_sl3 {w : World} {b off len cap : Nat} {xs : List (Int × Int)} (h : Pairs 0 w (.slice (some ⟨b, off, none⟩) len cap) xs) {n : Nat} (hn : n ≤ xs.length) :
    Sl 0 w (.slice (some ⟨b, off + n * 2, none⟩) (xs.length - n) (cap - n)) (xs.length - n) 2 ((xs.drop n).flatMap pairCells) := by
  by_cases hlt : n < xs.length
  · have h2 := h.drop hlt
    unfold Pairs at h2
    rw [List.length_drop] at h2
    exact h2
  · obtain ⟨-, a', cap', hv, h1, h2, -⟩ := h
    simp only [Value.slice.injEq] at hv
    obtain ⟨-, -, rfl⟩ := hv
    have e : xs.drop n = [] := List.drop_eq_nil_of_le (by omega)
    have e2 : xs.length - n = 0 := by omega
    rw [e, e2]
    exact ⟨rfl, _, _, rfl, by omega, by omega, fun h => absurd h (by simp)⟩
theorem row_prs {w0 w : World} {L : List Ent} (hS : St w0 w L) (i : Nat) {a : Option Addr} {c : Nat} {F : List (Int × Int)} (hx : L[i]? = some (Ent.row 56 2 (.slice a F.length c) F.length (F.flatMap pairCells))) : Pairs 0 w (.slice a F.length c) F :=
  Sl.mono ((own_of_row (hS.row i hx)).sl (by omega)) (Nat.zero_le _)
theorem row_cellT {w0 w : World} {L : List Ent} (hS : St w0 w L) (i : Nat) {g c : Nat} {F : List (Int × Int)} (hx : L[i]? = some (Ent.row 56 2 (.slice (some ⟨g, 0, none⟩) F.length c) F.length (F.flatMap pairCells))) {k : Nat} (hk : k < F.length) :
    w.cell? ⟨g, k * 2, none⟩ = some (.int .i64 (F.getD k (0, 0)).1) ∧ w.cell? ⟨g, k * 2 + 1, none⟩ = some (.int .i64 (F.getD k (0, 0)).2) := by
  obtain ⟨a, cp, hv, -, -, hr⟩ := (row_prs hS i hx).form
  injection hv with p1 p2 p3
  obtain ⟨b, off, ha, -, -, hc⟩ := hr (by omega)
  rw [ha] at p1
  injection p1 with p1
  injection p1 with p4 p5
  subst p4
  subst p5
  have h := hc k hk
  rw [Nat.zero_add] at h
  exact h
theorem row_takeT {w0 w : World} {L : List Ent} (hS : St w0 w L) (i : Nat) {a : Option Addr} {c : Nat} {F : List (Int × Int)} (hx : L[i]? = some (Ent.row 56 2 (.slice a F.length c) F.length (F.flatMap pairCells))) {k : Nat} (hk : k ≤ F.length) : Sl 0 w (.slice a k c) k 2 ((F.take k).flatMap pairCells) := by
  have h := Pairs.take (row_prs hS i hx) hk
  unfold Pairs at h
  rw [List.length_take, Nat.min_eq_left hk] at h
  exact h
theorem row_dropT {w0 w : World} {L : List Ent} (hS : St w0 w L) (i : Nat) {g c Fd : Nat} {F : List (Int × Int)} (hx : L[i]? = some (Ent.row 56 2 (.slice (some ⟨g, 0, none⟩) F.length c) F.length (F.flatMap pairCells))) {k : Nat} (hk : k ≤ F.length) (hF : Fd = F.length - k) : Sl 0 w (.slice (some ⟨g, k * 2, none⟩) Fd (c - k)) Fd 2 ((F.drop k).flatMap pairCells) := by
  subst hF
  have h := drop_sl3 (row_prs hS i hx) hk
  rw [Nat.zero_add] at h
  exact h
structure PrsQ (E : Ent) (v : Value) (ps : List (Int × Int)) : Prop where
  rd : ∀ w, E.holds w → (∀ k, E.foot k → k < w.heap.size) → Pairs 0 w v ps
theorem PrsQ.r {w0 w : World} {L : List Ent} {E : Ent} {v : Value} {ps : List (Int × Int)} (h : PrsQ E v ps) (hS : St w0 w L) (i : Nat) (hx : L[i]? = some E) : Pairs 0 w v ps :=
  h.rd w (hS.has i _ hx).1 fun k hk => ((hS.has i _ hx).2 k hk).2
theorem prsQ_row (a : Option Addr) (c : Nat) (F : List (Int × Int)) : PrsQ (Ent.row 56 2 (.slice a F.length c) F.length (F.flatMap pairCells)) (.slice a F.length c) F :=
  ⟨fun _ h _ => Sl.mono ((own_of_row h).sl (by omega)) (Nat.zero_le _)⟩
theorem snoc_meet {w0 wx : World} {b p po : Nat} {vb : Value} {L : List Ent} {F : List (Int × Int)} {g c : Nat} (x y : Int) (hF : F.length ≤ 1600 ∧ po ≤ p + 4000) (hS : St w0 wx ([RdE b vb po] ++ L ++ [Ent.row 56 2 (.slice (some ⟨g, 0, none⟩) (F.length + 1) c) (F.length + 1) (F.flatMap pairCells ++ [.int .i64 x, .int .i64 y])])) :
    ∃ (ps : List (Int × Int)) (al : Option Addr) (cl po : Nat), Value.slice (some ⟨g, 0, none⟩) (F.length + 1) c = .slice al ps.length cl ∧ ps.length ≤ 1601 ∧ po ≤ p + 4000 ∧ St w0 wx ([RdE b vb po] ++ L ++ [Ent.row 56 2 (.slice al ps.length cl) ps.length (ps.flatMap pairCells)]) := by
  have e : (F ++ [(x, y)]).length = F.length + 1 := by simp
  have e2 : (F ++ [(x, y)]).flatMap pairCells = F.flatMap pairCells ++ [.int .i64 x, .int .i64 y] := by simp [List.flatMap_append, pairCells]
  exact ⟨F ++ [(x, y)], some ⟨g, 0, none⟩, c, po, by rw [e], by omega, hF.2, by rw [e, e2]; exact hS⟩
set_option maxRecDepth 100000 in
set_option maxHeartbeats 16000000 in
theorem l20Proof_any (bs : List Nat) (vb : Value) (b p : Nat) (w0 w : World) (X : Ent) (hb : Bytes 0 w0 vb bs) (hlen : bs.length ≤ 2000) (hp : p ≤ 1000) (hS : St w0 w [RdE b vb p, X]) :
    Calls Try.prog 95 #[.pointer (some ⟨b, 0, none⟩)] w fun e w' => ∃ (G B : DfaD) (ps : List (Int × Int)) (a1 a2 b1 b2 : Option Addr) (c1 c2 d1 d2 : Nat) (al : Option Addr) (cl po : Nat) (E E2 : Ent), SmallD G ∧ SmallD B ∧ ps.length ≤ 1601 ∧
      e = .returned (.tuple #[.agg #[.slice a1 G.next.length c1, .slice a2 G.ends.length c2], .agg #[.slice b1 B.next.length d1, .slice b2 B.ends.length d2], .slice al ps.length cl]) ∧ DfaQ E (.slice a1 G.next.length c1) (.slice a2 G.ends.length c2) G ∧ DfaQ E (.slice b1 B.next.length d1) (.slice b2 B.ends.length d2) B ∧ PrsQ E2 (.slice al ps.length cl) ps ∧ St w0 w' [RdE b vb po, X, E, E2] := by
  have Hb := Lib.hid hb
  have HS1 := Lib.hid ((hS.alloc w.heap.size rfl #[.slice none 0 0, .slice none 0 0] 26).alloc (w.heap.size + 1) (by simp) #[.slice none 0 0, .slice none 0 0] 26)
  obtain ⟨i0, hi, hz0, hz1, hz2⟩ := info_parts Try.infoPair
  have Hhi := Lib.hid hi; clear hi
  have Hhz0 := Lib.hid hz0; clear hz0
  have Hhz1 := Lib.hid hz1; clear hz1
  have Hhz2 := Lib.hid hz2; clear hz2
  clear hb hS
  go_enter Try.func95, Try.ntmps95
  go_wp2_with fail
  refine (l20Two_any bs vb b p w0 _ _ Hb.out hlen hp (St.pack (A := [RdE b vb p]) (R := [X, Ent.box (w.heap.size) #[.slice none 0 0, .slice none 0 0] 26, Ent.box (w.heap.size + 1) #[.slice none 0 0, .slice none 0 0] 26]) HS1.out)).mono ?_
  rintro e w2 ⟨G, B, pn, a1, a2, b1, b2, c1, c2, d1, d2, E, hpn, hsm1, hsm2, rfl, hq1, hq2, hSp⟩
  have HS2 := Lib.hid (St.unpack (A := [RdE b vb p]) (A' := [RdE b vb pn, E]) (R := [X, Ent.box (w.heap.size) #[.slice none 0 0, .slice none 0 0] 26, Ent.box (w.heap.size + 1) #[.slice none 0 0, .slice none 0 0] 26]) HS1.out (hSp.pick [0, 2, 1] (by decide)))
  have hSa : St w0 _ [RdE b vb pn, X, Ent.box (w.heap.size) #[.slice none 0 0, .slice none 0 0] 26, Ent.box (w.heap.size + 1) #[.slice none 0 0, .slice none 0 0] 26, E, Ent.box (w2.heap.size) #[.slice a1 G.next.length c1, .slice a2 G.ends.length c2] 26, Ent.box (w2.heap.size + 1) #[.slice b1 B.next.length d1, .slice b2 B.ends.length d2] 26] := ((HS2.out.alloc w2.heap.size rfl #[.slice a1 G.next.length c1, .slice a2 G.ends.length c2] 26).alloc (w2.heap.size + 1) (by simp) #[.slice b1 B.next.length d1, .slice b2 B.ends.length d2] 26).pick [0, 2, 3, 4, 1, 5, 6] (by decide)
  have HSa := Lib.hid hSa
  have HQG := Lib.hid hq1
  have HQB := Lib.hid hq2
  have HsmG := Lib.hid hsm1
  have HsmB := Lib.hid hsm2
  have HG := Lib.hid (hq1.r hSa 4 rfl)
  have HB := Lib.hid (hq2.r hSa 4 rfl)
  have e0 := hSa.cell (v := .slice a1 G.next.length c1) 5 0 rfl rfl
  have e1 := hSa.cell (v := .slice a2 G.ends.length c2) 5 1 rfl rfl
  have f0 := hSa.cell (v := .slice b1 B.next.length d1) 6 0 rfl rfl
  have f1 := hSa.cell (v := .slice b2 B.ends.length d2) 6 1 rfl rfl
  clear hSp hSa hq1 hq2 hsm1 hsm2
  go_wp2_with fail
  refine (specMakeOwn_any G B _ _ _ HG.out HB.out).mono ?_
  rintro e w3 ⟨hmp, hb⟩
  cases hsame : sameB G B
  · have hmn : makeP G B = none := by unfold makeP; rw [if_neg (by rw [hsame]; simp)]
    rw [hmn] at hmp
    obtain ⟨az, cz, he, hpz, -⟩ := hmp
    obtain rfl : e = .returned (.tuple #[.slice az 0 cz, .bool false]) := he
    have HPz := Lib.hid (show ∀ u : World, Pairs 0 u (.slice az 0 cz) [] from fun u => by
      obtain ⟨_, cap', hv, h1, h2, -⟩ := hpz.form
      injection hv with p1 p2 p3
      subst p3
      exact ⟨rfl, az, cz, rfl, h1, h2, fun h => absurd h (by simp)⟩)
    have HSz := Lib.hid (HSa.out.call hb)
    clear hb hpz e0 e1 f0 f1 hmn
    have Hhsame := Lib.hid hsame; clear hsame
    go_wp2
    refine wp_region_any (by kernel_rfl) ?_
    refine wpAny_invA (fun A listed a w' => ∃ (l0 l1 l2 l3 l4 l5 : Bool) , listed = #[l0, l1, l2, l3, l4, l5] ∧
        a = ⟨((((A.tmps.setIfInBounds 76 (if l0 = true then .agg #[.slice a1 G.next.length c1, .slice a2 G.ends.length c2] else A.tmps.getD 76 undef)).setIfInBounds 77 (if l1 = true then .agg #[.slice b1 B.next.length d1, .slice b2 B.ends.length d2] else A.tmps.getD 77 undef)).setIfInBounds 78 (if l2 = true then .slice az 0 cz else A.tmps.getD 78 undef)).setIfInBounds 4 (if l5 = true then .slice az 0 cz else A.tmps.getD 4 undef)), A.defers⟩ ∧
        St w0 w' [RdE b vb (pn), X, Ent.box (w.heap.size) #[(if l3 = true then .slice a1 G.next.length c1 else .slice none 0 0), (if l3 = true then .slice a2 G.ends.length c2 else .slice none 0 0)] 26, Ent.box (w.heap.size + 1) #[(if l4 = true then .slice b1 B.next.length d1 else .slice none 0 0), (if l4 = true then .slice b2 B.ends.length d2 else .slice none 0 0)] 26, E, Ent.box (w2.heap.size) #[.slice a1 G.next.length c1, .slice a2 G.ends.length c2] 26, Ent.box (w2.heap.size + 1) #[.slice b1 B.next.length d1, .slice b2 B.ends.length d2] 26]) ?_ ?_ ?_
    · rintro listed a w' ⟨l0, l1, l2, l3, l4, l5, rfl, rfl, hS⟩ i hi
      obtain ⟨hun, o, ho, hall⟩ := mem_ready.1 hi
      have hlt := (Array.getElem?_eq_some_iff.1 ho).1
      refine wpOp_step ho (fun K hK => ?_)
      clear hi
      have HS := Lib.hid hS
      clear hS
      simp only [List.setIfInBounds_toArray, List.set_cons_zero, List.set_cons_succ, Array.getD_eq_getD_getElem?, List.getElem?_toArray, List.getElem?_cons_zero, List.getElem?_cons_succ, Option.getD_some]
      obtain h | h | h | h | h | h : i = 0 ∨ i = 1 ∨ i = 2 ∨ i = 3 ∨ i = 4 ∨ i = 5 := by simp at hlt; omega
      all_goals subst h
      all_goals simp only [List.getElem?_toArray, List.getElem?_cons_zero, List.getElem?_cons_succ, Option.some.injEq] at ho
      all_goals subst ho
      all_goals simp [Region.binds] at hun hall
      · subst hun
        have e0 := HS.out.cell (v := .slice a1 G.next.length c1) 5 0 rfl rfl
        have e1 := HS.out.cell (v := .slice a2 G.ends.length c2) 5 1 rfl rfl
        go_simp
        exact hK _ _ ⟨true, l1, l2, l3, l4, l5, rfl, (by simp), HS.out⟩
      · subst hun
        have e0 := HS.out.cell (v := .slice b1 B.next.length d1) 6 0 rfl rfl
        have e1 := HS.out.cell (v := .slice b2 B.ends.length d2) 6 1 rfl rfl
        go_simp
        exact hK _ _ ⟨l0, true, l2, l3, l4, l5, rfl, (by simp), HS.out⟩
      · subst hun
        go_simp
        exact hK _ _ ⟨l0, l1, true, l3, l4, l5, rfl, (by simp), HS.out⟩
      · obtain rfl := hall
        subst hun
        have f0 := HS.out.fr 2 0 rfl
        have k0 := HS.out.cell (v := .slice none 0 0) 2 0 rfl rfl
        have f1 := HS.out.fr 2 1 rfl
        have k1 := HS.out.cell (v := .slice none 0 0) 2 1 rfl rfl
        go_simp
        exact hK _ _ ⟨true, l1, l2, true, l4, l5, rfl, (by simp), ((HS.out.set 2 rfl 0 (.slice a1 G.next.length c1)).set 2 rfl 1 (.slice a2 G.ends.length c2))⟩
      · obtain ⟨rfl, rfl, rfl, -⟩ := hall
        subst hun
        have f0 := HS.out.fr 3 0 rfl
        have k0 := HS.out.cell (v := .slice none 0 0) 3 0 rfl rfl
        have f1 := HS.out.fr 3 1 rfl
        have k1 := HS.out.cell (v := .slice none 0 0) 3 1 rfl rfl
        go_simp
        exact hK _ _ ⟨true, true, l2, true, true, l5, rfl, (by simp), ((HS.out.set 3 rfl 0 (.slice b1 B.next.length d1)).set 3 rfl 1 (.slice b2 B.ends.length d2))⟩
      · obtain ⟨rfl, rfl, rfl, rfl, -, rfl, -⟩ := hall
        subst hun
        go_simp
        exact hK _ _ ⟨true, true, true, true, true, true, rfl, (by simp), HS.out⟩
    · rintro listed a w' ⟨l0, l1, l2, l3, l4, l5, rfl, rfl, hS⟩ hr
      have hall := ready_nilM (by kernel_rfl) rfl hr
      obtain rfl : l0 = true := by simpa using hall 0 (by simp)
      obtain rfl : l1 = true := by simpa using hall 1 (by simp)
      obtain rfl : l2 = true := by simpa using hall 2 (by simp)
      obtain rfl : l3 = true := by simpa using hall 3 (by simp)
      obtain rfl : l4 = true := by simpa using hall 4 (by simp)
      obtain rfl : l5 = true := by simpa using hall 5 (by simp)
      clear hall hr 
      simp only [↓reduceIte] at hS ⊢
      simp only [List.setIfInBounds_toArray, List.set_cons_zero, List.set_cons_succ]
      have HSf := Lib.hid hS
      clear hS
      go_wp2
      have q0 := HSf.out.cell (v := .slice a1 G.next.length c1) 2 0 rfl rfl
      have q1 := HSf.out.cell (v := .slice a2 G.ends.length c2) 2 1 rfl rfl
      have q2 := HSf.out.cell (v := .slice b1 B.next.length d1) 3 0 rfl rfl
      have q3 := HSf.out.cell (v := .slice b2 B.ends.length d2) 3 1 rfl rfl
      refine bodyPost_ret (v := .tuple #[.agg #[.slice a1 G.next.length c1, .slice a2 G.ends.length c2], .agg #[.slice b1 B.next.length d1, .slice b2 B.ends.length d2], .slice az 0 cz]) (by simp [results, Try.results95, go_sem, q0, q1, q2, q3]) rfl ?_
      exact ⟨G, B, [], a1, a2, b1, b2, c1, c2, d1, d2, _, _, pn, E, _, HsmG.out, HsmB.out, by simp, rfl, HQG.out, HQB.out, (⟨fun u _ _ => HPz.out u⟩ : PrsQ Ent.nil _ _), HSf.out.pick [0, 1, 4, 7] (by decide)⟩
    · refine ⟨false, false, false, false, false, false, rfl, (by simp), ?_⟩
      exact HSz.out.drew.pick [0, 1, 2, 3, 4, 5, 6] (by decide)
  · obtain ⟨F, hF⟩ : ∃ F, metP G B mostP = F := ⟨_, rfl⟩
    have hms : makeP G B = some F := by rw [← hF]; exact if_pos hsame
    have hF0 : 0 < F.length := by rw [← hF]; exact List.length_pos_of_mem (metP_zero G B mostP)
    have hF1600 : F.length ≤ 1600 := by
      rw [← hF]
      exact most_le (sameB_parts hsame).1 (sameB_parts hsame).2 mostP_ge
    have hG1 : 1 ≤ G.next.length ∧ G.next.length ≤ 40 := by have := dfaOk_len (sameB_parts hsame).1; omega
    have hB1 : 1 ≤ B.next.length ∧ B.next.length ≤ 40 := by have := dfaOk_len (sameB_parts hsame).2; omega
    rw [hms] at hmp
    obtain ⟨az, cl, he, -, hown⟩ := hmp
    obtain rfl : e = .returned (.tuple #[.slice az F.length cl, .bool true]) := he
    have hSm : St w0 w3 [RdE b vb pn, X, Ent.box (w.heap.size) #[.slice none 0 0, .slice none 0 0] 26, Ent.box (w.heap.size + 1) #[.slice none 0 0, .slice none 0 0] 26, E, Ent.box (w2.heap.size) #[.slice a1 G.next.length c1, .slice a2 G.ends.length c2] 26, Ent.box (w2.heap.size + 1) #[.slice b1 B.next.length d1, .slice b2 B.ends.length d2] 26, Ent.row 56 2 (.slice az F.length cl) F.length ((F).flatMap pairCells)] := (HSa.out.made hb (hown rfl))
    obtain ⟨gl, cl', hgl⟩ := hSm.rowform 7 rfl hF0
    injection hgl with p1 p2 p3
    subst p1
    subst p3
    have hlc := hSm.rowcap 7 rfl
    have HSm := Lib.hid hSm
    clear hSm hb hown e0 e1 f0 f1 hms p2
    have HhF := Lib.hid hF; clear hF
    have Hhsame := Lib.hid hsame; clear hsame
    have hlen0 : decide (0 < F.length) = true := decide_eq_true hF0
    go_wp2_with fail
    refine (odd_any bs vb b pn 3 w0 _ _ Hb.out hlen (by omega) (by omega) (St.pack (A := [RdE b vb pn]) (R := [X, Ent.box (w.heap.size) #[.slice none 0 0, .slice none 0 0] 26, Ent.box (w.heap.size + 1) #[.slice none 0 0, .slice none 0 0] 26, E, Ent.box (w2.heap.size) #[.slice a1 G.next.length c1, .slice a2 G.ends.length c2] 26, Ent.box (w2.heap.size + 1) #[.slice b1 B.next.length d1, .slice b2 B.ends.length d2] 26, Ent.row 56 2 (.slice (some ⟨gl, 0, none⟩) F.length cl) F.length ((F).flatMap pairCells)]) HSm.out)).mono ?_
    rintro e w4 ⟨q3, pr, hpr, rfl, hSp⟩
    have HSr := Lib.hid (St.unpack (A := [RdE b vb pn]) (A' := [RdE b vb pr]) (R := [X, Ent.box (w.heap.size) #[.slice none 0 0, .slice none 0 0] 26, Ent.box (w.heap.size + 1) #[.slice none 0 0, .slice none 0 0] 26, E, Ent.box (w2.heap.size) #[.slice a1 G.next.length c1, .slice a2 G.ends.length c2] 26, Ent.box (w2.heap.size + 1) #[.slice b1 B.next.length d1, .slice b2 B.ends.length d2] 26, Ent.row 56 2 (.slice (some ⟨gl, 0, none⟩) F.length cl) F.length ((F).flatMap pairCells)]) HSm.out hSp)
    clear hSp
    go_upto_if 27 with fail
    go_cut [7] from 21 (fun l wx => ∃ (ps : List (Int × Int)) (al : Option Addr) (cl po : Nat), l = .slice al ps.length cl ∧ ps.length ≤ 1601 ∧ po ≤ p + 4000 ∧ St w0 wx [RdE b vb po, X, Ent.box (w.heap.size) #[.slice none 0 0, .slice none 0 0] 26, Ent.box (w.heap.size + 1) #[.slice none 0 0, .slice none 0 0] 26, E, Ent.box (w2.heap.size) #[.slice a1 G.next.length c1, .slice a2 G.ends.length c2] 26, Ent.box (w2.heap.size + 1) #[.slice b1 B.next.length d1, .slice b2 B.ends.length d2] 26, Ent.row 56 2 (.slice al ps.length cl) ps.length ((ps).flatMap pairCells)])
    case rest =>
      obtain ⟨ps, al, cq, po, rfl, hps, hpo, hSc⟩ := hcut
      have HSc := Lib.hid hSc
      clear hSc HSr HSm
      go_wp2
      refine wp_region_any (by kernel_rfl) ?_
      refine wpAny_invA (fun A listed a w' => ∃ (l0 l1 l2 l3 l4 l5 : Bool) , listed = #[l0, l1, l2, l3, l4, l5] ∧
          a = ⟨((((A.tmps.setIfInBounds 76 (if l0 = true then .agg #[.slice a1 G.next.length c1, .slice a2 G.ends.length c2] else A.tmps.getD 76 undef)).setIfInBounds 77 (if l1 = true then .agg #[.slice b1 B.next.length d1, .slice b2 B.ends.length d2] else A.tmps.getD 77 undef)).setIfInBounds 78 (if l2 = true then .slice al ps.length cq else A.tmps.getD 78 undef)).setIfInBounds 4 (if l5 = true then .slice al ps.length cq else A.tmps.getD 4 undef)), A.defers⟩ ∧
          St w0 w' [RdE b vb (po), X, Ent.box (w.heap.size) #[(if l3 = true then .slice a1 G.next.length c1 else .slice none 0 0), (if l3 = true then .slice a2 G.ends.length c2 else .slice none 0 0)] 26, Ent.box (w.heap.size + 1) #[(if l4 = true then .slice b1 B.next.length d1 else .slice none 0 0), (if l4 = true then .slice b2 B.ends.length d2 else .slice none 0 0)] 26, E, Ent.box (w2.heap.size) #[.slice a1 G.next.length c1, .slice a2 G.ends.length c2] 26, Ent.box (w2.heap.size + 1) #[.slice b1 B.next.length d1, .slice b2 B.ends.length d2] 26, Ent.row 56 2 (.slice al ps.length cq) ps.length ((ps).flatMap pairCells)]) ?_ ?_ ?_
      · rintro listed a w' ⟨l0, l1, l2, l3, l4, l5, rfl, rfl, hS⟩ i hi
        obtain ⟨hun, o, ho, hall⟩ := mem_ready.1 hi
        have hlt := (Array.getElem?_eq_some_iff.1 ho).1
        refine wpOp_step ho (fun K hK => ?_)
        clear hi
        have HS := Lib.hid hS
        clear hS
        simp only [List.setIfInBounds_toArray, List.set_cons_zero, List.set_cons_succ, Array.getD_eq_getD_getElem?, List.getElem?_toArray, List.getElem?_cons_zero, List.getElem?_cons_succ, Option.getD_some]
        obtain h | h | h | h | h | h : i = 0 ∨ i = 1 ∨ i = 2 ∨ i = 3 ∨ i = 4 ∨ i = 5 := by simp at hlt; omega
        all_goals subst h
        all_goals simp only [List.getElem?_toArray, List.getElem?_cons_zero, List.getElem?_cons_succ, Option.some.injEq] at ho
        all_goals subst ho
        all_goals simp [Region.binds] at hun hall
        · subst hun
          have e0 := HS.out.cell (v := .slice a1 G.next.length c1) 5 0 rfl rfl
          have e1 := HS.out.cell (v := .slice a2 G.ends.length c2) 5 1 rfl rfl
          go_simp
          exact hK _ _ ⟨true, l1, l2, l3, l4, l5, rfl, (by simp), HS.out⟩
        · subst hun
          have e0 := HS.out.cell (v := .slice b1 B.next.length d1) 6 0 rfl rfl
          have e1 := HS.out.cell (v := .slice b2 B.ends.length d2) 6 1 rfl rfl
          go_simp
          exact hK _ _ ⟨l0, true, l2, l3, l4, l5, rfl, (by simp), HS.out⟩
        · subst hun
          go_simp
          exact hK _ _ ⟨l0, l1, true, l3, l4, l5, rfl, (by simp), HS.out⟩
        · obtain rfl := hall
          subst hun
          have f0 := HS.out.fr 2 0 rfl
          have k0 := HS.out.cell (v := .slice none 0 0) 2 0 rfl rfl
          have f1 := HS.out.fr 2 1 rfl
          have k1 := HS.out.cell (v := .slice none 0 0) 2 1 rfl rfl
          go_simp
          exact hK _ _ ⟨true, l1, l2, true, l4, l5, rfl, (by simp), ((HS.out.set 2 rfl 0 (.slice a1 G.next.length c1)).set 2 rfl 1 (.slice a2 G.ends.length c2))⟩
        · obtain ⟨rfl, rfl, rfl, -⟩ := hall
          subst hun
          have f0 := HS.out.fr 3 0 rfl
          have k0 := HS.out.cell (v := .slice none 0 0) 3 0 rfl rfl
          have f1 := HS.out.fr 3 1 rfl
          have k1 := HS.out.cell (v := .slice none 0 0) 3 1 rfl rfl
          go_simp
          exact hK _ _ ⟨true, true, l2, true, true, l5, rfl, (by simp), ((HS.out.set 3 rfl 0 (.slice b1 B.next.length d1)).set 3 rfl 1 (.slice b2 B.ends.length d2))⟩
        · obtain ⟨rfl, rfl, rfl, rfl, -, rfl, -⟩ := hall
          subst hun
          go_simp
          exact hK _ _ ⟨true, true, true, true, true, true, rfl, (by simp), HS.out⟩
      · rintro listed a w' ⟨l0, l1, l2, l3, l4, l5, rfl, rfl, hS⟩ hr
        have hall := ready_nilM (by kernel_rfl) rfl hr
        obtain rfl : l0 = true := by simpa using hall 0 (by simp)
        obtain rfl : l1 = true := by simpa using hall 1 (by simp)
        obtain rfl : l2 = true := by simpa using hall 2 (by simp)
        obtain rfl : l3 = true := by simpa using hall 3 (by simp)
        obtain rfl : l4 = true := by simpa using hall 4 (by simp)
        obtain rfl : l5 = true := by simpa using hall 5 (by simp)
        clear hall hr 
        simp only [↓reduceIte] at hS ⊢
        simp only [List.setIfInBounds_toArray, List.set_cons_zero, List.set_cons_succ]
        have HSf := Lib.hid hS
        clear hS
        go_wp2
        have q0 := HSf.out.cell (v := .slice a1 G.next.length c1) 2 0 rfl rfl
        have q1 := HSf.out.cell (v := .slice a2 G.ends.length c2) 2 1 rfl rfl
        have q2 := HSf.out.cell (v := .slice b1 B.next.length d1) 3 0 rfl rfl
        have q3 := HSf.out.cell (v := .slice b2 B.ends.length d2) 3 1 rfl rfl
        refine bodyPost_ret (v := .tuple #[.agg #[.slice a1 G.next.length c1, .slice a2 G.ends.length c2], .agg #[.slice b1 B.next.length d1, .slice b2 B.ends.length d2], .slice al ps.length cq]) (by simp [results, Try.results95, go_sem, q0, q1, q2, q3]) rfl ?_
        exact ⟨G, B, ps, a1, a2, b1, b2, c1, c2, d1, d2, _, _, po, E, _, HsmG.out, HsmB.out, by omega, rfl, HQG.out, HQB.out, prsQ_row _ _ _, HSf.out.pick [0, 1, 4, 7] (by decide)⟩
      · refine ⟨false, false, false, false, false, false, rfl, (by simp), ?_⟩
        exact HSc.out.drew.pick [0, 1, 2, 3, 4, 5, 6, 7] (by decide)
    cases q3
    · go_wp2_with fail
      go_meet
      case rel => exact ⟨F, some ⟨gl, 0, none⟩, cl, pr, rfl, by omega, by omega, HSr.out⟩
    · obtain ⟨mn, hmn1, hmn2, hm1, hm2, hm3⟩ : ∃ mn : Nat, (if (F.length : Int) < 256 then (F.length : Int) else 256) = (mn : Int) ∧ (if F.length < 256 then (F.length : Int) else 256) = (mn : Int) ∧ 1 ≤ mn ∧ mn ≤ F.length ∧ mn ≤ 256 := by
        by_cases h : F.length < 256
        · exact ⟨F.length, by rw [if_pos (by omega)], by rw [if_pos h], hF0, Nat.le_refl _, by omega⟩
        · exact ⟨256, by rw [if_neg (by omega)]; rfl, by rw [if_neg h]; rfl, by omega, by omega, Nat.le_refl _⟩
      go_wp2_with fail
      refine (pick_any bs vb b pr mn w0 _ _ Hb.out hlen (by omega) hm1 (by omega) (St.pack (A := [RdE b vb pr]) (R := [X, Ent.box (w.heap.size) #[.slice none 0 0, .slice none 0 0] 26, Ent.box (w.heap.size + 1) #[.slice none 0 0, .slice none 0 0] 26, E, Ent.box (w2.heap.size) #[.slice a1 G.next.length c1, .slice a2 G.ends.length c2] 26, Ent.box (w2.heap.size + 1) #[.slice b1 B.next.length d1, .slice b2 B.ends.length d2] 26, Ent.row 56 2 (.slice (some ⟨gl, 0, none⟩) F.length cl) F.length ((F).flatMap pairCells)]) HSr.out)).mono ?_
      rintro e w5 ⟨k, hk, rfl, hSp⟩
      have HS5 := Lib.hid (St.unpack (A := [RdE b vb pr]) (A' := [RdE b vb (pr + 1)]) (R := [X, Ent.box (w.heap.size) #[.slice none 0 0, .slice none 0 0] 26, Ent.box (w.heap.size + 1) #[.slice none 0 0, .slice none 0 0] 26, E, Ent.box (w2.heap.size) #[.slice a1 G.next.length c1, .slice a2 G.ends.length c2] 26, Ent.box (w2.heap.size + 1) #[.slice b1 B.next.length d1, .slice b2 B.ends.length d2] 26, Ent.row 56 2 (.slice (some ⟨gl, 0, none⟩) F.length cl) F.length ((F).flatMap pairCells)]) HSr.out hSp)
      have hkF : k < F.length := by omega
      clear hSp hmn1 hmn2
      go_wp2_with fail
      refine (pick_any bs vb b (pr + 1) 4 w0 _ _ Hb.out hlen (by omega) (by omega) (by omega) (St.pack (A := [RdE b vb (pr + 1)]) (R := [X, Ent.box (w.heap.size) #[.slice none 0 0, .slice none 0 0] 26, Ent.box (w.heap.size + 1) #[.slice none 0 0, .slice none 0 0] 26, E, Ent.box (w2.heap.size) #[.slice a1 G.next.length c1, .slice a2 G.ends.length c2] 26, Ent.box (w2.heap.size + 1) #[.slice b1 B.next.length d1, .slice b2 B.ends.length d2] 26, Ent.row 56 2 (.slice (some ⟨gl, 0, none⟩) F.length cl) F.length ((F).flatMap pairCells)]) HS5.out)).mono ?_
      rintro e wk ⟨k4, hk4, rfl, hSp⟩
      obtain ⟨pk, hpk⟩ : ∃ z, z = pr + 1 + 1 := ⟨_, rfl⟩
      have hpkb : pk ≤ p + 3010 := by omega
      have hSk : St w0 wk [RdE b vb pk, X, Ent.box (w.heap.size) #[.slice none 0 0, .slice none 0 0] 26, Ent.box (w.heap.size + 1) #[.slice none 0 0, .slice none 0 0] 26, E, Ent.box (w2.heap.size) #[.slice a1 G.next.length c1, .slice a2 G.ends.length c2] 26, Ent.box (w2.heap.size + 1) #[.slice b1 B.next.length d1, .slice b2 B.ends.length d2] 26, Ent.row 56 2 (.slice (some ⟨gl, 0, none⟩) F.length cl) F.length ((F).flatMap pairCells)] := by
        rw [hpk]
        exact St.unpack (A := [RdE b vb (pr + 1)]) (A' := [RdE b vb (pr + 1 + 1)]) (R := [X, Ent.box (w.heap.size) #[.slice none 0 0, .slice none 0 0] 26, Ent.box (w.heap.size + 1) #[.slice none 0 0, .slice none 0 0] 26, E, Ent.box (w2.heap.size) #[.slice a1 G.next.length c1, .slice a2 G.ends.length c2] 26, Ent.box (w2.heap.size + 1) #[.slice b1 B.next.length d1, .slice b2 B.ends.length d2] 26, Ent.row 56 2 (.slice (some ⟨gl, 0, none⟩) F.length cl) F.length ((F).flatMap pairCells)]) HS5.out hSp
      have HSk := Lib.hid hSk
      have hkI : (k : Int) < (F.length : Int) := by omega
      clear hSk hSp HS5 HSr HSm HSa HS2 HS1 hm2 hk hpr hpn
      have Hhpk := Lib.hid hpk; clear hpk
      obtain h40 | h41 | h42 | h43 : (k4 : Int) = 0 ∨ (k4 : Int) = 1 ∨ (k4 : Int) = 2 ∨ 3 ≤ (k4 : Int) := by omega
      · obtain ⟨z0a, z0b, z0c⟩ := yes_eqI h40
        obtain ⟨z1a, z1b, z1c, z1d⟩ := not_eqI (show (k4 : Int) ≠ 1 by omega)
        obtain ⟨z2a, z2b, z2c, z2d⟩ := not_eqI (show (k4 : Int) ≠ 2 by omega)
        clear h40
        obtain ⟨Fd, hFd⟩ : ∃ n, n = F.length - (k + 1) := ⟨_, rfl⟩
        obtain ⟨F1, hF1⟩ : ∃ n, n = k + Fd := ⟨_, rfl⟩
        have hlF1 : (F.take k ++ F.drop (k + 1)).length = F1 := by rw [List.length_append, List.length_take, List.length_drop]; omega
        have hFd40 : Fd ≤ 1600 := by omega
        have HF1 := Lib.hid hF1.symm
        have hF1b : F1 ≤ 1600 := by omega
        have hci1 : (k : Int) ≤ cl := by omega
        have hci2 : (k : Int) + 1 ≤ cl := by omega
        have hci3 : (k : Int) + 1 ≤ F.length := by omega
        have HhlF1 := Lib.hid hlF1; clear hlF1
        have HhFd := Lib.hid hFd; clear hFd
        have HhF1 := Lib.hid hF1; clear hF1
        by_cases hcap : cl = k + 1
        · subst hcap
          obtain rfl : Fd = 0 := by rw [HhFd.out]; omega
          have HdrS := Lib.hid (fun (u : World) => show Sl 0 u (.slice (some ⟨gl, 0, none⟩) 0 0) 0 2 ((F.drop (k + 1)).flatMap pairCells) from by
            have e2 : F.drop (k + 1) = [] := List.drop_eq_nil_of_le (by omega)
            rw [e2]
            exact sl_nil3 _ _)
          go_wp2
          refine wp_region_any (by kernel_rfl) ?_
          refine wpAny_invA (fun A listed a w' => ∃ (l0 l1 l2 l3 l4 l5 l6 l7 l8 l9 l10 : Bool) (b5 : Nat) (ag : Option Addr) (cg : Nat) (ah : Option Addr) (ch : Nat), listed = #[l0, l1, l2, l3, l4, l5, l6, l7, l8, l9, l10] ∧ (l4 = true → l0 = true) ∧ (l9 = true → l0 = true ∧ l4 = true) ∧ (l10 = true → l1 = true ∧ l5 = true ∧ l9 = true) ∧
              a = ⟨(((((((((((A.tmps.setIfInBounds 41 (if l0 = true then .slice (some ⟨b5, 0, none⟩) 0 0 else A.tmps.getD 41 undef)).setIfInBounds 42 (if l1 = true then .slice (some ⟨gl, 0, none⟩) F.length (k + 1) else A.tmps.getD 42 undef)).setIfInBounds 43 (if l2 = true then .int .i64 (k : Int) else A.tmps.getD 43 undef)).setIfInBounds 44 (if l3 = true then .slice (some ⟨gl, 0, none⟩) k (k + 1) else A.tmps.getD 44 undef)).setIfInBounds 45 (if l4 = true then .slice ag k cg else A.tmps.getD 45 undef)).setIfInBounds 46 (if l5 = true then .slice (some ⟨gl, 0, none⟩) F.length (k + 1) else A.tmps.getD 46 undef)).setIfInBounds 47 (if l6 = true then .int .i64 (k : Int) else A.tmps.getD 47 undef)).setIfInBounds 48 (if l7 = true then .int .i64 ((k : Int) + 1) else A.tmps.getD 48 undef)).setIfInBounds 49 (if l8 = true then .slice (some ⟨gl, 0, none⟩) 0 0 else A.tmps.getD 49 undef)).setIfInBounds 50 (if l9 = true then .slice ah F1 ch else A.tmps.getD 50 undef)).setIfInBounds 7 (if l10 = true then .slice ah F1 ch else A.tmps.getD 7 undef)), A.defers⟩ ∧
              St w0 w' [RdE b vb pk, X, Ent.box (w.heap.size) #[.slice none 0 0, .slice none 0 0] 26, Ent.box (w.heap.size + 1) #[.slice none 0 0, .slice none 0 0] 26, E, Ent.box (w2.heap.size) #[.slice a1 G.next.length c1, .slice a2 G.ends.length c2] 26, Ent.box (w2.heap.size + 1) #[.slice b1 B.next.length d1, .slice b2 B.ends.length d2] 26, Ent.row 56 2 (.slice (some ⟨gl, 0, none⟩) F.length (k + 1)) F.length ((F).flatMap pairCells), (if l0 = true then (if l4 = true then (if l9 = true then Ent.row 56 2 (.slice ah F1 ch) F1 ((F.take k ++ F.drop (k + 1)).flatMap pairCells) else Ent.row 56 2 (.slice ag k cg) k ((F.take k).flatMap pairCells)) else Ent.row 56 2 (.slice (some ⟨b5, 0, none⟩) 0 0) 0 []) else Ent.nil)]) ?_ ?_ ?_
          · rintro listed a w' ⟨l0, l1, l2, l3, l4, l5, l6, l7, l8, l9, l10, b5, ag, cg, ah, ch, rfl, hd4, hd9, hd10, rfl, hS⟩ i hi
            obtain ⟨hun, o, ho, hall⟩ := mem_ready.1 hi
            have hlt := (Array.getElem?_eq_some_iff.1 ho).1
            refine wpOp_step ho (fun K hK => ?_)
            clear hi
            have HS := Lib.hid hS
            clear hS
            simp only [List.setIfInBounds_toArray, List.set_cons_zero, List.set_cons_succ, Array.getD_eq_getD_getElem?, List.getElem?_toArray, List.getElem?_cons_zero, List.getElem?_cons_succ, Option.getD_some]
            obtain h | h | h | h | h | h | h | h | h | h | h : i = 0 ∨ i = 1 ∨ i = 2 ∨ i = 3 ∨ i = 4 ∨ i = 5 ∨ i = 6 ∨ i = 7 ∨ i = 8 ∨ i = 9 ∨ i = 10 := by simp at hlt; omega
            all_goals subst h
            all_goals simp only [List.getElem?_toArray, List.getElem?_cons_zero, List.getElem?_cons_succ, Option.some.injEq] at ho
            all_goals subst ho
            all_goals simp [Region.binds] at hun hall
            · subst hun
              obtain rfl : l4 = false := by cases l4 with | false => rfl | true => simpa using hd4 rfl
              obtain rfl : l9 = false := offL hd9 rfl
              obtain rfl : l10 = false := by cases l10 with | false => rfl | true => simpa using hd10 rfl
              have hS2 := (((HS.out.alloc _ rfl #[] 56).boxrow 9 0 2 [] rfl rfl (Nat.zero_le _)).pick [0, 1, 2, 3, 4, 5, 6, 7, 9] (by decide))
              have HhS2 := Lib.hid hS2; clear hS2
              go_simp
              exact hK _ _ ⟨true, l1, l2, l3, false, l5, l6, l7, l8, false, false, _, ag, cg, ah, ch, rfl, by simp, by simp, by simp, (by simp), HhS2.out⟩
            · subst hun
              obtain rfl : l10 = false := by cases l10 with | false => rfl | true => simpa using hd10 rfl
              go_simp
              exact hK _ _ ⟨l0, true, l2, l3, l4, l5, l6, l7, l8, l9, false, b5, ag, cg, ah, ch, rfl, hd4, hd9, by simp, (by simp), HS.out⟩
            · subst hun
              go_simp
              exact hK _ _ ⟨l0, l1, true, l3, l4, l5, l6, l7, l8, l9, l10, b5, ag, cg, ah, ch, rfl, hd4, hd9, hd10, (by simp), HS.out⟩
            · obtain ⟨rfl, rfl⟩ := hall
              subst hun
              go_simp
              rw [if_pos (show (k : Int) ≤ (k : Int) + 1 by omega)]
              exact hK _ _ ⟨l0, true, true, true, l4, l5, l6, l7, l8, l9, l10, b5, ag, cg, ah, ch, rfl, hd4, hd9, hd10, (by simp; try rfl), HS.out⟩
            · obtain ⟨rfl, rfl⟩ := hall
              subst hun
              obtain rfl : l9 = false := offR hd9 rfl
              obtain rfl : l10 = false := by cases l10 with | false => rfl | true => simpa using hd10 rfl
              refine step_append_sl (a := ⟨_, _⟩) _ (by rfl) _ _ _ (by rfl) w0.heap.size 56 i0 (.agg #[.int .i64 0, .int .i64 0]) 2 16 Try.underlying50 Hhi.out Hhz0.out Hhz1.out Hhz2.out (by rfl) (by omega) _ 0 [] (by rfl) (HS.out.row 8 rfl) _ k ((F.take k).flatMap pairCells) (by rfl) (row_takeT HS.out 7 rfl (by omega)) on_prs (by unfold maxLen; omega) (by omega) HS.out.size ?_
              intro a7 c7 w6 hown6 hgrow6 hat6
              have hS6 := HS.out.appS 8 rfl hown6 hgrow6 hat6
              rw [Nat.zero_add] at hS6
              rw [Nat.zero_add]
              have HS6 := Lib.hid hS6
              clear hown6 hgrow6 hat6 hS6
              go_simp
              exact hK _ _ ⟨true, l1, l2, true, true, l5, l6, l7, l8, false, false, b5, a7, c7, ah, ch, rfl, by simp, by simp, by simp, (by simp), HS6.out⟩
            · subst hun
              obtain rfl : l10 = false := by cases l10 with | false => rfl | true => simpa using hd10 rfl
              go_simp
              exact hK _ _ ⟨l0, l1, l2, l3, l4, true, l6, l7, l8, l9, false, b5, ag, cg, ah, ch, rfl, hd4, hd9, by simp, (by simp), HS.out⟩
            · subst hun
              go_simp
              exact hK _ _ ⟨l0, l1, l2, l3, l4, l5, true, l7, l8, l9, l10, b5, ag, cg, ah, ch, rfl, hd4, hd9, hd10, (by simp), HS.out⟩
            · obtain rfl := hall
              subst hun
              have hwk : IntKind.i64.wrap ((k : Int) + 1) = (k : Int) + 1 := IntWalk.i64_in _ (by omega)
              go_simp
              exact hK _ _ ⟨l0, l1, l2, l3, l4, l5, true, true, l8, l9, l10, b5, ag, cg, ah, ch, rfl, hd4, hd9, hd10, (by simp), HS.out⟩
            · obtain ⟨rfl, rfl⟩ := hall
              subst hun
              go_simp
              rw [if_pos (show (0 : Int) ≤ (k : Int) + 1 by omega)]
              exact hK _ _ ⟨l0, l1, l2, l3, l4, true, l6, true, true, l9, l10, b5, ag, cg, ah, ch, rfl, hd4, hd9, hd10, (by simp; try rfl), HS.out⟩
            · obtain ⟨rfl, rfl, -⟩ := hall
              subst hun
              obtain rfl := hd4 rfl
              obtain rfl : l10 = false := by cases l10 with | false => rfl | true => simpa using hd10 rfl
              refine step_append_sl (a := ⟨_, _⟩) _ (by rfl) _ _ _ (by rfl) w0.heap.size 56 i0 (.agg #[.int .i64 0, .int .i64 0]) 2 16 Try.underlying50 Hhi.out Hhz0.out Hhz1.out Hhz2.out (by rfl) (by omega) _ k ((F.take k).flatMap pairCells) (by rfl) (HS.out.row 8 rfl) _ 0 ((F.drop (k + 1)).flatMap pairCells) (by rfl) (HdrS.out _) on_prs (by unfold maxLen; omega) (by omega) HS.out.size ?_
              intro a7 c7 w6 hown6 hgrow6 hat6
              have hS6 := HS.out.appS 8 rfl hown6 hgrow6 hat6
              rw [HF1.out, ← List.flatMap_append] at hS6
              rw [HF1.out]
              have HS6 := Lib.hid hS6
              clear hown6 hgrow6 hat6 hS6
              go_simp
              exact hK _ _ ⟨true, l1, l2, l3, true, l5, l6, l7, true, true, false, b5, ag, cg, a7, c7, rfl, by simp, by simp, by simp, (by simp), HS6.out⟩
            · obtain ⟨rfl, rfl, rfl, rfl, rfl, rfl, rfl, rfl, rfl, rfl, -⟩ := hall
              subst hun
              go_simp
              exact hK _ _ ⟨true, true, true, true, true, true, true, true, true, true, true, b5, ag, cg, ah, ch, rfl, by simp, by simp, by simp, (by simp), HS.out⟩
          · rintro listed a w' ⟨l0, l1, l2, l3, l4, l5, l6, l7, l8, l9, l10, b5, ag, cg, ah, ch, rfl, hd4, hd9, hd10, rfl, hS⟩ hr
            have hall := ready_nilM (by kernel_rfl) rfl hr
            obtain rfl : l0 = true := by simpa using hall 0 (by simp)
            obtain rfl : l1 = true := by simpa using hall 1 (by simp)
            obtain rfl : l2 = true := by simpa using hall 2 (by simp)
            obtain rfl : l3 = true := by simpa using hall 3 (by simp)
            obtain rfl : l4 = true := by simpa using hall 4 (by simp)
            obtain rfl : l5 = true := by simpa using hall 5 (by simp)
            obtain rfl : l6 = true := by simpa using hall 6 (by simp)
            obtain rfl : l7 = true := by simpa using hall 7 (by simp)
            obtain rfl : l8 = true := by simpa using hall 8 (by simp)
            obtain rfl : l9 = true := by simpa using hall 9 (by simp)
            obtain rfl : l10 = true := by simpa using hall 10 (by simp)
            clear hall hr hd4 hd9 hd10
            simp only [↓reduceIte] at hS ⊢
            simp only [List.setIfInBounds_toArray, List.set_cons_zero, List.set_cons_succ]
            have HSf := Lib.hid hS
            clear hS
            go_wp2_with fail
            go_meet
            case rel => exact ⟨F.take k ++ F.drop (k + 1), ah, ch, pk, by rw [HhlF1.out], by rw [HhlF1.out]; omega, by omega, by rw [HhlF1.out]; exact HSf.out.pick [0, 1, 2, 3, 4, 5, 6, 8] (by decide)⟩
          · refine ⟨false, false, false, false, false, false, false, false, false, false, false, 0, none, 0, none, 0, rfl, by simp, by simp, by simp, (by simp), ?_⟩
            exact HSk.out.drew.pick [0, 1, 2, 3, 4, 5, 6, 7, 8] (by decide)
        · have hcapF : (cl = k + 1) = False := by simp [hcap]
          go_wp2
          refine wp_region_any (by kernel_rfl) ?_
          refine wpAny_invA (fun A listed a w' => ∃ (l0 l1 l2 l3 l4 l5 l6 l7 l8 l9 l10 : Bool) (b5 : Nat) (ag : Option Addr) (cg : Nat) (ah : Option Addr) (ch : Nat), listed = #[l0, l1, l2, l3, l4, l5, l6, l7, l8, l9, l10] ∧ (l4 = true → l0 = true) ∧ (l9 = true → l0 = true ∧ l4 = true) ∧ (l10 = true → l1 = true ∧ l5 = true ∧ l9 = true) ∧
              a = ⟨(((((((((((A.tmps.setIfInBounds 41 (if l0 = true then .slice (some ⟨b5, 0, none⟩) 0 0 else A.tmps.getD 41 undef)).setIfInBounds 42 (if l1 = true then .slice (some ⟨gl, 0, none⟩) F.length cl else A.tmps.getD 42 undef)).setIfInBounds 43 (if l2 = true then .int .i64 (k : Int) else A.tmps.getD 43 undef)).setIfInBounds 44 (if l3 = true then .slice (some ⟨gl, 0, none⟩) k cl else A.tmps.getD 44 undef)).setIfInBounds 45 (if l4 = true then .slice ag k cg else A.tmps.getD 45 undef)).setIfInBounds 46 (if l5 = true then .slice (some ⟨gl, 0, none⟩) F.length cl else A.tmps.getD 46 undef)).setIfInBounds 47 (if l6 = true then .int .i64 (k : Int) else A.tmps.getD 47 undef)).setIfInBounds 48 (if l7 = true then .int .i64 ((k : Int) + 1) else A.tmps.getD 48 undef)).setIfInBounds 49 (if l8 = true then .slice (some ⟨gl, (k + 1) * 2, none⟩) Fd (cl - (k + 1)) else A.tmps.getD 49 undef)).setIfInBounds 50 (if l9 = true then .slice ah F1 ch else A.tmps.getD 50 undef)).setIfInBounds 7 (if l10 = true then .slice ah F1 ch else A.tmps.getD 7 undef)), A.defers⟩ ∧
              St w0 w' [RdE b vb pk, X, Ent.box (w.heap.size) #[.slice none 0 0, .slice none 0 0] 26, Ent.box (w.heap.size + 1) #[.slice none 0 0, .slice none 0 0] 26, E, Ent.box (w2.heap.size) #[.slice a1 G.next.length c1, .slice a2 G.ends.length c2] 26, Ent.box (w2.heap.size + 1) #[.slice b1 B.next.length d1, .slice b2 B.ends.length d2] 26, Ent.row 56 2 (.slice (some ⟨gl, 0, none⟩) F.length cl) F.length ((F).flatMap pairCells), (if l0 = true then (if l4 = true then (if l9 = true then Ent.row 56 2 (.slice ah F1 ch) F1 ((F.take k ++ F.drop (k + 1)).flatMap pairCells) else Ent.row 56 2 (.slice ag k cg) k ((F.take k).flatMap pairCells)) else Ent.row 56 2 (.slice (some ⟨b5, 0, none⟩) 0 0) 0 []) else Ent.nil)]) ?_ ?_ ?_
          · rintro listed a w' ⟨l0, l1, l2, l3, l4, l5, l6, l7, l8, l9, l10, b5, ag, cg, ah, ch, rfl, hd4, hd9, hd10, rfl, hS⟩ i hi
            obtain ⟨hun, o, ho, hall⟩ := mem_ready.1 hi
            have hlt := (Array.getElem?_eq_some_iff.1 ho).1
            refine wpOp_step ho (fun K hK => ?_)
            clear hi
            have HS := Lib.hid hS
            clear hS
            simp only [List.setIfInBounds_toArray, List.set_cons_zero, List.set_cons_succ, Array.getD_eq_getD_getElem?, List.getElem?_toArray, List.getElem?_cons_zero, List.getElem?_cons_succ, Option.getD_some]
            obtain h | h | h | h | h | h | h | h | h | h | h : i = 0 ∨ i = 1 ∨ i = 2 ∨ i = 3 ∨ i = 4 ∨ i = 5 ∨ i = 6 ∨ i = 7 ∨ i = 8 ∨ i = 9 ∨ i = 10 := by simp at hlt; omega
            all_goals subst h
            all_goals simp only [List.getElem?_toArray, List.getElem?_cons_zero, List.getElem?_cons_succ, Option.some.injEq] at ho
            all_goals subst ho
            all_goals simp [Region.binds] at hun hall
            · subst hun
              obtain rfl : l4 = false := by cases l4 with | false => rfl | true => simpa using hd4 rfl
              obtain rfl : l9 = false := offL hd9 rfl
              obtain rfl : l10 = false := by cases l10 with | false => rfl | true => simpa using hd10 rfl
              have hS2 := (((HS.out.alloc _ rfl #[] 56).boxrow 9 0 2 [] rfl rfl (Nat.zero_le _)).pick [0, 1, 2, 3, 4, 5, 6, 7, 9] (by decide))
              have HhS2 := Lib.hid hS2; clear hS2
              go_simp
              exact hK _ _ ⟨true, l1, l2, l3, false, l5, l6, l7, l8, false, false, _, ag, cg, ah, ch, rfl, by simp, by simp, by simp, (by simp), HhS2.out⟩
            · subst hun
              obtain rfl : l10 = false := by cases l10 with | false => rfl | true => simpa using hd10 rfl
              go_simp
              exact hK _ _ ⟨l0, true, l2, l3, l4, l5, l6, l7, l8, l9, false, b5, ag, cg, ah, ch, rfl, hd4, hd9, by simp, (by simp), HS.out⟩
            · subst hun
              go_simp
              exact hK _ _ ⟨l0, l1, true, l3, l4, l5, l6, l7, l8, l9, l10, b5, ag, cg, ah, ch, rfl, hd4, hd9, hd10, (by simp), HS.out⟩
            · obtain ⟨rfl, rfl⟩ := hall
              subst hun
              go_simp
              exact hK _ _ ⟨l0, true, true, true, l4, l5, l6, l7, l8, l9, l10, b5, ag, cg, ah, ch, rfl, hd4, hd9, hd10, (by simp; try rfl), HS.out⟩
            · obtain ⟨rfl, rfl⟩ := hall
              subst hun
              obtain rfl : l9 = false := offR hd9 rfl
              obtain rfl : l10 = false := by cases l10 with | false => rfl | true => simpa using hd10 rfl
              refine step_append_sl (a := ⟨_, _⟩) _ (by rfl) _ _ _ (by rfl) w0.heap.size 56 i0 (.agg #[.int .i64 0, .int .i64 0]) 2 16 Try.underlying50 Hhi.out Hhz0.out Hhz1.out Hhz2.out (by rfl) (by omega) _ 0 [] (by rfl) (HS.out.row 8 rfl) _ k ((F.take k).flatMap pairCells) (by rfl) (row_takeT HS.out 7 rfl (by omega)) on_prs (by unfold maxLen; omega) (by omega) HS.out.size ?_
              intro a7 c7 w6 hown6 hgrow6 hat6
              have hS6 := HS.out.appS 8 rfl hown6 hgrow6 hat6
              rw [Nat.zero_add] at hS6
              rw [Nat.zero_add]
              have HS6 := Lib.hid hS6
              clear hown6 hgrow6 hat6 hS6
              go_simp
              exact hK _ _ ⟨true, l1, l2, true, true, l5, l6, l7, l8, false, false, b5, a7, c7, ah, ch, rfl, by simp, by simp, by simp, (by simp), HS6.out⟩
            · subst hun
              obtain rfl : l10 = false := by cases l10 with | false => rfl | true => simpa using hd10 rfl
              go_simp
              exact hK _ _ ⟨l0, l1, l2, l3, l4, true, l6, l7, l8, l9, false, b5, ag, cg, ah, ch, rfl, hd4, hd9, by simp, (by simp), HS.out⟩
            · subst hun
              go_simp
              exact hK _ _ ⟨l0, l1, l2, l3, l4, l5, true, l7, l8, l9, l10, b5, ag, cg, ah, ch, rfl, hd4, hd9, hd10, (by simp), HS.out⟩
            · obtain rfl := hall
              subst hun
              have hwk : IntKind.i64.wrap ((k : Int) + 1) = (k : Int) + 1 := IntWalk.i64_in _ (by omega)
              go_simp
              exact hK _ _ ⟨l0, l1, l2, l3, l4, l5, true, true, l8, l9, l10, b5, ag, cg, ah, ch, rfl, hd4, hd9, hd10, (by simp), HS.out⟩
            · obtain ⟨rfl, rfl⟩ := hall
              subst hun
              go_simp
              rw [← HhFd.out]
              exact hK _ _ ⟨l0, l1, l2, l3, l4, true, l6, true, true, l9, l10, b5, ag, cg, ah, ch, rfl, hd4, hd9, hd10, (by simp; try rfl), HS.out⟩
            · obtain ⟨rfl, rfl, -⟩ := hall
              subst hun
              obtain rfl := hd4 rfl
              obtain rfl : l10 = false := by cases l10 with | false => rfl | true => simpa using hd10 rfl
              refine step_append_sl (a := ⟨_, _⟩) _ (by rfl) _ _ _ (by rfl) w0.heap.size 56 i0 (.agg #[.int .i64 0, .int .i64 0]) 2 16 Try.underlying50 Hhi.out Hhz0.out Hhz1.out Hhz2.out (by rfl) (by omega) _ k ((F.take k).flatMap pairCells) (by rfl) (HS.out.row 8 rfl) _ Fd ((F.drop (k + 1)).flatMap pairCells) (by rfl) (row_dropT HS.out 7 rfl (by omega) HhFd.out) on_prs (by unfold maxLen; omega) (by omega) HS.out.size ?_
              intro a7 c7 w6 hown6 hgrow6 hat6
              have hS6 := HS.out.appS 8 rfl hown6 hgrow6 hat6
              rw [HF1.out, ← List.flatMap_append] at hS6
              rw [HF1.out]
              have HS6 := Lib.hid hS6
              clear hown6 hgrow6 hat6 hS6
              go_simp
              exact hK _ _ ⟨true, l1, l2, l3, true, l5, l6, l7, true, true, false, b5, ag, cg, a7, c7, rfl, by simp, by simp, by simp, (by simp), HS6.out⟩
            · obtain ⟨rfl, rfl, rfl, rfl, rfl, rfl, rfl, rfl, rfl, rfl, -⟩ := hall
              subst hun
              go_simp
              exact hK _ _ ⟨true, true, true, true, true, true, true, true, true, true, true, b5, ag, cg, ah, ch, rfl, by simp, by simp, by simp, (by simp), HS.out⟩
          · rintro listed a w' ⟨l0, l1, l2, l3, l4, l5, l6, l7, l8, l9, l10, b5, ag, cg, ah, ch, rfl, hd4, hd9, hd10, rfl, hS⟩ hr
            have hall := ready_nilM (by kernel_rfl) rfl hr
            obtain rfl : l0 = true := by simpa using hall 0 (by simp)
            obtain rfl : l1 = true := by simpa using hall 1 (by simp)
            obtain rfl : l2 = true := by simpa using hall 2 (by simp)
            obtain rfl : l3 = true := by simpa using hall 3 (by simp)
            obtain rfl : l4 = true := by simpa using hall 4 (by simp)
            obtain rfl : l5 = true := by simpa using hall 5 (by simp)
            obtain rfl : l6 = true := by simpa using hall 6 (by simp)
            obtain rfl : l7 = true := by simpa using hall 7 (by simp)
            obtain rfl : l8 = true := by simpa using hall 8 (by simp)
            obtain rfl : l9 = true := by simpa using hall 9 (by simp)
            obtain rfl : l10 = true := by simpa using hall 10 (by simp)
            clear hall hr hd4 hd9 hd10
            simp only [↓reduceIte] at hS ⊢
            simp only [List.setIfInBounds_toArray, List.set_cons_zero, List.set_cons_succ]
            have HSf := Lib.hid hS
            clear hS
            go_wp2_with fail
            go_meet
            case rel => exact ⟨F.take k ++ F.drop (k + 1), ah, ch, pk, by rw [HhlF1.out], by rw [HhlF1.out]; omega, by omega, by rw [HhlF1.out]; exact HSf.out.pick [0, 1, 2, 3, 4, 5, 6, 8] (by decide)⟩
          · refine ⟨false, false, false, false, false, false, false, false, false, false, false, 0, none, 0, none, 0, rfl, by simp, by simp, by simp, (by simp), ?_⟩
            exact HSk.out.drew.pick [0, 1, 2, 3, 4, 5, 6, 7, 8] (by decide)
      · obtain ⟨z1a, z1b, z1c⟩ := yes_eqI h41
        obtain ⟨z0a, z0b, z0c, z0d⟩ := not_eqI (show (k4 : Int) ≠ 0 by omega)
        obtain ⟨z2a, z2b, z2c, z2d⟩ := not_eqI (show (k4 : Int) ≠ 2 by omega)
        clear h41
        obtain ⟨x1, x2⟩ := row_cellT HSk.out 7 rfl hkF
        obtain ⟨x, hx⟩ : ∃ x, x = (F.getD k (0, 0)).1 := ⟨_, rfl⟩
        obtain ⟨y, hy⟩ : ∃ y, y = (F.getD k (0, 0)).2 := ⟨_, rfl⟩
        rw [← hx] at x1
        rw [← hy] at x2
        have Hhx := Lib.hid hx; clear hx
        have Hhy := Lib.hid hy; clear hy
        have HSn := Lib.hid (HSk.out.alloc_ (.cells #[.int .i64 x, .int .i64 y] 56))
        have HRw := Lib.hid (HSn.out.row 7 rfl)
        go_wp2_with (at_builtin; refine wpList_append_lies _ rfl _ _ _ rfl _ 56 i0 (.agg #[.int .i64 0, .int .i64 0]) 2 16 Try.underlying50 Hhi.out Hhz0.out Hhz1.out Hhz2.out rfl (by omega) _ F.length _ rfl HRw.out ⟨wk.heap.size, 0, none⟩ 1 1 [.int .i64 x, .int .i64 y] rfl rfl (World.news_of_block (heap_alloc_new wk _)) one_two (by omega) (by unfold maxLen; omega) (by omega) HSn.out.size _ rfl ?_; intro g6 c6 w6 hown6 hgrow6 hat6 hlt6; have HS6 := Lib.hid (HSn.out.app 7 rfl hown6 hgrow6 hat6); clear hown6 hgrow6 hat6 hlt6)
        go_meet
        case rel => exact snoc_meet (L := [X, Ent.box (w.heap.size) #[.slice none 0 0, .slice none 0 0] 26, Ent.box (w.heap.size + 1) #[.slice none 0 0, .slice none 0 0] 26, E, Ent.box (w2.heap.size) #[.slice a1 G.next.length c1, .slice a2 G.ends.length c2] 26, Ent.box (w2.heap.size + 1) #[.slice b1 B.next.length d1, .slice b2 B.ends.length d2] 26]) x y ⟨hF1600, by omega⟩ HS6.out
      · obtain ⟨z2a, z2b, z2c⟩ := yes_eqI h42
        obtain ⟨z0a, z0b, z0c, z0d⟩ := not_eqI (show (k4 : Int) ≠ 0 by omega)
        obtain ⟨z1a, z1b, z1c, z1d⟩ := not_eqI (show (k4 : Int) ≠ 1 by omega)
        clear h42
        go_wp2
        refine wp_region_any (by kernel_rfl) ?_
        refine wpAny_invA (fun A listed a w' => ∃ (l0 l1 l2 l3 l4 l5 l6 l7 l8 l9 l10 l11 l12 l13 l14 : Bool) (m1 : Nat) (m2 : Nat) (bn : Nat) (g7 : Nat) (c7 : Nat), listed = #[l0, l1, l2, l3, l4, l5, l6, l7, l8, l9, l10, l11, l12, l13, l14] ∧ (l10 = true → l5 = true) ∧ (l11 = true → l5 = true ∧ l10 = true) ∧ (l12 = true → l5 = true ∧ l10 = true) ∧ (l13 = true → l12 = true) ∧ (l14 = true → l0 = true ∧ l13 = true) ∧
            a = ⟨(((((((((((((((A.tmps.setIfInBounds 62 (if l0 = true then .slice (some ⟨gl, 0, none⟩) F.length cl else A.tmps.getD 62 undef)).setIfInBounds 63 (if l1 = true then .pointer (some ⟨b, 0, none⟩) else A.tmps.getD 63 undef)).setIfInBounds 64 (if l2 = true then .pointer (some ⟨w2.heap.size, 0, none⟩) else A.tmps.getD 64 undef)).setIfInBounds 65 (if l3 = true then .slice a1 G.next.length c1 else A.tmps.getD 65 undef)).setIfInBounds 66 (if l4 = true then .int .i64 (G.next.length : Int) else A.tmps.getD 66 undef)).setIfInBounds 67 (if l5 = true then .int .i64 ((m1 : Nat) : Int) else A.tmps.getD 67 undef)).setIfInBounds 68 (if l6 = true then .pointer (some ⟨b, 0, none⟩) else A.tmps.getD 68 undef)).setIfInBounds 69 (if l7 = true then .pointer (some ⟨(w2.heap.size + 1), 0, none⟩) else A.tmps.getD 69 undef)).setIfInBounds 70 (if l8 = true then .slice b1 B.next.length d1 else A.tmps.getD 70 undef)).setIfInBounds 71 (if l9 = true then .int .i64 (B.next.length : Int) else A.tmps.getD 71 undef)).setIfInBounds 72 (if l10 = true then .int .i64 ((m2 : Nat) : Int) else A.tmps.getD 72 undef)).setIfInBounds 73 (if l11 = true then .agg #[.int .i64 ((m1 : Nat) : Int), .int .i64 ((m2 : Nat) : Int)] else A.tmps.getD 73 undef)).setIfInBounds 74 (if l12 = true then .slice (some ⟨bn, 0, none⟩) 1 1 else A.tmps.getD 74 undef)).setIfInBounds 75 (if l13 = true then .slice (some ⟨g7, 0, none⟩) (F.length + 1) c7 else A.tmps.getD 75 undef)).setIfInBounds 7 (if l14 = true then .slice (some ⟨g7, 0, none⟩) (F.length + 1) c7 else A.tmps.getD 7 undef)), A.defers⟩ ∧
            St w0 w' [RdE b vb (if l10 = true then (pk + 1 + 1) else (if l5 = true then (pk + 1) else pk)), X, Ent.box (w.heap.size) #[.slice none 0 0, .slice none 0 0] 26, Ent.box (w.heap.size + 1) #[.slice none 0 0, .slice none 0 0] 26, E, Ent.box (w2.heap.size) #[.slice a1 G.next.length c1, .slice a2 G.ends.length c2] 26, Ent.box (w2.heap.size + 1) #[.slice b1 B.next.length d1, .slice b2 B.ends.length d2] 26, (if l13 = true then Ent.row 56 2 (.slice (some ⟨g7, 0, none⟩) (F.length + 1) c7) (F.length + 1) (F.flatMap pairCells ++ [.int .i64 ((m1 : Nat) : Int), .int .i64 ((m2 : Nat) : Int)]) else Ent.row 56 2 (.slice (some ⟨gl, 0, none⟩) F.length cl) F.length ((F).flatMap pairCells)), (if l12 = true then Ent.box bn #[.int .i64 ((m1 : Nat) : Int), .int .i64 ((m2 : Nat) : Int)] 56 else Ent.nil)]) ?_ ?_ ?_
        · rintro listed a w' ⟨l0, l1, l2, l3, l4, l5, l6, l7, l8, l9, l10, l11, l12, l13, l14, m1, m2, bn, g7, c7, rfl, hd10, hd11, hd12, hd13, hd14, rfl, hS⟩ i hi
          obtain ⟨hun, o, ho, hall⟩ := mem_ready.1 hi
          have hlt := (Array.getElem?_eq_some_iff.1 ho).1
          refine wpOp_step ho (fun K hK => ?_)
          clear hi
          have HS := Lib.hid hS
          clear hS
          simp only [List.setIfInBounds_toArray, List.set_cons_zero, List.set_cons_succ, Array.getD_eq_getD_getElem?, List.getElem?_toArray, List.getElem?_cons_zero, List.getElem?_cons_succ, Option.getD_some]
          obtain h | h | h | h | h | h | h | h | h | h | h | h | h | h | h : i = 0 ∨ i = 1 ∨ i = 2 ∨ i = 3 ∨ i = 4 ∨ i = 5 ∨ i = 6 ∨ i = 7 ∨ i = 8 ∨ i = 9 ∨ i = 10 ∨ i = 11 ∨ i = 12 ∨ i = 13 ∨ i = 14 := by simp at hlt; omega
          all_goals subst h
          all_goals simp only [List.getElem?_toArray, List.getElem?_cons_zero, List.getElem?_cons_succ, Option.some.injEq] at ho
          all_goals subst ho
          all_goals simp [Region.binds] at hun hall
          · subst hun
            obtain rfl : l14 = false := offL hd14 rfl
            go_simp
            exact hK _ _ ⟨true, l1, l2, l3, l4, l5, l6, l7, l8, l9, l10, l11, l12, l13, false, m1, m2, bn, g7, c7, rfl, hd10, hd11, hd12, hd13, by simp, (by simp), HS.out⟩
          · subst hun
            go_simp
            exact hK _ _ ⟨l0, true, l2, l3, l4, l5, l6, l7, l8, l9, l10, l11, l12, l13, l14, m1, m2, bn, g7, c7, rfl, hd10, hd11, hd12, hd13, hd14, (by simp), HS.out⟩
          · subst hun
            go_simp
            exact hK _ _ ⟨l0, l1, true, l3, l4, l5, l6, l7, l8, l9, l10, l11, l12, l13, l14, m1, m2, bn, g7, c7, rfl, hd10, hd11, hd12, hd13, hd14, (by simp), HS.out⟩
          · obtain rfl := hall
            subst hun
            have e0 := HS.out.cell (v := .slice a1 G.next.length c1) 5 0 rfl rfl
            go_simp
            exact hK _ _ ⟨l0, l1, true, true, l4, l5, l6, l7, l8, l9, l10, l11, l12, l13, l14, m1, m2, bn, g7, c7, rfl, hd10, hd11, hd12, hd13, hd14, (by simp), HS.out⟩
          · obtain rfl := hall
            subst hun
            go_simp
            exact hK _ _ ⟨l0, l1, l2, true, true, l5, l6, l7, l8, l9, l10, l11, l12, l13, l14, m1, m2, bn, g7, c7, rfl, hd10, hd11, hd12, hd13, hd14, (by simp), HS.out⟩
          · obtain ⟨rfl, rfl⟩ := hall
            subst hun
            obtain rfl : l10 = false := by cases l10 with | false => rfl | true => simpa using hd10 rfl
            obtain rfl : l11 = false := offL hd11 rfl
            obtain rfl : l12 = false := offL hd12 rfl
            obtain rfl : l13 = false := by cases l13 with | false => rfl | true => simpa using hd13 rfl
            obtain rfl : l14 = false := offR hd14 rfl
            go_simp
            go_at_call 100
            refine (pick_any bs vb b (pk) G.next.length w0 _ _ Hb.out hlen (by omega) (by omega) (by omega) (St.pack (A := [RdE b vb (pk)]) (R := [X, Ent.box (w.heap.size) #[.slice none 0 0, .slice none 0 0] 26, Ent.box (w.heap.size + 1) #[.slice none 0 0, .slice none 0 0] 26, E, Ent.box (w2.heap.size) #[.slice a1 G.next.length c1, .slice a2 G.ends.length c2] 26, Ent.box (w2.heap.size + 1) #[.slice b1 B.next.length d1, .slice b2 B.ends.length d2] 26, Ent.row 56 2 (.slice (some ⟨gl, 0, none⟩) F.length cl) F.length ((F).flatMap pairCells), Ent.nil]) HS.out)).mono ?_
            rintro e u1 ⟨k9, hk9, rfl, hSp⟩
            have hS2 := St.unpack (A := [RdE b vb (pk)]) (A' := [RdE b vb (pk + 1)]) (R := [X, Ent.box (w.heap.size) #[.slice none 0 0, .slice none 0 0] 26, Ent.box (w.heap.size + 1) #[.slice none 0 0, .slice none 0 0] 26, E, Ent.box (w2.heap.size) #[.slice a1 G.next.length c1, .slice a2 G.ends.length c2] 26, Ent.box (w2.heap.size + 1) #[.slice b1 B.next.length d1, .slice b2 B.ends.length d2] 26, Ent.row 56 2 (.slice (some ⟨gl, 0, none⟩) F.length cl) F.length ((F).flatMap pairCells), Ent.nil]) HS.out hSp
            have HhS2 := Lib.hid hS2; clear hS2
            go_simp
            exact hK _ _ ⟨l0, true, l2, l3, true, true, l6, l7, l8, l9, false, false, false, false, false, k9, m2, bn, g7, c7, rfl, by simp, by simp, by simp, by simp, by simp, (by simp), HhS2.out⟩
          · subst hun
            go_simp
            exact hK _ _ ⟨l0, l1, l2, l3, l4, l5, true, l7, l8, l9, l10, l11, l12, l13, l14, m1, m2, bn, g7, c7, rfl, hd10, hd11, hd12, hd13, hd14, (by simp), HS.out⟩
          · subst hun
            go_simp
            exact hK _ _ ⟨l0, l1, l2, l3, l4, l5, l6, true, l8, l9, l10, l11, l12, l13, l14, m1, m2, bn, g7, c7, rfl, hd10, hd11, hd12, hd13, hd14, (by simp), HS.out⟩
          · obtain rfl := hall
            subst hun
            have e0 := HS.out.cell (v := .slice b1 B.next.length d1) 6 0 rfl rfl
            go_simp
            exact hK _ _ ⟨l0, l1, l2, l3, l4, l5, l6, true, true, l9, l10, l11, l12, l13, l14, m1, m2, bn, g7, c7, rfl, hd10, hd11, hd12, hd13, hd14, (by simp), HS.out⟩
          · obtain rfl := hall
            subst hun
            go_simp
            exact hK _ _ ⟨l0, l1, l2, l3, l4, l5, l6, l7, true, true, l10, l11, l12, l13, l14, m1, m2, bn, g7, c7, rfl, hd10, hd11, hd12, hd13, hd14, (by simp), HS.out⟩
          · obtain ⟨rfl, rfl, rfl⟩ := hall
            subst hun
            obtain rfl : l11 = false := offR hd11 rfl
            obtain rfl : l12 = false := offR hd12 rfl
            obtain rfl : l13 = false := by cases l13 with | false => rfl | true => simpa using hd13 rfl
            obtain rfl : l14 = false := offR hd14 rfl
            go_simp
            go_at_call 100
            refine (pick_any bs vb b (pk + 1) B.next.length w0 _ _ Hb.out hlen (by omega) (by omega) (by omega) (St.pack (A := [RdE b vb (pk + 1)]) (R := [X, Ent.box (w.heap.size) #[.slice none 0 0, .slice none 0 0] 26, Ent.box (w.heap.size + 1) #[.slice none 0 0, .slice none 0 0] 26, E, Ent.box (w2.heap.size) #[.slice a1 G.next.length c1, .slice a2 G.ends.length c2] 26, Ent.box (w2.heap.size + 1) #[.slice b1 B.next.length d1, .slice b2 B.ends.length d2] 26, Ent.row 56 2 (.slice (some ⟨gl, 0, none⟩) F.length cl) F.length ((F).flatMap pairCells), Ent.nil]) HS.out)).mono ?_
            rintro e u1 ⟨k9, hk9, rfl, hSp⟩
            have hS2 := St.unpack (A := [RdE b vb (pk + 1)]) (A' := [RdE b vb (pk + 1 + 1)]) (R := [X, Ent.box (w.heap.size) #[.slice none 0 0, .slice none 0 0] 26, Ent.box (w.heap.size + 1) #[.slice none 0 0, .slice none 0 0] 26, E, Ent.box (w2.heap.size) #[.slice a1 G.next.length c1, .slice a2 G.ends.length c2] 26, Ent.box (w2.heap.size + 1) #[.slice b1 B.next.length d1, .slice b2 B.ends.length d2] 26, Ent.row 56 2 (.slice (some ⟨gl, 0, none⟩) F.length cl) F.length ((F).flatMap pairCells), Ent.nil]) HS.out hSp
            have HhS2 := Lib.hid hS2; clear hS2
            go_simp
            exact hK _ _ ⟨l0, l1, l2, l3, l4, true, true, l7, l8, true, true, false, false, false, false, m1, k9, bn, g7, c7, rfl, by simp, by simp, by simp, by simp, by simp, (by simp), HhS2.out⟩
          · obtain ⟨rfl, rfl⟩ := hall
            subst hun
            go_simp
            exact hK _ _ ⟨l0, l1, l2, l3, l4, true, l6, l7, l8, l9, true, true, l12, l13, l14, m1, m2, bn, g7, c7, rfl, by simp, by simp, hd12, hd13, hd14, (by simp), HS.out⟩
          · obtain rfl := hall
            subst hun
            obtain ⟨rfl, rfl⟩ := hd11 rfl
            obtain rfl : l13 = false := by cases l13 with | false => rfl | true => simpa using hd13 rfl
            obtain rfl : l14 = false := offR hd14 rfl
            have hS2 := (HS.out.alloc _ rfl #[.int .i64 ((m1 : Nat) : Int), .int .i64 ((m2 : Nat) : Int)] 56).pick [0, 1, 2, 3, 4, 5, 6, 7, 9] (by decide)
            have HhS2 := Lib.hid hS2; clear hS2
            go_simp
            exact hK _ _ ⟨l0, l1, l2, l3, l4, true, l6, l7, l8, l9, true, true, true, false, false, m1, m2, _, g7, c7, rfl, by simp, by simp, by simp, by simp, by simp, (by simp), HhS2.out⟩
          · obtain ⟨rfl, rfl, rfl⟩ := hall
            subst hun
            obtain rfl := hd10 rfl
            obtain rfl : l14 = false := offR hd14 rfl
            refine step_append_lies (a := ⟨_, _⟩) _ (by rfl) _ _ _ (by rfl) w0.heap.size 56 i0 (.agg #[.int .i64 0, .int .i64 0]) 2 16 Try.underlying50 Hhi.out Hhz0.out Hhz1.out Hhz2.out (by rfl) (by omega) (.slice (some ⟨gl, 0, none⟩) F.length cl) F.length (F.flatMap pairCells) (by rfl) (HS.out.row 7 rfl) ⟨bn, 0, none⟩ 1 1 [.int .i64 ((m1 : Nat) : Int), .int .i64 ((m2 : Nat) : Int)] (by rfl) (by rfl) (World.news_of_block (HS.out.box 8 rfl)) one_two (by omega) (by unfold maxLen; omega) (by omega) HS.out.size _ rfl ?_
            intro g8 c8 w8 hown8 hgrow8 hat8 hlt8
            have HS8 := Lib.hid (HS.out.app 7 rfl hown8 hgrow8 hat8)
            clear hown8 hgrow8 hat8
            go_simp
            exact hK _ _ ⟨true, l1, l2, l3, l4, true, l6, l7, l8, l9, true, l11, true, true, false, m1, m2, bn, g8, c8, rfl, by simp, hd11, by simp, by simp, by simp, (by simp), HS8.out⟩
          · obtain ⟨rfl, rfl, rfl, rfl, rfl, rfl, rfl, rfl, rfl, rfl, rfl, rfl, rfl, rfl, -⟩ := hall
            subst hun
            go_simp
            exact hK _ _ ⟨true, true, true, true, true, true, true, true, true, true, true, true, true, true, true, m1, m2, bn, g7, c7, rfl, by simp, by simp, by simp, by simp, by simp, (by simp), HS.out⟩
        · rintro listed a w' ⟨l0, l1, l2, l3, l4, l5, l6, l7, l8, l9, l10, l11, l12, l13, l14, m1, m2, bn, g7, c7, rfl, hd10, hd11, hd12, hd13, hd14, rfl, hS⟩ hr
          have hall := ready_nilM (by kernel_rfl) rfl hr
          obtain rfl : l0 = true := by simpa using hall 0 (by simp)
          obtain rfl : l1 = true := by simpa using hall 1 (by simp)
          obtain rfl : l2 = true := by simpa using hall 2 (by simp)
          obtain rfl : l3 = true := by simpa using hall 3 (by simp)
          obtain rfl : l4 = true := by simpa using hall 4 (by simp)
          obtain rfl : l5 = true := by simpa using hall 5 (by simp)
          obtain rfl : l6 = true := by simpa using hall 6 (by simp)
          obtain rfl : l7 = true := by simpa using hall 7 (by simp)
          obtain rfl : l8 = true := by simpa using hall 8 (by simp)
          obtain rfl : l9 = true := by simpa using hall 9 (by simp)
          obtain rfl : l10 = true := by simpa using hall 10 (by simp)
          obtain rfl : l11 = true := by simpa using hall 11 (by simp)
          obtain rfl : l12 = true := by simpa using hall 12 (by simp)
          obtain rfl : l13 = true := by simpa using hall 13 (by simp)
          obtain rfl : l14 = true := by simpa using hall 14 (by simp)
          clear hall hr hd10 hd11 hd12 hd13 hd14
          simp only [↓reduceIte] at hS ⊢
          simp only [List.setIfInBounds_toArray, List.set_cons_zero, List.set_cons_succ]
          have hS6 := hS.pick [0, 1, 2, 3, 4, 5, 6, 7] (by decide)
          clear hS
          have HSf := Lib.hid hS6
          clear hS6
          go_wp2_with fail
          go_meet
          case rel => exact snoc_meet (L := [X, Ent.box (w.heap.size) #[.slice none 0 0, .slice none 0 0] 26, Ent.box (w.heap.size + 1) #[.slice none 0 0, .slice none 0 0] 26, E, Ent.box (w2.heap.size) #[.slice a1 G.next.length c1, .slice a2 G.ends.length c2] 26, Ent.box (w2.heap.size + 1) #[.slice b1 B.next.length d1, .slice b2 B.ends.length d2] 26]) (m1 : Int) (m2 : Int) ⟨hF1600, by omega⟩ HSf.out
        · refine ⟨false, false, false, false, false, false, false, false, false, false, false, false, false, false, false, 0, 0, 0, 0, 0, rfl, by simp, by simp, by simp, by simp, by simp, (by simp), ?_⟩
          exact HSk.out.drew.pick [0, 1, 2, 3, 4, 5, 6, 7, 8] (by decide)
      · obtain ⟨z0a, z0b, z0c, z0d⟩ := not_eqI (show (k4 : Int) ≠ 0 by omega)
        obtain ⟨z1a, z1b, z1c, z1d⟩ := not_eqI (show (k4 : Int) ≠ 1 by omega)
        obtain ⟨z2a, z2b, z2c, z2d⟩ := not_eqI (show (k4 : Int) ≠ 2 by omega)
        clear h43
        have HSn := Lib.hid (HSk.out.alloc_ (.cells #[.int .i64 (-1), .int .i64 0] 56))
        have HRw := Lib.hid (HSn.out.row 7 rfl)
        go_wp2_with (at_builtin; refine wpList_append_lies _ rfl _ _ _ rfl _ 56 i0 (.agg #[.int .i64 0, .int .i64 0]) 2 16 Try.underlying50 Hhi.out Hhz0.out Hhz1.out Hhz2.out rfl (by omega) _ F.length _ rfl HRw.out ⟨wk.heap.size, 0, none⟩ 1 1 [.int .i64 (-1), .int .i64 0] rfl rfl (World.news_of_block (heap_alloc_new wk _)) one_two (by omega) (by unfold maxLen; omega) (by omega) HSn.out.size _ rfl ?_; intro g6 c6 w6 hown6 hgrow6 hat6 hlt6; have HS6 := Lib.hid (HSn.out.app 7 rfl hown6 hgrow6 hat6); clear hown6 hgrow6 hat6 hlt6)
        go_meet
        case rel => exact snoc_meet (L := [X, Ent.box (w.heap.size) #[.slice none 0 0, .slice none 0 0] 26, Ent.box (w.heap.size + 1) #[.slice none 0 0, .slice none 0 0] 26, E, Ent.box (w2.heap.size) #[.slice a1 G.next.length c1, .slice a2 G.ends.length c2] 26, Ent.box (w2.heap.size + 1) #[.slice b1 B.next.length d1, .slice b2 B.ends.length d2] 26]) (-1) 0 ⟨hF1600, by omega⟩ HS6.out
end Go.Proofs.Ythhbjkgchabfmaa
