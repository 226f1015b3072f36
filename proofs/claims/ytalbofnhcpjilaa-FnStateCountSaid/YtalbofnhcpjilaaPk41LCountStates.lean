/-
  The walks over the draws of one automaton.
  Condition: the argument reads as bytes.
-/
import Derived.Test.YtalbofnhcpjilaaPk34Jf
import Derived.Test.YtalbofnhcpjilaaPk35Cmx
import Derived.Test.YtalbofnhcpjilaaPk40Jy
namespace Go.Proofs.Ytalbofnhcpjilaa
open Go.RowKit
set_option maxRecDepth 100000 in
set_option maxHeartbeats 4000000 in
theorem openJ_any (bs : List Nat) (v : Value) (w : World) (hb : Bytes 0 w v bs) (hlen : bs.length ≤ 100000000) :
    Calls Try.prog 56 #[v] w fun e w' => ∃ vb bs', bs'.length ≤ 2000 ∧ (∀ u : World, Bytes 0 u v bs → Bytes 0 u vb bs') ∧ e = .returned (.pointer (some ⟨w.heap.size, 0, none⟩)) ∧ St w w' [RdE w.heap.size vb 0] := by
  obtain ⟨a, c, rfl, hc1, hc2, -⟩ := hb.form
  have Hb := Lib.hid hb
  clear hb
  by_cases h2 : 2000 < bs.length
  · have q1 : (2000 : Int) < bs.length := by omega
    have q2 : (2000 : Int) ≤ c := by omega
    have hS := (St.start w).alloc _ rfl #[.slice a 2000 c, .int .i64 0] 117
    have HS := Lib.hid hS
    clear hS
    go_enter Try.func56, Try.ntmps56
    go_wp2
    go_ret
    exact ⟨_, bs.take 2000, by rw [List.length_take]; omega, fun u h => h.take (by omega), rfl, HS.out⟩
  · have q1 : (2000 < (bs.length : Int)) = False := by simp; omega
    have hS := (St.start w).alloc _ rfl #[.slice a bs.length c, .int .i64 0] 117
    have HS := Lib.hid hS
    have h2 : bs.length ≤ 2000 := by omega
    clear hS
    go_enter Try.func56, Try.ntmps56
    go_wp2
    go_ret
    exact ⟨_, bs, h2, fun u h => h, rfl, HS.out⟩
def RDrawE (w : World) (e : Ending) (w' : World) : Prop := ∃ (es : List (Int × Int)) (v : Value), es.length ≤ 100 ∧ e = .returned v ∧ Pairs 0 w' v es ∧ Below w.heap.size w w'
set_option maxRecDepth 100000 in
set_option maxHeartbeats 4000000 in
theorem drawStateCount_any (bs : List Nat) (v : Value) (w : World) (hb : Bytes 0 w v bs) (hlen : bs.length ≤ 100000000) :
    Calls Try.prog 20 #[v] w fun e w' => RDrawE w e w' := by
  have Hb := Lib.hid hb
  clear hb
  go_enter Try.func20, Try.ntmps20
  go_wp2_with fail
  refine (openJ_any bs v _ Hb.out hlen).mono ?_
  rintro e w1 ⟨vb, bs', hl', hB, rfl, hS'⟩
  have hB1 := hB w Hb.out
  have HB := Lib.hid hB1
  have HS1 := Lib.hid (hS'.add (Below.refl _ _) Ent.nil trivial fun k hk => hk.elim)
  clear hS' hB hB1
  go_wp2_with fail
  refine (expr_any bs' vb w.heap.size 0 12 w w1 _ HB.out hl' (by omega) (by omega) HS1.out).mono ?_
  rintro e w2 ⟨v2, es, E, pn, hel, hpn, hh, rfl, hS2⟩
  have HS := Lib.hid hS2
  have HH := Lib.hid hh
  clear hS2 hh
  go_wp2
  go_ret
  exact ⟨es, v2, hel, rfl, HH.out.r HS.out 2 rfl, HS.out.bel⟩
theorem cnt_neg {K : Nat} (hK : K = 40) {es : List (Int × Int)} {d : DfaD} (h : CompO K es (some d)) (hl : es.length ≠ 60) : d.next.length ≤ 40 ∧ ∃ o', CompO K (es ++ [(7, 0)]) o' ∧ cntO o' = (d.next.length : Int) := by
  have hd := dfaOk_len (compO_ok hK h)
  refine ⟨hd.2.1, ?_⟩
  rcases h with ⟨hok, t, ht, hc⟩ | ⟨-, h⟩
  · have h60 := (exOk_facts hok).2.2.2
    have hp : (Ex.neg t).post = es ++ [(7, 0)] := by rw [← ht]; rfl
    have hok2 : exOk (es ++ [(7, 0)]) = true := by
      rw [← hp]
      refine post_exOk _ ?_
      rw [hp, List.length_append, List.length_singleton]
      omega
    refine ⟨compE K (.neg t), .inl ⟨hok2, .neg t, hp, rfl⟩, ?_⟩
    have hdo := compE_ok hK t hc
    have e : compE K (.neg t) = some (flB true d) := by
      simp only [compE, hc, Option.map_some]
      rw [small_min (fine_of (negD_ok hdo)), neg_flB, min_flB hdo (comp_min hK t hc)]
    rw [e]
    rfl
  · cases h
theorem wpList_append_slG {P : Program} {ops : Array Oper} {rest : List Oper} {o : Oper} {a : Act} {w : World} {Q : Exit → Act → World → Prop} (hw : Region.wanted o (yielded ops a.tmps) = true) (s x : Operand) (t : TypeId)
    (ho : o.op = .call { callee := .builtin .append, args := #[s, x], argTypes := #[t, t] })
    (base : Nat) (e : TypeId) (i : TypeInfo) (z : Value) (size bytes : Nat) (ht : P.underlying t = some (.slice e)) (hi : P.info? e = some i) (hz : i.zero = some z)
    (hsize : i.size = size) (hby : i.bytes = bytes) (hzs : z.cells.size = size) (hsz : 0 < size)
    (v : Value) (n : Nat) (xs : List Value) (hs : a.eval s = v) (hown : w.ownsRow base e size v n xs)
    (y : Value) (m : Nat) (news : List Value) (hy : a.eval x = y) (hx : Sl 0 w y m size news) (h1 : ∀ u ∈ news, u.oneCell' = true)
    (h63 : n + m ≤ maxLen) (hbytes : (n + m) * bytes ≤ 140737488355328) (hbase : base ≤ w.heap.size)
    (h : ∀ a' cap w', w'.ownsRow base e size (.slice a' (n + m) cap) (n + m) (xs ++ news) → w.grownBy w' v.ownBlock → (∀ k, (Value.slice a' (n + m) cap).ownBlock = some k → v.ownBlock = some k ∨ w.heap.size ≤ k) → wpList P ops Q rest (a.put o.dst (.slice a' (n + m) cap)) w') : wpList P ops Q (o :: rest) a w :=
  wpList_step fun _ hK => by
    rw [if_pos hw]
    exact wp_append_sl w s x t ho base e i z size bytes ht hi hz hsize hby hzs hsz v n xs hs hown y m news hy hx h1 h63 hbytes hbase fun a' cap w' h2 h3 h4 => hK _ _ (h a' cap w' h2 h3 h4)
set_option maxRecDepth 100000 in
set_option maxHeartbeats 16000000 in
theorem countStates_walk (bs : List Nat) (v : Value) (w : World) (hb : Bytes 0 w v bs) :
    Calls Try.prog 5 #[v] w fun e w' => e = .returned (.bool true) ∧ Below w.heap.size w w' := by
  have HB := Lib.hid hb
  obtain ⟨av, cv, rfl, hcv1, hcv2, -⟩ := hb.form
  clear hb
  by_cases hlen : 1048576 < bs.length
  · have hl2 : (1048576 : Int) < bs.length := by omega
    go_enter Try.func5, Try.ntmps5
    go_wp2
    go_ret
    exact ⟨rfl, Below.refl _ _⟩
  have hl2 : ¬ (1048576 : Int) < bs.length := by omega
  obtain ⟨i0, hi, hz0, hz1, hz2⟩ := info_parts Try.infoPt
  have Hhi := Lib.hid hi; clear hi
  have Hhz0 := Lib.hid hz0; clear hz0
  have Hhz1 := Lib.hid hz1; clear hz1
  have Hhz2 := Lib.hid hz2; clear hz2
  go_enter Try.func5, Try.ntmps5
  go_wp2_with fail
  refine (drawStateCount_any bs _ _ HB.out (by omega)).mono ?_
  rintro e w1 ⟨es, ve, hel, rfl, hp, hb1⟩
  have HS1 := Lib.hid ((St.start w).call hb1)
  obtain ⟨a, c, rfl, hc1, hc2, -⟩ := hp.form
  have HP := Lib.hid hp
  clear hb1 hp
  obtain ⟨K, hK⟩ : ∃ K : Nat, K = 40 := ⟨_, rfl⟩
  obtain ⟨o, ho⟩ := compO_ex K es
  obtain ⟨n, hn⟩ : ∃ n, n = es.length := ⟨_, rfl⟩
  obtain ⟨z, hz⟩ : ∃ z, cntO o = z := ⟨_, rfl⟩
  rw [← hn] at hc1 HP hel
  rw [← hn]
  have HIm := Lib.hid (fun (u : World) (h : Below w1.heap.size w1 u) => implStateCount_any K hK es o ho z hz (.slice a n c) u (HP.out.below h))
  have HSp := Lib.hid (fun (u : World) (h : Below w1.heap.size w1 u) => specStateCount_any K hK es o ho z hz (.slice a n c) u (by omega) (HP.out.below h))
  have HCm := Lib.hid (fun (u : World) (h : Below w1.heap.size w1 u) => implCompileExpr_any K hK es o ho (.slice a n c) u (HP.out.below h))
  have HS : Hid (St w1 w1 []) := Lib.hid (St.start w1)
  have HW := Lib.hid HS1.out.bel
  have Hhn := Lib.hid hn; clear hn
  have Hho := Lib.hid ho; clear ho
  have Hhz := Lib.hid hz; clear hz
  have HhK := Lib.hid hK; clear hK
  clear HS1
  go_wp2_with fail
  refine (HIm.out _ HS.out.bel).mono ?_
  rintro e w2 ⟨rfl, hb⟩
  replace HS := Lib.hid (HS.out.call hb)
  clear hb
  go_wp2_with fail
  refine (HSp.out _ HS.out.bel).mono ?_
  rintro e w3 ⟨rfl, hb⟩
  replace HS := Lib.hid (HS.out.call hb)
  clear hb
  have hzz : (z != z) = false := by simp
  have HWb := Lib.hid (fun (u : World) (h : Below w1.heap.size w1 u) => HW.out.trans (h.mono HW.out.size))
  by_cases hneg : z < 0
  · have q1 : (z < 0) = True := by simp [hneg]
    go_wp2_with (go_at_call 21; refine (alive_any _).mono ?_; rintro e w' ⟨rfl, rfl⟩)
    go_ret
    exact ⟨rfl, HWb.out _ HS.out.bel⟩
  have q1 : (z < 0) = False := by simp; omega
  have hz00 : 0 ≤ z := by omega
  clear hneg
  by_cases h60 : (n : Int) = 60
  · obtain ⟨x1, x2, x3⟩ := yes_eqI h60
    clear h60
    go_wp2_with (go_at_call 21; refine (alive_any _).mono ?_; rintro e w' ⟨rfl, rfl⟩)
    go_ret
    exact ⟨rfl, HWb.out _ HS.out.bel⟩
  obtain ⟨x1, x2, x3, x4⟩ := not_eqI h60
  obtain ⟨d, hd⟩ : ∃ d, o = some d := by
    cases o with
    | none => have := Hhz.out; simp [cntO] at this; omega
    | some d => exact ⟨d, rfl⟩
  subst hd
  obtain ⟨hd40, o', ho', hc'⟩ := cnt_neg HhK.out Hho.out (by have := Hhn.out; omega)
  have hzd : z = (d.next.length : Int) := Hhz.out.symm
  subst hzd
  have hd4 : (d.next.length : Int) ≤ 40 := by omega
  have HIn := Lib.hid (fun (v : Value) (u : World) (h : Pairs 0 u v (es ++ [(7, 0)])) => implStateCount_any K HhK.out (es ++ [(7, 0)]) o' ho' (d.next.length : Int) hc' v u h)
  obtain ⟨L, hL⟩ : ∃ L, L = d.next.length := ⟨_, rfl⟩
  have hes := (show Hid (Pairs 0 w1 (.slice a n c) es) from HP)
  have hdd : (some d : Option DfaD).getD zeD = d := rfl
  have hds : (some d : Option DfaD).isSome = true := rfl
  rw [hdd, hds] at HCm
  have Hh60 := Lib.hid h60; clear h60
  have HPn := Lib.hid (fun (u : World) (h : Below w1.heap.size w1 u) => (show Sl 0 u (.slice a n c) n 2 (es.flatMap pairCells) from by
    have := HP.out.below h
    unfold Pairs at this
    rwa [← Hhn.out] at this))
  have hn100 : n ≤ 100 := hel
  clear ho' hc' hd40 hdd hds hz00
  go_wp2_with fail
  refine (HCm.out _ HS.out.bel).mono ?_
  rintro e w4 ⟨⟨g1, gc1, g2, gc2, rfl, -⟩, hb⟩
  replace HS := Lib.hid ((HS.out.call hb).alloc _ rfl #[.slice g1 d.next.length gc1, .slice g2 d.ends.length gc2] 27)
  clear hb
  have e0 := HS.out.cell (v := .slice g1 d.next.length gc1) 0 0 rfl rfl
  have HSe := Lib.hid ((HS.out.alloc (w4.heap.size + 1) (by simp) #[] 42).boxrow 1 0 2 [] rfl rfl (by unfold maxLen; omega))
  go_wp2_with (first
    | (at_builtin; refine wpList_append_slG (by rfl) _ _ _ rfl _ 42 i0 (.agg #[.int .i64 0, .int .i64 0]) 2 16 Try.underlying30 Hhi.out Hhz0.out Hhz1.out Hhz2.out rfl (by omega) (.slice (some ⟨w4.heap.size + 1, 0, none⟩) 0 0) 0 [] rfl (HSe.out.row 1 rfl) (.slice a n c) n (es.flatMap pairCells) rfl (HPn.out _ HSe.out.bel) on_prs (by unfold maxLen; omega) (by omega) HSe.out.size ?_; intro a6 c6 w6 hown6 hgrow6 hat6; have hS6 := HSe.out.appS 1 rfl hown6 hgrow6 hat6; simp only [Nat.zero_add, List.nil_append] at hS6; have hS7 := (hS6.alloc w6.heap.size rfl #[.int .i64 7, .int .i64 0] 42).boxrow 2 1 2 [.int .i64 7, .int .i64 0] rfl rfl (by unfold maxLen; omega); have HS7 := Lib.hid hS7; clear hown6 hgrow6 hat6 hS6 hS7)
    | (at_builtin; refine wpList_append_slG (by rfl) _ _ _ rfl _ 42 i0 (.agg #[.int .i64 0, .int .i64 0]) 2 16 Try.underlying30 Hhi.out Hhz0.out Hhz1.out Hhz2.out rfl (by omega) (.slice a6 n c6) n (es.flatMap pairCells) rfl (HS7.out.row 1 rfl) (.slice (some ⟨w6.heap.size, 0, none⟩) 1 1) 1 [.int .i64 7, .int .i64 0] rfl (((own_of_row (HS7.out.row 2 rfl)).sl (by omega)).mono (Nat.zero_le _)) one_two (by unfold maxLen; omega) (by omega) HS7.out.size ?_; intro a8 c8 w8 hown8 hgrow8 hat8; have HS8 := Lib.hid (HS7.out.appS 1 rfl hown8 hgrow8 hat8); clear hown8 hgrow8 hat8)
    | (go_at_call 19; refine (HIn.out _ _ (by
        have h1 := (own_of_row (HS8.out.row 1 rfl)).sl (by omega)
        have e1 : (es ++ [((7 : Int), (0 : Int))]).length = n + 1 := by rw [List.length_append, ← Hhn.out]; rfl
        have e2 : (es ++ [((7 : Int), (0 : Int))]).flatMap pairCells = es.flatMap pairCells ++ [.int .i64 7, .int .i64 0] := by rw [List.flatMap_append]; rfl
        unfold Pairs
        rw [e1, e2]
        exact h1.mono (Nat.zero_le _))).mono ?_; rintro e w9 ⟨rfl, hb9⟩; have HS9 := Lib.hid (HS8.out.call hb9); clear hb9))
  go_ret
  exact ⟨rfl, HWb.out _ HS9.out.bel⟩
end Go.Proofs.Ytalbofnhcpjilaa
