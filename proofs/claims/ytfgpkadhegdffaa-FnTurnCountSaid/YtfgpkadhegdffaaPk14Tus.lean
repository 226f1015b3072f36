/-
  The walks over the reference's TurnExpr, by the tree.
  Conditions: the expression reads as such.
-/
import Derived.Test.YtfgpkadhegdffaaPk09Opd
import Derived.Test.YtfgpkadhegdffaaPk10Dr
import Derived.Test.YtfgpkadhegdffaaPk13Rds
namespace Go.Proofs.Ytfgpkadhegdffaa
open Go.RowKit
def TurnS (t : Ex) : Prop := ∀ (v : Value) (w : World), Pairs 0 w v t.post → Calls Try.prog 11 #[v] w fun e w' => RPo (turnX t).post w e w'
set_option maxRecDepth 100000 in
set_option maxHeartbeats 8000000 in
theorem sturn_join (ta tb : Ex) (h60 : (Ex.join ta tb).post.length ≤ 60) (hta : TurnS ta) (htb : TurnS tb) : TurnS (Ex.join ta tb) := by
  intro v w h
  obtain ⟨j0, hj, hy0, hy1, hy2⟩ := info_parts Try.infoPart
  have hok := post_exOk _ h60
  have Hh := Lib.hid h
  have hP := h
  rw [show (Ex.join ta tb).post = (ta.post ++ tb.post) ++ [(4, 0)] from rfl] at hP
  obtain ⟨bb, off, cap, rfl, hc1, hc2, hbl, hcell⟩ := lastP hP
  obtain ⟨m, hm⟩ : ∃ m, m = (ta.post ++ tb.post).length := ⟨_, rfl⟩
  rw [← hm] at hc1 hcell Hh
  rw [← hm]
  have hmI : m ≤ 59 := by rw [hm]; simp [Ex.post] at h60 ⊢; omega
  have Hcell := Lib.hid hcell
  have hw1 : IntKind.i64.wrap ((m : Int) + 1 - 1) = (m : Int) := by rw [IntWalk.i64_in _ (by omega)]; omega
  have hlta := turnX_len ta
  have hpta : (0 : Int) < (ta.post.length : Int) := by have := post_pos ta; omega
  obtain ⟨nta, hnta⟩ : ∃ n, (turnX ta).post.length = n := ⟨_, rfl⟩
  have hmta : nta ≤ 59 := by rw [← hnta, hlta]; simp [Ex.post] at h60; omega
  obtain ⟨lta, hLta⟩ : ∃ l, (turnX ta).post.flatMap pairCells = l := ⟨_, rfl⟩
  have honta : ∀ u ∈ lta, u.oneCell' = true := by rw [← hLta]; exact on_prs
  have HTA := Lib.hid (show ∀ (v : Value) (w : World), Pairs 0 w v ta.post → Calls Try.prog 11 #[v] w fun e w' => ∃ a c, e = .returned (.slice a nta c) ∧ St w w' [Ent.row 39 2 (.slice a nta c) nta lta] from fun v w hp => by have h9 := hta v w hp; simp only [RPo, hnta, hLta] at h9; exact h9)
  have hltb := turnX_len tb
  have hptb : (0 : Int) < (tb.post.length : Int) := by have := post_pos tb; omega
  obtain ⟨ntb, hntb⟩ : ∃ n, (turnX tb).post.length = n := ⟨_, rfl⟩
  have hmtb : ntb ≤ 59 := by rw [← hntb, hltb]; simp [Ex.post] at h60; omega
  obtain ⟨ltb, hLtb⟩ : ∃ l, (turnX tb).post.flatMap pairCells = l := ⟨_, rfl⟩
  have hontb : ∀ u ∈ ltb, u.oneCell' = true := by rw [← hLtb]; exact on_prs
  have HTB := Lib.hid (show ∀ (v : Value) (w : World), Pairs 0 w v tb.post → Calls Try.prog 11 #[v] w fun e w' => ∃ a c, e = .returned (.slice a ntb c) ∧ St w w' [Ent.row 39 2 (.slice a ntb c) ntb ltb] from fun v w hp => by have h9 := htb v w hp; simp only [RPo, hntb, hLtb] at h9; exact h9)
  have hlen : (turnX (Ex.join ta tb)).post.length = ntb + nta + 1 := by simp [turnX, Ex.post, hnta, hntb]; omega
  have hcel : (turnX (Ex.join ta tb)).post.flatMap pairCells = ltb ++ lta ++ [.int .i64 4, .int .i64 0] := by simp [turnX, Ex.post, pairCells, hLta, hLtb]
  have Hhm := Lib.hid hm; clear hm
  have Hhok := Lib.hid hok; clear hok
  have Hhlen := Lib.hid hlen; clear hlen
  have Hhcel := Lib.hid hcel; clear hcel
  have Hhnta := Lib.hid hnta; clear hnta
  have HhLta := Lib.hid hLta; clear hLta
  have Hhntb := Lib.hid hntb; clear hntb
  have HhLtb := Lib.hid hLtb; clear hLtb
  clear h hP hcell hta hlta htb hltb
  go_enter Try.func11, Try.ntmps11
  go_wp2_with (first
    | (go_at_call 33; refine (exprValid_any _ _ _ (by omega) Hh.out true Hhok.out).mono ?_; rintro e w1 ⟨rfl, hb1⟩; have HB1 := Lib.hid hb1; clear hb1)
    | (go_at_call 34; refine (l2Split_any _ _ _ Hhok.out (Hh.out.below HB1.out)).mono ?_; rintro e w2 ⟨vx, vy, xs, ys, hsp, rfl, hx, hy, hb2⟩; have hsp2 := split_two (a := ta) (b := tb) (p := (4, 0)) pn_join hsp; obtain ⟨rfl, rfl⟩ := hsp2; obtain ⟨ax, cx, rfl, _, _, _⟩ := hx.form; obtain ⟨ay, cy, rfl, _, _, _⟩ := hy.form; have hb12 := (((St.start w).call HB1.out).call hb2).bel; obtain ⟨k1, k2⟩ := Hcell.out _ (newNil (((St.start w).call HB1.out).call hb2)).bel; have HB2 := Lib.hid hb12; have HX := Lib.hid hx; have HY := Lib.hid hy; have HS1 := Lib.hid (show St w2 _ [Ent.row 39 2 (.slice (some ⟨w2.heap.size, 0, none⟩) 0 0) 0 [], Ent.box (w2.heap.size + 1) #[.int .i64 4, .int .i64 0] 39] from (newNil (St.start w2)).alloc (w2.heap.size + 1) (by simp) #[.int .i64 4, .int .i64 0] 39); clear hsp hx hy hb2 hb12)
    | (go_at_call 11; (with_reducible refine (HTB.out _ _ (HY.out.below HS1.out.bel)).mono ?_); rintro e w3 ⟨a3, c3, rfl, hS⟩; have HS3 := Lib.hid (HS1.out.cat hS); clear hS)
    | (at_builtin; refine wpList_append_sl _ rfl _ _ _ rfl _ 39 j0 PZ 2 16 Try.underlying23 hj hy0 hy1 hy2 rfl (by omega) _ (0) _ rfl (HS3.out.row 0 rfl) _ (ntb) (ltb) rfl ((own_of_row (HS3.out.row 2 rfl)).sl (by omega) |>.mono (Nat.zero_le _)) hontb (by unfold maxLen; omega) (by omega) HS3.out.size ?_; intro a4 c4 w4 hown hgrow hat; have hS := (HS3.out.appS 0 rfl hown hgrow hat).pick [0, 1] (by decide); (try simp only [Nat.zero_add, List.nil_append] at hS); (try simp only [Nat.zero_add]); have HS4 := Lib.hid hS; have q40 := hS.cell (v := .int .i64 4) 1 0 rfl rfl; have q41 := hS.cell (v := .int .i64 0) 1 1 rfl rfl; clear hown hgrow hat hS)
    | (go_at_call 11; (with_reducible refine (HTA.out _ _ (HX.out.below HS4.out.bel)).mono ?_); rintro e w5 ⟨a5, c5, rfl, hS⟩; have HS5 := Lib.hid (HS4.out.cat hS); clear hS)
    | (at_builtin; refine wpList_append_sl _ rfl _ _ _ rfl _ 39 j0 PZ 2 16 Try.underlying23 hj hy0 hy1 hy2 rfl (by omega) _ (ntb) _ rfl (HS5.out.row 0 rfl) _ (nta) (lta) rfl ((own_of_row (HS5.out.row 2 rfl)).sl (by omega) |>.mono (Nat.zero_le _)) honta (by unfold maxLen; omega) (by omega) HS5.out.size ?_; intro a6 c6 w6 hown hgrow hat; have hS := (HS5.out.appS 0 rfl hown hgrow hat).pick [0, 1] (by decide); have HS6 := Lib.hid hS; have q60 := hS.cell (v := .int .i64 4) 1 0 rfl rfl; have q61 := hS.cell (v := .int .i64 0) 1 1 rfl rfl; clear hown hgrow hat hS)
    | (at_builtin; have HB9 := Lib.hid ((HS6.out.alloc _ rfl #[.int .i64 4, .int .i64 0] 39).boxrow 2 1 2 [.int .i64 4, .int .i64 0] rfl rfl (by unfold maxLen; omega)); refine wpList_append_sl _ rfl _ _ _ rfl _ 39 j0 PZ 2 16 Try.underlying23 hj hy0 hy1 hy2 rfl (by omega) _ (ntb + nta) _ rfl (HB9.out.row 0 rfl) _ (1) ([.int .i64 4, .int .i64 0]) rfl ((own_of_row (HB9.out.row 2 rfl)).sl (by omega) |>.mono (Nat.zero_le _)) (by intro u hu; simp at hu; rcases hu with rfl | rfl <;> rfl) (by unfold maxLen; omega) (by omega) HB9.out.size ?_; intro a9 c9 w9 hown hgrow hat; have hS := (HB9.out.appS 0 rfl hown hgrow hat).pick [0] (by decide); have HS9 := Lib.hid hS; clear hown hgrow hat hS))
  go_ret
  refine ⟨a9, c9, ?_, ?_⟩
  · rw [Hhlen.out]; rfl
  · rw [Hhlen.out, Hhcel.out]
    exact ((St.start w).call HB2.out).cat HS9.out
set_option maxRecDepth 100000 in
set_option maxHeartbeats 8000000 in
theorem sturn_alt (ta tb : Ex) (h60 : (Ex.alt ta tb).post.length ≤ 60) (hta : TurnS ta) (htb : TurnS tb) : TurnS (Ex.alt ta tb) := by
  intro v w h
  obtain ⟨j0, hj, hy0, hy1, hy2⟩ := info_parts Try.infoPart
  have hok := post_exOk _ h60
  have Hh := Lib.hid h
  have hP := h
  rw [show (Ex.alt ta tb).post = (ta.post ++ tb.post) ++ [(5, 0)] from rfl] at hP
  obtain ⟨bb, off, cap, rfl, hc1, hc2, hbl, hcell⟩ := lastP hP
  obtain ⟨m, hm⟩ : ∃ m, m = (ta.post ++ tb.post).length := ⟨_, rfl⟩
  rw [← hm] at hc1 hcell Hh
  rw [← hm]
  have hmI : m ≤ 59 := by rw [hm]; simp [Ex.post] at h60 ⊢; omega
  have Hcell := Lib.hid hcell
  have hw1 : IntKind.i64.wrap ((m : Int) + 1 - 1) = (m : Int) := by rw [IntWalk.i64_in _ (by omega)]; omega
  have hlta := turnX_len ta
  have hpta : (0 : Int) < (ta.post.length : Int) := by have := post_pos ta; omega
  obtain ⟨nta, hnta⟩ : ∃ n, (turnX ta).post.length = n := ⟨_, rfl⟩
  have hmta : nta ≤ 59 := by rw [← hnta, hlta]; simp [Ex.post] at h60; omega
  obtain ⟨lta, hLta⟩ : ∃ l, (turnX ta).post.flatMap pairCells = l := ⟨_, rfl⟩
  have honta : ∀ u ∈ lta, u.oneCell' = true := by rw [← hLta]; exact on_prs
  have HTA := Lib.hid (show ∀ (v : Value) (w : World), Pairs 0 w v ta.post → Calls Try.prog 11 #[v] w fun e w' => ∃ a c, e = .returned (.slice a nta c) ∧ St w w' [Ent.row 39 2 (.slice a nta c) nta lta] from fun v w hp => by have h9 := hta v w hp; simp only [RPo, hnta, hLta] at h9; exact h9)
  have hltb := turnX_len tb
  have hptb : (0 : Int) < (tb.post.length : Int) := by have := post_pos tb; omega
  obtain ⟨ntb, hntb⟩ : ∃ n, (turnX tb).post.length = n := ⟨_, rfl⟩
  have hmtb : ntb ≤ 59 := by rw [← hntb, hltb]; simp [Ex.post] at h60; omega
  obtain ⟨ltb, hLtb⟩ : ∃ l, (turnX tb).post.flatMap pairCells = l := ⟨_, rfl⟩
  have hontb : ∀ u ∈ ltb, u.oneCell' = true := by rw [← hLtb]; exact on_prs
  have HTB := Lib.hid (show ∀ (v : Value) (w : World), Pairs 0 w v tb.post → Calls Try.prog 11 #[v] w fun e w' => ∃ a c, e = .returned (.slice a ntb c) ∧ St w w' [Ent.row 39 2 (.slice a ntb c) ntb ltb] from fun v w hp => by have h9 := htb v w hp; simp only [RPo, hntb, hLtb] at h9; exact h9)
  have hlen : (turnX (Ex.alt ta tb)).post.length = nta + ntb + 1 := by simp [turnX, Ex.post, hnta, hntb]; omega
  have hcel : (turnX (Ex.alt ta tb)).post.flatMap pairCells = lta ++ ltb ++ [.int .i64 5, .int .i64 0] := by simp [turnX, Ex.post, pairCells, hLta, hLtb]
  have Hhm := Lib.hid hm; clear hm
  have Hhok := Lib.hid hok; clear hok
  have Hhlen := Lib.hid hlen; clear hlen
  have Hhcel := Lib.hid hcel; clear hcel
  have Hhnta := Lib.hid hnta; clear hnta
  have HhLta := Lib.hid hLta; clear hLta
  have Hhntb := Lib.hid hntb; clear hntb
  have HhLtb := Lib.hid hLtb; clear hLtb
  clear h hP hcell hta hlta htb hltb
  go_enter Try.func11, Try.ntmps11
  go_wp2_with (first
    | (go_at_call 33; refine (exprValid_any _ _ _ (by omega) Hh.out true Hhok.out).mono ?_; rintro e w1 ⟨rfl, hb1⟩; have HB1 := Lib.hid hb1; clear hb1)
    | (go_at_call 34; refine (l2Split_any _ _ _ Hhok.out (Hh.out.below HB1.out)).mono ?_; rintro e w2 ⟨vx, vy, xs, ys, hsp, rfl, hx, hy, hb2⟩; have hsp2 := split_two (a := ta) (b := tb) (p := (5, 0)) pn_alt hsp; obtain ⟨rfl, rfl⟩ := hsp2; obtain ⟨ax, cx, rfl, _, _, _⟩ := hx.form; obtain ⟨ay, cy, rfl, _, _, _⟩ := hy.form; have hb12 := (((St.start w).call HB1.out).call hb2).bel; obtain ⟨k1, k2⟩ := Hcell.out _ (newNil (((St.start w).call HB1.out).call hb2)).bel; have HB2 := Lib.hid hb12; have HX := Lib.hid hx; have HY := Lib.hid hy; have HS1 := Lib.hid (show St w2 _ [Ent.row 39 2 (.slice (some ⟨w2.heap.size, 0, none⟩) 0 0) 0 [], Ent.box (w2.heap.size + 1) #[.int .i64 5, .int .i64 0] 39] from (newNil (St.start w2)).alloc (w2.heap.size + 1) (by simp) #[.int .i64 5, .int .i64 0] 39); clear hsp hx hy hb2 hb12)
    | (go_at_call 11; (with_reducible refine (HTA.out _ _ (HX.out.below HS1.out.bel)).mono ?_); rintro e w3 ⟨a3, c3, rfl, hS⟩; have HS3 := Lib.hid (HS1.out.cat hS); clear hS)
    | (at_builtin; refine wpList_append_sl _ rfl _ _ _ rfl _ 39 j0 PZ 2 16 Try.underlying23 hj hy0 hy1 hy2 rfl (by omega) _ (0) _ rfl (HS3.out.row 0 rfl) _ (nta) (lta) rfl ((own_of_row (HS3.out.row 2 rfl)).sl (by omega) |>.mono (Nat.zero_le _)) honta (by unfold maxLen; omega) (by omega) HS3.out.size ?_; intro a4 c4 w4 hown hgrow hat; have hS := (HS3.out.appS 0 rfl hown hgrow hat).pick [0, 1] (by decide); (try simp only [Nat.zero_add, List.nil_append] at hS); (try simp only [Nat.zero_add]); have HS4 := Lib.hid hS; have q40 := hS.cell (v := .int .i64 5) 1 0 rfl rfl; have q41 := hS.cell (v := .int .i64 0) 1 1 rfl rfl; clear hown hgrow hat hS)
    | (go_at_call 11; (with_reducible refine (HTB.out _ _ (HY.out.below HS4.out.bel)).mono ?_); rintro e w5 ⟨a5, c5, rfl, hS⟩; have HS5 := Lib.hid (HS4.out.cat hS); clear hS)
    | (at_builtin; refine wpList_append_sl _ rfl _ _ _ rfl _ 39 j0 PZ 2 16 Try.underlying23 hj hy0 hy1 hy2 rfl (by omega) _ (nta) _ rfl (HS5.out.row 0 rfl) _ (ntb) (ltb) rfl ((own_of_row (HS5.out.row 2 rfl)).sl (by omega) |>.mono (Nat.zero_le _)) hontb (by unfold maxLen; omega) (by omega) HS5.out.size ?_; intro a6 c6 w6 hown hgrow hat; have hS := (HS5.out.appS 0 rfl hown hgrow hat).pick [0, 1] (by decide); have HS6 := Lib.hid hS; have q60 := hS.cell (v := .int .i64 5) 1 0 rfl rfl; have q61 := hS.cell (v := .int .i64 0) 1 1 rfl rfl; clear hown hgrow hat hS)
    | (at_builtin; have HB9 := Lib.hid ((HS6.out.alloc _ rfl #[.int .i64 5, .int .i64 0] 39).boxrow 2 1 2 [.int .i64 5, .int .i64 0] rfl rfl (by unfold maxLen; omega)); refine wpList_append_sl _ rfl _ _ _ rfl _ 39 j0 PZ 2 16 Try.underlying23 hj hy0 hy1 hy2 rfl (by omega) _ (nta + ntb) _ rfl (HB9.out.row 0 rfl) _ (1) ([.int .i64 5, .int .i64 0]) rfl ((own_of_row (HB9.out.row 2 rfl)).sl (by omega) |>.mono (Nat.zero_le _)) (by intro u hu; simp at hu; rcases hu with rfl | rfl <;> rfl) (by unfold maxLen; omega) (by omega) HB9.out.size ?_; intro a9 c9 w9 hown hgrow hat; have hS := (HB9.out.appS 0 rfl hown hgrow hat).pick [0] (by decide); have HS9 := Lib.hid hS; clear hown hgrow hat hS))
  go_ret
  refine ⟨a9, c9, ?_, ?_⟩
  · rw [Hhlen.out]; rfl
  · rw [Hhlen.out, Hhcel.out]
    exact ((St.start w).call HB2.out).cat HS9.out
set_option maxRecDepth 100000 in
set_option maxHeartbeats 8000000 in
theorem sturn_both (ta tb : Ex) (h60 : (Ex.both ta tb).post.length ≤ 60) (hta : TurnS ta) (htb : TurnS tb) : TurnS (Ex.both ta tb) := by
  intro v w h
  obtain ⟨j0, hj, hy0, hy1, hy2⟩ := info_parts Try.infoPart
  have hok := post_exOk _ h60
  have Hh := Lib.hid h
  have hP := h
  rw [show (Ex.both ta tb).post = (ta.post ++ tb.post) ++ [(6, 0)] from rfl] at hP
  obtain ⟨bb, off, cap, rfl, hc1, hc2, hbl, hcell⟩ := lastP hP
  obtain ⟨m, hm⟩ : ∃ m, m = (ta.post ++ tb.post).length := ⟨_, rfl⟩
  rw [← hm] at hc1 hcell Hh
  rw [← hm]
  have hmI : m ≤ 59 := by rw [hm]; simp [Ex.post] at h60 ⊢; omega
  have Hcell := Lib.hid hcell
  have hw1 : IntKind.i64.wrap ((m : Int) + 1 - 1) = (m : Int) := by rw [IntWalk.i64_in _ (by omega)]; omega
  have hlta := turnX_len ta
  have hpta : (0 : Int) < (ta.post.length : Int) := by have := post_pos ta; omega
  obtain ⟨nta, hnta⟩ : ∃ n, (turnX ta).post.length = n := ⟨_, rfl⟩
  have hmta : nta ≤ 59 := by rw [← hnta, hlta]; simp [Ex.post] at h60; omega
  obtain ⟨lta, hLta⟩ : ∃ l, (turnX ta).post.flatMap pairCells = l := ⟨_, rfl⟩
  have honta : ∀ u ∈ lta, u.oneCell' = true := by rw [← hLta]; exact on_prs
  have HTA := Lib.hid (show ∀ (v : Value) (w : World), Pairs 0 w v ta.post → Calls Try.prog 11 #[v] w fun e w' => ∃ a c, e = .returned (.slice a nta c) ∧ St w w' [Ent.row 39 2 (.slice a nta c) nta lta] from fun v w hp => by have h9 := hta v w hp; simp only [RPo, hnta, hLta] at h9; exact h9)
  have hltb := turnX_len tb
  have hptb : (0 : Int) < (tb.post.length : Int) := by have := post_pos tb; omega
  obtain ⟨ntb, hntb⟩ : ∃ n, (turnX tb).post.length = n := ⟨_, rfl⟩
  have hmtb : ntb ≤ 59 := by rw [← hntb, hltb]; simp [Ex.post] at h60; omega
  obtain ⟨ltb, hLtb⟩ : ∃ l, (turnX tb).post.flatMap pairCells = l := ⟨_, rfl⟩
  have hontb : ∀ u ∈ ltb, u.oneCell' = true := by rw [← hLtb]; exact on_prs
  have HTB := Lib.hid (show ∀ (v : Value) (w : World), Pairs 0 w v tb.post → Calls Try.prog 11 #[v] w fun e w' => ∃ a c, e = .returned (.slice a ntb c) ∧ St w w' [Ent.row 39 2 (.slice a ntb c) ntb ltb] from fun v w hp => by have h9 := htb v w hp; simp only [RPo, hntb, hLtb] at h9; exact h9)
  have hlen : (turnX (Ex.both ta tb)).post.length = nta + ntb + 1 := by simp [turnX, Ex.post, hnta, hntb]; omega
  have hcel : (turnX (Ex.both ta tb)).post.flatMap pairCells = lta ++ ltb ++ [.int .i64 6, .int .i64 0] := by simp [turnX, Ex.post, pairCells, hLta, hLtb]
  have Hhm := Lib.hid hm; clear hm
  have Hhok := Lib.hid hok; clear hok
  have Hhlen := Lib.hid hlen; clear hlen
  have Hhcel := Lib.hid hcel; clear hcel
  have Hhnta := Lib.hid hnta; clear hnta
  have HhLta := Lib.hid hLta; clear hLta
  have Hhntb := Lib.hid hntb; clear hntb
  have HhLtb := Lib.hid hLtb; clear hLtb
  clear h hP hcell hta hlta htb hltb
  go_enter Try.func11, Try.ntmps11
  go_wp2_with (first
    | (go_at_call 33; refine (exprValid_any _ _ _ (by omega) Hh.out true Hhok.out).mono ?_; rintro e w1 ⟨rfl, hb1⟩; have HB1 := Lib.hid hb1; clear hb1)
    | (go_at_call 34; refine (l2Split_any _ _ _ Hhok.out (Hh.out.below HB1.out)).mono ?_; rintro e w2 ⟨vx, vy, xs, ys, hsp, rfl, hx, hy, hb2⟩; have hsp2 := split_two (a := ta) (b := tb) (p := (6, 0)) pn_both hsp; obtain ⟨rfl, rfl⟩ := hsp2; obtain ⟨ax, cx, rfl, _, _, _⟩ := hx.form; obtain ⟨ay, cy, rfl, _, _, _⟩ := hy.form; have hb12 := (((St.start w).call HB1.out).call hb2).bel; obtain ⟨k1, k2⟩ := Hcell.out _ (newNil (((St.start w).call HB1.out).call hb2)).bel; have HB2 := Lib.hid hb12; have HX := Lib.hid hx; have HY := Lib.hid hy; have HS1 := Lib.hid (show St w2 _ [Ent.row 39 2 (.slice (some ⟨w2.heap.size, 0, none⟩) 0 0) 0 [], Ent.box (w2.heap.size + 1) #[.int .i64 6, .int .i64 0] 39] from (newNil (St.start w2)).alloc (w2.heap.size + 1) (by simp) #[.int .i64 6, .int .i64 0] 39); clear hsp hx hy hb2 hb12)
    | (go_at_call 11; (with_reducible refine (HTA.out _ _ (HX.out.below HS1.out.bel)).mono ?_); rintro e w3 ⟨a3, c3, rfl, hS⟩; have HS3 := Lib.hid (HS1.out.cat hS); clear hS)
    | (at_builtin; refine wpList_append_sl _ rfl _ _ _ rfl _ 39 j0 PZ 2 16 Try.underlying23 hj hy0 hy1 hy2 rfl (by omega) _ (0) _ rfl (HS3.out.row 0 rfl) _ (nta) (lta) rfl ((own_of_row (HS3.out.row 2 rfl)).sl (by omega) |>.mono (Nat.zero_le _)) honta (by unfold maxLen; omega) (by omega) HS3.out.size ?_; intro a4 c4 w4 hown hgrow hat; have hS := (HS3.out.appS 0 rfl hown hgrow hat).pick [0, 1] (by decide); (try simp only [Nat.zero_add, List.nil_append] at hS); (try simp only [Nat.zero_add]); have HS4 := Lib.hid hS; have q40 := hS.cell (v := .int .i64 6) 1 0 rfl rfl; have q41 := hS.cell (v := .int .i64 0) 1 1 rfl rfl; clear hown hgrow hat hS)
    | (go_at_call 11; (with_reducible refine (HTB.out _ _ (HY.out.below HS4.out.bel)).mono ?_); rintro e w5 ⟨a5, c5, rfl, hS⟩; have HS5 := Lib.hid (HS4.out.cat hS); clear hS)
    | (at_builtin; refine wpList_append_sl _ rfl _ _ _ rfl _ 39 j0 PZ 2 16 Try.underlying23 hj hy0 hy1 hy2 rfl (by omega) _ (nta) _ rfl (HS5.out.row 0 rfl) _ (ntb) (ltb) rfl ((own_of_row (HS5.out.row 2 rfl)).sl (by omega) |>.mono (Nat.zero_le _)) hontb (by unfold maxLen; omega) (by omega) HS5.out.size ?_; intro a6 c6 w6 hown hgrow hat; have hS := (HS5.out.appS 0 rfl hown hgrow hat).pick [0, 1] (by decide); have HS6 := Lib.hid hS; have q60 := hS.cell (v := .int .i64 6) 1 0 rfl rfl; have q61 := hS.cell (v := .int .i64 0) 1 1 rfl rfl; clear hown hgrow hat hS)
    | (at_builtin; have HB9 := Lib.hid ((HS6.out.alloc _ rfl #[.int .i64 6, .int .i64 0] 39).boxrow 2 1 2 [.int .i64 6, .int .i64 0] rfl rfl (by unfold maxLen; omega)); refine wpList_append_sl _ rfl _ _ _ rfl _ 39 j0 PZ 2 16 Try.underlying23 hj hy0 hy1 hy2 rfl (by omega) _ (nta + ntb) _ rfl (HB9.out.row 0 rfl) _ (1) ([.int .i64 6, .int .i64 0]) rfl ((own_of_row (HB9.out.row 2 rfl)).sl (by omega) |>.mono (Nat.zero_le _)) (by intro u hu; simp at hu; rcases hu with rfl | rfl <;> rfl) (by unfold maxLen; omega) (by omega) HB9.out.size ?_; intro a9 c9 w9 hown hgrow hat; have hS := (HB9.out.appS 0 rfl hown hgrow hat).pick [0] (by decide); have HS9 := Lib.hid hS; clear hown hgrow hat hS))
  go_ret
  refine ⟨a9, c9, ?_, ?_⟩
  · rw [Hhlen.out]; rfl
  · rw [Hhlen.out, Hhcel.out]
    exact ((St.start w).call HB2.out).cat HS9.out
set_option maxRecDepth 100000 in
set_option maxHeartbeats 8000000 in
theorem sturn_neg (ta : Ex) (h60 : (Ex.neg ta).post.length ≤ 60) (hta : TurnS ta) : TurnS (Ex.neg ta) := by
  intro v w h
  obtain ⟨j0, hj, hy0, hy1, hy2⟩ := info_parts Try.infoPart
  have hok := post_exOk _ h60
  have Hh := Lib.hid h
  have hP := h
  rw [show (Ex.neg ta).post = (ta.post) ++ [(7, 0)] from rfl] at hP
  obtain ⟨bb, off, cap, rfl, hc1, hc2, hbl, hcell⟩ := lastP hP
  obtain ⟨m, hm⟩ : ∃ m, m = (ta.post).length := ⟨_, rfl⟩
  rw [← hm] at hc1 hcell Hh
  rw [← hm]
  have hmI : m ≤ 59 := by rw [hm]; simp [Ex.post] at h60 ⊢; omega
  have Hcell := Lib.hid hcell
  have hw1 : IntKind.i64.wrap ((m : Int) + 1 - 1) = (m : Int) := by rw [IntWalk.i64_in _ (by omega)]; omega
  have hlta := turnX_len ta
  have hpta : (0 : Int) < (ta.post.length : Int) := by have := post_pos ta; omega
  obtain ⟨nta, hnta⟩ : ∃ n, (turnX ta).post.length = n := ⟨_, rfl⟩
  have hmta : nta ≤ 59 := by rw [← hnta, hlta]; simp [Ex.post] at h60; omega
  obtain ⟨lta, hLta⟩ : ∃ l, (turnX ta).post.flatMap pairCells = l := ⟨_, rfl⟩
  have honta : ∀ u ∈ lta, u.oneCell' = true := by rw [← hLta]; exact on_prs
  have HTA := Lib.hid (show ∀ (v : Value) (w : World), Pairs 0 w v ta.post → Calls Try.prog 11 #[v] w fun e w' => ∃ a c, e = .returned (.slice a nta c) ∧ St w w' [Ent.row 39 2 (.slice a nta c) nta lta] from fun v w hp => by have h9 := hta v w hp; simp only [RPo, hnta, hLta] at h9; exact h9)
  have hlen : (turnX (Ex.neg ta)).post.length = nta + 1 := by simp [turnX, Ex.post, hnta]
  have hcel : (turnX (Ex.neg ta)).post.flatMap pairCells = lta ++ [.int .i64 7, .int .i64 0] := by simp [turnX, Ex.post, pairCells, hLta]
  have Hhm := Lib.hid hm; clear hm
  have Hhok := Lib.hid hok; clear hok
  have Hhlen := Lib.hid hlen; clear hlen
  have Hhcel := Lib.hid hcel; clear hcel
  have Hhnta := Lib.hid hnta; clear hnta
  have HhLta := Lib.hid hLta; clear hLta
  clear h hP hcell hta hlta
  go_enter Try.func11, Try.ntmps11
  go_wp2_with (first
    | (go_at_call 33; refine (exprValid_any _ _ _ (by omega) Hh.out true Hhok.out).mono ?_; rintro e w1 ⟨rfl, hb1⟩; have HB1 := Lib.hid hb1; clear hb1)
    | (go_at_call 34; refine (l2Split_any _ _ _ Hhok.out (Hh.out.below HB1.out)).mono ?_; rintro e w2 ⟨vx, vy, xs, ys, hsp, rfl, hx, hy, hb2⟩; have hsp2 := split_one (a := ta) (p := (7, 0)) pn_neg hsp; obtain ⟨rfl, rfl⟩ := hsp2; obtain ⟨ax, cx, rfl, _, _, _⟩ := hx.form; obtain ⟨ay, cy, rfl, _, _, _⟩ := hy.form; have hb12 := (((St.start w).call HB1.out).call hb2).bel; obtain ⟨k1, k2⟩ := Hcell.out _ (newNil (((St.start w).call HB1.out).call hb2)).bel; have HB2 := Lib.hid hb12; have HX := Lib.hid hx; have HY := Lib.hid hy; have HS1 := Lib.hid (show St w2 _ [Ent.row 39 2 (.slice (some ⟨w2.heap.size, 0, none⟩) 0 0) 0 [], Ent.box (w2.heap.size + 1) #[.int .i64 7, .int .i64 0] 39] from (newNil (St.start w2)).alloc (w2.heap.size + 1) (by simp) #[.int .i64 7, .int .i64 0] 39); clear hsp hx hy hb2 hb12)
    | (go_at_call 11; (with_reducible refine (HTA.out _ _ (HX.out.below HS1.out.bel)).mono ?_); rintro e w3 ⟨a3, c3, rfl, hS⟩; have HS3 := Lib.hid (HS1.out.cat hS); clear hS)
    | (at_builtin; refine wpList_append_sl _ rfl _ _ _ rfl _ 39 j0 PZ 2 16 Try.underlying23 hj hy0 hy1 hy2 rfl (by omega) _ (0) _ rfl (HS3.out.row 0 rfl) _ (nta) (lta) rfl ((own_of_row (HS3.out.row 2 rfl)).sl (by omega) |>.mono (Nat.zero_le _)) honta (by unfold maxLen; omega) (by omega) HS3.out.size ?_; intro a4 c4 w4 hown hgrow hat; have hS := (HS3.out.appS 0 rfl hown hgrow hat).pick [0, 1] (by decide); (try simp only [Nat.zero_add, List.nil_append] at hS); (try simp only [Nat.zero_add]); have HS4 := Lib.hid hS; have q40 := hS.cell (v := .int .i64 7) 1 0 rfl rfl; have q41 := hS.cell (v := .int .i64 0) 1 1 rfl rfl; clear hown hgrow hat hS)
    | (at_builtin; have HB9 := Lib.hid ((HS4.out.alloc _ rfl #[.int .i64 7, .int .i64 0] 39).boxrow 2 1 2 [.int .i64 7, .int .i64 0] rfl rfl (by unfold maxLen; omega)); refine wpList_append_sl _ rfl _ _ _ rfl _ 39 j0 PZ 2 16 Try.underlying23 hj hy0 hy1 hy2 rfl (by omega) _ (nta) _ rfl (HB9.out.row 0 rfl) _ (1) ([.int .i64 7, .int .i64 0]) rfl ((own_of_row (HB9.out.row 2 rfl)).sl (by omega) |>.mono (Nat.zero_le _)) (by intro u hu; simp at hu; rcases hu with rfl | rfl <;> rfl) (by unfold maxLen; omega) (by omega) HB9.out.size ?_; intro a9 c9 w9 hown hgrow hat; have hS := (HB9.out.appS 0 rfl hown hgrow hat).pick [0] (by decide); have HS9 := Lib.hid hS; clear hown hgrow hat hS))
  go_ret
  refine ⟨a9, c9, ?_, ?_⟩
  · rw [Hhlen.out]; rfl
  · rw [Hhlen.out, Hhcel.out]
    exact ((St.start w).call HB2.out).cat HS9.out
set_option maxRecDepth 100000 in
set_option maxHeartbeats 8000000 in
theorem sturn_star (ta : Ex) (h60 : (Ex.star ta).post.length ≤ 60) (hta : TurnS ta) : TurnS (Ex.star ta) := by
  intro v w h
  obtain ⟨j0, hj, hy0, hy1, hy2⟩ := info_parts Try.infoPart
  have hok := post_exOk _ h60
  have Hh := Lib.hid h
  have hP := h
  rw [show (Ex.star ta).post = (ta.post) ++ [(8, 0)] from rfl] at hP
  obtain ⟨bb, off, cap, rfl, hc1, hc2, hbl, hcell⟩ := lastP hP
  obtain ⟨m, hm⟩ : ∃ m, m = (ta.post).length := ⟨_, rfl⟩
  rw [← hm] at hc1 hcell Hh
  rw [← hm]
  have hmI : m ≤ 59 := by rw [hm]; simp [Ex.post] at h60 ⊢; omega
  have Hcell := Lib.hid hcell
  have hw1 : IntKind.i64.wrap ((m : Int) + 1 - 1) = (m : Int) := by rw [IntWalk.i64_in _ (by omega)]; omega
  have hlta := turnX_len ta
  have hpta : (0 : Int) < (ta.post.length : Int) := by have := post_pos ta; omega
  obtain ⟨nta, hnta⟩ : ∃ n, (turnX ta).post.length = n := ⟨_, rfl⟩
  have hmta : nta ≤ 59 := by rw [← hnta, hlta]; simp [Ex.post] at h60; omega
  obtain ⟨lta, hLta⟩ : ∃ l, (turnX ta).post.flatMap pairCells = l := ⟨_, rfl⟩
  have honta : ∀ u ∈ lta, u.oneCell' = true := by rw [← hLta]; exact on_prs
  have HTA := Lib.hid (show ∀ (v : Value) (w : World), Pairs 0 w v ta.post → Calls Try.prog 11 #[v] w fun e w' => ∃ a c, e = .returned (.slice a nta c) ∧ St w w' [Ent.row 39 2 (.slice a nta c) nta lta] from fun v w hp => by have h9 := hta v w hp; simp only [RPo, hnta, hLta] at h9; exact h9)
  have hlen : (turnX (Ex.star ta)).post.length = nta + 1 := by simp [turnX, Ex.post, hnta]
  have hcel : (turnX (Ex.star ta)).post.flatMap pairCells = lta ++ [.int .i64 8, .int .i64 0] := by simp [turnX, Ex.post, pairCells, hLta]
  have Hhm := Lib.hid hm; clear hm
  have Hhok := Lib.hid hok; clear hok
  have Hhlen := Lib.hid hlen; clear hlen
  have Hhcel := Lib.hid hcel; clear hcel
  have Hhnta := Lib.hid hnta; clear hnta
  have HhLta := Lib.hid hLta; clear hLta
  clear h hP hcell hta hlta
  go_enter Try.func11, Try.ntmps11
  go_wp2_with (first
    | (go_at_call 33; refine (exprValid_any _ _ _ (by omega) Hh.out true Hhok.out).mono ?_; rintro e w1 ⟨rfl, hb1⟩; have HB1 := Lib.hid hb1; clear hb1)
    | (go_at_call 34; refine (l2Split_any _ _ _ Hhok.out (Hh.out.below HB1.out)).mono ?_; rintro e w2 ⟨vx, vy, xs, ys, hsp, rfl, hx, hy, hb2⟩; have hsp2 := split_one (a := ta) (p := (8, 0)) pn_star hsp; obtain ⟨rfl, rfl⟩ := hsp2; obtain ⟨ax, cx, rfl, _, _, _⟩ := hx.form; obtain ⟨ay, cy, rfl, _, _, _⟩ := hy.form; have hb12 := (((St.start w).call HB1.out).call hb2).bel; obtain ⟨k1, k2⟩ := Hcell.out _ (newNil (((St.start w).call HB1.out).call hb2)).bel; have HB2 := Lib.hid hb12; have HX := Lib.hid hx; have HY := Lib.hid hy; have HS1 := Lib.hid (show St w2 _ [Ent.row 39 2 (.slice (some ⟨w2.heap.size, 0, none⟩) 0 0) 0 [], Ent.box (w2.heap.size + 1) #[.int .i64 8, .int .i64 0] 39] from (newNil (St.start w2)).alloc (w2.heap.size + 1) (by simp) #[.int .i64 8, .int .i64 0] 39); clear hsp hx hy hb2 hb12)
    | (go_at_call 11; (with_reducible refine (HTA.out _ _ (HX.out.below HS1.out.bel)).mono ?_); rintro e w3 ⟨a3, c3, rfl, hS⟩; have HS3 := Lib.hid (HS1.out.cat hS); clear hS)
    | (at_builtin; refine wpList_append_sl _ rfl _ _ _ rfl _ 39 j0 PZ 2 16 Try.underlying23 hj hy0 hy1 hy2 rfl (by omega) _ (0) _ rfl (HS3.out.row 0 rfl) _ (nta) (lta) rfl ((own_of_row (HS3.out.row 2 rfl)).sl (by omega) |>.mono (Nat.zero_le _)) honta (by unfold maxLen; omega) (by omega) HS3.out.size ?_; intro a4 c4 w4 hown hgrow hat; have hS := (HS3.out.appS 0 rfl hown hgrow hat).pick [0, 1] (by decide); (try simp only [Nat.zero_add, List.nil_append] at hS); (try simp only [Nat.zero_add]); have HS4 := Lib.hid hS; have q40 := hS.cell (v := .int .i64 8) 1 0 rfl rfl; have q41 := hS.cell (v := .int .i64 0) 1 1 rfl rfl; clear hown hgrow hat hS)
    | (at_builtin; have HB9 := Lib.hid ((HS4.out.alloc _ rfl #[.int .i64 8, .int .i64 0] 39).boxrow 2 1 2 [.int .i64 8, .int .i64 0] rfl rfl (by unfold maxLen; omega)); refine wpList_append_sl _ rfl _ _ _ rfl _ 39 j0 PZ 2 16 Try.underlying23 hj hy0 hy1 hy2 rfl (by omega) _ (nta) _ rfl (HB9.out.row 0 rfl) _ (1) ([.int .i64 8, .int .i64 0]) rfl ((own_of_row (HB9.out.row 2 rfl)).sl (by omega) |>.mono (Nat.zero_le _)) (by intro u hu; simp at hu; rcases hu with rfl | rfl <;> rfl) (by unfold maxLen; omega) (by omega) HB9.out.size ?_; intro a9 c9 w9 hown hgrow hat; have hS := (HB9.out.appS 0 rfl hown hgrow hat).pick [0] (by decide); have HS9 := Lib.hid hS; clear hown hgrow hat hS))
  go_ret
  refine ⟨a9, c9, ?_, ?_⟩
  · rw [Hhlen.out]; rfl
  · rw [Hhlen.out, Hhcel.out]
    exact ((St.start w).call HB2.out).cat HS9.out
set_option maxRecDepth 100000 in
set_option maxHeartbeats 8000000 in
theorem sturn_zero (h60 : (Ex.zero).post.length ≤ 60) : TurnS (Ex.zero) := by
  intro v w h
  obtain ⟨j0, hj, hy0, hy1, hy2⟩ := info_parts Try.infoPart
  have hok := post_exOk _ h60
  have Hh := Lib.hid h
  have hP := h
  rw [show (Ex.zero).post = (([] : List (Int × Int))) ++ [(1, 0)] from rfl] at hP
  obtain ⟨bb, off, cap, rfl, hc1, hc2, hbl, hcell⟩ := lastP hP
  obtain ⟨m, hm⟩ : ∃ m, m = (([] : List (Int × Int))).length := ⟨_, rfl⟩
  rw [← hm] at hc1 hcell Hh
  rw [← hm]
  have hmI : m ≤ 59 := by rw [hm]; simp [Ex.post] at h60 ⊢
  have Hcell := Lib.hid hcell
  have hw1 : IntKind.i64.wrap ((m : Int) + 1 - 1) = (m : Int) := by rw [IntWalk.i64_in _ (by omega)]; omega
  have hlen : (turnX (Ex.zero)).post.length = 0 + 1 := by simp [turnX, Ex.post]
  have hcel : (turnX (Ex.zero)).post.flatMap pairCells = [] ++ [.int .i64 1, .int .i64 0] := by simp [turnX, Ex.post, pairCells]
  have Hhm := Lib.hid hm; clear hm
  have Hhok := Lib.hid hok; clear hok
  have Hhlen := Lib.hid hlen; clear hlen
  have Hhcel := Lib.hid hcel; clear hcel
  clear h hP hcell
  go_enter Try.func11, Try.ntmps11
  go_wp2_with (first
    | (go_at_call 33; refine (exprValid_any _ _ _ (by omega) Hh.out true Hhok.out).mono ?_; rintro e w1 ⟨rfl, hb1⟩; have HB1 := Lib.hid hb1; clear hb1)
    | (go_at_call 34; refine (l2Split_any _ _ _ Hhok.out (Hh.out.below HB1.out)).mono ?_; rintro e w2 ⟨vx, vy, xs, ys, hsp, rfl, hx, hy, hb2⟩; have hsp2 := split_leaf pn_leaf1 hsp; obtain ⟨rfl, rfl⟩ := hsp2; obtain ⟨ax, cx, rfl, _, _, _⟩ := hx.form; obtain ⟨ay, cy, rfl, _, _, _⟩ := hy.form; have hb12 := (((St.start w).call HB1.out).call hb2).bel; obtain ⟨k1, k2⟩ := Hcell.out _ (newNil (((St.start w).call HB1.out).call hb2)).bel; have HB2 := Lib.hid hb12; have HX := Lib.hid hx; have HY := Lib.hid hy; have HS1 := Lib.hid (show St w2 _ [Ent.row 39 2 (.slice (some ⟨w2.heap.size, 0, none⟩) 0 0) 0 [], Ent.box (w2.heap.size + 1) #[.int .i64 1, .int .i64 0] 39] from (newNil (St.start w2)).alloc (w2.heap.size + 1) (by simp) #[.int .i64 1, .int .i64 0] 39); clear hsp hx hy hb2 hb12)
    | (at_builtin; have HB9 := Lib.hid ((HS1.out.alloc (w2.heap.size + 1 + 1) (by simp) #[.int .i64 1, .int .i64 0] 39).boxrow 2 1 2 [.int .i64 1, .int .i64 0] rfl rfl (by unfold maxLen; omega)); refine wpList_append_sl _ rfl _ _ _ rfl _ 39 j0 PZ 2 16 Try.underlying23 hj hy0 hy1 hy2 rfl (by omega) _ (0) _ rfl (HB9.out.row 0 rfl) _ (1) ([.int .i64 1, .int .i64 0]) rfl ((own_of_row (HB9.out.row 2 rfl)).sl (by omega) |>.mono (Nat.zero_le _)) (by intro u hu; simp at hu; rcases hu with rfl | rfl <;> rfl) (by unfold maxLen; omega) (by omega) HB9.out.size ?_; intro a9 c9 w9 hown hgrow hat; have hS := (HB9.out.appS 0 rfl hown hgrow hat).pick [0] (by decide); (try simp only [Nat.zero_add, List.nil_append] at hS); (try simp only [Nat.zero_add]); have HS9 := Lib.hid hS; clear hown hgrow hat hS))
  go_ret
  refine ⟨a9, c9, ?_, ?_⟩
  · rw [Hhlen.out]; rfl
  · rw [Hhlen.out, Hhcel.out]
    exact ((St.start w).call HB2.out).cat HS9.out
set_option maxRecDepth 100000 in
set_option maxHeartbeats 8000000 in
theorem sturn_one (h60 : (Ex.one).post.length ≤ 60) : TurnS (Ex.one) := by
  intro v w h
  obtain ⟨j0, hj, hy0, hy1, hy2⟩ := info_parts Try.infoPart
  have hok := post_exOk _ h60
  have Hh := Lib.hid h
  have hP := h
  rw [show (Ex.one).post = (([] : List (Int × Int))) ++ [(2, 0)] from rfl] at hP
  obtain ⟨bb, off, cap, rfl, hc1, hc2, hbl, hcell⟩ := lastP hP
  obtain ⟨m, hm⟩ : ∃ m, m = (([] : List (Int × Int))).length := ⟨_, rfl⟩
  rw [← hm] at hc1 hcell Hh
  rw [← hm]
  have hmI : m ≤ 59 := by rw [hm]; simp [Ex.post] at h60 ⊢
  have Hcell := Lib.hid hcell
  have hw1 : IntKind.i64.wrap ((m : Int) + 1 - 1) = (m : Int) := by rw [IntWalk.i64_in _ (by omega)]; omega
  have hlen : (turnX (Ex.one)).post.length = 0 + 1 := by simp [turnX, Ex.post]
  have hcel : (turnX (Ex.one)).post.flatMap pairCells = [] ++ [.int .i64 2, .int .i64 0] := by simp [turnX, Ex.post, pairCells]
  have Hhm := Lib.hid hm; clear hm
  have Hhok := Lib.hid hok; clear hok
  have Hhlen := Lib.hid hlen; clear hlen
  have Hhcel := Lib.hid hcel; clear hcel
  clear h hP hcell
  go_enter Try.func11, Try.ntmps11
  go_wp2_with (first
    | (go_at_call 33; refine (exprValid_any _ _ _ (by omega) Hh.out true Hhok.out).mono ?_; rintro e w1 ⟨rfl, hb1⟩; have HB1 := Lib.hid hb1; clear hb1)
    | (go_at_call 34; refine (l2Split_any _ _ _ Hhok.out (Hh.out.below HB1.out)).mono ?_; rintro e w2 ⟨vx, vy, xs, ys, hsp, rfl, hx, hy, hb2⟩; have hsp2 := split_leaf pn_leaf2 hsp; obtain ⟨rfl, rfl⟩ := hsp2; obtain ⟨ax, cx, rfl, _, _, _⟩ := hx.form; obtain ⟨ay, cy, rfl, _, _, _⟩ := hy.form; have hb12 := (((St.start w).call HB1.out).call hb2).bel; obtain ⟨k1, k2⟩ := Hcell.out _ (newNil (((St.start w).call HB1.out).call hb2)).bel; have HB2 := Lib.hid hb12; have HX := Lib.hid hx; have HY := Lib.hid hy; have HS1 := Lib.hid (show St w2 _ [Ent.row 39 2 (.slice (some ⟨w2.heap.size, 0, none⟩) 0 0) 0 [], Ent.box (w2.heap.size + 1) #[.int .i64 2, .int .i64 0] 39] from (newNil (St.start w2)).alloc (w2.heap.size + 1) (by simp) #[.int .i64 2, .int .i64 0] 39); clear hsp hx hy hb2 hb12)
    | (at_builtin; have HB9 := Lib.hid ((HS1.out.alloc (w2.heap.size + 1 + 1) (by simp) #[.int .i64 2, .int .i64 0] 39).boxrow 2 1 2 [.int .i64 2, .int .i64 0] rfl rfl (by unfold maxLen; omega)); refine wpList_append_sl _ rfl _ _ _ rfl _ 39 j0 PZ 2 16 Try.underlying23 hj hy0 hy1 hy2 rfl (by omega) _ (0) _ rfl (HB9.out.row 0 rfl) _ (1) ([.int .i64 2, .int .i64 0]) rfl ((own_of_row (HB9.out.row 2 rfl)).sl (by omega) |>.mono (Nat.zero_le _)) (by intro u hu; simp at hu; rcases hu with rfl | rfl <;> rfl) (by unfold maxLen; omega) (by omega) HB9.out.size ?_; intro a9 c9 w9 hown hgrow hat; have hS := (HB9.out.appS 0 rfl hown hgrow hat).pick [0] (by decide); (try simp only [Nat.zero_add, List.nil_append] at hS); (try simp only [Nat.zero_add]); have HS9 := Lib.hid hS; clear hown hgrow hat hS))
  go_ret
  refine ⟨a9, c9, ?_, ?_⟩
  · rw [Hhlen.out]; rfl
  · rw [Hhlen.out, Hhcel.out]
    exact ((St.start w).call HB2.out).cat HS9.out
set_option maxRecDepth 100000 in
set_option maxHeartbeats 8000000 in
theorem sturn_ltr (ch : Fin 3) (h60 : (Ex.ltr ch).post.length ≤ 60) : TurnS (Ex.ltr ch) := by
  intro v w h
  obtain ⟨j0, hj, hy0, hy1, hy2⟩ := info_parts Try.infoPart
  have hok := post_exOk _ h60
  have Hh := Lib.hid h
  have hP := h
  rw [show (Ex.ltr ch).post = (([] : List (Int × Int))) ++ [(3, (ch.val : Int))] from rfl] at hP
  obtain ⟨bb, off, cap, rfl, hc1, hc2, hbl, hcell⟩ := lastP hP
  obtain ⟨m, hm⟩ : ∃ m, m = (([] : List (Int × Int))).length := ⟨_, rfl⟩
  rw [← hm] at hc1 hcell Hh
  rw [← hm]
  have hmI : m ≤ 59 := by rw [hm]; simp [Ex.post] at h60 ⊢
  have Hcell := Lib.hid hcell
  have hw1 : IntKind.i64.wrap ((m : Int) + 1 - 1) = (m : Int) := by rw [IntWalk.i64_in _ (by omega)]; omega
  have hlen : (turnX (Ex.ltr ch)).post.length = 0 + 1 := by simp [turnX, Ex.post]
  have hcel : (turnX (Ex.ltr ch)).post.flatMap pairCells = [] ++ [.int .i64 3, .int .i64 (ch.val : Int)] := by simp [turnX, Ex.post, pairCells]
  have Hhm := Lib.hid hm; clear hm
  have Hhok := Lib.hid hok; clear hok
  have Hhlen := Lib.hid hlen; clear hlen
  have Hhcel := Lib.hid hcel; clear hcel
  clear h hP hcell
  go_enter Try.func11, Try.ntmps11
  go_wp2_with (first
    | (go_at_call 33; refine (exprValid_any _ _ _ (by omega) Hh.out true Hhok.out).mono ?_; rintro e w1 ⟨rfl, hb1⟩; have HB1 := Lib.hid hb1; clear hb1)
    | (go_at_call 34; refine (l2Split_any _ _ _ Hhok.out (Hh.out.below HB1.out)).mono ?_; rintro e w2 ⟨vx, vy, xs, ys, hsp, rfl, hx, hy, hb2⟩; have hsp2 := split_leaf (pn_leaf3 ch) hsp; obtain ⟨rfl, rfl⟩ := hsp2; obtain ⟨ax, cx, rfl, _, _, _⟩ := hx.form; obtain ⟨ay, cy, rfl, _, _, _⟩ := hy.form; have hb12 := (((St.start w).call HB1.out).call hb2).bel; obtain ⟨k1, k2⟩ := Hcell.out _ (newNil (((St.start w).call HB1.out).call hb2)).bel; have HB2 := Lib.hid hb12; have HX := Lib.hid hx; have HY := Lib.hid hy; have HS1 := Lib.hid (show St w2 _ [Ent.row 39 2 (.slice (some ⟨w2.heap.size, 0, none⟩) 0 0) 0 [], Ent.box (w2.heap.size + 1) #[.int .i64 3, .int .i64 (ch.val : Int)] 39] from (newNil (St.start w2)).alloc (w2.heap.size + 1) (by simp) #[.int .i64 3, .int .i64 (ch.val : Int)] 39); clear hsp hx hy hb2 hb12)
    | (at_builtin; have HB9 := Lib.hid ((HS1.out.alloc (w2.heap.size + 1 + 1) (by simp) #[.int .i64 3, .int .i64 (ch.val : Int)] 39).boxrow 2 1 2 [.int .i64 3, .int .i64 (ch.val : Int)] rfl rfl (by unfold maxLen; omega)); refine wpList_append_sl _ rfl _ _ _ rfl _ 39 j0 PZ 2 16 Try.underlying23 hj hy0 hy1 hy2 rfl (by omega) _ (0) _ rfl (HB9.out.row 0 rfl) _ (1) ([.int .i64 3, .int .i64 (ch.val : Int)]) rfl ((own_of_row (HB9.out.row 2 rfl)).sl (by omega) |>.mono (Nat.zero_le _)) (by intro u hu; simp at hu; rcases hu with rfl | rfl <;> rfl) (by unfold maxLen; omega) (by omega) HB9.out.size ?_; intro a9 c9 w9 hown hgrow hat; have hS := (HB9.out.appS 0 rfl hown hgrow hat).pick [0] (by decide); (try simp only [Nat.zero_add, List.nil_append] at hS); (try simp only [Nat.zero_add]); have HS9 := Lib.hid hS; clear hown hgrow hat hS))
  go_ret
  refine ⟨a9, c9, ?_, ?_⟩
  · rw [Hhlen.out]; rfl
  · rw [Hhlen.out, Hhcel.out]
    exact ((St.start w).call HB2.out).cat HS9.out
theorem sturned_all : ∀ t : Ex, t.post.length ≤ 60 → TurnS t := by
  intro t
  induction t with
  | zero => exact sturn_zero
  | one => exact sturn_one
  | ltr c => exact sturn_ltr c
  | join a b ha hb => exact fun h => sturn_join a b h (ha (by simp [Ex.post] at h; omega)) (hb (by simp [Ex.post] at h; omega))
  | alt a b ha hb => exact fun h => sturn_alt a b h (ha (by simp [Ex.post] at h; omega)) (hb (by simp [Ex.post] at h; omega))
  | both a b ha hb => exact fun h => sturn_both a b h (ha (by simp [Ex.post] at h; omega)) (hb (by simp [Ex.post] at h; omega))
  | neg a ha => exact fun h => sturn_neg a h (ha (by simp [Ex.post] at h; omega))
  | star a ha => exact fun h => sturn_star a h (ha (by simp [Ex.post] at h; omega))
noncomputable def turnE (es : List (Int × Int)) : List (Int × Int) := if h : exOk es = true then (turnX (parse h).choose).post else []
theorem turnE_tree {t : Ex} (h : t.post.length ≤ 60) : turnE t.post = (turnX t).post := by
  have hok := post_exOk t h
  unfold turnE
  rw [dif_pos hok, post_inj (parse hok).choose_spec]
theorem turnE_bad {es : List (Int × Int)} (h : exOk es = false) : turnE es = [] := by
  unfold turnE
  rw [dif_neg (by simp [h])]
theorem turnE_len (es : List (Int × Int)) : (turnE es).length ≤ 60 := by
  cases h : exOk es with
  | false => rw [turnE_bad h]; simp
  | true =>
    obtain ⟨t, rfl⟩ := parse h
    have h60 : t.post.length ≤ 60 := (exOk_facts h).2.2.2
    rw [turnE_tree h60, turnX_len]
    exact h60
set_option maxHeartbeats 4000000 in
theorem specTurnExpr_any (es : List (Int × Int)) (v : Value) (w : World) (hlen : es.length ≤ 2000000) (h : Pairs 0 w v es) : Calls Try.prog 11 #[v] w fun e w' => RPo (turnE es) w e w' := by
  cases hr : exOk es with
  | true =>
    obtain ⟨t, rfl⟩ := parse hr
    have h60 : t.post.length ≤ 60 := (exOk_facts hr).2.2.2
    rw [turnE_tree h60]
    exact sturned_all t h60 v w h
  | false =>
    rw [turnE_bad hr]
    have Hh := Lib.hid h
    have Hhr := Lib.hid hr; clear hr
    clear h
    go_enter Try.func11, Try.ntmps11
    go_wp2_with (go_at_call 33; refine (exprValid_any _ _ _ hlen Hh.out false Hhr.out).mono ?_; rintro e w1 ⟨rfl, hb1⟩; have HS := Lib.hid (newNil ((St.start w).call hb1)); clear hb1)
    go_ret
    exact ⟨_, _, rfl, HS.out⟩
end Go.Proofs.Ytfgpkadhegdffaa
