/-
  The walks over EditTexts of the reference and of the program.
  Conditions: the texts are ones of bytes.
-/
import Derived.Test.YtfgpkadhegdffaaGreatPk42Rdy
import Derived.Test.YtfgpkadhegdffaaGreatPk43Ctt
import Derived.Test.YtfgpkadhegdffaaGreatPk45Cmx
set_option maxHeartbeats 8000000
set_option maxRecDepth 100000
namespace Go.Proofs.YtfgpkadhegdffaaGreat
open Go.RowKit
def editL (s t:List Nat) (k:Int):Option (List (Int × Int)):=if inB k 4 6 = true then (match readL s,readL t with | some x,some y => some (x ++ y ++ [(k,0)]) | _,_ => none) else none
theorem editL_no1 {s t:List Nat} {k:Int} (h:readL s = none):editL s t k = none:=by
 unfold editL
 rw [h]
 split <;> rfl
theorem editL_no2 {s t:List Nat} {k:Int} (h:readL t = none):editL s t k = none:=by
 unfold editL
 rw [h]
 split
 ·cases readL s <;> rfl
 ·rfl
theorem editL_no3 {s t:List Nat} {k:Int} (h:inB k 4 6 = false):editL s t k = none:=by
 unfold editL
 rw [if_neg (by simp [h])]
theorem editL_yes {s t:List Nat} {k:Int} {x y:List (Int × Int)} (h1:readL s = some x) (h2:readL t = some y) (hk:4 ≤ k ∧ k ≤ 6):editL s t k = some (x ++ y ++ [(k,0)]):=by
 unfold editL
 rw [if_pos (by unfold inB;simp;omega),h1,h2]
theorem editT_ex (K:Nat) (s t:List Nat) (k:Int):∃ o,CompT K (editL s t k) o:=by
 cases h:editL s t k with
 | none => exact ⟨none,.inl ⟨rfl,rfl⟩⟩
 | some es =>
  obtain ⟨o,ho⟩:=compO_ex K es
  refine ⟨o,.inr ⟨es,rfl,?_,ho⟩⟩
  unfold editL at h
  split at h
  ·split at h
   ·rename_i x y h1 h2
    have e1:=readL_l60 h1
    have e2:=readL_l60 h2
    cases h
    simp
    omega
   ·cases h
  ·cases h
theorem implEditTexts_any (K:Nat) (hK:K = 40) (s t:List Nat) (k:Int) (o:Option DfaD) (ho:CompT K (editL s t k) o) (w:World) (hs:isT s) (ht:isT t) :
  Calls Tryz.prog 16 #[.string (txB s),.string (txB t),.int .i64 k] w fun e w' => RTt (o.getD zeD) o.isSome w.heap.size e w' ∧ Below w.heap.size w w':=by
 have HS:Hid (St w _ [Ent.box w.heap.size #[.slice none 0 0,.slice none 0 0] 25]):=qh ((St.start w).alloc w.heap.size rfl #[.slice none 0 0,.slice none 0 0] 25)
 have HR:=qh (fun u => implReadExpr_any s u hs)
 have HT:=qh (fun u => implReadExpr_any t u ht)
 have HO:=qh ho
 obtain ⟨D,hD⟩:∃ D,o.getD zeD = D:=⟨_,rfl⟩
 obtain ⟨fb,hfb⟩:∃ fb,o.isSome = fb:=⟨_,rfl⟩
 rw [hD,hfb]
 have HD:=qh hD
 have HF:=qh hfb
 clear ho hs ht hD hfb
 have hkd:k = 4 ∨ k = 5 ∨ k = 6 ∨ inB k 4 6 = false:=by
  by_cases h:4 ≤ k ∧ k ≤ 6
  ·omega
  ·exact .inr (.inr (.inr (by unfold inB;simp;omega)))
 have HKD:=qh hkd
 clear hkd
 go_enter Tryz.func16, Tryz.ntmps16
 go_wp2_with fail
 refine (HR.out _).mono ?_
 rintro e w1 (⟨hr1,rfl,hb⟩ | ⟨xs,a1,c1,hr1,rfl,hS⟩)
 ·have hno:o = none:=by
   have h:=HO.out
   rw [editL_no1 hr1] at h
   rcases h with ⟨-,h⟩ | ⟨es,h,-⟩
   ·exact h
   ·cases h
  subst hno
  obtain rfl:=HD.out
  obtain rfl:=HF.out
  clear HD HF
  replace HS:=qh (HS.out.call hb)
  clear hb
  clear HO HKD hr1
  go_wp2_with fail
  refine (HT.out _).mono ?_
  rintro e w2 (⟨hr2,rfl,hb⟩ | ⟨ys,a2,c2,hr2,rfl,hS⟩)
  ·replace HS:=qh (HS.out.call hb)
   clear hb
   have f0:=HS.out.fr 0 0 rfl
   have f1:=HS.out.fr 0 1 rfl
   have k0:=HS.out.cell (v:=.slice none 0 0) 0 0 rfl rfl
   have k1:=HS.out.cell (v:=.slice none 0 0) 0 1 rfl rfl
   go_wp2
   have hq:=(HS.out.set 0 rfl 0 (.slice none 0 0)).set 0 rfl 1 (.slice none 0 0)
   have q0:=hq.cell (v:=.slice none 0 0) 0 0 rfl rfl
   have q1:=hq.cell (v:=.slice none 0 0) 0 1 rfl rfl
   refine bodyPost_ret (v:=.tuple #[.agg #[.slice none 0 0,.slice none 0 0],.bool false]) (by simp [results,Tryz.results16,go_sem,q0,q1]) rfl ?_
   exact ⟨⟨none,0,none,0,rfl,zeD_own _ _ _ _ _⟩,hq.bel⟩
  ·replace HS:=qh (HS.out.call hS.bel)
   clear hS
   have f0:=HS.out.fr 0 0 rfl
   have f1:=HS.out.fr 0 1 rfl
   have k0:=HS.out.cell (v:=.slice none 0 0) 0 0 rfl rfl
   have k1:=HS.out.cell (v:=.slice none 0 0) 0 1 rfl rfl
   go_wp2
   have hq:=(HS.out.set 0 rfl 0 (.slice none 0 0)).set 0 rfl 1 (.slice none 0 0)
   have q0:=hq.cell (v:=.slice none 0 0) 0 0 rfl rfl
   have q1:=hq.cell (v:=.slice none 0 0) 0 1 rfl rfl
   refine bodyPost_ret (v:=.tuple #[.agg #[.slice none 0 0,.slice none 0 0],.bool false]) (by simp [results,Tryz.results16,go_sem,q0,q1]) rfl ?_
   exact ⟨⟨none,0,none,0,rfl,zeD_own _ _ _ _ _⟩,hq.bel⟩
 have HX:=qh (pairs_of_row (hS.row 0 rfl))
 have hlx:=readL_l60 hr1
 replace HS:=qh (HS.out.call hS.bel)
 clear hS
 go_wp2_with fail
 refine (HT.out _).mono ?_
 rintro e w2 (⟨hr2,rfl,hb⟩ | ⟨ys,a2,c2,hr2,rfl,hS⟩)
 ·have hno:o = none:=by
   have h:=HO.out
   rw [editL_no2 hr2] at h
   rcases h with ⟨-,h⟩ | ⟨es,h,-⟩
   ·exact h
   ·cases h
  subst hno
  obtain rfl:=HD.out
  obtain rfl:=HF.out
  clear HD HF
  replace HS:=qh (HS.out.call hb)
  clear hb
  clear HO HKD hr1 hr2
  have f0:=HS.out.fr 0 0 rfl
  have f1:=HS.out.fr 0 1 rfl
  have k0:=HS.out.cell (v:=.slice none 0 0) 0 0 rfl rfl
  have k1:=HS.out.cell (v:=.slice none 0 0) 0 1 rfl rfl
  go_wp2
  have hq:=(HS.out.set 0 rfl 0 (.slice none 0 0)).set 0 rfl 1 (.slice none 0 0)
  have q0:=hq.cell (v:=.slice none 0 0) 0 0 rfl rfl
  have q1:=hq.cell (v:=.slice none 0 0) 0 1 rfl rfl
  refine bodyPost_ret (v:=.tuple #[.agg #[.slice none 0 0,.slice none 0 0],.bool false]) (by simp [results,Tryz.results16,go_sem,q0,q1]) rfl ?_
  exact ⟨⟨none,0,none,0,rfl,zeD_own _ _ _ _ _⟩,hq.bel⟩
 have HY:=qh (pairs_of_row (hS.row 0 rfl))
 have hly:=readL_l60 hr2
 replace HX:=qh (HX.out.below hS.bel)
 replace HS:=qh (HS.out.call hS.bel)
 clear hS
 rcases HKD.out with rfl | rfl | rfl | hk
 ·have hq:=editL_yes hr1 hr2 (k:=4) (by omega)
  have hhd:=HO.out
  rw [hq] at hhd
  obtain ⟨h,-⟩ | ⟨es,h,hl,ho⟩:=hhd
  ·cases h
  have hes:xs ++ ys ++ [(4,0)] = es:=by simpa using h
  have hc:=fun (v:Value) (u:World) (h:Pairs 0 u v es) => implCompileExpr_any K hK _ o ho v u h
  rw [HD.out,HF.out] at hc
  have Hc:=qh hc
  clear ho hc HD HF HO HKD hr1 hr2 hq hl h
  have HS2:=qh (show St w _ [Ent.box w.heap.size #[.slice none 0 0,.slice none 0 0] 25,Ent.box w2.heap.size #[.slice a1 xs.length c1,.slice a2 ys.length c2] 40] from HS.out.alloc w2.heap.size rfl _ _)
  have HX2:=qh (HX.out.below ((Below.refl w2.heap.size w2).alloc (Nat.le_refl _) (.cells #[.slice a1 xs.length c1,.slice a2 ys.length c2] 40)))
  have HY2:=qh (HY.out.below ((Below.refl w2.heap.size w2).alloc (Nat.le_refl _) (.cells #[.slice a1 xs.length c1,.slice a2 ys.length c2] 40)))
  have hop:=op2_any 4 xs ys _ _ w2.heap.size 2 _ (by omega) (by omega) (HS2.out.boxlt 1 rfl).2 (HS2.out.cell (v:=.slice a1 xs.length c1) 1 0 rfl rfl) (HS2.out.cell (v:=.slice a2 ys.length c2) 1 1 rfl rfl) HX2.out HY2.out
  rw [hes] at hop
  have Hop:=qh hop
  clear hop hes
  go_wp2_with fail
  refine Hop.out.mono ?_
  rintro e w3 ⟨a3,c3,rfl,hS⟩
  have HP:=qh (pairs_of_row (hS.row 0 rfl))
  replace HS:=qh ((HS2.out.call hS.bel).pick [0] (by decide))
  clear hS HS2 HX2 HY2 HX HY Hop
  go_wp2_with fail
  refine (Hc.out _ _ HP.out).mono ?_
  rintro e w4 ⟨⟨d1,e1,d2,e2,rfl,hown⟩,hb2⟩
  have hS5:=HS.out.call hb2
  have f0:=hS5.fr 0 0 rfl
  have f1:=hS5.fr 0 1 rfl
  have k0:=hS5.cell (v:=.slice none 0 0) 0 0 rfl rfl
  have k1:=hS5.cell (v:=.slice none 0 0) 0 1 rfl rfl
  have hDM:=DMem.of hown HS.out.size
  have hb0:=hS5.box 0 rfl
  have HS5:=qh hS5
  have HDM:=qh hDM
  have Hhb0:=qh hb0;clear hb0
  clear hS5 hown hb2 hDM
  go_wp2
  have hq:=(HS5.out.set 0 rfl 0 (.slice d1 D.next.length e1)).set 0 rfl 1 (.slice d2 D.ends.length e2)
  have q0:=hq.cell (v:=.slice d1 D.next.length e1) 0 0 rfl rfl
  have q1:=hq.cell (v:=.slice d2 D.ends.length e2) 0 1 rfl rfl
  have hm:=(HDM.out.set Hhb0.out 0 (.slice d1 D.next.length e1)).set (Hhb0.out.set 0 _) 1 (.slice d2 D.ends.length e2)
  refine bodyPost_ret (v:=.tuple #[.agg #[.slice d1 D.next.length e1,.slice d2 D.ends.length e2],.bool fb]) (by simp [results,Tryz.results16,go_sem,q0,q1]) rfl ?_
  exact ⟨⟨d1,e1,d2,e2,rfl,_,_,rfl,hm.1,hm.2⟩,hq.bel⟩
 ·have hq:=editL_yes hr1 hr2 (k:=5) (by omega)
  have hhd:=HO.out
  rw [hq] at hhd
  obtain ⟨h,-⟩ | ⟨es,h,hl,ho⟩:=hhd
  ·cases h
  have hes:xs ++ ys ++ [(5,0)] = es:=by simpa using h
  have hc:=fun (v:Value) (u:World) (h:Pairs 0 u v es) => implCompileExpr_any K hK _ o ho v u h
  rw [HD.out,HF.out] at hc
  have Hc:=qh hc
  clear ho hc HD HF HO HKD hr1 hr2 hq hl h
  have HS2:=qh (show St w _ [Ent.box w.heap.size #[.slice none 0 0,.slice none 0 0] 25,Ent.box w2.heap.size #[.slice a1 xs.length c1,.slice a2 ys.length c2] 40] from HS.out.alloc w2.heap.size rfl _ _)
  have HX2:=qh (HX.out.below ((Below.refl w2.heap.size w2).alloc (Nat.le_refl _) (.cells #[.slice a1 xs.length c1,.slice a2 ys.length c2] 40)))
  have HY2:=qh (HY.out.below ((Below.refl w2.heap.size w2).alloc (Nat.le_refl _) (.cells #[.slice a1 xs.length c1,.slice a2 ys.length c2] 40)))
  have hop:=op2_any 5 xs ys _ _ w2.heap.size 2 _ (by omega) (by omega) (HS2.out.boxlt 1 rfl).2 (HS2.out.cell (v:=.slice a1 xs.length c1) 1 0 rfl rfl) (HS2.out.cell (v:=.slice a2 ys.length c2) 1 1 rfl rfl) HX2.out HY2.out
  rw [hes] at hop
  have Hop:=qh hop
  clear hop hes
  go_wp2_with fail
  refine Hop.out.mono ?_
  rintro e w3 ⟨a3,c3,rfl,hS⟩
  have HP:=qh (pairs_of_row (hS.row 0 rfl))
  replace HS:=qh ((HS2.out.call hS.bel).pick [0] (by decide))
  clear hS HS2 HX2 HY2 HX HY Hop
  go_wp2_with fail
  refine (Hc.out _ _ HP.out).mono ?_
  rintro e w4 ⟨⟨d1,e1,d2,e2,rfl,hown⟩,hb2⟩
  have hS5:=HS.out.call hb2
  have f0:=hS5.fr 0 0 rfl
  have f1:=hS5.fr 0 1 rfl
  have k0:=hS5.cell (v:=.slice none 0 0) 0 0 rfl rfl
  have k1:=hS5.cell (v:=.slice none 0 0) 0 1 rfl rfl
  have hDM:=DMem.of hown HS.out.size
  have hb0:=hS5.box 0 rfl
  have HS5:=qh hS5
  have HDM:=qh hDM
  have Hhb0:=qh hb0;clear hb0
  clear hS5 hown hb2 hDM
  go_wp2
  have hq:=(HS5.out.set 0 rfl 0 (.slice d1 D.next.length e1)).set 0 rfl 1 (.slice d2 D.ends.length e2)
  have q0:=hq.cell (v:=.slice d1 D.next.length e1) 0 0 rfl rfl
  have q1:=hq.cell (v:=.slice d2 D.ends.length e2) 0 1 rfl rfl
  have hm:=(HDM.out.set Hhb0.out 0 (.slice d1 D.next.length e1)).set (Hhb0.out.set 0 _) 1 (.slice d2 D.ends.length e2)
  refine bodyPost_ret (v:=.tuple #[.agg #[.slice d1 D.next.length e1,.slice d2 D.ends.length e2],.bool fb]) (by simp [results,Tryz.results16,go_sem,q0,q1]) rfl ?_
  exact ⟨⟨d1,e1,d2,e2,rfl,_,_,rfl,hm.1,hm.2⟩,hq.bel⟩
 ·have hq:=editL_yes hr1 hr2 (k:=6) (by omega)
  have hhd:=HO.out
  rw [hq] at hhd
  obtain ⟨h,-⟩ | ⟨es,h,hl,ho⟩:=hhd
  ·cases h
  have hes:xs ++ ys ++ [(6,0)] = es:=by simpa using h
  have hc:=fun (v:Value) (u:World) (h:Pairs 0 u v es) => implCompileExpr_any K hK _ o ho v u h
  rw [HD.out,HF.out] at hc
  have Hc:=qh hc
  clear ho hc HD HF HO HKD hr1 hr2 hq hl h
  have HS2:=qh (show St w _ [Ent.box w.heap.size #[.slice none 0 0,.slice none 0 0] 25,Ent.box w2.heap.size #[.slice a1 xs.length c1,.slice a2 ys.length c2] 40] from HS.out.alloc w2.heap.size rfl _ _)
  have HX2:=qh (HX.out.below ((Below.refl w2.heap.size w2).alloc (Nat.le_refl _) (.cells #[.slice a1 xs.length c1,.slice a2 ys.length c2] 40)))
  have HY2:=qh (HY.out.below ((Below.refl w2.heap.size w2).alloc (Nat.le_refl _) (.cells #[.slice a1 xs.length c1,.slice a2 ys.length c2] 40)))
  have hop:=op2_any 6 xs ys _ _ w2.heap.size 2 _ (by omega) (by omega) (HS2.out.boxlt 1 rfl).2 (HS2.out.cell (v:=.slice a1 xs.length c1) 1 0 rfl rfl) (HS2.out.cell (v:=.slice a2 ys.length c2) 1 1 rfl rfl) HX2.out HY2.out
  rw [hes] at hop
  have Hop:=qh hop
  clear hop hes
  go_wp2_with fail
  refine Hop.out.mono ?_
  rintro e w3 ⟨a3,c3,rfl,hS⟩
  have HP:=qh (pairs_of_row (hS.row 0 rfl))
  replace HS:=qh ((HS2.out.call hS.bel).pick [0] (by decide))
  clear hS HS2 HX2 HY2 HX HY Hop
  go_wp2_with fail
  refine (Hc.out _ _ HP.out).mono ?_
  rintro e w4 ⟨⟨d1,e1,d2,e2,rfl,hown⟩,hb2⟩
  have hS5:=HS.out.call hb2
  have f0:=hS5.fr 0 0 rfl
  have f1:=hS5.fr 0 1 rfl
  have k0:=hS5.cell (v:=.slice none 0 0) 0 0 rfl rfl
  have k1:=hS5.cell (v:=.slice none 0 0) 0 1 rfl rfl
  have hDM:=DMem.of hown HS.out.size
  have hb0:=hS5.box 0 rfl
  have HS5:=qh hS5
  have HDM:=qh hDM
  have Hhb0:=qh hb0;clear hb0
  clear hS5 hown hb2 hDM
  go_wp2
  have hq:=(HS5.out.set 0 rfl 0 (.slice d1 D.next.length e1)).set 0 rfl 1 (.slice d2 D.ends.length e2)
  have q0:=hq.cell (v:=.slice d1 D.next.length e1) 0 0 rfl rfl
  have q1:=hq.cell (v:=.slice d2 D.ends.length e2) 0 1 rfl rfl
  have hm:=(HDM.out.set Hhb0.out 0 (.slice d1 D.next.length e1)).set (Hhb0.out.set 0 _) 1 (.slice d2 D.ends.length e2)
  refine bodyPost_ret (v:=.tuple #[.agg #[.slice d1 D.next.length e1,.slice d2 D.ends.length e2],.bool fb]) (by simp [results,Tryz.results16,go_sem,q0,q1]) rfl ?_
  exact ⟨⟨d1,e1,d2,e2,rfl,_,_,rfl,hm.1,hm.2⟩,hq.bel⟩
 ·have hno:o = none:=by
   have h:=HO.out
   rw [editL_no3 hk] at h
   rcases h with ⟨-,h⟩ | ⟨es,h,-⟩
   ·exact h
   ·cases h
  subst hno
  obtain rfl:=HD.out
  obtain rfl:=HF.out
  clear HD HF
  have k4:k ≠ 4:=by rintro rfl;exact absurd hk (by decide)
  obtain ⟨p4,q4,r4,s4⟩:=not_eqI k4
  clear k4
  have k5:k ≠ 5:=by rintro rfl;exact absurd hk (by decide)
  obtain ⟨p5,q5,r5,s5⟩:=not_eqI k5
  clear k5
  have k6:k ≠ 6:=by rintro rfl;exact absurd hk (by decide)
  obtain ⟨p6,q6,r6,s6⟩:=not_eqI k6
  clear k6
  clear HO HKD hr1 hr2 HX HY hk
  have f0:=HS.out.fr 0 0 rfl
  have f1:=HS.out.fr 0 1 rfl
  have k0:=HS.out.cell (v:=.slice none 0 0) 0 0 rfl rfl
  have k1:=HS.out.cell (v:=.slice none 0 0) 0 1 rfl rfl
  go_wp2_with fail
  have hq:=(HS.out.set 0 rfl 0 (.slice none 0 0)).set 0 rfl 1 (.slice none 0 0)
  have q0:=hq.cell (v:=.slice none 0 0) 0 0 rfl rfl
  have q1:=hq.cell (v:=.slice none 0 0) 0 1 rfl rfl
  refine bodyPost_ret (v:=.tuple #[.agg #[.slice none 0 0,.slice none 0 0],.bool false]) (by simp [results,Tryz.results16,go_sem,q0,q1]) rfl ?_
  exact ⟨⟨none,0,none,0,rfl,zeD_own _ _ _ _ _⟩,hq.bel⟩
theorem specEditTexts_any (K:Nat) (hK:K = 40) (s t:List Nat) (k:Int) (o:Option DfaD) (ho:CompT K (editL s t k) o) (w:World) (hs:isT s) (ht:isT t) :
  Calls Tryz.prog 15 #[.string (txB s),.string (txB t),.int .i64 k] w fun e w' => RO o w e w':=by
 have HS:Hid (St w _ [Ent.box w.heap.size #[.slice none 0 0,.slice none 0 0] 25]):=qh ((St.start w).alloc w.heap.size rfl #[.slice none 0 0,.slice none 0 0] 25)
 have HR:=qh (fun u => specReadExpr_any s u hs)
 have HT:=qh (fun u => specReadExpr_any t u ht)
 have HO:=qh ho
 unfold RO
 obtain ⟨D,hD⟩:∃ D,o.getD zeroD = D:=⟨_,rfl⟩
 obtain ⟨fb,hfb⟩:∃ fb,o.isSome = fb:=⟨_,rfl⟩
 rw [hD,hfb]
 have HD:=qh hD
 have HF:=qh hfb
 clear ho hs ht hD hfb
 have hkd:inB k 4 6 = true ∨ inB k 4 6 = false:=by cases inB k 4 6 <;> simp
 have HKD:=qh hkd
 clear hkd
 go_enter Tryz.func15, Tryz.ntmps15
 go_wp2_with fail
 refine (HR.out _).mono ?_
 rintro e w1 (⟨hr1,a1,c1,rfl,hS⟩ | ⟨xs,a1,c1,hr1,rfl,hS⟩)
 ·have hno:o = none:=by
   have h:=HO.out
   rw [editL_no1 hr1] at h
   rcases h with ⟨-,h⟩ | ⟨es,h,-⟩
   ·exact h
   ·cases h
  subst hno
  obtain rfl:=HD.out
  obtain rfl:=HF.out
  clear HD HF
  replace HS:=qh (HS.out.call hS.bel)
  clear hS
  clear HO HKD hr1
  go_wp2_with fail
  refine (HT.out _).mono ?_
  rintro e w2 (⟨hr2,a2,c2,rfl,hS⟩ | ⟨ys,a2,c2,hr2,rfl,hS⟩)
  ·replace HS:=qh (HS.out.call hS.bel)
   clear hS
   have f0:=HS.out.fr 0 0 rfl
   have f1:=HS.out.fr 0 1 rfl
   have k0:=HS.out.cell (v:=.slice none 0 0) 0 0 rfl rfl
   have k1:=HS.out.cell (v:=.slice none 0 0) 0 1 rfl rfl
   go_wp2
   have hq:=(HS.out.set 0 rfl 0 (.slice none 0 0)).set 0 rfl 1 (.slice none 0 0)
   have q0:=hq.cell (v:=.slice none 0 0) 0 0 rfl rfl
   have q1:=hq.cell (v:=.slice none 0 0) 0 1 rfl rfl
   refine bodyPost_ret (v:=.tuple #[.agg #[.slice none 0 0,.slice none 0 0],.bool false]) (by simp [results,Tryz.results15,go_sem,q0,q1]) rfl ?_
   exact ⟨none,0,none,0,rfl,zeroD_r _ _,hq.bel⟩
  ·replace HS:=qh (HS.out.call hS.bel)
   clear hS
   have f0:=HS.out.fr 0 0 rfl
   have f1:=HS.out.fr 0 1 rfl
   have k0:=HS.out.cell (v:=.slice none 0 0) 0 0 rfl rfl
   have k1:=HS.out.cell (v:=.slice none 0 0) 0 1 rfl rfl
   go_wp2
   have hq:=(HS.out.set 0 rfl 0 (.slice none 0 0)).set 0 rfl 1 (.slice none 0 0)
   have q0:=hq.cell (v:=.slice none 0 0) 0 0 rfl rfl
   have q1:=hq.cell (v:=.slice none 0 0) 0 1 rfl rfl
   refine bodyPost_ret (v:=.tuple #[.agg #[.slice none 0 0,.slice none 0 0],.bool false]) (by simp [results,Tryz.results15,go_sem,q0,q1]) rfl ?_
   exact ⟨none,0,none,0,rfl,zeroD_r _ _,hq.bel⟩
 have HX:=qh (pairs_of_row (hS.row 0 rfl))
 have hlx:=readL_l60 hr1
 replace HS:=qh (HS.out.call hS.bel)
 clear hS
 go_wp2_with fail
 refine (HT.out _).mono ?_
 rintro e w2 (⟨hr2,a2,c2,rfl,hS⟩ | ⟨ys,a2,c2,hr2,rfl,hS⟩)
 ·have hno:o = none:=by
   have h:=HO.out
   rw [editL_no2 hr2] at h
   rcases h with ⟨-,h⟩ | ⟨es,h,-⟩
   ·exact h
   ·cases h
  subst hno
  obtain rfl:=HD.out
  obtain rfl:=HF.out
  clear HD HF
  replace HS:=qh (HS.out.call hS.bel)
  clear hS
  clear HO HKD hr1 hr2
  have f0:=HS.out.fr 0 0 rfl
  have f1:=HS.out.fr 0 1 rfl
  have k0:=HS.out.cell (v:=.slice none 0 0) 0 0 rfl rfl
  have k1:=HS.out.cell (v:=.slice none 0 0) 0 1 rfl rfl
  go_wp2
  have hq:=(HS.out.set 0 rfl 0 (.slice none 0 0)).set 0 rfl 1 (.slice none 0 0)
  have q0:=hq.cell (v:=.slice none 0 0) 0 0 rfl rfl
  have q1:=hq.cell (v:=.slice none 0 0) 0 1 rfl rfl
  refine bodyPost_ret (v:=.tuple #[.agg #[.slice none 0 0,.slice none 0 0],.bool false]) (by simp [results,Tryz.results15,go_sem,q0,q1]) rfl ?_
  exact ⟨none,0,none,0,rfl,zeroD_r _ _,hq.bel⟩
 have HY:=qh (pairs_of_row (hS.row 0 rfl))
 have hly:=readL_l60 hr2
 replace HX:=qh (HX.out.below hS.bel)
 replace HS:=qh (HS.out.call hS.bel)
 clear hS
 rcases HKD.out with hk | hk
 ·have hq:=editL_yes hr1 hr2 (k:=k) (by unfold inB at hk;simpa using hk)
  have hhd:=HO.out
  rw [hq] at hhd
  obtain ⟨h,-⟩ | ⟨es,h,hl,ho⟩:=hhd
  ·cases h
  have hes:xs ++ ys ++ [(k,0)] = es:=by simpa using h
  have Hhk:=qh hk;clear hk
  have hc:=fun (v:Value) (u:World) (h:Pairs 0 u v es) => specCompile_any K hK _ o ho v u hl h
  unfold RO at hc
  rw [HD.out,HF.out] at hc
  have Hc:=qh hc
  obtain ⟨j0,hj,hy0,hy1,hy2⟩:=info_parts Tryz.infoPart
  have hlen:es.length = xs.length+ys.length+1:=by rw [← hes];simp;omega
  have hcel:es.flatMap pairCells = xs.flatMap pairCells ++ ys.flatMap pairCells ++ [.int .i64 k,.int .i64 0]:=by rw [← hes];simp [pairCells]
  clear hes
  have Hhlen:=qh hlen;clear hlen
  have Hhcel:=qh hcel;clear hcel
  clear ho hc HD HF HO HKD hr1 hr2 hq hl h
  have HSa:=qh (newNil (St.start w2))
  go_wp2_with (first
   | (go_at_call 44;refine (l1In_any _ _ _ _ true Hhk.out).mono ?_;rintro e w' ⟨rfl,rfl⟩)
   | (at_builtin;refine wpList_append_sl _ rfl _ _ _ rfl _ 59 j0 PZ 2 16 Tryz.underlying40 hj hy0 hy1 hy2 rfl (by omega) _ (0) _ rfl (HSa.out.row 0 rfl) _ (xs.length) (xs.flatMap pairCells) rfl (HX.out.below HSa.out.bel) on_prs (by unfold maxLen;omega) (by omega) HSa.out.size ?_;intro a5 c5 w5 hown hgrow hat;have hS:=(HSa.out.appS 0 rfl hown hgrow hat).pick [0] (by decide);simp only [Nat.zero_add,List.nil_append] at hS;(try simp only [Nat.zero_add]);have HS5:=qh hS;clear hown hgrow hat hS)
   | (at_builtin;refine wpList_append_sl _ rfl _ _ _ rfl _ 59 j0 PZ 2 16 Tryz.underlying40 hj hy0 hy1 hy2 rfl (by omega) _ (xs.length) _ rfl (HS5.out.row 0 rfl) _ (ys.length) (ys.flatMap pairCells) rfl (HY.out.below HS5.out.bel) on_prs (by unfold maxLen;omega) (by omega) HS5.out.size ?_;intro a6 c6 w6 hown hgrow hat;have hS:=(HS5.out.appS 0 rfl hown hgrow hat).pick [0] (by decide);have HS6:=qh hS;clear hown hgrow hat hS)
   | (at_builtin;have HS9:=qh ((HS6.out.alloc _ rfl #[.int .i64 k,.int .i64 0] 59).boxrow 1 1 2 [.int .i64 k,.int .i64 0] rfl rfl (by unfold maxLen;omega));refine wpList_append_sl _ rfl _ _ _ rfl _ 59 j0 PZ 2 16 Tryz.underlying40 hj hy0 hy1 hy2 rfl (by omega) _ (xs.length+ys.length) _ rfl (HS9.out.row 0 rfl) _ (1) ([.int .i64 k,.int .i64 0]) rfl ((own_of_row (HS9.out.row 1 rfl)).sl (by omega) |>.mono (Nat.zero_le _)) (by intro u hu;simp at hu;rcases hu with rfl | rfl <;> rfl) (by unfold maxLen;omega) (by omega) HS9.out.size ?_;intro a7 c7 w7 hown hgrow hat;have hS:=(HS9.out.appS 0 rfl hown hgrow hat).pick [0] (by decide);have HS7:=qh hS;clear hown hgrow hat hS)
   | (go_at_call 24;have HP:=qh (pairs_of_row (show _ from by rw [Hhlen.out,Hhcel.out];exact HS7.out.row 0 rfl):Pairs 0 w7 _ es);refine (Hc.out _ _ HP.out).mono ?_;rintro e w8 ⟨d1,e1,d2,e2,rfl,hr,hb2⟩;replace HS:=qh (HS.out.call HS7.out.bel);clear HSa HS5 HS6 HS7 HS9;have hS5:=HS.out.call hb2;have f0:=hS5.fr 0 0 rfl;have f1:=hS5.fr 0 1 rfl;have k0:=hS5.cell (v:=.slice none 0 0) 0 0 rfl rfl;have k1:=hS5.cell (v:=.slice none 0 0) 0 1 rfl rfl;have hB0:=(HS.out.boxlt 0 rfl).2;have hsz:=HS.out.size;have HS5:=qh hS5;have HR5:=qh hr;clear hS5 hr hb2))
  have hq:=(HS5.out.set 0 rfl 0 (.slice d1 D.next.length e1)).set 0 rfl 1 (.slice d2 D.ends.length e2)
  have q0:=hq.cell (v:=.slice d1 D.next.length e1) 0 0 rfl rfl
  have q1:=hq.cell (v:=.slice d2 D.ends.length e2) 0 1 rfl rfl
  refine bodyPost_ret (v:=.tuple #[.agg #[.slice d1 D.next.length e1,.slice d2 D.ends.length e2],.bool fb]) (by simp [results,Tryz.results15,go_sem,q0,q1]) rfl ?_
  exact ⟨_,_,_,_,rfl,((HR5.out.far hB0 0 _).far hB0 1 _).mono hsz,hq.bel⟩
 ·have hno:o = none:=by
   have h:=HO.out
   rw [editL_no3 hk] at h
   rcases h with ⟨-,h⟩ | ⟨es,h,-⟩
   ·exact h
   ·cases h
  subst hno
  obtain rfl:=HD.out
  obtain rfl:=HF.out
  clear HD HF
  have hin:=qh (show inB k 4 6 = false from hk)
  clear HO HKD hr1 hr2 HX HY hk
  have f0:=HS.out.fr 0 0 rfl
  have f1:=HS.out.fr 0 1 rfl
  have k0:=HS.out.cell (v:=.slice none 0 0) 0 0 rfl rfl
  have k1:=HS.out.cell (v:=.slice none 0 0) 0 1 rfl rfl
  go_wp2_with (go_at_call 44;refine (l1In_any _ _ _ _ _ hin.out).mono ?_;rintro e w' ⟨rfl,rfl⟩)
  have hq:=(HS.out.set 0 rfl 0 (.slice none 0 0)).set 0 rfl 1 (.slice none 0 0)
  have q0:=hq.cell (v:=.slice none 0 0) 0 0 rfl rfl
  have q1:=hq.cell (v:=.slice none 0 0) 0 1 rfl rfl
  refine bodyPost_ret (v:=.tuple #[.agg #[.slice none 0 0,.slice none 0 0],.bool false]) (by simp [results,Tryz.results15,go_sem,q0,q1]) rfl ?_
  exact ⟨none,0,none,0,rfl,zeroD_r _ _,hq.bel⟩
end Go.Proofs.YtfgpkadhegdffaaGreat
