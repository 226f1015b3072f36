/-
  The walks over CompileText of the reference and of the program.
  Condition: the text is one of bytes.
-/
import Derived.Test.YtfgpkadhegdffaaGreatPk32Cmp
import Derived.Test.YtfgpkadhegdffaaGreatPk42Rdy
import Derived.Test.YtfgpkadhegdffaaGreatPk43Ctt
set_option maxHeartbeats 8000000
set_option maxRecDepth 100000
namespace Go.Proofs.YtfgpkadhegdffaaGreat
open Go.RowKit
theorem compT_ex (K:Nat) (s:List Nat):∃ o,CompT K (readL s) o:=by
 cases h:readL s with
 | none => exact ⟨none,.inl ⟨rfl,rfl⟩⟩
 | some es =>
  obtain ⟨o,ho⟩:=compO_ex K es
  exact ⟨o,.inr ⟨es,rfl,by have:=readL_l60 h;omega,ho⟩⟩
theorem implCompileText_any (K:Nat) (hK:K = 40) (s:List Nat) (o:Option DfaD) (ho:CompT K (readL s) o) (w:World) (ht:isT s) :
  Calls Tryz.prog 11 #[.string (txB s)] w fun e w' => RTt (o.getD zeD) o.isSome w.heap.size e w' ∧ Below w.heap.size w w':=by
 have HS0:=qh ((St.start w).alloc _ rfl #[.slice none 0 0,.slice none 0 0] 25)
 have HR:=qh (fun u => implReadExpr_any s u ht)
 obtain ⟨q,hq⟩:∃ q,readL s = q:=⟨_,rfl⟩
 have HQ:=qh hq
 have hok:=fun es h => readL_ok (s:=s) (es:=es) (hq.trans h)
 rw [hq] at ho
 clear hq
 rcases ho with ⟨rfl,rfl⟩ | ⟨es,rfl,-,ho⟩
 ·clear hok
  go_enter Tryz.func11, Tryz.ntmps11
  go_wp2_with fail
  refine (HR.out _).mono ?_
  rintro e w1 (⟨-,rfl,hb1⟩ | ⟨es,a,c,hes,-,-⟩)
  ·have HS5:=qh (HS0.out.call hb1)
   clear hb1
   have f0:=HS5.out.fr 0 0 rfl
   have f1:=HS5.out.fr 0 1 rfl
   have k0:=HS5.out.cell (v:=.slice none 0 0) 0 0 rfl rfl
   have k1:=HS5.out.cell (v:=.slice none 0 0) 0 1 rfl rfl
   go_wp2
   have hq:=(HS5.out.set 0 rfl 0 (.slice none 0 0)).set 0 rfl 1 (.slice none 0 0)
   have q0:=hq.cell (v:=.slice none 0 0) 0 0 rfl rfl
   have q1:=hq.cell (v:=.slice none 0 0) 0 1 rfl rfl
   refine bodyPost_ret (v:=.tuple #[.agg #[.slice none 0 0,.slice none 0 0],.bool false]) (by simp [results,Tryz.results11,go_sem,q0,q1]) rfl ⟨?_,hq.bel⟩
   exact ⟨none,0,none,0,rfl,zeD_own _ _ _ _ _⟩
  ·exact absurd (HQ.out.symm.trans hes) (by simp)
 ·replace hok:=hok es rfl
  have hoc:∃ t:Ex,t.post = es ∧ compE K t = o:=by
   rcases ho with ⟨-,t,h1,h2⟩ | ⟨h1,-⟩
   ·exact ⟨t,h1,h2⟩
   ·rw [hok] at h1;cases h1
  obtain ⟨t,ht1,ht2⟩:=hoc
  have hrun:runC K es [] = o.map fun d => [d]:=by rw [← ht1,← ht2];exact runC_whole hK t
  have hmin:∀ d,o = some d → minD d = d:=fun d h => comp_min hK t (ht2.trans h)
  have Hc:=qh (show ∀ (v:Value) (u:World),Pairs 0 u v es → Calls Tryz.prog 37 #[v] u fun e w' => RTt (o.getD zeD) o.isSome u.heap.size e w' ∧ Below u.heap.size u w' from fun v u h => implCompileK_any K hK es o hrun hmin v u hok h)
  obtain ⟨D,hD⟩:∃ D,o.getD zeD = D:=⟨_,rfl⟩
  obtain ⟨fb,hfb⟩:∃ fb,o.isSome = fb:=⟨_,rfl⟩
  rw [hD,hfb] at Hc
  rw [hD,hfb]
  clear hrun hmin ho ht1 ht2 hD hfb hok
  go_enter Tryz.func11, Tryz.ntmps11
  go_wp2_with fail
  refine (HR.out _).mono ?_
  rintro e w1 (⟨hno,-,-⟩ | ⟨es1,a,c,hes,rfl,hS⟩)
  ·exact absurd (HQ.out.symm.trans hno) (by simp)
  obtain rfl:es = es1:=by have:=HQ.out.symm.trans hes;simpa using this
  have HP:=qh (pairs_of_row (hS.row 0 rfl))
  have HS1:=qh (HS0.out.call hS.bel)
  clear hS hes
  go_wp2_with fail
  refine (Hc.out _ _ HP.out).mono ?_
  rintro e w2 ⟨⟨a1,c1,a2,c2,rfl,hown⟩,hb2⟩
  have hS5:=HS1.out.call hb2
  have f0:=hS5.fr 0 0 rfl
  have f1:=hS5.fr 0 1 rfl
  have k0:=hS5.cell (v:=.slice none 0 0) 0 0 rfl rfl
  have k1:=hS5.cell (v:=.slice none 0 0) 0 1 rfl rfl
  have hDM:=DMem.of hown HS1.out.size
  have hb0:=hS5.box 0 rfl
  have HS5:=qh hS5
  have HDM:=qh hDM
  have Hhb0:=qh hb0;clear hb0
  clear hS5 hown hb2 hDM
  go_wp2
  have hq:=(HS5.out.set 0 rfl 0 (.slice a1 D.next.length c1)).set 0 rfl 1 (.slice a2 D.ends.length c2)
  have q0:=hq.cell (v:=.slice a1 D.next.length c1) 0 0 rfl rfl
  have q1:=hq.cell (v:=.slice a2 D.ends.length c2) 0 1 rfl rfl
  have hm:=(HDM.out.set Hhb0.out 0 (.slice a1 D.next.length c1)).set (Hhb0.out.set 0 _) 1 (.slice a2 D.ends.length c2)
  refine bodyPost_ret (v:=.tuple #[.agg #[.slice a1 D.next.length c1,.slice a2 D.ends.length c2],.bool fb]) (by simp [results,Tryz.results11,go_sem,q0,q1]) rfl ⟨?_,hq.bel⟩
  exact ⟨a1,c1,a2,c2,rfl,_,_,rfl,hm.1,hm.2⟩
theorem specCompileText_any (K:Nat) (hK:K = 40) (s:List Nat) (o:Option DfaD) (ho:CompT K (readL s) o) (w:World) (ht:isT s) :
  Calls Tryz.prog 10 #[.string (txB s)] w fun e w' => RO o w e w':=by
 have HS0:=qh ((St.start w).alloc _ rfl #[.slice none 0 0,.slice none 0 0] 25)
 have HR:=qh (fun u => specReadExpr_any s u ht)
 obtain ⟨q,hq⟩:∃ q,readL s = q:=⟨_,rfl⟩
 have HQ:=qh hq
 rw [hq] at ho
 clear hq
 rcases ho with ⟨rfl,rfl⟩ | ⟨es,rfl,hlen,ho⟩
 ·go_enter Tryz.func10, Tryz.ntmps10
  go_wp2_with fail
  refine (HR.out _).mono ?_
  rintro e w1 (⟨-,a,c,rfl,hS⟩ | ⟨es,a,c,hes,-,-⟩)
  ·have HS5:=qh (HS0.out.call hS.bel)
   clear hS
   have f0:=HS5.out.fr 0 0 rfl
   have f1:=HS5.out.fr 0 1 rfl
   have k0:=HS5.out.cell (v:=.slice none 0 0) 0 0 rfl rfl
   have k1:=HS5.out.cell (v:=.slice none 0 0) 0 1 rfl rfl
   go_wp2
   have hq:=(HS5.out.set 0 rfl 0 (.slice none 0 0)).set 0 rfl 1 (.slice none 0 0)
   have q0:=hq.cell (v:=.slice none 0 0) 0 0 rfl rfl
   have q1:=hq.cell (v:=.slice none 0 0) 0 1 rfl rfl
   refine bodyPost_ret (v:=.tuple #[.agg #[.slice none 0 0,.slice none 0 0],.bool false]) (by simp [results,Tryz.results10,go_sem,q0,q1]) rfl ?_
   exact ⟨none,0,none,0,rfl,zeroD_r _ _,hq.bel⟩
  ·exact absurd (HQ.out.symm.trans hes) (by simp)
 ·have hc:=fun (v:Value) (u:World) (h:Pairs 0 u v es) => specCompile_any K hK es o ho v u hlen h
  unfold RO at hc ⊢
  obtain ⟨D,hD⟩:∃ D,o.getD zeroD = D:=⟨_,rfl⟩
  obtain ⟨fb,hfb⟩:∃ fb,o.isSome = fb:=⟨_,rfl⟩
  rw [hD,hfb] at hc ⊢
  have Hc:=qh hc
  clear ho hlen hc hD hfb
  go_enter Tryz.func10, Tryz.ntmps10
  go_wp2_with fail
  refine (HR.out _).mono ?_
  rintro e w1 (⟨hno,-⟩ | ⟨es1,a,c,hes,rfl,hS⟩)
  ·exact absurd (HQ.out.symm.trans hno) (by simp)
  obtain rfl:es = es1:=by have:=HQ.out.symm.trans hes;simpa using this
  have HP:=qh (pairs_of_row (hS.row 0 rfl))
  have HS1:=qh (HS0.out.call hS.bel)
  clear hS hes
  go_wp2_with fail
  refine (Hc.out _ _ HP.out).mono ?_
  rintro e w2 ⟨a1,c1,a2,c2,rfl,hr,hb2⟩
  have hS5:=HS1.out.call hb2
  have f0:=hS5.fr 0 0 rfl
  have f1:=hS5.fr 0 1 rfl
  have k0:=hS5.cell (v:=.slice none 0 0) 0 0 rfl rfl
  have k1:=hS5.cell (v:=.slice none 0 0) 0 1 rfl rfl
  have hB0:=(HS1.out.boxlt 0 rfl).2
  have hsz:=HS1.out.size
  have HS5:=qh hS5
  have HR5:=qh hr
  clear hS5 hr hb2
  go_wp2
  have hq:=(HS5.out.set 0 rfl 0 (.slice a1 D.next.length c1)).set 0 rfl 1 (.slice a2 D.ends.length c2)
  have q0:=hq.cell (v:=.slice a1 D.next.length c1) 0 0 rfl rfl
  have q1:=hq.cell (v:=.slice a2 D.ends.length c2) 0 1 rfl rfl
  refine bodyPost_ret (v:=.tuple #[.agg #[.slice a1 D.next.length c1,.slice a2 D.ends.length c2],.bool fb]) (by simp [results,Tryz.results10,go_sem,q0,q1]) rfl ?_
  exact ⟨_,_,_,_,rfl,((HR5.out.far hB0 0 _).far hB0 1 _).mono hsz,hq.bel⟩
end Go.Proofs.YtfgpkadhegdffaaGreat
