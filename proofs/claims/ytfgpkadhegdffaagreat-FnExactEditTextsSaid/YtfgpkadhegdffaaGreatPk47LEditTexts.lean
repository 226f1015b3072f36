/-
  The walk over the law FnExactEditTexts: whatever the arguments, it answers true and leaves old memory alone.
  Conditions: the texts are ones of bytes.
-/
import Derived.Test.YtfgpkadhegdffaaGreatPk44Ry
import Derived.Test.YtfgpkadhegdffaaGreatPk46Edt
set_option maxHeartbeats 16000000
set_option maxRecDepth 100000
namespace Go.Proofs.YtfgpkadhegdffaaGreat
open Go.RowKit Go.Maps
theorem exactEditTexts_walk (s:List Nat) (t:List Nat) (k:Int) (w:World) (hts:isT s) (htt:isT t) :
  Calls Tryz.prog 4 #[.string (txB s),.string (txB t),.int .i64 k] w fun e w' => e = .returned (.bool true) ∧ Below w.heap.size w w':=by
 obtain ⟨K,hK⟩:∃ K:Nat,K = 40:=⟨_,rfl⟩
 obtain ⟨o,ho⟩:=editT_ex K s t k
 have hDs:=compT_small hK ho
 have hsp:=fun (u:World) => specEditTexts_any K hK s t k o ho u hts htt
 have him:=fun (u:World) => implEditTexts_any K hK s t k o ho u hts htt
 unfold RO at hsp
 obtain ⟨D,hD⟩:∃ D,o.getD zeroD = D:=⟨_,rfl⟩
 have hD2:o.getD zeD = D:=hD
 obtain ⟨fb,hfb⟩:∃ fb,o.isSome = fb:=⟨_,rfl⟩
 rw [hD] at hDs
 rw [hD,hfb] at hsp
 rw [hD2,hfb] at him
 have Hsp:=qh hsp
 have Him:=qh him
 have HhDs:=qh hDs;clear hDs
 have HS:Hid (St w w []):=qh (St.start w)
 clear ho hK hD hD2 hfb hsp him
 have hss:=txB_size s
 have hst:=txB_size t
 by_cases hNs:1048576 < (s.length:Int)
 ·go_enter Tryz.func4, Tryz.ntmps4
  go_wp2
  go_ret
  exact ⟨rfl,HS.out.bel⟩
 by_cases hNt:1048576 < (t.length:Int)
 ·go_enter Tryz.func4, Tryz.ntmps4
  go_wp2
  go_ret
  exact ⟨rfl,HS.out.bel⟩
 go_enter Tryz.func4, Tryz.ntmps4
 go_wp2_with fail
 refine (Hsp.out _).mono ?_
 rintro e y2 ⟨b1,bc1,b2,bc2,rfl,hwr,hb⟩
 replace HS:=qh (HS.out.call hb)
 clear hb
 have HW:=qh hwr
 have HD:Hid (Below y2.heap.size y2 y2):=qh (Below.refl _ _)
 clear hwr
 have hb:=(Below.refl y2.heap.size y2).alloc (Nat.le_refl _) (.cells #[.slice b1 D.next.length bc1,.slice b2 D.ends.length bc2] 25)
 replace HD:=qh (HD.out.trans (hb.mono HD.out.size))
 clear hb
 replace HS:Hid (St w (y2.alloc (.cells #[.slice b1 D.next.length bc1,.slice b2 D.ends.length bc2] 25)) [Ent.box y2.heap.size #[.slice b1 D.next.length bc1,.slice b2 D.ends.length bc2] 25]):=qh (HS.out.alloc _ rfl _ _)
 go_wp2_with fail
 refine (Him.out _).mono ?_
 rintro e y4 ⟨⟨g1,gc1,g2,gc2,rfl,hog⟩,hb⟩
 have hn4:=hb.size
 simp only [World.size_alloc] at hog hn4
 replace HS:=qh (HS.out.call hb)
 replace HD:=qh (HD.out.trans (hb.mono HD.out.size))
 have HG:=qh hog
 clear hog hb
 have hb:=(Below.refl y4.heap.size y4).alloc (Nat.le_refl _) (.cells #[.slice g1 D.next.length gc1,.slice g2 D.ends.length gc2] 25)
 replace HD:=qh (HD.out.trans (hb.mono HD.out.size))
 replace HG:=qh (HG.out.below hb)
 clear hb
 replace HS:Hid (St w (y4.alloc (.cells #[.slice g1 D.next.length gc1,.slice g2 D.ends.length gc2] 25)) [Ent.box y2.heap.size #[.slice b1 D.next.length bc1,.slice b2 D.ends.length bc2] 25,Ent.box y4.heap.size #[.slice g1 D.next.length gc1,.slice g2 D.ends.length gc2] 25]):=qh (HS.out.alloc _ rfl _ _)
 have hbb:(fb != fb) = false:=by simp
 have c10:=HS.out.cell (v:=.slice g1 D.next.length gc1) 1 0 rfl rfl
 have c11:=HS.out.cell (v:=.slice g2 D.ends.length gc2) 1 1 rfl rfl
 have c00:=HS.out.cell (v:=.slice b1 D.next.length bc1) 0 0 rfl rfl
 have c01:=HS.out.cell (v:=.slice b2 D.ends.length bc2) 0 1 rfl rfl
 go_wp2_with fail
 refine (eqDfa_any D D _ _ _ (HG.out.r.mono (Nat.zero_le _)) (HW.out.below HD.out |> fun z => z.mono (Nat.zero_le _)) true (by simp)).mono ?_
 rintro e y6 ⟨rfl,hb⟩
 clear c00 c01 c10 c11
 replace HS:=qh (HS.out.call hb)
 replace HD:=qh (HD.out.trans (hb.mono HD.out.size))
 replace HG:=qh (HG.out.below hb)
 clear hb
 have c10:=HS.out.cell (v:=.slice g1 D.next.length gc1) 1 0 rfl rfl
 have c11:=HS.out.cell (v:=.slice g2 D.ends.length gc2) 1 1 rfl rfl
 have hsz6:=(HS.out.boxlt 1 rfl).2
 have hsz5:=(HS.out.boxlt 0 rfl).1
 go_wp2_with fail
 refine (markDfa_any D 1 (y2.heap.size+1) (y4.heap.size) _ _ (by omega) (by omega) (by have:=HhDs.out;omega) (by have:=HhDs.out;omega) (by have:=HhDs.out;omega) (by omega) HG.out).mono ?_
 rintro e l1 ⟨rfl,hg,hmk⟩
 clear c10 c11
 replace HS:=qh (HS.out.only hmk (by omega) (by
  intro x hx
  simp only [List.mem_cons,List.not_mem_nil,or_false] at hx
  rcases hx with rfl | rfl <;> (intro k hk;have hk:k = _:=hk;subst hk;omega)))
 replace HD:=qh (HD.out.trans ((hmk.below (by omega)).mono (by omega)))
 replace HG:=qh hg
 clear hmk hg
 have hkq:(1+(totD D:Int) != 1+(totD D:Int)) = false:=by simp
 have hk1:0 ≤ 1+(totD D:Int):=by omega
 have c10:=HS.out.cell (v:=.slice g1 D.next.length gc1) 1 0 rfl rfl
 have c11:=HS.out.cell (v:=.slice g2 D.ends.length gc2) 1 1 rfl rfl
 go_wp2_with fail
 refine (heldDfa_any D 1 0 _ _ (by omega) (by omega) (by have:=HhDs.out;omega) (by have:=HhDs.out;omega) (by have:=HhDs.out;omega) (HG.out.r.mono (Nat.zero_le _))).mono ?_
 rintro e y7 ⟨rfl,hb⟩
 clear c10 c11
 replace HS:=qh (HS.out.call hb)
 replace HD:=qh (HD.out.trans (hb.mono HD.out.size))
 replace HG:=qh (HG.out.below hb)
 clear hb
 go_wp2_with fail
 refine (Him.out _).mono ?_
 rintro e y9 ⟨⟨h1,hc1,h2,hc2,rfl,hog⟩,hb⟩
 replace HS:=qh (HS.out.call hb)
 replace HD:=qh (HD.out.trans (hb.mono HD.out.size))
 replace HG:=qh (HG.out.below hb)
 have HH:=qh hog
 clear hog hb
 have hb:=(Below.refl y9.heap.size y9).alloc (Nat.le_refl _) (.cells #[.slice h1 D.next.length hc1,.slice h2 D.ends.length hc2] 25)
 replace HD:=qh (HD.out.trans (hb.mono HD.out.size))
 replace HG:=qh (HG.out.below hb)
 replace HH:=qh (HH.out.below hb)
 clear hb
 replace HS:Hid (St w (y9.alloc (.cells #[.slice h1 D.next.length hc1,.slice h2 D.ends.length hc2] 25)) [Ent.box y2.heap.size #[.slice b1 D.next.length bc1,.slice b2 D.ends.length bc2] 25,Ent.box y4.heap.size #[.slice g1 D.next.length gc1,.slice g2 D.ends.length gc2] 25,Ent.box y9.heap.size #[.slice h1 D.next.length hc1,.slice h2 D.ends.length hc2] 25]):=qh (HS.out.alloc _ rfl _ _)
 have c20:=HS.out.cell (v:=.slice h1 D.next.length hc1) 2 0 rfl rfl
 have c21:=HS.out.cell (v:=.slice h2 D.ends.length hc2) 2 1 rfl rfl
 have c00:=HS.out.cell (v:=.slice b1 D.next.length bc1) 0 0 rfl rfl
 have c01:=HS.out.cell (v:=.slice b2 D.ends.length bc2) 0 1 rfl rfl
 go_wp2_with fail
 refine (eqDfa_any D D _ _ _ (HH.out.r.mono (Nat.zero_le _)) (HW.out.below HD.out |> fun z => z.mono (Nat.zero_le _)) true (by simp)).mono ?_
 rintro e y10 ⟨rfl,hb⟩
 clear c00 c01 c20 c21
 replace HS:=qh (HS.out.call hb)
 replace HD:=qh (HD.out.trans (hb.mono HD.out.size))
 replace HG:=qh (HG.out.below hb)
 clear hb
 clear HH
 have c10:=HS.out.cell (v:=.slice g1 D.next.length gc1) 1 0 rfl rfl
 have c11:=HS.out.cell (v:=.slice g2 D.ends.length gc2) 1 1 rfl rfl
 go_wp2_with fail
 refine (heldDfa_any D 1 0 _ _ (by omega) (by omega) (by have:=HhDs.out;omega) (by have:=HhDs.out;omega) (by have:=HhDs.out;omega) (HG.out.r.mono (Nat.zero_le _))).mono ?_
 rintro e y11 ⟨rfl,hb⟩
 clear c10 c11
 replace HS:=qh (HS.out.call hb)
 clear hb
 go_wp2
 go_ret
 exact ⟨rfl,HS.out.bel⟩
end Go.Proofs.YtfgpkadhegdffaaGreat
