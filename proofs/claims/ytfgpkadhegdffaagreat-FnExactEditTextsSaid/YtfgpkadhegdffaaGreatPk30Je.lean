/-
  The walk over the reference's l11Dfa at expressions with operands.
  Conditions: the expression's parts read as such.
-/
import Derived.Test.YtfgpkadhegdffaaGreatPk28Jp
import Derived.Test.YtfgpkadhegdffaaGreatPk29Jd
set_option maxHeartbeats 16000000
set_option maxRecDepth 100000
namespace Go.Proofs.YtfgpkadhegdffaaGreat
open Go.RowKit
theorem l11D_join (K:Nat) (hK:K = 40) (a b:Ex) (hl:(Ex.post (.join a b)).length ≤ 60) (ha:CallD K a) (hb:CallD K b):CallD K (.join a b):=by
 have Hla:=qh ha
 have Hlb:=qh hb
 have HK:=qh hK
 clear ha hb hK
 intro v w h
 obtain ⟨es,hes⟩:∃ es,es = Ex.post (.join a b):=⟨_,rfl⟩
 rw [← hes] at h
 have hok:exOk es = true:=by rw [hes];exact post_exOk _ hl
 have Hp:=qh h
 obtain ⟨av,cv,rfl,hc1,hc2,hrd⟩:=h.form
 obtain ⟨m,hm⟩:∃ m,es.length = m+1:=⟨es.length - 1,by have:=post_pos (.join a b);rw [← hes] at this;omega⟩
 obtain ⟨bv,ov,rfl,-,hbl,hcs⟩:=hrd (by omega)
 obtain ⟨g1,g2⟩:=hcs m (by omega)
 have hlast:es.getD m (0,0) = (4,0):=by
  have:=last_snoc (a.post ++ b.post) (4,0)
  rw [show (a.post ++ b.post) ++ [(4,0)] = es from hes.symm,hm] at this
  exact this
 rw [hlast] at g1 g2
 simp only at g1 g2
 have hspl:∀ xs ys,splits es xs ys → xs = a.post ∧ ys = b.post:=fun xs ys h => split_two (p:=(4,0)) (by decide) (by rw [hes] at h;exact h)
 have hml:(m:Int) < es.length:=by omega
 have hlen:(es.length:Int) - 1 = (m:Int):=by omega
 have hS0:=((((((((((St.start w).alloc _ rfl #[.slice none 0 0,.slice none 0 0] 25).alloc (w.heap.size+1) (by simp) #[.int .i64 0,.int .i64 0,.int .i64 0] 3).boxrow 1 3 1 [.int .i64 0,.int .i64 0,.int .i64 0] rfl rfl (by unfold maxLen;omega)).alloc (w.heap.size+1+1) (by simp) #[.slice (some ⟨w.heap.size+1,0,none⟩) 3 3] 67).boxrow 2 1 1 [.slice (some ⟨w.heap.size+1,0,none⟩) 3 3] rfl rfl (by unfold maxLen;omega)).onerow 2 1 (by decide) rfl rfl).alloc (w.heap.size+1+1+1) (by simp) #[.bool false] 4).boxrow 3 1 1 [.bool false] rfl rfl (by unfold maxLen;omega)).alloc (w.heap.size+1+1+1+1) (by simp) #[.slice (some ⟨w.heap.size+1+1,0,none⟩) 1 1,.slice (some ⟨w.heap.size+1+1+1,0,none⟩) 1 1] 25)
 have q1:=(bcell hS0.bel bv _ hbl).trans g1
 have q2:=(bcell hS0.bel bv _ hbl).trans g2
 have HS0:=qh ((hS0.alloc (w.heap.size+1+1+1+1+1) (by simp) #[.int .i64 4,.int .i64 0] 59).pick [0,2,3,4,5] (by decide))
 have Hspl:=qh hspl
 have Hhes:=qh hes;clear hes
 have Hhm:=qh hm;clear hm
 have Hhok:=qh hok;clear hok
 have Hhlast:=qh hlast;clear hlast
 clear h hcs hrd hS0 hspl
 go_enter Tryz.func58, Tryz.ntmps58
 go_wp2_with fail
 refine (l2Split_any es _ _ Hhok.out (Hp.out.below HS0.out.bel)).mono ?_
 rintro e w1 ⟨vx,vy,xs,ys,hsp,rfl,hx,hy,hb1⟩
 obtain ⟨rfl,rfl⟩:=Hspl.out _ _ hsp
 obtain ⟨ax,cx,rfl,-,-,-⟩:=hx.form
 obtain ⟨ay,cy,rfl,-,-,-⟩:=hy.form
 have hS1:=HS0.out.call hb1
 have e0:=hS1.cell (v:=.slice (some ⟨w.heap.size+1+1,0,none⟩) 1 1) 3 0 rfl rfl
 have e1:=hS1.cell (v:=.slice (some ⟨w.heap.size+1+1+1,0,none⟩) 1 1) 3 1 rfl rfl
 have hS2:=hS1.alloc _ rfl #[.slice (some ⟨w.heap.size+1+1,0,none⟩) 1 1,.slice (some ⟨w.heap.size+1+1+1,0,none⟩) 1 1] 25
 have e2:=hS2.cell (v:=.slice (some ⟨w.heap.size+1+1,0,none⟩) 1 1) 3 0 rfl rfl
 have e3:=hS2.cell (v:=.slice (some ⟨w.heap.size+1+1+1,0,none⟩) 1 1) 3 1 rfl rfl
 have hS2b:St w _ [Ent.box w.heap.size #[.slice none 0 0,.slice none 0 0] 25,Ent.rows 67 3 (.slice (some ⟨w.heap.size+1+1,0,none⟩) 1 1) [.slice (some ⟨w.heap.size+1,0,none⟩) 3 3] [[.int .i64 0,.int .i64 0,.int .i64 0]],Ent.row 4 1 (.slice (some ⟨w.heap.size+1+1+1,0,none⟩) 1 1) 1 [.bool false],Ent.box (w.heap.size+1+1+1+1) #[.slice (some ⟨w.heap.size+1+1,0,none⟩) 1 1,.slice (some ⟨w.heap.size+1+1+1,0,none⟩) 1 1] 25,Ent.box (w.heap.size+1+1+1+1+1) #[.int .i64 4,.int .i64 0] 59,Ent.box (w1.heap.size) #[.slice (some ⟨w.heap.size+1+1,0,none⟩) 1 1,.slice (some ⟨w.heap.size+1+1+1,0,none⟩) 1 1] 25,Ent.box (w1.heap.size+1) #[.slice (some ⟨w.heap.size+1+1,0,none⟩) 1 1,.slice (some ⟨w.heap.size+1+1+1,0,none⟩) 1 1] 25]:=hS2.alloc (w1.heap.size+1) (by simp) #[.slice (some ⟨w.heap.size+1+1,0,none⟩) 1 1,.slice (some ⟨w.heap.size+1+1+1,0,none⟩) 1 1] 25
 have HS2:=qh hS2b
 have HT2:=qh (((St.start w1).alloc _ rfl #[.slice (some ⟨w.heap.size+1+1,0,none⟩) 1 1,.slice (some ⟨w.heap.size+1+1+1,0,none⟩) 1 1] 25).alloc (w1.heap.size+1) (by simp) #[.slice (some ⟨w.heap.size+1+1,0,none⟩) 1 1,.slice (some ⟨w.heap.size+1+1+1,0,none⟩) 1 1] 25)
 clear hb1 hsp q1 q2 g1 g2 hS1 hS2 hS2b hml hlen
 have hxl:=post_pos a
 have hyl:=post_pos b
 have hxr:=hx.below HT2.out.bel
 obtain ⟨lx,hlx⟩:∃ n,a.post.length = n:=⟨_,rfl⟩
 obtain ⟨ly,hly⟩:∃ n,b.post.length = n:=⟨_,rfl⟩
 rw [hlx] at hxl hxr
 rw [hly] at hyl hy
 rw [hlx,hly]
 have hxg:(lx:Int) > 0:=by omega
 have hyg:(ly:Int) > 0:=by omega
 have Hx:=qh hxr
 have Hy:=qh hy
 have hA2:=(HS2.out.boxlt 5 rfl).2
 have hB2:=(HS2.out.boxlt 6 rfl).2
 have Hhlx:=qh hlx;clear hlx
 have Hhly:=qh hly;clear hly
 clear hx hy hxr
 go_wp2_with fail
 refine (Hla.out _ _ Hx.out).mono ?_
 intro e w3 hro
 have fA:=fun (hb:Below _ _ w3) => (HS2.out.call hb).fr 5 0 rfl
 have fA':=fun (hb:Below _ _ w3) => (HS2.out.call hb).fr 5 1 rfl
 cases hoa:compE K a with
 | none =>
  rw [hoa] at hro
  obtain ⟨x1,y1,x2,y2,rfl,hb3⟩:=hro.no
  have f0:=fA hb3
  have f1:=fA' hb3
  have g0:=(HS2.out.call hb3).cell (v:=.slice (some ⟨w.heap.size+1+1,0,none⟩) 1 1) 5 0 rfl rfl
  have g1:=(HS2.out.call hb3).cell (v:=.slice (some ⟨w.heap.size+1+1+1,0,none⟩) 1 1) 5 1 rfl rfl
  have hS4:St w _ [Ent.box w.heap.size #[.slice none 0 0,.slice none 0 0] 25,Ent.rows 67 3 (.slice (some ⟨w.heap.size+1+1,0,none⟩) 1 1) [.slice (some ⟨w.heap.size+1,0,none⟩) 3 3] [[.int .i64 0,.int .i64 0,.int .i64 0]],Ent.row 4 1 (.slice (some ⟨w.heap.size+1+1+1,0,none⟩) 1 1) 1 [.bool false],Ent.box (w.heap.size+1+1+1+1) #[.slice (some ⟨w.heap.size+1+1,0,none⟩) 1 1,.slice (some ⟨w.heap.size+1+1+1,0,none⟩) 1 1] 25,Ent.box (w.heap.size+1+1+1+1+1) #[.int .i64 4,.int .i64 0] 59,Ent.box (w1.heap.size) #[.slice x1 0 y1,.slice x2 0 y2] 25,Ent.box (w1.heap.size+1) #[.slice (some ⟨w.heap.size+1+1,0,none⟩) 1 1,.slice (some ⟨w.heap.size+1+1+1,0,none⟩) 1 1] 25]:=((HS2.out.call hb3).set 5 rfl 0 (.slice x1 0 y1)).set 5 rfl 1 (.slice x2 0 y2)
  have HS4:=qh hS4
  clear hS4
  have HT4:=qh (((HT2.out.call hb3).set 0 rfl 0 (.slice x1 0 y1)).set 0 rfl 1 (.slice x2 0 y2))
  clear hro hb3 fA fA'
  go_wp2_with fail
  refine (Hlb.out _ _ (Hy.out.below HT4.out.bel)).mono ?_
  intro e w5 hro
  obtain ⟨o,ho⟩:∃ o,compE K b = o:=⟨_,rfl⟩
  rw [ho] at hro
  obtain ⟨u1,v1,u2,v2,rfl,-,hb5⟩:=hro
  have f2:=(HS4.out.call hb5).fr 6 0 rfl
  have f3:=(HS4.out.call hb5).fr 6 1 rfl
  have g2:=(HS4.out.call hb5).cell (v:=.slice (some ⟨w.heap.size+1+1,0,none⟩) 1 1) 6 0 rfl rfl
  have g3:=(HS4.out.call hb5).cell (v:=.slice (some ⟨w.heap.size+1+1+1,0,none⟩) 1 1) 6 1 rfl rfl
  have hS6:St w _ [Ent.box w.heap.size #[.slice none 0 0,.slice none 0 0] 25,Ent.rows 67 3 (.slice (some ⟨w.heap.size+1+1,0,none⟩) 1 1) [.slice (some ⟨w.heap.size+1,0,none⟩) 3 3] [[.int .i64 0,.int .i64 0,.int .i64 0]],Ent.row 4 1 (.slice (some ⟨w.heap.size+1+1+1,0,none⟩) 1 1) 1 [.bool false],Ent.box (w.heap.size+1+1+1+1) #[.slice (some ⟨w.heap.size+1+1,0,none⟩) 1 1,.slice (some ⟨w.heap.size+1+1+1,0,none⟩) 1 1] 25,Ent.box (w.heap.size+1+1+1+1+1) #[.int .i64 4,.int .i64 0] 59,Ent.box (w1.heap.size) #[.slice x1 0 y1,.slice x2 0 y2] 25,Ent.box (w1.heap.size+1) #[.slice u1 (o.getD zeroD).next.length v1,.slice u2 (o.getD zeroD).ends.length v2] 25]:=((HS4.out.call hb5).set 6 rfl 0 (.slice u1 (o.getD zeroD).next.length v1)).set 6 rfl 1 (.slice u2 (o.getD zeroD).ends.length v2)
  have HS6:=qh hS6
  clear hS6
  clear hb5 f0 f1
  have f0:=HS6.out.fr 0 0 rfl
  have f1:=HS6.out.fr 0 1 rfl
  have k0:=HS6.out.cell (v:=.slice none 0 0) 0 0 rfl rfl
  have k1:=HS6.out.cell (v:=.slice none 0 0) 0 1 rfl rfl
  go_wp2
  have hq:=(HS6.out.set 0 rfl 0 (.slice none 0 0)).set 0 rfl 1 (.slice none 0 0)
  have q0:=hq.cell (v:=.slice none 0 0) 0 0 rfl rfl
  have q1:=hq.cell (v:=.slice none 0 0) 0 1 rfl rfl
  refine bodyPost_ret (v:=.tuple #[.agg #[.slice none 0 0,.slice none 0 0],.bool false]) (by simp [results,Tryz.results58,go_sem,q0,q1]) rfl ?_
  rw [show compE K (.join a b) = none from by simp only [compE,hoa,Option.bind_none]]
  exact ⟨none,0,none,0,rfl,zeroD_r _ _,hq.bel⟩
 | some x =>
  rw [hoa] at hro
  obtain ⟨x1,y1,x2,y2,rfl,hdx,hb3⟩:=hro.yes
  have hxo:=compE_ok HK.out a hoa
  have f0:=fA hb3
  have f1:=fA' hb3
  have g0:=(HS2.out.call hb3).cell (v:=.slice (some ⟨w.heap.size+1+1,0,none⟩) 1 1) 5 0 rfl rfl
  have g1:=(HS2.out.call hb3).cell (v:=.slice (some ⟨w.heap.size+1+1+1,0,none⟩) 1 1) 5 1 rfl rfl
  have hS4:St w _ [Ent.box w.heap.size #[.slice none 0 0,.slice none 0 0] 25,Ent.rows 67 3 (.slice (some ⟨w.heap.size+1+1,0,none⟩) 1 1) [.slice (some ⟨w.heap.size+1,0,none⟩) 3 3] [[.int .i64 0,.int .i64 0,.int .i64 0]],Ent.row 4 1 (.slice (some ⟨w.heap.size+1+1+1,0,none⟩) 1 1) 1 [.bool false],Ent.box (w.heap.size+1+1+1+1) #[.slice (some ⟨w.heap.size+1+1,0,none⟩) 1 1,.slice (some ⟨w.heap.size+1+1+1,0,none⟩) 1 1] 25,Ent.box (w.heap.size+1+1+1+1+1) #[.int .i64 4,.int .i64 0] 59,Ent.box (w1.heap.size) #[.slice x1 x.next.length y1,.slice x2 x.ends.length y2] 25,Ent.box (w1.heap.size+1) #[.slice (some ⟨w.heap.size+1+1,0,none⟩) 1 1,.slice (some ⟨w.heap.size+1+1+1,0,none⟩) 1 1] 25]:=((HS2.out.call hb3).set 5 rfl 0 (.slice x1 x.next.length y1)).set 5 rfl 1 (.slice x2 x.ends.length y2)
  have HS4:=qh hS4
  clear hS4
  have HT4:=qh (((HT2.out.call hb3).set 0 rfl 0 (.slice x1 x.next.length y1)).set 0 rfl 1 (.slice x2 x.ends.length y2))
  have HX4:=qh ((hdx.far hA2 0 (.slice x1 x.next.length y1)).far hA2 1 (.slice x2 x.ends.length y2))
  have hB4:=(HS4.out.boxlt 6 rfl).2
  clear hro hb3 fA fA' hdx
  go_wp2_with fail
  refine (Hlb.out _ _ (Hy.out.below HT4.out.bel)).mono ?_
  intro e w5 hro
  have fB:=fun (hb:Below _ _ w5) => (HS4.out.call hb).fr 6 0 rfl
  have fB':=fun (hb:Below _ _ w5) => (HS4.out.call hb).fr 6 1 rfl
  cases hob:compE K b with
  | none =>
   rw [hob] at hro
   obtain ⟨u1,v1,u2,v2,rfl,hb5⟩:=hro.no
   have f2:=fB hb5
   have f3:=fB' hb5
   have g2:=(HS4.out.call hb5).cell (v:=.slice (some ⟨w.heap.size+1+1,0,none⟩) 1 1) 6 0 rfl rfl
   have g3:=(HS4.out.call hb5).cell (v:=.slice (some ⟨w.heap.size+1+1+1,0,none⟩) 1 1) 6 1 rfl rfl
   have hS6:St w _ [Ent.box w.heap.size #[.slice none 0 0,.slice none 0 0] 25,Ent.rows 67 3 (.slice (some ⟨w.heap.size+1+1,0,none⟩) 1 1) [.slice (some ⟨w.heap.size+1,0,none⟩) 3 3] [[.int .i64 0,.int .i64 0,.int .i64 0]],Ent.row 4 1 (.slice (some ⟨w.heap.size+1+1+1,0,none⟩) 1 1) 1 [.bool false],Ent.box (w.heap.size+1+1+1+1) #[.slice (some ⟨w.heap.size+1+1,0,none⟩) 1 1,.slice (some ⟨w.heap.size+1+1+1,0,none⟩) 1 1] 25,Ent.box (w.heap.size+1+1+1+1+1) #[.int .i64 4,.int .i64 0] 59,Ent.box (w1.heap.size) #[.slice x1 x.next.length y1,.slice x2 x.ends.length y2] 25,Ent.box (w1.heap.size+1) #[.slice u1 0 v1,.slice u2 0 v2] 25]:=((HS4.out.call hb5).set 6 rfl 0 (.slice u1 0 v1)).set 6 rfl 1 (.slice u2 0 v2)
   have HS6:=qh hS6
   clear hS6
   clear hro hb5 f0 f1 fB fB'
   have f0:=HS6.out.fr 0 0 rfl
   have f1:=HS6.out.fr 0 1 rfl
   have k0:=HS6.out.cell (v:=.slice none 0 0) 0 0 rfl rfl
   have k1:=HS6.out.cell (v:=.slice none 0 0) 0 1 rfl rfl
   go_wp2
   have hq:=(HS6.out.set 0 rfl 0 (.slice none 0 0)).set 0 rfl 1 (.slice none 0 0)
   have q0:=hq.cell (v:=.slice none 0 0) 0 0 rfl rfl
   have q1:=hq.cell (v:=.slice none 0 0) 0 1 rfl rfl
   refine bodyPost_ret (v:=.tuple #[.agg #[.slice none 0 0,.slice none 0 0],.bool false]) (by simp [results,Tryz.results58,go_sem,q0,q1]) rfl ?_
   rw [show compE K (.join a b) = none from by simp only [compE,hoa,hob,Option.bind_none,Option.bind_some]]
   exact ⟨none,0,none,0,rfl,zeroD_r _ _,hq.bel⟩
  | some y =>
   rw [hob] at hro
   obtain ⟨u1,v1,u2,v2,rfl,hdy,hb5⟩:=hro.yes
   have hyo:=compE_ok HK.out b hob
   have f2:=fB hb5
   have f3:=fB' hb5
   have g2:=(HS4.out.call hb5).cell (v:=.slice (some ⟨w.heap.size+1+1,0,none⟩) 1 1) 6 0 rfl rfl
   have g3:=(HS4.out.call hb5).cell (v:=.slice (some ⟨w.heap.size+1+1+1,0,none⟩) 1 1) 6 1 rfl rfl
   have hS6:St w _ [Ent.box w.heap.size #[.slice none 0 0,.slice none 0 0] 25,Ent.rows 67 3 (.slice (some ⟨w.heap.size+1+1,0,none⟩) 1 1) [.slice (some ⟨w.heap.size+1,0,none⟩) 3 3] [[.int .i64 0,.int .i64 0,.int .i64 0]],Ent.row 4 1 (.slice (some ⟨w.heap.size+1+1+1,0,none⟩) 1 1) 1 [.bool false],Ent.box (w.heap.size+1+1+1+1) #[.slice (some ⟨w.heap.size+1+1,0,none⟩) 1 1,.slice (some ⟨w.heap.size+1+1+1,0,none⟩) 1 1] 25,Ent.box (w.heap.size+1+1+1+1+1) #[.int .i64 4,.int .i64 0] 59,Ent.box (w1.heap.size) #[.slice x1 x.next.length y1,.slice x2 x.ends.length y2] 25,Ent.box (w1.heap.size+1) #[.slice u1 y.next.length v1,.slice u2 y.ends.length v2] 25]:=((HS4.out.call hb5).set 6 rfl 0 (.slice u1 y.next.length v1)).set 6 rfl 1 (.slice u2 y.ends.length v2)
   have HS6:=qh hS6
   clear hS6
   have HX6:=qh (((HX4.out.below hb5).far hB2 0 (.slice u1 y.next.length v1)).far hB2 1 (.slice u2 y.ends.length v2))
   have HY6:=qh ((hdy.far hB4 0 (.slice u1 y.next.length v1)).far hB4 1 (.slice u2 y.ends.length v2))
   have e4:=HS6.out.cell (v:=.slice (some ⟨w.heap.size+1+1,0,none⟩) 1 1) 3 0 rfl rfl
   have e5:=HS6.out.cell (v:=.slice (some ⟨w.heap.size+1+1+1,0,none⟩) 1 1) 3 1 rfl rfl
   have hS7:St w _ [Ent.box w.heap.size #[.slice none 0 0,.slice none 0 0] 25,Ent.rows 67 3 (.slice (some ⟨w.heap.size+1+1,0,none⟩) 1 1) [.slice (some ⟨w.heap.size+1,0,none⟩) 3 3] [[.int .i64 0,.int .i64 0,.int .i64 0]],Ent.row 4 1 (.slice (some ⟨w.heap.size+1+1+1,0,none⟩) 1 1) 1 [.bool false],Ent.box (w.heap.size+1+1+1+1) #[.slice (some ⟨w.heap.size+1+1,0,none⟩) 1 1,.slice (some ⟨w.heap.size+1+1+1,0,none⟩) 1 1] 25,Ent.box (w.heap.size+1+1+1+1+1) #[.int .i64 4,.int .i64 0] 59,Ent.box (w1.heap.size) #[.slice x1 x.next.length y1,.slice x2 x.ends.length y2] 25,Ent.box (w1.heap.size+1) #[.slice u1 y.next.length v1,.slice u2 y.ends.length v2] 25,Ent.box (w5.heap.size) #[.slice (some ⟨w.heap.size+1+1,0,none⟩) 1 1,.slice (some ⟨w.heap.size+1+1+1,0,none⟩) 1 1] 25]:=HS6.out.alloc w5.heap.size (by simp) #[.slice (some ⟨w.heap.size+1+1,0,none⟩) 1 1,.slice (some ⟨w.heap.size+1+1+1,0,none⟩) 1 1] 25
   have HS7:=qh hS7
   clear hS7
   have hal:=(Below.refl ((w5.setCell ⟨w1.heap.size+1,0,none⟩ (.slice u1 y.next.length v1)).setCell ⟨w1.heap.size+1,1,none⟩ (.slice u2 y.ends.length v2)).heap.size _).alloc (Nat.le_refl _) (.cells #[.slice (some ⟨w.heap.size+1+1,0,none⟩) 1 1,.slice (some ⟨w.heap.size+1+1+1,0,none⟩) 1 1] 25)
   have HX7:=qh ((HX6.out.below hal).mono (Nat.zero_le _))
   have HY7:=qh ((HY6.out.below hal).mono (Nat.zero_le _))
   have p0:=HS7.out.cell (v:=.int .i64 4) 4 0 rfl rfl
   have l0:=HS7.out.cell (v:=.slice x1 x.next.length y1) 5 0 rfl rfl
   have l1:=HS7.out.cell (v:=.slice x2 x.ends.length y2) 5 1 rfl rfl
   have l2:=HS7.out.cell (v:=.slice u1 y.next.length v1) 6 0 rfl rfl
   have l3:=HS7.out.cell (v:=.slice u2 y.ends.length v2) 6 1 rfl rfl
   have hD7:=(HS7.out.boxlt 7 rfl).2
   clear hro hb5 f0 f1 fB fB' hdy hal
   go_wp2_with fail
   refine (l11Join_any K HK.out x y _ _ _ hxo hyo HX7.out HY7.out).mono ?_
   intro e w8 hro
   have fD:=fun (hb:Below _ _ w8) => (HS7.out.call hb).fr 7 0 rfl
   have fD':=fun (hb:Below _ _ w8) => (HS7.out.call hb).fr 7 1 rfl
   cases hoc:detM 81 K (wJoin x y) with
   | none =>
    rw [hoc] at hro
    obtain ⟨z1,q1,z2,q2,rfl,hb8⟩:=hro.no
    have f4:=fD hb8
    have f5:=fD' hb8
    have g4:=(HS7.out.call hb8).cell (v:=.slice (some ⟨w.heap.size+1+1,0,none⟩) 1 1) 7 0 rfl rfl
    have g5:=(HS7.out.call hb8).cell (v:=.slice (some ⟨w.heap.size+1+1+1,0,none⟩) 1 1) 7 1 rfl rfl
    have hS8:St w _ [Ent.box w.heap.size #[.slice none 0 0,.slice none 0 0] 25,Ent.rows 67 3 (.slice (some ⟨w.heap.size+1+1,0,none⟩) 1 1) [.slice (some ⟨w.heap.size+1,0,none⟩) 3 3] [[.int .i64 0,.int .i64 0,.int .i64 0]],Ent.row 4 1 (.slice (some ⟨w.heap.size+1+1+1,0,none⟩) 1 1) 1 [.bool false],Ent.box (w.heap.size+1+1+1+1) #[.slice (some ⟨w.heap.size+1+1,0,none⟩) 1 1,.slice (some ⟨w.heap.size+1+1+1,0,none⟩) 1 1] 25,Ent.box (w.heap.size+1+1+1+1+1) #[.int .i64 4,.int .i64 0] 59,Ent.box (w1.heap.size) #[.slice x1 x.next.length y1,.slice x2 x.ends.length y2] 25,Ent.box (w1.heap.size+1) #[.slice u1 y.next.length v1,.slice u2 y.ends.length v2] 25,Ent.box (w5.heap.size) #[.slice z1 0 q1,.slice z2 0 q2] 25]:=((HS7.out.call hb8).set 7 rfl 0 (.slice z1 0 q1)).set 7 rfl 1 (.slice z2 0 q2)
    have HS8:=qh hS8
    clear hS8
    clear hro hb8 f2 f3 fD fD'
    have f0:=HS8.out.fr 0 0 rfl
    have f1:=HS8.out.fr 0 1 rfl
    have k0:=HS8.out.cell (v:=.slice none 0 0) 0 0 rfl rfl
    have k1:=HS8.out.cell (v:=.slice none 0 0) 0 1 rfl rfl
    go_wp2
    have hq:=(HS8.out.set 0 rfl 0 (.slice none 0 0)).set 0 rfl 1 (.slice none 0 0)
    have q0:=hq.cell (v:=.slice none 0 0) 0 0 rfl rfl
    have q1:=hq.cell (v:=.slice none 0 0) 0 1 rfl rfl
    refine bodyPost_ret (v:=.tuple #[.agg #[.slice none 0 0,.slice none 0 0],.bool false]) (by simp [results,Tryz.results58,go_sem,q0,q1]) rfl ?_
    rw [show compE K (.join a b) = none from by simp only [compE,hoa,hob,hoc,Option.bind_some,Option.map_none]]
    exact ⟨none,0,none,0,rfl,zeroD_r _ _,hq.bel⟩
   | some z =>
    rw [hoc] at hro
    obtain ⟨z1,q1,z2,q2,rfl,hdz,hb8⟩:=hro.yes
    have hzo:dfaOk z.next z.ends = true:=detM_ok HK.out hoc
    have f4:=fD hb8
    have f5:=fD' hb8
    have g4:=(HS7.out.call hb8).cell (v:=.slice (some ⟨w.heap.size+1+1,0,none⟩) 1 1) 7 0 rfl rfl
    have g5:=(HS7.out.call hb8).cell (v:=.slice (some ⟨w.heap.size+1+1+1,0,none⟩) 1 1) 7 1 rfl rfl
    have hS8:St w _ [Ent.box w.heap.size #[.slice none 0 0,.slice none 0 0] 25,Ent.rows 67 3 (.slice (some ⟨w.heap.size+1+1,0,none⟩) 1 1) [.slice (some ⟨w.heap.size+1,0,none⟩) 3 3] [[.int .i64 0,.int .i64 0,.int .i64 0]],Ent.row 4 1 (.slice (some ⟨w.heap.size+1+1+1,0,none⟩) 1 1) 1 [.bool false],Ent.box (w.heap.size+1+1+1+1) #[.slice (some ⟨w.heap.size+1+1,0,none⟩) 1 1,.slice (some ⟨w.heap.size+1+1+1,0,none⟩) 1 1] 25,Ent.box (w.heap.size+1+1+1+1+1) #[.int .i64 4,.int .i64 0] 59,Ent.box (w1.heap.size) #[.slice x1 x.next.length y1,.slice x2 x.ends.length y2] 25,Ent.box (w1.heap.size+1) #[.slice u1 y.next.length v1,.slice u2 y.ends.length v2] 25,Ent.box (w5.heap.size) #[.slice z1 z.next.length q1,.slice z2 z.ends.length q2] 25]:=((HS7.out.call hb8).set 7 rfl 0 (.slice z1 z.next.length q1)).set 7 rfl 1 (.slice z2 z.ends.length q2)
    have HS8:=qh hS8
    clear hS8
    have HZ:=qh (((hdz.far hD7 0 (.slice z1 z.next.length q1)).far hD7 1 (.slice z2 z.ends.length q2)).mono (Nat.zero_le _))
    have d0:=HS8.out.cell (v:=.slice z1 z.next.length q1) 7 0 rfl rfl
    have d1:=HS8.out.cell (v:=.slice z2 z.ends.length q2) 7 1 rfl rfl
    clear hro hb8 f2 f3 fD fD' hdz
    go_wp2_with fail
    refine (l10Small_any z _ _ hzo HZ.out).mono ?_
    rintro e w9 ⟨s1,t1,s2,t2,rfl,hdr9,hb9⟩
    have HS9:=qh (HS8.out.call hb9)
    have HDr9:=qh hdr9
    have hB0:=(HS8.out.boxlt 0 rfl).2
    have hsz:=HS8.out.size
    have f0:=HS9.out.fr 0 0 rfl
    have f1:=HS9.out.fr 0 1 rfl
    have k0:=HS9.out.cell (v:=.slice none 0 0) 0 0 rfl rfl
    have k1:=HS9.out.cell (v:=.slice none 0 0) 0 1 rfl rfl
    clear hb9 hdr9
    go_wp2
    have hq:=(HS9.out.set 0 rfl 0 (.slice s1 (smallD (z)).next.length t1)).set 0 rfl 1 (.slice s2 (smallD (z)).ends.length t2)
    have q0:=hq.cell (v:=.slice s1 (smallD (z)).next.length t1) 0 0 rfl rfl
    have q1:=hq.cell (v:=.slice s2 (smallD (z)).ends.length t2) 0 1 rfl rfl
    refine bodyPost_ret (v:=.tuple #[.agg #[.slice s1 (smallD (z)).next.length t1,.slice s2 (smallD (z)).ends.length t2],.bool true]) (by simp [results,Tryz.results58,go_sem,q0,q1]) rfl ?_
    rw [show compE K (.join a b) = some (smallD (z)) from by simp only [compE,hoa,hob,hoc,Option.bind_some,Option.map_some]]
    exact ⟨s1,t1,s2,t2,rfl,((HDr9.out.far hB0 0 _).far hB0 1 _).mono hsz,hq.bel⟩
theorem l11D_alt (K:Nat) (hK:K = 40) (a b:Ex) (hl:(Ex.post (.alt a b)).length ≤ 60) (ha:CallD K a) (hb:CallD K b):CallD K (.alt a b):=by
 have Hla:=qh ha
 have Hlb:=qh hb
 have HK:=qh hK
 clear ha hb hK
 intro v w h
 obtain ⟨es,hes⟩:∃ es,es = Ex.post (.alt a b):=⟨_,rfl⟩
 rw [← hes] at h
 have hok:exOk es = true:=by rw [hes];exact post_exOk _ hl
 have Hp:=qh h
 obtain ⟨av,cv,rfl,hc1,hc2,hrd⟩:=h.form
 obtain ⟨m,hm⟩:∃ m,es.length = m+1:=⟨es.length - 1,by have:=post_pos (.alt a b);rw [← hes] at this;omega⟩
 obtain ⟨bv,ov,rfl,-,hbl,hcs⟩:=hrd (by omega)
 obtain ⟨g1,g2⟩:=hcs m (by omega)
 have hlast:es.getD m (0,0) = (5,0):=by
  have:=last_snoc (a.post ++ b.post) (5,0)
  rw [show (a.post ++ b.post) ++ [(5,0)] = es from hes.symm,hm] at this
  exact this
 rw [hlast] at g1 g2
 simp only at g1 g2
 have hspl:∀ xs ys,splits es xs ys → xs = a.post ∧ ys = b.post:=fun xs ys h => split_two (p:=(5,0)) (by decide) (by rw [hes] at h;exact h)
 have hml:(m:Int) < es.length:=by omega
 have hlen:(es.length:Int) - 1 = (m:Int):=by omega
 have hS0:=((((((((((St.start w).alloc _ rfl #[.slice none 0 0,.slice none 0 0] 25).alloc (w.heap.size+1) (by simp) #[.int .i64 0,.int .i64 0,.int .i64 0] 3).boxrow 1 3 1 [.int .i64 0,.int .i64 0,.int .i64 0] rfl rfl (by unfold maxLen;omega)).alloc (w.heap.size+1+1) (by simp) #[.slice (some ⟨w.heap.size+1,0,none⟩) 3 3] 67).boxrow 2 1 1 [.slice (some ⟨w.heap.size+1,0,none⟩) 3 3] rfl rfl (by unfold maxLen;omega)).onerow 2 1 (by decide) rfl rfl).alloc (w.heap.size+1+1+1) (by simp) #[.bool false] 4).boxrow 3 1 1 [.bool false] rfl rfl (by unfold maxLen;omega)).alloc (w.heap.size+1+1+1+1) (by simp) #[.slice (some ⟨w.heap.size+1+1,0,none⟩) 1 1,.slice (some ⟨w.heap.size+1+1+1,0,none⟩) 1 1] 25)
 have q1:=(bcell hS0.bel bv _ hbl).trans g1
 have q2:=(bcell hS0.bel bv _ hbl).trans g2
 have HS0:=qh ((hS0.alloc (w.heap.size+1+1+1+1+1) (by simp) #[.int .i64 5,.int .i64 0] 59).pick [0,2,3,4,5] (by decide))
 have Hspl:=qh hspl
 have Hhes:=qh hes;clear hes
 have Hhm:=qh hm;clear hm
 have Hhok:=qh hok;clear hok
 have Hhlast:=qh hlast;clear hlast
 clear h hcs hrd hS0 hspl
 go_enter Tryz.func58, Tryz.ntmps58
 go_wp2_with fail
 refine (l2Split_any es _ _ Hhok.out (Hp.out.below HS0.out.bel)).mono ?_
 rintro e w1 ⟨vx,vy,xs,ys,hsp,rfl,hx,hy,hb1⟩
 obtain ⟨rfl,rfl⟩:=Hspl.out _ _ hsp
 obtain ⟨ax,cx,rfl,-,-,-⟩:=hx.form
 obtain ⟨ay,cy,rfl,-,-,-⟩:=hy.form
 have hS1:=HS0.out.call hb1
 have e0:=hS1.cell (v:=.slice (some ⟨w.heap.size+1+1,0,none⟩) 1 1) 3 0 rfl rfl
 have e1:=hS1.cell (v:=.slice (some ⟨w.heap.size+1+1+1,0,none⟩) 1 1) 3 1 rfl rfl
 have hS2:=hS1.alloc _ rfl #[.slice (some ⟨w.heap.size+1+1,0,none⟩) 1 1,.slice (some ⟨w.heap.size+1+1+1,0,none⟩) 1 1] 25
 have e2:=hS2.cell (v:=.slice (some ⟨w.heap.size+1+1,0,none⟩) 1 1) 3 0 rfl rfl
 have e3:=hS2.cell (v:=.slice (some ⟨w.heap.size+1+1+1,0,none⟩) 1 1) 3 1 rfl rfl
 have hS2b:St w _ [Ent.box w.heap.size #[.slice none 0 0,.slice none 0 0] 25,Ent.rows 67 3 (.slice (some ⟨w.heap.size+1+1,0,none⟩) 1 1) [.slice (some ⟨w.heap.size+1,0,none⟩) 3 3] [[.int .i64 0,.int .i64 0,.int .i64 0]],Ent.row 4 1 (.slice (some ⟨w.heap.size+1+1+1,0,none⟩) 1 1) 1 [.bool false],Ent.box (w.heap.size+1+1+1+1) #[.slice (some ⟨w.heap.size+1+1,0,none⟩) 1 1,.slice (some ⟨w.heap.size+1+1+1,0,none⟩) 1 1] 25,Ent.box (w.heap.size+1+1+1+1+1) #[.int .i64 5,.int .i64 0] 59,Ent.box (w1.heap.size) #[.slice (some ⟨w.heap.size+1+1,0,none⟩) 1 1,.slice (some ⟨w.heap.size+1+1+1,0,none⟩) 1 1] 25,Ent.box (w1.heap.size+1) #[.slice (some ⟨w.heap.size+1+1,0,none⟩) 1 1,.slice (some ⟨w.heap.size+1+1+1,0,none⟩) 1 1] 25]:=hS2.alloc (w1.heap.size+1) (by simp) #[.slice (some ⟨w.heap.size+1+1,0,none⟩) 1 1,.slice (some ⟨w.heap.size+1+1+1,0,none⟩) 1 1] 25
 have HS2:=qh hS2b
 have HT2:=qh (((St.start w1).alloc _ rfl #[.slice (some ⟨w.heap.size+1+1,0,none⟩) 1 1,.slice (some ⟨w.heap.size+1+1+1,0,none⟩) 1 1] 25).alloc (w1.heap.size+1) (by simp) #[.slice (some ⟨w.heap.size+1+1,0,none⟩) 1 1,.slice (some ⟨w.heap.size+1+1+1,0,none⟩) 1 1] 25)
 clear hb1 hsp q1 q2 g1 g2 hS1 hS2 hS2b hml hlen
 have hxl:=post_pos a
 have hyl:=post_pos b
 have hxr:=hx.below HT2.out.bel
 obtain ⟨lx,hlx⟩:∃ n,a.post.length = n:=⟨_,rfl⟩
 obtain ⟨ly,hly⟩:∃ n,b.post.length = n:=⟨_,rfl⟩
 rw [hlx] at hxl hxr
 rw [hly] at hyl hy
 rw [hlx,hly]
 have hxg:(lx:Int) > 0:=by omega
 have hyg:(ly:Int) > 0:=by omega
 have Hx:=qh hxr
 have Hy:=qh hy
 have hA2:=(HS2.out.boxlt 5 rfl).2
 have hB2:=(HS2.out.boxlt 6 rfl).2
 have Hhlx:=qh hlx;clear hlx
 have Hhly:=qh hly;clear hly
 clear hx hy hxr
 go_wp2_with fail
 refine (Hla.out _ _ Hx.out).mono ?_
 intro e w3 hro
 have fA:=fun (hb:Below _ _ w3) => (HS2.out.call hb).fr 5 0 rfl
 have fA':=fun (hb:Below _ _ w3) => (HS2.out.call hb).fr 5 1 rfl
 cases hoa:compE K a with
 | none =>
  rw [hoa] at hro
  obtain ⟨x1,y1,x2,y2,rfl,hb3⟩:=hro.no
  have f0:=fA hb3
  have f1:=fA' hb3
  have g0:=(HS2.out.call hb3).cell (v:=.slice (some ⟨w.heap.size+1+1,0,none⟩) 1 1) 5 0 rfl rfl
  have g1:=(HS2.out.call hb3).cell (v:=.slice (some ⟨w.heap.size+1+1+1,0,none⟩) 1 1) 5 1 rfl rfl
  have hS4:St w _ [Ent.box w.heap.size #[.slice none 0 0,.slice none 0 0] 25,Ent.rows 67 3 (.slice (some ⟨w.heap.size+1+1,0,none⟩) 1 1) [.slice (some ⟨w.heap.size+1,0,none⟩) 3 3] [[.int .i64 0,.int .i64 0,.int .i64 0]],Ent.row 4 1 (.slice (some ⟨w.heap.size+1+1+1,0,none⟩) 1 1) 1 [.bool false],Ent.box (w.heap.size+1+1+1+1) #[.slice (some ⟨w.heap.size+1+1,0,none⟩) 1 1,.slice (some ⟨w.heap.size+1+1+1,0,none⟩) 1 1] 25,Ent.box (w.heap.size+1+1+1+1+1) #[.int .i64 5,.int .i64 0] 59,Ent.box (w1.heap.size) #[.slice x1 0 y1,.slice x2 0 y2] 25,Ent.box (w1.heap.size+1) #[.slice (some ⟨w.heap.size+1+1,0,none⟩) 1 1,.slice (some ⟨w.heap.size+1+1+1,0,none⟩) 1 1] 25]:=((HS2.out.call hb3).set 5 rfl 0 (.slice x1 0 y1)).set 5 rfl 1 (.slice x2 0 y2)
  have HS4:=qh hS4
  clear hS4
  have HT4:=qh (((HT2.out.call hb3).set 0 rfl 0 (.slice x1 0 y1)).set 0 rfl 1 (.slice x2 0 y2))
  clear hro hb3 fA fA'
  go_wp2_with fail
  refine (Hlb.out _ _ (Hy.out.below HT4.out.bel)).mono ?_
  intro e w5 hro
  obtain ⟨o,ho⟩:∃ o,compE K b = o:=⟨_,rfl⟩
  rw [ho] at hro
  obtain ⟨u1,v1,u2,v2,rfl,-,hb5⟩:=hro
  have f2:=(HS4.out.call hb5).fr 6 0 rfl
  have f3:=(HS4.out.call hb5).fr 6 1 rfl
  have g2:=(HS4.out.call hb5).cell (v:=.slice (some ⟨w.heap.size+1+1,0,none⟩) 1 1) 6 0 rfl rfl
  have g3:=(HS4.out.call hb5).cell (v:=.slice (some ⟨w.heap.size+1+1+1,0,none⟩) 1 1) 6 1 rfl rfl
  have hS6:St w _ [Ent.box w.heap.size #[.slice none 0 0,.slice none 0 0] 25,Ent.rows 67 3 (.slice (some ⟨w.heap.size+1+1,0,none⟩) 1 1) [.slice (some ⟨w.heap.size+1,0,none⟩) 3 3] [[.int .i64 0,.int .i64 0,.int .i64 0]],Ent.row 4 1 (.slice (some ⟨w.heap.size+1+1+1,0,none⟩) 1 1) 1 [.bool false],Ent.box (w.heap.size+1+1+1+1) #[.slice (some ⟨w.heap.size+1+1,0,none⟩) 1 1,.slice (some ⟨w.heap.size+1+1+1,0,none⟩) 1 1] 25,Ent.box (w.heap.size+1+1+1+1+1) #[.int .i64 5,.int .i64 0] 59,Ent.box (w1.heap.size) #[.slice x1 0 y1,.slice x2 0 y2] 25,Ent.box (w1.heap.size+1) #[.slice u1 (o.getD zeroD).next.length v1,.slice u2 (o.getD zeroD).ends.length v2] 25]:=((HS4.out.call hb5).set 6 rfl 0 (.slice u1 (o.getD zeroD).next.length v1)).set 6 rfl 1 (.slice u2 (o.getD zeroD).ends.length v2)
  have HS6:=qh hS6
  clear hS6
  clear hb5 f0 f1
  have f0:=HS6.out.fr 0 0 rfl
  have f1:=HS6.out.fr 0 1 rfl
  have k0:=HS6.out.cell (v:=.slice none 0 0) 0 0 rfl rfl
  have k1:=HS6.out.cell (v:=.slice none 0 0) 0 1 rfl rfl
  go_wp2
  have hq:=(HS6.out.set 0 rfl 0 (.slice none 0 0)).set 0 rfl 1 (.slice none 0 0)
  have q0:=hq.cell (v:=.slice none 0 0) 0 0 rfl rfl
  have q1:=hq.cell (v:=.slice none 0 0) 0 1 rfl rfl
  refine bodyPost_ret (v:=.tuple #[.agg #[.slice none 0 0,.slice none 0 0],.bool false]) (by simp [results,Tryz.results58,go_sem,q0,q1]) rfl ?_
  rw [show compE K (.alt a b) = none from by simp only [compE,hoa,Option.bind_none]]
  exact ⟨none,0,none,0,rfl,zeroD_r _ _,hq.bel⟩
 | some x =>
  rw [hoa] at hro
  obtain ⟨x1,y1,x2,y2,rfl,hdx,hb3⟩:=hro.yes
  have hxo:=compE_ok HK.out a hoa
  have f0:=fA hb3
  have f1:=fA' hb3
  have g0:=(HS2.out.call hb3).cell (v:=.slice (some ⟨w.heap.size+1+1,0,none⟩) 1 1) 5 0 rfl rfl
  have g1:=(HS2.out.call hb3).cell (v:=.slice (some ⟨w.heap.size+1+1+1,0,none⟩) 1 1) 5 1 rfl rfl
  have hS4:St w _ [Ent.box w.heap.size #[.slice none 0 0,.slice none 0 0] 25,Ent.rows 67 3 (.slice (some ⟨w.heap.size+1+1,0,none⟩) 1 1) [.slice (some ⟨w.heap.size+1,0,none⟩) 3 3] [[.int .i64 0,.int .i64 0,.int .i64 0]],Ent.row 4 1 (.slice (some ⟨w.heap.size+1+1+1,0,none⟩) 1 1) 1 [.bool false],Ent.box (w.heap.size+1+1+1+1) #[.slice (some ⟨w.heap.size+1+1,0,none⟩) 1 1,.slice (some ⟨w.heap.size+1+1+1,0,none⟩) 1 1] 25,Ent.box (w.heap.size+1+1+1+1+1) #[.int .i64 5,.int .i64 0] 59,Ent.box (w1.heap.size) #[.slice x1 x.next.length y1,.slice x2 x.ends.length y2] 25,Ent.box (w1.heap.size+1) #[.slice (some ⟨w.heap.size+1+1,0,none⟩) 1 1,.slice (some ⟨w.heap.size+1+1+1,0,none⟩) 1 1] 25]:=((HS2.out.call hb3).set 5 rfl 0 (.slice x1 x.next.length y1)).set 5 rfl 1 (.slice x2 x.ends.length y2)
  have HS4:=qh hS4
  clear hS4
  have HT4:=qh (((HT2.out.call hb3).set 0 rfl 0 (.slice x1 x.next.length y1)).set 0 rfl 1 (.slice x2 x.ends.length y2))
  have HX4:=qh ((hdx.far hA2 0 (.slice x1 x.next.length y1)).far hA2 1 (.slice x2 x.ends.length y2))
  have hB4:=(HS4.out.boxlt 6 rfl).2
  clear hro hb3 fA fA' hdx
  go_wp2_with fail
  refine (Hlb.out _ _ (Hy.out.below HT4.out.bel)).mono ?_
  intro e w5 hro
  have fB:=fun (hb:Below _ _ w5) => (HS4.out.call hb).fr 6 0 rfl
  have fB':=fun (hb:Below _ _ w5) => (HS4.out.call hb).fr 6 1 rfl
  cases hob:compE K b with
  | none =>
   rw [hob] at hro
   obtain ⟨u1,v1,u2,v2,rfl,hb5⟩:=hro.no
   have f2:=fB hb5
   have f3:=fB' hb5
   have g2:=(HS4.out.call hb5).cell (v:=.slice (some ⟨w.heap.size+1+1,0,none⟩) 1 1) 6 0 rfl rfl
   have g3:=(HS4.out.call hb5).cell (v:=.slice (some ⟨w.heap.size+1+1+1,0,none⟩) 1 1) 6 1 rfl rfl
   have hS6:St w _ [Ent.box w.heap.size #[.slice none 0 0,.slice none 0 0] 25,Ent.rows 67 3 (.slice (some ⟨w.heap.size+1+1,0,none⟩) 1 1) [.slice (some ⟨w.heap.size+1,0,none⟩) 3 3] [[.int .i64 0,.int .i64 0,.int .i64 0]],Ent.row 4 1 (.slice (some ⟨w.heap.size+1+1+1,0,none⟩) 1 1) 1 [.bool false],Ent.box (w.heap.size+1+1+1+1) #[.slice (some ⟨w.heap.size+1+1,0,none⟩) 1 1,.slice (some ⟨w.heap.size+1+1+1,0,none⟩) 1 1] 25,Ent.box (w.heap.size+1+1+1+1+1) #[.int .i64 5,.int .i64 0] 59,Ent.box (w1.heap.size) #[.slice x1 x.next.length y1,.slice x2 x.ends.length y2] 25,Ent.box (w1.heap.size+1) #[.slice u1 0 v1,.slice u2 0 v2] 25]:=((HS4.out.call hb5).set 6 rfl 0 (.slice u1 0 v1)).set 6 rfl 1 (.slice u2 0 v2)
   have HS6:=qh hS6
   clear hS6
   clear hro hb5 f0 f1 fB fB'
   have f0:=HS6.out.fr 0 0 rfl
   have f1:=HS6.out.fr 0 1 rfl
   have k0:=HS6.out.cell (v:=.slice none 0 0) 0 0 rfl rfl
   have k1:=HS6.out.cell (v:=.slice none 0 0) 0 1 rfl rfl
   go_wp2
   have hq:=(HS6.out.set 0 rfl 0 (.slice none 0 0)).set 0 rfl 1 (.slice none 0 0)
   have q0:=hq.cell (v:=.slice none 0 0) 0 0 rfl rfl
   have q1:=hq.cell (v:=.slice none 0 0) 0 1 rfl rfl
   refine bodyPost_ret (v:=.tuple #[.agg #[.slice none 0 0,.slice none 0 0],.bool false]) (by simp [results,Tryz.results58,go_sem,q0,q1]) rfl ?_
   rw [show compE K (.alt a b) = none from by simp only [compE,hoa,hob,Option.bind_none,Option.bind_some]]
   exact ⟨none,0,none,0,rfl,zeroD_r _ _,hq.bel⟩
  | some y =>
   rw [hob] at hro
   obtain ⟨u1,v1,u2,v2,rfl,hdy,hb5⟩:=hro.yes
   have hyo:=compE_ok HK.out b hob
   have f2:=fB hb5
   have f3:=fB' hb5
   have g2:=(HS4.out.call hb5).cell (v:=.slice (some ⟨w.heap.size+1+1,0,none⟩) 1 1) 6 0 rfl rfl
   have g3:=(HS4.out.call hb5).cell (v:=.slice (some ⟨w.heap.size+1+1+1,0,none⟩) 1 1) 6 1 rfl rfl
   have hS6:St w _ [Ent.box w.heap.size #[.slice none 0 0,.slice none 0 0] 25,Ent.rows 67 3 (.slice (some ⟨w.heap.size+1+1,0,none⟩) 1 1) [.slice (some ⟨w.heap.size+1,0,none⟩) 3 3] [[.int .i64 0,.int .i64 0,.int .i64 0]],Ent.row 4 1 (.slice (some ⟨w.heap.size+1+1+1,0,none⟩) 1 1) 1 [.bool false],Ent.box (w.heap.size+1+1+1+1) #[.slice (some ⟨w.heap.size+1+1,0,none⟩) 1 1,.slice (some ⟨w.heap.size+1+1+1,0,none⟩) 1 1] 25,Ent.box (w.heap.size+1+1+1+1+1) #[.int .i64 5,.int .i64 0] 59,Ent.box (w1.heap.size) #[.slice x1 x.next.length y1,.slice x2 x.ends.length y2] 25,Ent.box (w1.heap.size+1) #[.slice u1 y.next.length v1,.slice u2 y.ends.length v2] 25]:=((HS4.out.call hb5).set 6 rfl 0 (.slice u1 y.next.length v1)).set 6 rfl 1 (.slice u2 y.ends.length v2)
   have HS6:=qh hS6
   clear hS6
   have HX6:=qh (((HX4.out.below hb5).far hB2 0 (.slice u1 y.next.length v1)).far hB2 1 (.slice u2 y.ends.length v2))
   have HY6:=qh ((hdy.far hB4 0 (.slice u1 y.next.length v1)).far hB4 1 (.slice u2 y.ends.length v2))
   have e4:=HS6.out.cell (v:=.slice (some ⟨w.heap.size+1+1,0,none⟩) 1 1) 3 0 rfl rfl
   have e5:=HS6.out.cell (v:=.slice (some ⟨w.heap.size+1+1+1,0,none⟩) 1 1) 3 1 rfl rfl
   have hS7:St w _ [Ent.box w.heap.size #[.slice none 0 0,.slice none 0 0] 25,Ent.rows 67 3 (.slice (some ⟨w.heap.size+1+1,0,none⟩) 1 1) [.slice (some ⟨w.heap.size+1,0,none⟩) 3 3] [[.int .i64 0,.int .i64 0,.int .i64 0]],Ent.row 4 1 (.slice (some ⟨w.heap.size+1+1+1,0,none⟩) 1 1) 1 [.bool false],Ent.box (w.heap.size+1+1+1+1) #[.slice (some ⟨w.heap.size+1+1,0,none⟩) 1 1,.slice (some ⟨w.heap.size+1+1+1,0,none⟩) 1 1] 25,Ent.box (w.heap.size+1+1+1+1+1) #[.int .i64 5,.int .i64 0] 59,Ent.box (w1.heap.size) #[.slice x1 x.next.length y1,.slice x2 x.ends.length y2] 25,Ent.box (w1.heap.size+1) #[.slice u1 y.next.length v1,.slice u2 y.ends.length v2] 25,Ent.box (w5.heap.size) #[.slice (some ⟨w.heap.size+1+1,0,none⟩) 1 1,.slice (some ⟨w.heap.size+1+1+1,0,none⟩) 1 1] 25]:=HS6.out.alloc w5.heap.size (by simp) #[.slice (some ⟨w.heap.size+1+1,0,none⟩) 1 1,.slice (some ⟨w.heap.size+1+1+1,0,none⟩) 1 1] 25
   have HS7:=qh hS7
   clear hS7
   have hal:=(Below.refl ((w5.setCell ⟨w1.heap.size+1,0,none⟩ (.slice u1 y.next.length v1)).setCell ⟨w1.heap.size+1,1,none⟩ (.slice u2 y.ends.length v2)).heap.size _).alloc (Nat.le_refl _) (.cells #[.slice (some ⟨w.heap.size+1+1,0,none⟩) 1 1,.slice (some ⟨w.heap.size+1+1+1,0,none⟩) 1 1] 25)
   have HX7:=qh ((HX6.out.below hal).mono (Nat.zero_le _))
   have HY7:=qh ((HY6.out.below hal).mono (Nat.zero_le _))
   have p0:=HS7.out.cell (v:=.int .i64 5) 4 0 rfl rfl
   have l0:=HS7.out.cell (v:=.slice x1 x.next.length y1) 5 0 rfl rfl
   have l1:=HS7.out.cell (v:=.slice x2 x.ends.length y2) 5 1 rfl rfl
   have l2:=HS7.out.cell (v:=.slice u1 y.next.length v1) 6 0 rfl rfl
   have l3:=HS7.out.cell (v:=.slice u2 y.ends.length v2) 6 1 rfl rfl
   have hD7:=(HS7.out.boxlt 7 rfl).2
   clear hro hb5 f0 f1 fB fB' hdy hal
   go_wp2_with fail
   refine (l11Pair_any K HK.out x y 1 (fun p q => p || q) (by decide) (.inr rfl) _ _ _ hxo hyo HX7.out HY7.out).mono ?_
   intro e w8 hro
   have fD:=fun (hb:Below _ _ w8) => (HS7.out.call hb).fr 7 0 rfl
   have fD':=fun (hb:Below _ _ w8) => (HS7.out.call hb).fr 7 1 rfl
   cases hoc:pairK K (fun p q => p || q) x y with
   | none =>
    rw [hoc] at hro
    obtain ⟨z1,q1,z2,q2,rfl,hb8⟩:=hro.no
    have f4:=fD hb8
    have f5:=fD' hb8
    have g4:=(HS7.out.call hb8).cell (v:=.slice (some ⟨w.heap.size+1+1,0,none⟩) 1 1) 7 0 rfl rfl
    have g5:=(HS7.out.call hb8).cell (v:=.slice (some ⟨w.heap.size+1+1+1,0,none⟩) 1 1) 7 1 rfl rfl
    have hS8:St w _ [Ent.box w.heap.size #[.slice none 0 0,.slice none 0 0] 25,Ent.rows 67 3 (.slice (some ⟨w.heap.size+1+1,0,none⟩) 1 1) [.slice (some ⟨w.heap.size+1,0,none⟩) 3 3] [[.int .i64 0,.int .i64 0,.int .i64 0]],Ent.row 4 1 (.slice (some ⟨w.heap.size+1+1+1,0,none⟩) 1 1) 1 [.bool false],Ent.box (w.heap.size+1+1+1+1) #[.slice (some ⟨w.heap.size+1+1,0,none⟩) 1 1,.slice (some ⟨w.heap.size+1+1+1,0,none⟩) 1 1] 25,Ent.box (w.heap.size+1+1+1+1+1) #[.int .i64 5,.int .i64 0] 59,Ent.box (w1.heap.size) #[.slice x1 x.next.length y1,.slice x2 x.ends.length y2] 25,Ent.box (w1.heap.size+1) #[.slice u1 y.next.length v1,.slice u2 y.ends.length v2] 25,Ent.box (w5.heap.size) #[.slice z1 0 q1,.slice z2 0 q2] 25]:=((HS7.out.call hb8).set 7 rfl 0 (.slice z1 0 q1)).set 7 rfl 1 (.slice z2 0 q2)
    have HS8:=qh hS8
    clear hS8
    clear hro hb8 f2 f3 fD fD'
    have f0:=HS8.out.fr 0 0 rfl
    have f1:=HS8.out.fr 0 1 rfl
    have k0:=HS8.out.cell (v:=.slice none 0 0) 0 0 rfl rfl
    have k1:=HS8.out.cell (v:=.slice none 0 0) 0 1 rfl rfl
    go_wp2
    have hq:=(HS8.out.set 0 rfl 0 (.slice none 0 0)).set 0 rfl 1 (.slice none 0 0)
    have q0:=hq.cell (v:=.slice none 0 0) 0 0 rfl rfl
    have q1:=hq.cell (v:=.slice none 0 0) 0 1 rfl rfl
    refine bodyPost_ret (v:=.tuple #[.agg #[.slice none 0 0,.slice none 0 0],.bool false]) (by simp [results,Tryz.results58,go_sem,q0,q1]) rfl ?_
    rw [show compE K (.alt a b) = none from by simp only [compE,hoa,hob,hoc,Option.bind_some,Option.map_none]]
    exact ⟨none,0,none,0,rfl,zeroD_r _ _,hq.bel⟩
   | some z =>
    rw [hoc] at hro
    obtain ⟨z1,q1,z2,q2,rfl,hdz,hb8⟩:=hro.yes
    have hzo:dfaOk z.next z.ends = true:=pairK_ok HK.out hoc
    have f4:=fD hb8
    have f5:=fD' hb8
    have g4:=(HS7.out.call hb8).cell (v:=.slice (some ⟨w.heap.size+1+1,0,none⟩) 1 1) 7 0 rfl rfl
    have g5:=(HS7.out.call hb8).cell (v:=.slice (some ⟨w.heap.size+1+1+1,0,none⟩) 1 1) 7 1 rfl rfl
    have hS8:St w _ [Ent.box w.heap.size #[.slice none 0 0,.slice none 0 0] 25,Ent.rows 67 3 (.slice (some ⟨w.heap.size+1+1,0,none⟩) 1 1) [.slice (some ⟨w.heap.size+1,0,none⟩) 3 3] [[.int .i64 0,.int .i64 0,.int .i64 0]],Ent.row 4 1 (.slice (some ⟨w.heap.size+1+1+1,0,none⟩) 1 1) 1 [.bool false],Ent.box (w.heap.size+1+1+1+1) #[.slice (some ⟨w.heap.size+1+1,0,none⟩) 1 1,.slice (some ⟨w.heap.size+1+1+1,0,none⟩) 1 1] 25,Ent.box (w.heap.size+1+1+1+1+1) #[.int .i64 5,.int .i64 0] 59,Ent.box (w1.heap.size) #[.slice x1 x.next.length y1,.slice x2 x.ends.length y2] 25,Ent.box (w1.heap.size+1) #[.slice u1 y.next.length v1,.slice u2 y.ends.length v2] 25,Ent.box (w5.heap.size) #[.slice z1 z.next.length q1,.slice z2 z.ends.length q2] 25]:=((HS7.out.call hb8).set 7 rfl 0 (.slice z1 z.next.length q1)).set 7 rfl 1 (.slice z2 z.ends.length q2)
    have HS8:=qh hS8
    clear hS8
    have HZ:=qh (((hdz.far hD7 0 (.slice z1 z.next.length q1)).far hD7 1 (.slice z2 z.ends.length q2)).mono (Nat.zero_le _))
    have d0:=HS8.out.cell (v:=.slice z1 z.next.length q1) 7 0 rfl rfl
    have d1:=HS8.out.cell (v:=.slice z2 z.ends.length q2) 7 1 rfl rfl
    clear hro hb8 f2 f3 fD fD' hdz
    go_wp2_with fail
    refine (l10Small_any z _ _ hzo HZ.out).mono ?_
    rintro e w9 ⟨s1,t1,s2,t2,rfl,hdr9,hb9⟩
    have HS9:=qh (HS8.out.call hb9)
    have HDr9:=qh hdr9
    have hB0:=(HS8.out.boxlt 0 rfl).2
    have hsz:=HS8.out.size
    have f0:=HS9.out.fr 0 0 rfl
    have f1:=HS9.out.fr 0 1 rfl
    have k0:=HS9.out.cell (v:=.slice none 0 0) 0 0 rfl rfl
    have k1:=HS9.out.cell (v:=.slice none 0 0) 0 1 rfl rfl
    clear hb9 hdr9
    go_wp2
    have hq:=(HS9.out.set 0 rfl 0 (.slice s1 (smallD (z)).next.length t1)).set 0 rfl 1 (.slice s2 (smallD (z)).ends.length t2)
    have q0:=hq.cell (v:=.slice s1 (smallD (z)).next.length t1) 0 0 rfl rfl
    have q1:=hq.cell (v:=.slice s2 (smallD (z)).ends.length t2) 0 1 rfl rfl
    refine bodyPost_ret (v:=.tuple #[.agg #[.slice s1 (smallD (z)).next.length t1,.slice s2 (smallD (z)).ends.length t2],.bool true]) (by simp [results,Tryz.results58,go_sem,q0,q1]) rfl ?_
    rw [show compE K (.alt a b) = some (smallD (z)) from by simp only [compE,hoa,hob,hoc,Option.bind_some,Option.map_some]]
    exact ⟨s1,t1,s2,t2,rfl,((HDr9.out.far hB0 0 _).far hB0 1 _).mono hsz,hq.bel⟩
theorem l11D_both (K:Nat) (hK:K = 40) (a b:Ex) (hl:(Ex.post (.both a b)).length ≤ 60) (ha:CallD K a) (hb:CallD K b):CallD K (.both a b):=by
 have Hla:=qh ha
 have Hlb:=qh hb
 have HK:=qh hK
 clear ha hb hK
 intro v w h
 obtain ⟨es,hes⟩:∃ es,es = Ex.post (.both a b):=⟨_,rfl⟩
 rw [← hes] at h
 have hok:exOk es = true:=by rw [hes];exact post_exOk _ hl
 have Hp:=qh h
 obtain ⟨av,cv,rfl,hc1,hc2,hrd⟩:=h.form
 obtain ⟨m,hm⟩:∃ m,es.length = m+1:=⟨es.length - 1,by have:=post_pos (.both a b);rw [← hes] at this;omega⟩
 obtain ⟨bv,ov,rfl,-,hbl,hcs⟩:=hrd (by omega)
 obtain ⟨g1,g2⟩:=hcs m (by omega)
 have hlast:es.getD m (0,0) = (6,0):=by
  have:=last_snoc (a.post ++ b.post) (6,0)
  rw [show (a.post ++ b.post) ++ [(6,0)] = es from hes.symm,hm] at this
  exact this
 rw [hlast] at g1 g2
 simp only at g1 g2
 have hspl:∀ xs ys,splits es xs ys → xs = a.post ∧ ys = b.post:=fun xs ys h => split_two (p:=(6,0)) (by decide) (by rw [hes] at h;exact h)
 have hml:(m:Int) < es.length:=by omega
 have hlen:(es.length:Int) - 1 = (m:Int):=by omega
 have hS0:=((((((((((St.start w).alloc _ rfl #[.slice none 0 0,.slice none 0 0] 25).alloc (w.heap.size+1) (by simp) #[.int .i64 0,.int .i64 0,.int .i64 0] 3).boxrow 1 3 1 [.int .i64 0,.int .i64 0,.int .i64 0] rfl rfl (by unfold maxLen;omega)).alloc (w.heap.size+1+1) (by simp) #[.slice (some ⟨w.heap.size+1,0,none⟩) 3 3] 67).boxrow 2 1 1 [.slice (some ⟨w.heap.size+1,0,none⟩) 3 3] rfl rfl (by unfold maxLen;omega)).onerow 2 1 (by decide) rfl rfl).alloc (w.heap.size+1+1+1) (by simp) #[.bool false] 4).boxrow 3 1 1 [.bool false] rfl rfl (by unfold maxLen;omega)).alloc (w.heap.size+1+1+1+1) (by simp) #[.slice (some ⟨w.heap.size+1+1,0,none⟩) 1 1,.slice (some ⟨w.heap.size+1+1+1,0,none⟩) 1 1] 25)
 have q1:=(bcell hS0.bel bv _ hbl).trans g1
 have q2:=(bcell hS0.bel bv _ hbl).trans g2
 have HS0:=qh ((hS0.alloc (w.heap.size+1+1+1+1+1) (by simp) #[.int .i64 6,.int .i64 0] 59).pick [0,2,3,4,5] (by decide))
 have Hspl:=qh hspl
 have Hhes:=qh hes;clear hes
 have Hhm:=qh hm;clear hm
 have Hhok:=qh hok;clear hok
 have Hhlast:=qh hlast;clear hlast
 clear h hcs hrd hS0 hspl
 go_enter Tryz.func58, Tryz.ntmps58
 go_wp2_with fail
 refine (l2Split_any es _ _ Hhok.out (Hp.out.below HS0.out.bel)).mono ?_
 rintro e w1 ⟨vx,vy,xs,ys,hsp,rfl,hx,hy,hb1⟩
 obtain ⟨rfl,rfl⟩:=Hspl.out _ _ hsp
 obtain ⟨ax,cx,rfl,-,-,-⟩:=hx.form
 obtain ⟨ay,cy,rfl,-,-,-⟩:=hy.form
 have hS1:=HS0.out.call hb1
 have e0:=hS1.cell (v:=.slice (some ⟨w.heap.size+1+1,0,none⟩) 1 1) 3 0 rfl rfl
 have e1:=hS1.cell (v:=.slice (some ⟨w.heap.size+1+1+1,0,none⟩) 1 1) 3 1 rfl rfl
 have hS2:=hS1.alloc _ rfl #[.slice (some ⟨w.heap.size+1+1,0,none⟩) 1 1,.slice (some ⟨w.heap.size+1+1+1,0,none⟩) 1 1] 25
 have e2:=hS2.cell (v:=.slice (some ⟨w.heap.size+1+1,0,none⟩) 1 1) 3 0 rfl rfl
 have e3:=hS2.cell (v:=.slice (some ⟨w.heap.size+1+1+1,0,none⟩) 1 1) 3 1 rfl rfl
 have hS2b:St w _ [Ent.box w.heap.size #[.slice none 0 0,.slice none 0 0] 25,Ent.rows 67 3 (.slice (some ⟨w.heap.size+1+1,0,none⟩) 1 1) [.slice (some ⟨w.heap.size+1,0,none⟩) 3 3] [[.int .i64 0,.int .i64 0,.int .i64 0]],Ent.row 4 1 (.slice (some ⟨w.heap.size+1+1+1,0,none⟩) 1 1) 1 [.bool false],Ent.box (w.heap.size+1+1+1+1) #[.slice (some ⟨w.heap.size+1+1,0,none⟩) 1 1,.slice (some ⟨w.heap.size+1+1+1,0,none⟩) 1 1] 25,Ent.box (w.heap.size+1+1+1+1+1) #[.int .i64 6,.int .i64 0] 59,Ent.box (w1.heap.size) #[.slice (some ⟨w.heap.size+1+1,0,none⟩) 1 1,.slice (some ⟨w.heap.size+1+1+1,0,none⟩) 1 1] 25,Ent.box (w1.heap.size+1) #[.slice (some ⟨w.heap.size+1+1,0,none⟩) 1 1,.slice (some ⟨w.heap.size+1+1+1,0,none⟩) 1 1] 25]:=hS2.alloc (w1.heap.size+1) (by simp) #[.slice (some ⟨w.heap.size+1+1,0,none⟩) 1 1,.slice (some ⟨w.heap.size+1+1+1,0,none⟩) 1 1] 25
 have HS2:=qh hS2b
 have HT2:=qh (((St.start w1).alloc _ rfl #[.slice (some ⟨w.heap.size+1+1,0,none⟩) 1 1,.slice (some ⟨w.heap.size+1+1+1,0,none⟩) 1 1] 25).alloc (w1.heap.size+1) (by simp) #[.slice (some ⟨w.heap.size+1+1,0,none⟩) 1 1,.slice (some ⟨w.heap.size+1+1+1,0,none⟩) 1 1] 25)
 clear hb1 hsp q1 q2 g1 g2 hS1 hS2 hS2b hml hlen
 have hxl:=post_pos a
 have hyl:=post_pos b
 have hxr:=hx.below HT2.out.bel
 obtain ⟨lx,hlx⟩:∃ n,a.post.length = n:=⟨_,rfl⟩
 obtain ⟨ly,hly⟩:∃ n,b.post.length = n:=⟨_,rfl⟩
 rw [hlx] at hxl hxr
 rw [hly] at hyl hy
 rw [hlx,hly]
 have hxg:(lx:Int) > 0:=by omega
 have hyg:(ly:Int) > 0:=by omega
 have Hx:=qh hxr
 have Hy:=qh hy
 have hA2:=(HS2.out.boxlt 5 rfl).2
 have hB2:=(HS2.out.boxlt 6 rfl).2
 have Hhlx:=qh hlx;clear hlx
 have Hhly:=qh hly;clear hly
 clear hx hy hxr
 go_wp2_with fail
 refine (Hla.out _ _ Hx.out).mono ?_
 intro e w3 hro
 have fA:=fun (hb:Below _ _ w3) => (HS2.out.call hb).fr 5 0 rfl
 have fA':=fun (hb:Below _ _ w3) => (HS2.out.call hb).fr 5 1 rfl
 cases hoa:compE K a with
 | none =>
  rw [hoa] at hro
  obtain ⟨x1,y1,x2,y2,rfl,hb3⟩:=hro.no
  have f0:=fA hb3
  have f1:=fA' hb3
  have g0:=(HS2.out.call hb3).cell (v:=.slice (some ⟨w.heap.size+1+1,0,none⟩) 1 1) 5 0 rfl rfl
  have g1:=(HS2.out.call hb3).cell (v:=.slice (some ⟨w.heap.size+1+1+1,0,none⟩) 1 1) 5 1 rfl rfl
  have hS4:St w _ [Ent.box w.heap.size #[.slice none 0 0,.slice none 0 0] 25,Ent.rows 67 3 (.slice (some ⟨w.heap.size+1+1,0,none⟩) 1 1) [.slice (some ⟨w.heap.size+1,0,none⟩) 3 3] [[.int .i64 0,.int .i64 0,.int .i64 0]],Ent.row 4 1 (.slice (some ⟨w.heap.size+1+1+1,0,none⟩) 1 1) 1 [.bool false],Ent.box (w.heap.size+1+1+1+1) #[.slice (some ⟨w.heap.size+1+1,0,none⟩) 1 1,.slice (some ⟨w.heap.size+1+1+1,0,none⟩) 1 1] 25,Ent.box (w.heap.size+1+1+1+1+1) #[.int .i64 6,.int .i64 0] 59,Ent.box (w1.heap.size) #[.slice x1 0 y1,.slice x2 0 y2] 25,Ent.box (w1.heap.size+1) #[.slice (some ⟨w.heap.size+1+1,0,none⟩) 1 1,.slice (some ⟨w.heap.size+1+1+1,0,none⟩) 1 1] 25]:=((HS2.out.call hb3).set 5 rfl 0 (.slice x1 0 y1)).set 5 rfl 1 (.slice x2 0 y2)
  have HS4:=qh hS4
  clear hS4
  have HT4:=qh (((HT2.out.call hb3).set 0 rfl 0 (.slice x1 0 y1)).set 0 rfl 1 (.slice x2 0 y2))
  clear hro hb3 fA fA'
  go_wp2_with fail
  refine (Hlb.out _ _ (Hy.out.below HT4.out.bel)).mono ?_
  intro e w5 hro
  obtain ⟨o,ho⟩:∃ o,compE K b = o:=⟨_,rfl⟩
  rw [ho] at hro
  obtain ⟨u1,v1,u2,v2,rfl,-,hb5⟩:=hro
  have f2:=(HS4.out.call hb5).fr 6 0 rfl
  have f3:=(HS4.out.call hb5).fr 6 1 rfl
  have g2:=(HS4.out.call hb5).cell (v:=.slice (some ⟨w.heap.size+1+1,0,none⟩) 1 1) 6 0 rfl rfl
  have g3:=(HS4.out.call hb5).cell (v:=.slice (some ⟨w.heap.size+1+1+1,0,none⟩) 1 1) 6 1 rfl rfl
  have hS6:St w _ [Ent.box w.heap.size #[.slice none 0 0,.slice none 0 0] 25,Ent.rows 67 3 (.slice (some ⟨w.heap.size+1+1,0,none⟩) 1 1) [.slice (some ⟨w.heap.size+1,0,none⟩) 3 3] [[.int .i64 0,.int .i64 0,.int .i64 0]],Ent.row 4 1 (.slice (some ⟨w.heap.size+1+1+1,0,none⟩) 1 1) 1 [.bool false],Ent.box (w.heap.size+1+1+1+1) #[.slice (some ⟨w.heap.size+1+1,0,none⟩) 1 1,.slice (some ⟨w.heap.size+1+1+1,0,none⟩) 1 1] 25,Ent.box (w.heap.size+1+1+1+1+1) #[.int .i64 6,.int .i64 0] 59,Ent.box (w1.heap.size) #[.slice x1 0 y1,.slice x2 0 y2] 25,Ent.box (w1.heap.size+1) #[.slice u1 (o.getD zeroD).next.length v1,.slice u2 (o.getD zeroD).ends.length v2] 25]:=((HS4.out.call hb5).set 6 rfl 0 (.slice u1 (o.getD zeroD).next.length v1)).set 6 rfl 1 (.slice u2 (o.getD zeroD).ends.length v2)
  have HS6:=qh hS6
  clear hS6
  clear hb5 f0 f1
  have f0:=HS6.out.fr 0 0 rfl
  have f1:=HS6.out.fr 0 1 rfl
  have k0:=HS6.out.cell (v:=.slice none 0 0) 0 0 rfl rfl
  have k1:=HS6.out.cell (v:=.slice none 0 0) 0 1 rfl rfl
  go_wp2
  have hq:=(HS6.out.set 0 rfl 0 (.slice none 0 0)).set 0 rfl 1 (.slice none 0 0)
  have q0:=hq.cell (v:=.slice none 0 0) 0 0 rfl rfl
  have q1:=hq.cell (v:=.slice none 0 0) 0 1 rfl rfl
  refine bodyPost_ret (v:=.tuple #[.agg #[.slice none 0 0,.slice none 0 0],.bool false]) (by simp [results,Tryz.results58,go_sem,q0,q1]) rfl ?_
  rw [show compE K (.both a b) = none from by simp only [compE,hoa,Option.bind_none]]
  exact ⟨none,0,none,0,rfl,zeroD_r _ _,hq.bel⟩
 | some x =>
  rw [hoa] at hro
  obtain ⟨x1,y1,x2,y2,rfl,hdx,hb3⟩:=hro.yes
  have hxo:=compE_ok HK.out a hoa
  have f0:=fA hb3
  have f1:=fA' hb3
  have g0:=(HS2.out.call hb3).cell (v:=.slice (some ⟨w.heap.size+1+1,0,none⟩) 1 1) 5 0 rfl rfl
  have g1:=(HS2.out.call hb3).cell (v:=.slice (some ⟨w.heap.size+1+1+1,0,none⟩) 1 1) 5 1 rfl rfl
  have hS4:St w _ [Ent.box w.heap.size #[.slice none 0 0,.slice none 0 0] 25,Ent.rows 67 3 (.slice (some ⟨w.heap.size+1+1,0,none⟩) 1 1) [.slice (some ⟨w.heap.size+1,0,none⟩) 3 3] [[.int .i64 0,.int .i64 0,.int .i64 0]],Ent.row 4 1 (.slice (some ⟨w.heap.size+1+1+1,0,none⟩) 1 1) 1 [.bool false],Ent.box (w.heap.size+1+1+1+1) #[.slice (some ⟨w.heap.size+1+1,0,none⟩) 1 1,.slice (some ⟨w.heap.size+1+1+1,0,none⟩) 1 1] 25,Ent.box (w.heap.size+1+1+1+1+1) #[.int .i64 6,.int .i64 0] 59,Ent.box (w1.heap.size) #[.slice x1 x.next.length y1,.slice x2 x.ends.length y2] 25,Ent.box (w1.heap.size+1) #[.slice (some ⟨w.heap.size+1+1,0,none⟩) 1 1,.slice (some ⟨w.heap.size+1+1+1,0,none⟩) 1 1] 25]:=((HS2.out.call hb3).set 5 rfl 0 (.slice x1 x.next.length y1)).set 5 rfl 1 (.slice x2 x.ends.length y2)
  have HS4:=qh hS4
  clear hS4
  have HT4:=qh (((HT2.out.call hb3).set 0 rfl 0 (.slice x1 x.next.length y1)).set 0 rfl 1 (.slice x2 x.ends.length y2))
  have HX4:=qh ((hdx.far hA2 0 (.slice x1 x.next.length y1)).far hA2 1 (.slice x2 x.ends.length y2))
  have hB4:=(HS4.out.boxlt 6 rfl).2
  clear hro hb3 fA fA' hdx
  go_wp2_with fail
  refine (Hlb.out _ _ (Hy.out.below HT4.out.bel)).mono ?_
  intro e w5 hro
  have fB:=fun (hb:Below _ _ w5) => (HS4.out.call hb).fr 6 0 rfl
  have fB':=fun (hb:Below _ _ w5) => (HS4.out.call hb).fr 6 1 rfl
  cases hob:compE K b with
  | none =>
   rw [hob] at hro
   obtain ⟨u1,v1,u2,v2,rfl,hb5⟩:=hro.no
   have f2:=fB hb5
   have f3:=fB' hb5
   have g2:=(HS4.out.call hb5).cell (v:=.slice (some ⟨w.heap.size+1+1,0,none⟩) 1 1) 6 0 rfl rfl
   have g3:=(HS4.out.call hb5).cell (v:=.slice (some ⟨w.heap.size+1+1+1,0,none⟩) 1 1) 6 1 rfl rfl
   have hS6:St w _ [Ent.box w.heap.size #[.slice none 0 0,.slice none 0 0] 25,Ent.rows 67 3 (.slice (some ⟨w.heap.size+1+1,0,none⟩) 1 1) [.slice (some ⟨w.heap.size+1,0,none⟩) 3 3] [[.int .i64 0,.int .i64 0,.int .i64 0]],Ent.row 4 1 (.slice (some ⟨w.heap.size+1+1+1,0,none⟩) 1 1) 1 [.bool false],Ent.box (w.heap.size+1+1+1+1) #[.slice (some ⟨w.heap.size+1+1,0,none⟩) 1 1,.slice (some ⟨w.heap.size+1+1+1,0,none⟩) 1 1] 25,Ent.box (w.heap.size+1+1+1+1+1) #[.int .i64 6,.int .i64 0] 59,Ent.box (w1.heap.size) #[.slice x1 x.next.length y1,.slice x2 x.ends.length y2] 25,Ent.box (w1.heap.size+1) #[.slice u1 0 v1,.slice u2 0 v2] 25]:=((HS4.out.call hb5).set 6 rfl 0 (.slice u1 0 v1)).set 6 rfl 1 (.slice u2 0 v2)
   have HS6:=qh hS6
   clear hS6
   clear hro hb5 f0 f1 fB fB'
   have f0:=HS6.out.fr 0 0 rfl
   have f1:=HS6.out.fr 0 1 rfl
   have k0:=HS6.out.cell (v:=.slice none 0 0) 0 0 rfl rfl
   have k1:=HS6.out.cell (v:=.slice none 0 0) 0 1 rfl rfl
   go_wp2
   have hq:=(HS6.out.set 0 rfl 0 (.slice none 0 0)).set 0 rfl 1 (.slice none 0 0)
   have q0:=hq.cell (v:=.slice none 0 0) 0 0 rfl rfl
   have q1:=hq.cell (v:=.slice none 0 0) 0 1 rfl rfl
   refine bodyPost_ret (v:=.tuple #[.agg #[.slice none 0 0,.slice none 0 0],.bool false]) (by simp [results,Tryz.results58,go_sem,q0,q1]) rfl ?_
   rw [show compE K (.both a b) = none from by simp only [compE,hoa,hob,Option.bind_none,Option.bind_some]]
   exact ⟨none,0,none,0,rfl,zeroD_r _ _,hq.bel⟩
  | some y =>
   rw [hob] at hro
   obtain ⟨u1,v1,u2,v2,rfl,hdy,hb5⟩:=hro.yes
   have hyo:=compE_ok HK.out b hob
   have f2:=fB hb5
   have f3:=fB' hb5
   have g2:=(HS4.out.call hb5).cell (v:=.slice (some ⟨w.heap.size+1+1,0,none⟩) 1 1) 6 0 rfl rfl
   have g3:=(HS4.out.call hb5).cell (v:=.slice (some ⟨w.heap.size+1+1+1,0,none⟩) 1 1) 6 1 rfl rfl
   have hS6:St w _ [Ent.box w.heap.size #[.slice none 0 0,.slice none 0 0] 25,Ent.rows 67 3 (.slice (some ⟨w.heap.size+1+1,0,none⟩) 1 1) [.slice (some ⟨w.heap.size+1,0,none⟩) 3 3] [[.int .i64 0,.int .i64 0,.int .i64 0]],Ent.row 4 1 (.slice (some ⟨w.heap.size+1+1+1,0,none⟩) 1 1) 1 [.bool false],Ent.box (w.heap.size+1+1+1+1) #[.slice (some ⟨w.heap.size+1+1,0,none⟩) 1 1,.slice (some ⟨w.heap.size+1+1+1,0,none⟩) 1 1] 25,Ent.box (w.heap.size+1+1+1+1+1) #[.int .i64 6,.int .i64 0] 59,Ent.box (w1.heap.size) #[.slice x1 x.next.length y1,.slice x2 x.ends.length y2] 25,Ent.box (w1.heap.size+1) #[.slice u1 y.next.length v1,.slice u2 y.ends.length v2] 25]:=((HS4.out.call hb5).set 6 rfl 0 (.slice u1 y.next.length v1)).set 6 rfl 1 (.slice u2 y.ends.length v2)
   have HS6:=qh hS6
   clear hS6
   have HX6:=qh (((HX4.out.below hb5).far hB2 0 (.slice u1 y.next.length v1)).far hB2 1 (.slice u2 y.ends.length v2))
   have HY6:=qh ((hdy.far hB4 0 (.slice u1 y.next.length v1)).far hB4 1 (.slice u2 y.ends.length v2))
   have e4:=HS6.out.cell (v:=.slice (some ⟨w.heap.size+1+1,0,none⟩) 1 1) 3 0 rfl rfl
   have e5:=HS6.out.cell (v:=.slice (some ⟨w.heap.size+1+1+1,0,none⟩) 1 1) 3 1 rfl rfl
   have hS7:St w _ [Ent.box w.heap.size #[.slice none 0 0,.slice none 0 0] 25,Ent.rows 67 3 (.slice (some ⟨w.heap.size+1+1,0,none⟩) 1 1) [.slice (some ⟨w.heap.size+1,0,none⟩) 3 3] [[.int .i64 0,.int .i64 0,.int .i64 0]],Ent.row 4 1 (.slice (some ⟨w.heap.size+1+1+1,0,none⟩) 1 1) 1 [.bool false],Ent.box (w.heap.size+1+1+1+1) #[.slice (some ⟨w.heap.size+1+1,0,none⟩) 1 1,.slice (some ⟨w.heap.size+1+1+1,0,none⟩) 1 1] 25,Ent.box (w.heap.size+1+1+1+1+1) #[.int .i64 6,.int .i64 0] 59,Ent.box (w1.heap.size) #[.slice x1 x.next.length y1,.slice x2 x.ends.length y2] 25,Ent.box (w1.heap.size+1) #[.slice u1 y.next.length v1,.slice u2 y.ends.length v2] 25,Ent.box (w5.heap.size) #[.slice (some ⟨w.heap.size+1+1,0,none⟩) 1 1,.slice (some ⟨w.heap.size+1+1+1,0,none⟩) 1 1] 25]:=HS6.out.alloc w5.heap.size (by simp) #[.slice (some ⟨w.heap.size+1+1,0,none⟩) 1 1,.slice (some ⟨w.heap.size+1+1+1,0,none⟩) 1 1] 25
   have HS7:=qh hS7
   clear hS7
   have hal:=(Below.refl ((w5.setCell ⟨w1.heap.size+1,0,none⟩ (.slice u1 y.next.length v1)).setCell ⟨w1.heap.size+1,1,none⟩ (.slice u2 y.ends.length v2)).heap.size _).alloc (Nat.le_refl _) (.cells #[.slice (some ⟨w.heap.size+1+1,0,none⟩) 1 1,.slice (some ⟨w.heap.size+1+1+1,0,none⟩) 1 1] 25)
   have HX7:=qh ((HX6.out.below hal).mono (Nat.zero_le _))
   have HY7:=qh ((HY6.out.below hal).mono (Nat.zero_le _))
   have p0:=HS7.out.cell (v:=.int .i64 6) 4 0 rfl rfl
   have l0:=HS7.out.cell (v:=.slice x1 x.next.length y1) 5 0 rfl rfl
   have l1:=HS7.out.cell (v:=.slice x2 x.ends.length y2) 5 1 rfl rfl
   have l2:=HS7.out.cell (v:=.slice u1 y.next.length v1) 6 0 rfl rfl
   have l3:=HS7.out.cell (v:=.slice u2 y.ends.length v2) 6 1 rfl rfl
   have hD7:=(HS7.out.boxlt 7 rfl).2
   clear hro hb5 f0 f1 fB fB' hdy hal
   go_wp2_with fail
   refine (l11Pair_any K HK.out x y 0 (fun p q => p && q) (by decide) (.inl rfl) _ _ _ hxo hyo HX7.out HY7.out).mono ?_
   intro e w8 hro
   have fD:=fun (hb:Below _ _ w8) => (HS7.out.call hb).fr 7 0 rfl
   have fD':=fun (hb:Below _ _ w8) => (HS7.out.call hb).fr 7 1 rfl
   cases hoc:pairK K (fun p q => p && q) x y with
   | none =>
    rw [hoc] at hro
    obtain ⟨z1,q1,z2,q2,rfl,hb8⟩:=hro.no
    have f4:=fD hb8
    have f5:=fD' hb8
    have g4:=(HS7.out.call hb8).cell (v:=.slice (some ⟨w.heap.size+1+1,0,none⟩) 1 1) 7 0 rfl rfl
    have g5:=(HS7.out.call hb8).cell (v:=.slice (some ⟨w.heap.size+1+1+1,0,none⟩) 1 1) 7 1 rfl rfl
    have hS8:St w _ [Ent.box w.heap.size #[.slice none 0 0,.slice none 0 0] 25,Ent.rows 67 3 (.slice (some ⟨w.heap.size+1+1,0,none⟩) 1 1) [.slice (some ⟨w.heap.size+1,0,none⟩) 3 3] [[.int .i64 0,.int .i64 0,.int .i64 0]],Ent.row 4 1 (.slice (some ⟨w.heap.size+1+1+1,0,none⟩) 1 1) 1 [.bool false],Ent.box (w.heap.size+1+1+1+1) #[.slice (some ⟨w.heap.size+1+1,0,none⟩) 1 1,.slice (some ⟨w.heap.size+1+1+1,0,none⟩) 1 1] 25,Ent.box (w.heap.size+1+1+1+1+1) #[.int .i64 6,.int .i64 0] 59,Ent.box (w1.heap.size) #[.slice x1 x.next.length y1,.slice x2 x.ends.length y2] 25,Ent.box (w1.heap.size+1) #[.slice u1 y.next.length v1,.slice u2 y.ends.length v2] 25,Ent.box (w5.heap.size) #[.slice z1 0 q1,.slice z2 0 q2] 25]:=((HS7.out.call hb8).set 7 rfl 0 (.slice z1 0 q1)).set 7 rfl 1 (.slice z2 0 q2)
    have HS8:=qh hS8
    clear hS8
    clear hro hb8 f2 f3 fD fD'
    have f0:=HS8.out.fr 0 0 rfl
    have f1:=HS8.out.fr 0 1 rfl
    have k0:=HS8.out.cell (v:=.slice none 0 0) 0 0 rfl rfl
    have k1:=HS8.out.cell (v:=.slice none 0 0) 0 1 rfl rfl
    go_wp2
    have hq:=(HS8.out.set 0 rfl 0 (.slice none 0 0)).set 0 rfl 1 (.slice none 0 0)
    have q0:=hq.cell (v:=.slice none 0 0) 0 0 rfl rfl
    have q1:=hq.cell (v:=.slice none 0 0) 0 1 rfl rfl
    refine bodyPost_ret (v:=.tuple #[.agg #[.slice none 0 0,.slice none 0 0],.bool false]) (by simp [results,Tryz.results58,go_sem,q0,q1]) rfl ?_
    rw [show compE K (.both a b) = none from by simp only [compE,hoa,hob,hoc,Option.bind_some,Option.map_none]]
    exact ⟨none,0,none,0,rfl,zeroD_r _ _,hq.bel⟩
   | some z =>
    rw [hoc] at hro
    obtain ⟨z1,q1,z2,q2,rfl,hdz,hb8⟩:=hro.yes
    have hzo:dfaOk z.next z.ends = true:=pairK_ok HK.out hoc
    have f4:=fD hb8
    have f5:=fD' hb8
    have g4:=(HS7.out.call hb8).cell (v:=.slice (some ⟨w.heap.size+1+1,0,none⟩) 1 1) 7 0 rfl rfl
    have g5:=(HS7.out.call hb8).cell (v:=.slice (some ⟨w.heap.size+1+1+1,0,none⟩) 1 1) 7 1 rfl rfl
    have hS8:St w _ [Ent.box w.heap.size #[.slice none 0 0,.slice none 0 0] 25,Ent.rows 67 3 (.slice (some ⟨w.heap.size+1+1,0,none⟩) 1 1) [.slice (some ⟨w.heap.size+1,0,none⟩) 3 3] [[.int .i64 0,.int .i64 0,.int .i64 0]],Ent.row 4 1 (.slice (some ⟨w.heap.size+1+1+1,0,none⟩) 1 1) 1 [.bool false],Ent.box (w.heap.size+1+1+1+1) #[.slice (some ⟨w.heap.size+1+1,0,none⟩) 1 1,.slice (some ⟨w.heap.size+1+1+1,0,none⟩) 1 1] 25,Ent.box (w.heap.size+1+1+1+1+1) #[.int .i64 6,.int .i64 0] 59,Ent.box (w1.heap.size) #[.slice x1 x.next.length y1,.slice x2 x.ends.length y2] 25,Ent.box (w1.heap.size+1) #[.slice u1 y.next.length v1,.slice u2 y.ends.length v2] 25,Ent.box (w5.heap.size) #[.slice z1 z.next.length q1,.slice z2 z.ends.length q2] 25]:=((HS7.out.call hb8).set 7 rfl 0 (.slice z1 z.next.length q1)).set 7 rfl 1 (.slice z2 z.ends.length q2)
    have HS8:=qh hS8
    clear hS8
    have HZ:=qh (((hdz.far hD7 0 (.slice z1 z.next.length q1)).far hD7 1 (.slice z2 z.ends.length q2)).mono (Nat.zero_le _))
    have d0:=HS8.out.cell (v:=.slice z1 z.next.length q1) 7 0 rfl rfl
    have d1:=HS8.out.cell (v:=.slice z2 z.ends.length q2) 7 1 rfl rfl
    clear hro hb8 f2 f3 fD fD' hdz
    go_wp2_with fail
    refine (l10Small_any z _ _ hzo HZ.out).mono ?_
    rintro e w9 ⟨s1,t1,s2,t2,rfl,hdr9,hb9⟩
    have HS9:=qh (HS8.out.call hb9)
    have HDr9:=qh hdr9
    have hB0:=(HS8.out.boxlt 0 rfl).2
    have hsz:=HS8.out.size
    have f0:=HS9.out.fr 0 0 rfl
    have f1:=HS9.out.fr 0 1 rfl
    have k0:=HS9.out.cell (v:=.slice none 0 0) 0 0 rfl rfl
    have k1:=HS9.out.cell (v:=.slice none 0 0) 0 1 rfl rfl
    clear hb9 hdr9
    go_wp2
    have hq:=(HS9.out.set 0 rfl 0 (.slice s1 (smallD (z)).next.length t1)).set 0 rfl 1 (.slice s2 (smallD (z)).ends.length t2)
    have q0:=hq.cell (v:=.slice s1 (smallD (z)).next.length t1) 0 0 rfl rfl
    have q1:=hq.cell (v:=.slice s2 (smallD (z)).ends.length t2) 0 1 rfl rfl
    refine bodyPost_ret (v:=.tuple #[.agg #[.slice s1 (smallD (z)).next.length t1,.slice s2 (smallD (z)).ends.length t2],.bool true]) (by simp [results,Tryz.results58,go_sem,q0,q1]) rfl ?_
    rw [show compE K (.both a b) = some (smallD (z)) from by simp only [compE,hoa,hob,hoc,Option.bind_some,Option.map_some]]
    exact ⟨s1,t1,s2,t2,rfl,((HDr9.out.far hB0 0 _).far hB0 1 _).mono hsz,hq.bel⟩
theorem l11D_star (K:Nat) (hK:K = 40) (a:Ex) (hl:(Ex.post (.star a)).length ≤ 60) (ha:CallD K a):CallD K (.star a):=by
 have Hla:=qh ha
 have HK:=qh hK
 clear ha hK
 intro v w h
 obtain ⟨es,hes⟩:∃ es,es = Ex.post (.star a):=⟨_,rfl⟩
 rw [← hes] at h
 have hok:exOk es = true:=by rw [hes];exact post_exOk _ hl
 have Hp:=qh h
 obtain ⟨av,cv,rfl,hc1,hc2,hrd⟩:=h.form
 obtain ⟨m,hm⟩:∃ m,es.length = m+1:=⟨es.length - 1,by have:=post_pos (.star a);rw [← hes] at this;omega⟩
 obtain ⟨bv,ov,rfl,-,hbl,hcs⟩:=hrd (by omega)
 obtain ⟨g1,g2⟩:=hcs m (by omega)
 have hlast:es.getD m (0,0) = (8,0):=by
  have:=last_snoc a.post (8,0)
  rw [show a.post ++ [(8,0)] = es from hes.symm,hm] at this
  exact this
 rw [hlast] at g1 g2
 simp only at g1 g2
 have hspl:∀ xs ys,splits es xs ys → xs = a.post ∧ ys = []:=fun xs ys h => split_one (p:=(8,0)) (by decide) (by rw [hes] at h;exact h)
 have hml:(m:Int) < es.length:=by omega
 have hlen:(es.length:Int) - 1 = (m:Int):=by omega
 have hS0:=((((((((((St.start w).alloc _ rfl #[.slice none 0 0,.slice none 0 0] 25).alloc (w.heap.size+1) (by simp) #[.int .i64 0,.int .i64 0,.int .i64 0] 3).boxrow 1 3 1 [.int .i64 0,.int .i64 0,.int .i64 0] rfl rfl (by unfold maxLen;omega)).alloc (w.heap.size+1+1) (by simp) #[.slice (some ⟨w.heap.size+1,0,none⟩) 3 3] 67).boxrow 2 1 1 [.slice (some ⟨w.heap.size+1,0,none⟩) 3 3] rfl rfl (by unfold maxLen;omega)).onerow 2 1 (by decide) rfl rfl).alloc (w.heap.size+1+1+1) (by simp) #[.bool false] 4).boxrow 3 1 1 [.bool false] rfl rfl (by unfold maxLen;omega)).alloc (w.heap.size+1+1+1+1) (by simp) #[.slice (some ⟨w.heap.size+1+1,0,none⟩) 1 1,.slice (some ⟨w.heap.size+1+1+1,0,none⟩) 1 1] 25)
 have q1:=(bcell hS0.bel bv _ hbl).trans g1
 have q2:=(bcell hS0.bel bv _ hbl).trans g2
 have HS0:=qh ((hS0.alloc (w.heap.size+1+1+1+1+1) (by simp) #[.int .i64 8,.int .i64 0] 59).pick [0,2,3,4,5] (by decide))
 have Hspl:=qh hspl
 have Hhes:=qh hes;clear hes
 have Hhm:=qh hm;clear hm
 have Hhok:=qh hok;clear hok
 have Hhlast:=qh hlast;clear hlast
 clear h hcs hrd hS0 hspl
 go_enter Tryz.func58, Tryz.ntmps58
 go_wp2_with fail
 refine (l2Split_any es _ _ Hhok.out (Hp.out.below HS0.out.bel)).mono ?_
 rintro e w1 ⟨vx,vy,xs,ys,hsp,rfl,hx,hy,hb1⟩
 obtain ⟨rfl,rfl⟩:=Hspl.out _ _ hsp
 obtain ⟨ax,cx,rfl,-,-,-⟩:=hx.form
 obtain ⟨ay,cy,rfl,-,-,-⟩:=hy.form
 have hS1:=HS0.out.call hb1
 have e0:=hS1.cell (v:=.slice (some ⟨w.heap.size+1+1,0,none⟩) 1 1) 3 0 rfl rfl
 have e1:=hS1.cell (v:=.slice (some ⟨w.heap.size+1+1+1,0,none⟩) 1 1) 3 1 rfl rfl
 have hS2:=hS1.alloc _ rfl #[.slice (some ⟨w.heap.size+1+1,0,none⟩) 1 1,.slice (some ⟨w.heap.size+1+1+1,0,none⟩) 1 1] 25
 have e2:=hS2.cell (v:=.slice (some ⟨w.heap.size+1+1,0,none⟩) 1 1) 3 0 rfl rfl
 have e3:=hS2.cell (v:=.slice (some ⟨w.heap.size+1+1+1,0,none⟩) 1 1) 3 1 rfl rfl
 have hS2b:St w _ [Ent.box w.heap.size #[.slice none 0 0,.slice none 0 0] 25,Ent.rows 67 3 (.slice (some ⟨w.heap.size+1+1,0,none⟩) 1 1) [.slice (some ⟨w.heap.size+1,0,none⟩) 3 3] [[.int .i64 0,.int .i64 0,.int .i64 0]],Ent.row 4 1 (.slice (some ⟨w.heap.size+1+1+1,0,none⟩) 1 1) 1 [.bool false],Ent.box (w.heap.size+1+1+1+1) #[.slice (some ⟨w.heap.size+1+1,0,none⟩) 1 1,.slice (some ⟨w.heap.size+1+1+1,0,none⟩) 1 1] 25,Ent.box (w.heap.size+1+1+1+1+1) #[.int .i64 8,.int .i64 0] 59,Ent.box (w1.heap.size) #[.slice (some ⟨w.heap.size+1+1,0,none⟩) 1 1,.slice (some ⟨w.heap.size+1+1+1,0,none⟩) 1 1] 25,Ent.box (w1.heap.size+1) #[.slice (some ⟨w.heap.size+1+1,0,none⟩) 1 1,.slice (some ⟨w.heap.size+1+1+1,0,none⟩) 1 1] 25]:=hS2.alloc (w1.heap.size+1) (by simp) #[.slice (some ⟨w.heap.size+1+1,0,none⟩) 1 1,.slice (some ⟨w.heap.size+1+1+1,0,none⟩) 1 1] 25
 have HS2:=qh hS2b
 have HT2:=qh (((St.start w1).alloc _ rfl #[.slice (some ⟨w.heap.size+1+1,0,none⟩) 1 1,.slice (some ⟨w.heap.size+1+1+1,0,none⟩) 1 1] 25).alloc (w1.heap.size+1) (by simp) #[.slice (some ⟨w.heap.size+1+1,0,none⟩) 1 1,.slice (some ⟨w.heap.size+1+1+1,0,none⟩) 1 1] 25)
 clear hb1 hsp q1 q2 g1 g2 hS1 hS2 hS2b hml hlen
 have hxl:=post_pos a
 have hxr:=hx.below HT2.out.bel
 obtain ⟨lx,hlx⟩:∃ n,a.post.length = n:=⟨_,rfl⟩
 rw [hlx] at hxl hxr
 rw [hlx]
 have hxg:(lx:Int) > 0:=by omega
 have Hx:=qh hxr
 have hA2:=(HS2.out.boxlt 5 rfl).2
 have Hhlx:=qh hlx;clear hlx
 clear hx hy hxr
 go_wp2_with fail
 refine (Hla.out _ _ Hx.out).mono ?_
 intro e w3 hro
 have fA:=fun (hb:Below _ _ w3) => (HS2.out.call hb).fr 5 0 rfl
 have fA':=fun (hb:Below _ _ w3) => (HS2.out.call hb).fr 5 1 rfl
 cases hoa:compE K a with
 | none =>
  rw [hoa] at hro
  obtain ⟨x1,y1,x2,y2,rfl,hb3⟩:=hro.no
  have f2:=fA hb3
  have f3:=fA' hb3
  have g2:=(HS2.out.call hb3).cell (v:=.slice (some ⟨w.heap.size+1+1,0,none⟩) 1 1) 5 0 rfl rfl
  have g3:=(HS2.out.call hb3).cell (v:=.slice (some ⟨w.heap.size+1+1+1,0,none⟩) 1 1) 5 1 rfl rfl
  have hS4:St w _ [Ent.box w.heap.size #[.slice none 0 0,.slice none 0 0] 25,Ent.rows 67 3 (.slice (some ⟨w.heap.size+1+1,0,none⟩) 1 1) [.slice (some ⟨w.heap.size+1,0,none⟩) 3 3] [[.int .i64 0,.int .i64 0,.int .i64 0]],Ent.row 4 1 (.slice (some ⟨w.heap.size+1+1+1,0,none⟩) 1 1) 1 [.bool false],Ent.box (w.heap.size+1+1+1+1) #[.slice (some ⟨w.heap.size+1+1,0,none⟩) 1 1,.slice (some ⟨w.heap.size+1+1+1,0,none⟩) 1 1] 25,Ent.box (w.heap.size+1+1+1+1+1) #[.int .i64 8,.int .i64 0] 59,Ent.box (w1.heap.size) #[.slice x1 0 y1,.slice x2 0 y2] 25,Ent.box (w1.heap.size+1) #[.slice (some ⟨w.heap.size+1+1,0,none⟩) 1 1,.slice (some ⟨w.heap.size+1+1+1,0,none⟩) 1 1] 25]:=((HS2.out.call hb3).set 5 rfl 0 (.slice x1 0 y1)).set 5 rfl 1 (.slice x2 0 y2)
  have HS4:=qh hS4
  clear hS4 hro hb3 fA fA'
  have f0:=HS4.out.fr 0 0 rfl
  have f1:=HS4.out.fr 0 1 rfl
  have k0:=HS4.out.cell (v:=.slice none 0 0) 0 0 rfl rfl
  have k1:=HS4.out.cell (v:=.slice none 0 0) 0 1 rfl rfl
  go_wp2
  have hq:=(HS4.out.set 0 rfl 0 (.slice none 0 0)).set 0 rfl 1 (.slice none 0 0)
  have q0:=hq.cell (v:=.slice none 0 0) 0 0 rfl rfl
  have q1:=hq.cell (v:=.slice none 0 0) 0 1 rfl rfl
  refine bodyPost_ret (v:=.tuple #[.agg #[.slice none 0 0,.slice none 0 0],.bool false]) (by simp [results,Tryz.results58,go_sem,q0,q1]) rfl ?_
  rw [show compE K (.star a) = none from by simp only [compE,hoa,Option.bind_none]]
  exact ⟨none,0,none,0,rfl,zeroD_r _ _,hq.bel⟩
 | some x =>
  rw [hoa] at hro
  obtain ⟨x1,y1,x2,y2,rfl,hdx,hb3⟩:=hro.yes
  have hxo:=compE_ok HK.out a hoa
  have f2:=fA hb3
  have f3:=fA' hb3
  have g2:=(HS2.out.call hb3).cell (v:=.slice (some ⟨w.heap.size+1+1,0,none⟩) 1 1) 5 0 rfl rfl
  have g3:=(HS2.out.call hb3).cell (v:=.slice (some ⟨w.heap.size+1+1+1,0,none⟩) 1 1) 5 1 rfl rfl
  have hS6:St w _ [Ent.box w.heap.size #[.slice none 0 0,.slice none 0 0] 25,Ent.rows 67 3 (.slice (some ⟨w.heap.size+1+1,0,none⟩) 1 1) [.slice (some ⟨w.heap.size+1,0,none⟩) 3 3] [[.int .i64 0,.int .i64 0,.int .i64 0]],Ent.row 4 1 (.slice (some ⟨w.heap.size+1+1+1,0,none⟩) 1 1) 1 [.bool false],Ent.box (w.heap.size+1+1+1+1) #[.slice (some ⟨w.heap.size+1+1,0,none⟩) 1 1,.slice (some ⟨w.heap.size+1+1+1,0,none⟩) 1 1] 25,Ent.box (w.heap.size+1+1+1+1+1) #[.int .i64 8,.int .i64 0] 59,Ent.box (w1.heap.size) #[.slice x1 x.next.length y1,.slice x2 x.ends.length y2] 25,Ent.box (w1.heap.size+1) #[.slice (some ⟨w.heap.size+1+1,0,none⟩) 1 1,.slice (some ⟨w.heap.size+1+1+1,0,none⟩) 1 1] 25]:=((HS2.out.call hb3).set 5 rfl 0 (.slice x1 x.next.length y1)).set 5 rfl 1 (.slice x2 x.ends.length y2)
  have HS6:=qh hS6
  clear hS6
  have HX6:=qh ((hdx.far hA2 0 (.slice x1 x.next.length y1)).far hA2 1 (.slice x2 x.ends.length y2))
  have e4:=HS6.out.cell (v:=.slice (some ⟨w.heap.size+1+1,0,none⟩) 1 1) 3 0 rfl rfl
  have e5:=HS6.out.cell (v:=.slice (some ⟨w.heap.size+1+1+1,0,none⟩) 1 1) 3 1 rfl rfl
  have hS7:St w _ [Ent.box w.heap.size #[.slice none 0 0,.slice none 0 0] 25,Ent.rows 67 3 (.slice (some ⟨w.heap.size+1+1,0,none⟩) 1 1) [.slice (some ⟨w.heap.size+1,0,none⟩) 3 3] [[.int .i64 0,.int .i64 0,.int .i64 0]],Ent.row 4 1 (.slice (some ⟨w.heap.size+1+1+1,0,none⟩) 1 1) 1 [.bool false],Ent.box (w.heap.size+1+1+1+1) #[.slice (some ⟨w.heap.size+1+1,0,none⟩) 1 1,.slice (some ⟨w.heap.size+1+1+1,0,none⟩) 1 1] 25,Ent.box (w.heap.size+1+1+1+1+1) #[.int .i64 8,.int .i64 0] 59,Ent.box (w1.heap.size) #[.slice x1 x.next.length y1,.slice x2 x.ends.length y2] 25,Ent.box (w1.heap.size+1) #[.slice (some ⟨w.heap.size+1+1,0,none⟩) 1 1,.slice (some ⟨w.heap.size+1+1+1,0,none⟩) 1 1] 25,Ent.box (w3.heap.size) #[.slice (some ⟨w.heap.size+1+1,0,none⟩) 1 1,.slice (some ⟨w.heap.size+1+1+1,0,none⟩) 1 1] 25]:=HS6.out.alloc w3.heap.size (by simp) #[.slice (some ⟨w.heap.size+1+1,0,none⟩) 1 1,.slice (some ⟨w.heap.size+1+1+1,0,none⟩) 1 1] 25
  have HS7:=qh hS7
  have hal:=(Below.refl ((w3.setCell ⟨w1.heap.size,0,none⟩ (.slice x1 x.next.length y1)).setCell ⟨w1.heap.size,1,none⟩ (.slice x2 x.ends.length y2)).heap.size _).alloc (Nat.le_refl _) (.cells #[.slice (some ⟨w.heap.size+1+1,0,none⟩) 1 1,.slice (some ⟨w.heap.size+1+1+1,0,none⟩) 1 1] 25)
  have HX7:=qh ((HX6.out.below hal).mono (Nat.zero_le _))
  have p0:=HS7.out.cell (v:=.int .i64 8) 4 0 rfl rfl
  have l0:=HS7.out.cell (v:=.slice x1 x.next.length y1) 5 0 rfl rfl
  have l1:=HS7.out.cell (v:=.slice x2 x.ends.length y2) 5 1 rfl rfl
  have hD7:=(HS7.out.boxlt 7 rfl).2
  clear hS7 hro hb3 fA fA' hdx hal
  go_wp2_with fail
  refine (l11Star_any K HK.out x _ _ hxo HX7.out).mono ?_
  intro e w8 hro
  have fD:=fun (hb:Below _ _ w8) => (HS7.out.call hb).fr 7 0 rfl
  have fD':=fun (hb:Below _ _ w8) => (HS7.out.call hb).fr 7 1 rfl
  cases hoc:detM 81 K (wStar x) with
  | none =>
   rw [hoc] at hro
   obtain ⟨z1,q1,z2,q2,rfl,hb8⟩:=hro.no
   have f4:=fD hb8
   have f5:=fD' hb8
   have g4:=(HS7.out.call hb8).cell (v:=.slice (some ⟨w.heap.size+1+1,0,none⟩) 1 1) 7 0 rfl rfl
   have g5:=(HS7.out.call hb8).cell (v:=.slice (some ⟨w.heap.size+1+1+1,0,none⟩) 1 1) 7 1 rfl rfl
   have hS8:St w _ [Ent.box w.heap.size #[.slice none 0 0,.slice none 0 0] 25,Ent.rows 67 3 (.slice (some ⟨w.heap.size+1+1,0,none⟩) 1 1) [.slice (some ⟨w.heap.size+1,0,none⟩) 3 3] [[.int .i64 0,.int .i64 0,.int .i64 0]],Ent.row 4 1 (.slice (some ⟨w.heap.size+1+1+1,0,none⟩) 1 1) 1 [.bool false],Ent.box (w.heap.size+1+1+1+1) #[.slice (some ⟨w.heap.size+1+1,0,none⟩) 1 1,.slice (some ⟨w.heap.size+1+1+1,0,none⟩) 1 1] 25,Ent.box (w.heap.size+1+1+1+1+1) #[.int .i64 8,.int .i64 0] 59,Ent.box (w1.heap.size) #[.slice x1 x.next.length y1,.slice x2 x.ends.length y2] 25,Ent.box (w1.heap.size+1) #[.slice (some ⟨w.heap.size+1+1,0,none⟩) 1 1,.slice (some ⟨w.heap.size+1+1+1,0,none⟩) 1 1] 25,Ent.box (w3.heap.size) #[.slice z1 0 q1,.slice z2 0 q2] 25]:=((HS7.out.call hb8).set 7 rfl 0 (.slice z1 0 q1)).set 7 rfl 1 (.slice z2 0 q2)
   have HS8:=qh hS8
   clear hS8 hro hb8 f2 f3 fD fD'
   have f0:=HS8.out.fr 0 0 rfl
   have f1:=HS8.out.fr 0 1 rfl
   have k0:=HS8.out.cell (v:=.slice none 0 0) 0 0 rfl rfl
   have k1:=HS8.out.cell (v:=.slice none 0 0) 0 1 rfl rfl
   go_wp2
   have hq:=(HS8.out.set 0 rfl 0 (.slice none 0 0)).set 0 rfl 1 (.slice none 0 0)
   have q0:=hq.cell (v:=.slice none 0 0) 0 0 rfl rfl
   have q1:=hq.cell (v:=.slice none 0 0) 0 1 rfl rfl
   refine bodyPost_ret (v:=.tuple #[.agg #[.slice none 0 0,.slice none 0 0],.bool false]) (by simp [results,Tryz.results58,go_sem,q0,q1]) rfl ?_
   rw [show compE K (.star a) = none from by simp only [compE,hoa,hoc,Option.bind_some,Option.map_none]]
   exact ⟨none,0,none,0,rfl,zeroD_r _ _,hq.bel⟩
  | some z =>
   rw [hoc] at hro
   obtain ⟨z1,q1,z2,q2,rfl,hdz,hb8⟩:=hro.yes
   have hzo:dfaOk z.next z.ends = true:=detM_ok HK.out hoc
   have f4:=fD hb8
   have f5:=fD' hb8
   have g4:=(HS7.out.call hb8).cell (v:=.slice (some ⟨w.heap.size+1+1,0,none⟩) 1 1) 7 0 rfl rfl
   have g5:=(HS7.out.call hb8).cell (v:=.slice (some ⟨w.heap.size+1+1+1,0,none⟩) 1 1) 7 1 rfl rfl
   have hS8:St w _ [Ent.box w.heap.size #[.slice none 0 0,.slice none 0 0] 25,Ent.rows 67 3 (.slice (some ⟨w.heap.size+1+1,0,none⟩) 1 1) [.slice (some ⟨w.heap.size+1,0,none⟩) 3 3] [[.int .i64 0,.int .i64 0,.int .i64 0]],Ent.row 4 1 (.slice (some ⟨w.heap.size+1+1+1,0,none⟩) 1 1) 1 [.bool false],Ent.box (w.heap.size+1+1+1+1) #[.slice (some ⟨w.heap.size+1+1,0,none⟩) 1 1,.slice (some ⟨w.heap.size+1+1+1,0,none⟩) 1 1] 25,Ent.box (w.heap.size+1+1+1+1+1) #[.int .i64 8,.int .i64 0] 59,Ent.box (w1.heap.size) #[.slice x1 x.next.length y1,.slice x2 x.ends.length y2] 25,Ent.box (w1.heap.size+1) #[.slice (some ⟨w.heap.size+1+1,0,none⟩) 1 1,.slice (some ⟨w.heap.size+1+1+1,0,none⟩) 1 1] 25,Ent.box (w3.heap.size) #[.slice z1 z.next.length q1,.slice z2 z.ends.length q2] 25]:=((HS7.out.call hb8).set 7 rfl 0 (.slice z1 z.next.length q1)).set 7 rfl 1 (.slice z2 z.ends.length q2)
   have HS8:=qh hS8
   have HZ:=qh (((hdz.far hD7 0 (.slice z1 z.next.length q1)).far hD7 1 (.slice z2 z.ends.length q2)).mono (Nat.zero_le _))
   have d0:=HS8.out.cell (v:=.slice z1 z.next.length q1) 7 0 rfl rfl
   have d1:=HS8.out.cell (v:=.slice z2 z.ends.length q2) 7 1 rfl rfl
   clear hS8 hro hb8 f2 f3 fD fD' hdz
   go_wp2_with fail
   refine (l10Small_any z _ _ hzo HZ.out).mono ?_
   rintro e w9 ⟨s1,t1,s2,t2,rfl,hdr9,hb9⟩
   have HS9:=qh (HS8.out.call hb9)
   have HDr9:=qh hdr9
   have hB0:=(HS8.out.boxlt 0 rfl).2
   have hsz:=HS8.out.size
   have f0:=HS9.out.fr 0 0 rfl
   have f1:=HS9.out.fr 0 1 rfl
   have k0:=HS9.out.cell (v:=.slice none 0 0) 0 0 rfl rfl
   have k1:=HS9.out.cell (v:=.slice none 0 0) 0 1 rfl rfl
   clear hb9 hdr9
   go_wp2
   have hq:=(HS9.out.set 0 rfl 0 (.slice s1 (smallD (z)).next.length t1)).set 0 rfl 1 (.slice s2 (smallD (z)).ends.length t2)
   have q0:=hq.cell (v:=.slice s1 (smallD (z)).next.length t1) 0 0 rfl rfl
   have q1:=hq.cell (v:=.slice s2 (smallD (z)).ends.length t2) 0 1 rfl rfl
   refine bodyPost_ret (v:=.tuple #[.agg #[.slice s1 (smallD (z)).next.length t1,.slice s2 (smallD (z)).ends.length t2],.bool true]) (by simp [results,Tryz.results58,go_sem,q0,q1]) rfl ?_
   rw [show compE K (.star a) = some (smallD (z)) from by simp only [compE,hoa,hoc,Option.bind_some,Option.map_some]]
   exact ⟨s1,t1,s2,t2,rfl,((HDr9.out.far hB0 0 _).far hB0 1 _).mono hsz,hq.bel⟩
theorem l11D_neg (K:Nat) (hK:K = 40) (a:Ex) (hl:(Ex.post (.neg a)).length ≤ 60) (ha:CallD K a):CallD K (.neg a):=by
 have Hla:=qh ha
 have HK:=qh hK
 clear ha hK
 intro v w h
 obtain ⟨es,hes⟩:∃ es,es = Ex.post (.neg a):=⟨_,rfl⟩
 rw [← hes] at h
 have hok:exOk es = true:=by rw [hes];exact post_exOk _ hl
 have Hp:=qh h
 obtain ⟨av,cv,rfl,hc1,hc2,hrd⟩:=h.form
 obtain ⟨m,hm⟩:∃ m,es.length = m+1:=⟨es.length - 1,by have:=post_pos (.neg a);rw [← hes] at this;omega⟩
 obtain ⟨bv,ov,rfl,-,hbl,hcs⟩:=hrd (by omega)
 obtain ⟨g1,g2⟩:=hcs m (by omega)
 have hlast:es.getD m (0,0) = (7,0):=by
  have:=last_snoc a.post (7,0)
  rw [show a.post ++ [(7,0)] = es from hes.symm,hm] at this
  exact this
 rw [hlast] at g1 g2
 simp only at g1 g2
 have hspl:∀ xs ys,splits es xs ys → xs = a.post ∧ ys = []:=fun xs ys h => split_one (p:=(7,0)) (by decide) (by rw [hes] at h;exact h)
 have hml:(m:Int) < es.length:=by omega
 have hlen:(es.length:Int) - 1 = (m:Int):=by omega
 have hS0:=((((((((((St.start w).alloc _ rfl #[.slice none 0 0,.slice none 0 0] 25).alloc (w.heap.size+1) (by simp) #[.int .i64 0,.int .i64 0,.int .i64 0] 3).boxrow 1 3 1 [.int .i64 0,.int .i64 0,.int .i64 0] rfl rfl (by unfold maxLen;omega)).alloc (w.heap.size+1+1) (by simp) #[.slice (some ⟨w.heap.size+1,0,none⟩) 3 3] 67).boxrow 2 1 1 [.slice (some ⟨w.heap.size+1,0,none⟩) 3 3] rfl rfl (by unfold maxLen;omega)).onerow 2 1 (by decide) rfl rfl).alloc (w.heap.size+1+1+1) (by simp) #[.bool false] 4).boxrow 3 1 1 [.bool false] rfl rfl (by unfold maxLen;omega)).alloc (w.heap.size+1+1+1+1) (by simp) #[.slice (some ⟨w.heap.size+1+1,0,none⟩) 1 1,.slice (some ⟨w.heap.size+1+1+1,0,none⟩) 1 1] 25)
 have q1:=(bcell hS0.bel bv _ hbl).trans g1
 have q2:=(bcell hS0.bel bv _ hbl).trans g2
 have HS0:=qh ((hS0.alloc (w.heap.size+1+1+1+1+1) (by simp) #[.int .i64 7,.int .i64 0] 59).pick [0,2,3,4,5] (by decide))
 have Hspl:=qh hspl
 have Hhes:=qh hes;clear hes
 have Hhm:=qh hm;clear hm
 have Hhok:=qh hok;clear hok
 have Hhlast:=qh hlast;clear hlast
 clear h hcs hrd hS0 hspl
 go_enter Tryz.func58, Tryz.ntmps58
 go_wp2_with fail
 refine (l2Split_any es _ _ Hhok.out (Hp.out.below HS0.out.bel)).mono ?_
 rintro e w1 ⟨vx,vy,xs,ys,hsp,rfl,hx,hy,hb1⟩
 obtain ⟨rfl,rfl⟩:=Hspl.out _ _ hsp
 obtain ⟨ax,cx,rfl,-,-,-⟩:=hx.form
 obtain ⟨ay,cy,rfl,-,-,-⟩:=hy.form
 have hS1:=HS0.out.call hb1
 have e0:=hS1.cell (v:=.slice (some ⟨w.heap.size+1+1,0,none⟩) 1 1) 3 0 rfl rfl
 have e1:=hS1.cell (v:=.slice (some ⟨w.heap.size+1+1+1,0,none⟩) 1 1) 3 1 rfl rfl
 have hS2:=hS1.alloc _ rfl #[.slice (some ⟨w.heap.size+1+1,0,none⟩) 1 1,.slice (some ⟨w.heap.size+1+1+1,0,none⟩) 1 1] 25
 have e2:=hS2.cell (v:=.slice (some ⟨w.heap.size+1+1,0,none⟩) 1 1) 3 0 rfl rfl
 have e3:=hS2.cell (v:=.slice (some ⟨w.heap.size+1+1+1,0,none⟩) 1 1) 3 1 rfl rfl
 have hS2b:St w _ [Ent.box w.heap.size #[.slice none 0 0,.slice none 0 0] 25,Ent.rows 67 3 (.slice (some ⟨w.heap.size+1+1,0,none⟩) 1 1) [.slice (some ⟨w.heap.size+1,0,none⟩) 3 3] [[.int .i64 0,.int .i64 0,.int .i64 0]],Ent.row 4 1 (.slice (some ⟨w.heap.size+1+1+1,0,none⟩) 1 1) 1 [.bool false],Ent.box (w.heap.size+1+1+1+1) #[.slice (some ⟨w.heap.size+1+1,0,none⟩) 1 1,.slice (some ⟨w.heap.size+1+1+1,0,none⟩) 1 1] 25,Ent.box (w.heap.size+1+1+1+1+1) #[.int .i64 7,.int .i64 0] 59,Ent.box (w1.heap.size) #[.slice (some ⟨w.heap.size+1+1,0,none⟩) 1 1,.slice (some ⟨w.heap.size+1+1+1,0,none⟩) 1 1] 25,Ent.box (w1.heap.size+1) #[.slice (some ⟨w.heap.size+1+1,0,none⟩) 1 1,.slice (some ⟨w.heap.size+1+1+1,0,none⟩) 1 1] 25]:=hS2.alloc (w1.heap.size+1) (by simp) #[.slice (some ⟨w.heap.size+1+1,0,none⟩) 1 1,.slice (some ⟨w.heap.size+1+1+1,0,none⟩) 1 1] 25
 have HS2:=qh hS2b
 have HT2:=qh (((St.start w1).alloc _ rfl #[.slice (some ⟨w.heap.size+1+1,0,none⟩) 1 1,.slice (some ⟨w.heap.size+1+1+1,0,none⟩) 1 1] 25).alloc (w1.heap.size+1) (by simp) #[.slice (some ⟨w.heap.size+1+1,0,none⟩) 1 1,.slice (some ⟨w.heap.size+1+1+1,0,none⟩) 1 1] 25)
 clear hb1 hsp q1 q2 g1 g2 hS1 hS2 hS2b hml hlen
 have hxl:=post_pos a
 have hxr:=hx.below HT2.out.bel
 obtain ⟨lx,hlx⟩:∃ n,a.post.length = n:=⟨_,rfl⟩
 rw [hlx] at hxl hxr
 rw [hlx]
 have hxg:(lx:Int) > 0:=by omega
 have Hx:=qh hxr
 have hA2:=(HS2.out.boxlt 5 rfl).2
 have Hhlx:=qh hlx;clear hlx
 clear hx hy hxr
 go_wp2_with fail
 refine (Hla.out _ _ Hx.out).mono ?_
 intro e w3 hro
 have fA:=fun (hb:Below _ _ w3) => (HS2.out.call hb).fr 5 0 rfl
 have fA':=fun (hb:Below _ _ w3) => (HS2.out.call hb).fr 5 1 rfl
 cases hoa:compE K a with
 | none =>
  rw [hoa] at hro
  obtain ⟨x1,y1,x2,y2,rfl,hb3⟩:=hro.no
  have f2:=fA hb3
  have f3:=fA' hb3
  have g2:=(HS2.out.call hb3).cell (v:=.slice (some ⟨w.heap.size+1+1,0,none⟩) 1 1) 5 0 rfl rfl
  have g3:=(HS2.out.call hb3).cell (v:=.slice (some ⟨w.heap.size+1+1+1,0,none⟩) 1 1) 5 1 rfl rfl
  have hS4:St w _ [Ent.box w.heap.size #[.slice none 0 0,.slice none 0 0] 25,Ent.rows 67 3 (.slice (some ⟨w.heap.size+1+1,0,none⟩) 1 1) [.slice (some ⟨w.heap.size+1,0,none⟩) 3 3] [[.int .i64 0,.int .i64 0,.int .i64 0]],Ent.row 4 1 (.slice (some ⟨w.heap.size+1+1+1,0,none⟩) 1 1) 1 [.bool false],Ent.box (w.heap.size+1+1+1+1) #[.slice (some ⟨w.heap.size+1+1,0,none⟩) 1 1,.slice (some ⟨w.heap.size+1+1+1,0,none⟩) 1 1] 25,Ent.box (w.heap.size+1+1+1+1+1) #[.int .i64 7,.int .i64 0] 59,Ent.box (w1.heap.size) #[.slice x1 0 y1,.slice x2 0 y2] 25,Ent.box (w1.heap.size+1) #[.slice (some ⟨w.heap.size+1+1,0,none⟩) 1 1,.slice (some ⟨w.heap.size+1+1+1,0,none⟩) 1 1] 25]:=((HS2.out.call hb3).set 5 rfl 0 (.slice x1 0 y1)).set 5 rfl 1 (.slice x2 0 y2)
  have HS4:=qh hS4
  clear hS4 hro hb3 fA fA'
  have f0:=HS4.out.fr 0 0 rfl
  have f1:=HS4.out.fr 0 1 rfl
  have k0:=HS4.out.cell (v:=.slice none 0 0) 0 0 rfl rfl
  have k1:=HS4.out.cell (v:=.slice none 0 0) 0 1 rfl rfl
  go_wp2
  have hq:=(HS4.out.set 0 rfl 0 (.slice none 0 0)).set 0 rfl 1 (.slice none 0 0)
  have q0:=hq.cell (v:=.slice none 0 0) 0 0 rfl rfl
  have q1:=hq.cell (v:=.slice none 0 0) 0 1 rfl rfl
  refine bodyPost_ret (v:=.tuple #[.agg #[.slice none 0 0,.slice none 0 0],.bool false]) (by simp [results,Tryz.results58,go_sem,q0,q1]) rfl ?_
  rw [show compE K (.neg a) = none from by simp only [compE,hoa,Option.map_none]]
  exact ⟨none,0,none,0,rfl,zeroD_r _ _,hq.bel⟩
 | some x =>
  rw [hoa] at hro
  obtain ⟨x1,y1,x2,y2,rfl,hdx,hb3⟩:=hro.yes
  have hxo:=compE_ok HK.out a hoa
  have f2:=fA hb3
  have f3:=fA' hb3
  have g2:=(HS2.out.call hb3).cell (v:=.slice (some ⟨w.heap.size+1+1,0,none⟩) 1 1) 5 0 rfl rfl
  have g3:=(HS2.out.call hb3).cell (v:=.slice (some ⟨w.heap.size+1+1+1,0,none⟩) 1 1) 5 1 rfl rfl
  have hS6:St w _ [Ent.box w.heap.size #[.slice none 0 0,.slice none 0 0] 25,Ent.rows 67 3 (.slice (some ⟨w.heap.size+1+1,0,none⟩) 1 1) [.slice (some ⟨w.heap.size+1,0,none⟩) 3 3] [[.int .i64 0,.int .i64 0,.int .i64 0]],Ent.row 4 1 (.slice (some ⟨w.heap.size+1+1+1,0,none⟩) 1 1) 1 [.bool false],Ent.box (w.heap.size+1+1+1+1) #[.slice (some ⟨w.heap.size+1+1,0,none⟩) 1 1,.slice (some ⟨w.heap.size+1+1+1,0,none⟩) 1 1] 25,Ent.box (w.heap.size+1+1+1+1+1) #[.int .i64 7,.int .i64 0] 59,Ent.box (w1.heap.size) #[.slice x1 x.next.length y1,.slice x2 x.ends.length y2] 25,Ent.box (w1.heap.size+1) #[.slice (some ⟨w.heap.size+1+1,0,none⟩) 1 1,.slice (some ⟨w.heap.size+1+1+1,0,none⟩) 1 1] 25]:=((HS2.out.call hb3).set 5 rfl 0 (.slice x1 x.next.length y1)).set 5 rfl 1 (.slice x2 x.ends.length y2)
  have HS6:=qh hS6
  clear hS6
  have HX6:=qh ((hdx.far hA2 0 (.slice x1 x.next.length y1)).far hA2 1 (.slice x2 x.ends.length y2))
  obtain ⟨b1,o1,cv,b2,o2,cw,hv,hC⟩:=dfa_open hxo (HX6.out.mono (Nat.zero_le _))
  have hxe:=(dfaOk_len hxo).2.2
  rw [hxe] at hv HS6 HX6 hC
  obtain ⟨L,hL⟩:∃ L,x.next.length = L:=⟨_,rfl⟩
  have hL40:=hC.l2
  have hL1:=hC.l1
  rw [hL] at hv hxe HS6 HX6 hC hL40 hL1
  simp only [Value.agg.injEq,Array.mk.injEq,List.cons.injEq,Value.slice.injEq,true_and,and_true] at hv
  obtain ⟨⟨h1,h2⟩,h3,h4⟩:=hv
  subst h1 h2 h3 h4
  have hLe:(L:Int) ≤ 40:=by omega
  rw [hL,hxe]
  obtain ⟨w6,hw6⟩:∃ z,z = (w3.setCell ⟨w1.heap.size,0,none⟩ (.slice (some ⟨b1,o1,none⟩) L y1)).setCell ⟨w1.heap.size,1,none⟩ (.slice (some ⟨b2,o2,none⟩) L y2):=⟨_,rfl⟩
  have hsz6:w6.heap.size = w3.heap.size:=by rw [hw6];simp
  have e4:=HS6.out.cell (v:=.slice (some ⟨w.heap.size+1+1,0,none⟩) 1 1) 3 0 rfl rfl
  have e5:=HS6.out.cell (v:=.slice (some ⟨w.heap.size+1+1+1,0,none⟩) 1 1) 3 1 rfl rfl
  have hS7:St w _ [Ent.box w.heap.size #[.slice none 0 0,.slice none 0 0] 25,Ent.rows 67 3 (.slice (some ⟨w.heap.size+1+1,0,none⟩) 1 1) [.slice (some ⟨w.heap.size+1,0,none⟩) 3 3] [[.int .i64 0,.int .i64 0,.int .i64 0]],Ent.row 4 1 (.slice (some ⟨w.heap.size+1+1+1,0,none⟩) 1 1) 1 [.bool false],Ent.box (w.heap.size+1+1+1+1) #[.slice (some ⟨w.heap.size+1+1,0,none⟩) 1 1,.slice (some ⟨w.heap.size+1+1+1,0,none⟩) 1 1] 25,Ent.box (w.heap.size+1+1+1+1+1) #[.int .i64 7,.int .i64 0] 59,Ent.box (w1.heap.size) #[.slice (some ⟨b1,o1,none⟩) L y1,.slice (some ⟨b2,o2,none⟩) L y2] 25,Ent.box (w1.heap.size+1) #[.slice (some ⟨w.heap.size+1+1,0,none⟩) 1 1,.slice (some ⟨w.heap.size+1+1+1,0,none⟩) 1 1] 25,Ent.box (w3.heap.size) #[.slice (some ⟨w.heap.size+1+1,0,none⟩) 1 1,.slice (some ⟨w.heap.size+1+1+1,0,none⟩) 1 1] 25]:=HS6.out.alloc w3.heap.size (by simp) #[.slice (some ⟨w.heap.size+1+1,0,none⟩) 1 1,.slice (some ⟨w.heap.size+1+1+1,0,none⟩) 1 1] 25
  have p0:=hS7.cell (v:=.int .i64 7) 4 0 rfl rfl
  have l0:=hS7.cell (v:=.slice (some ⟨b1,o1,none⟩) L y1) 5 0 rfl rfl
  have hSn:St w _ [Ent.box w.heap.size #[.slice none 0 0,.slice none 0 0] 25,Ent.rows 67 3 (.slice (some ⟨w.heap.size+1+1,0,none⟩) 1 1) [.slice (some ⟨w.heap.size+1,0,none⟩) 3 3] [[.int .i64 0,.int .i64 0,.int .i64 0]],Ent.row 4 1 (.slice (some ⟨w.heap.size+1+1+1,0,none⟩) 1 1) 1 [.bool false],Ent.box (w.heap.size+1+1+1+1) #[.slice (some ⟨w.heap.size+1+1,0,none⟩) 1 1,.slice (some ⟨w.heap.size+1+1+1,0,none⟩) 1 1] 25,Ent.box (w.heap.size+1+1+1+1+1) #[.int .i64 7,.int .i64 0] 59,Ent.box (w1.heap.size) #[.slice (some ⟨b1,o1,none⟩) L y1,.slice (some ⟨b2,o2,none⟩) L y2] 25,Ent.box (w1.heap.size+1) #[.slice (some ⟨w.heap.size+1+1,0,none⟩) 1 1,.slice (some ⟨w.heap.size+1+1+1,0,none⟩) 1 1] 25,Ent.box (w3.heap.size) #[.slice (some ⟨b1,o1,none⟩) L y1,.slice none 0 0] 25]:=HS6.out.alloc w3.heap.size (by simp) #[.slice (some ⟨b1,o1,none⟩) L y1,.slice none 0 0] 25
  have l1:=hSn.cell (v:=.slice (some ⟨b2,o2,none⟩) L y2) 5 1 rfl rfl
  rw [← hw6] at HS6 HX6 hC
  have HC:=qh hC
  have hA6:=(HS6.out.boxlt 5 rfl).2
  have A1:=qh (HS6.out.cell (v:=.slice (some ⟨b2,o2,none⟩) L y2) 5 1 rfl rfl)
  have hU:St w6 _ [Ent.box (w3.heap.size) #[.slice (some ⟨b1,o1,none⟩) L y1,.slice none 0 0] 25,Ent.row 4 1 (.slice none 0 0) 0 []]:=((St.start w6).alloc w3.heap.size hsz6 #[.slice (some ⟨b1,o1,none⟩) L y1,.slice none 0 0] 25).nilRow 4 1
  have HU:=qh hU
  obtain ⟨k0,hk,hx0,hx1,hx2⟩:=info_parts Tryz.infoBool
  have hb2:=hC.hb2
  have Hhk:=qh hk;clear hk
  have Hhx0:=qh hx0;clear hx0
  have Hhx1:=qh hx1;clear hx1
  have Hhx2:=qh hx2;clear hx2
  have HhL:=qh hL;clear hL
  have Hhxe:=qh hxe;clear hxe
  have Hhsz6:=qh hsz6;clear hsz6
  clear hS7 hSn hU hro hb3 fA fA' hdx hC
  go_wp2
  rw [← hw6]
  clear e4 e5 p0 l0 l1 f2 f3 g2 g3
  have Hw6:=qh hw6
  clear hw6
  go_loopw [14] (fun i wr => ∃ (k t:Nat) (q:Option Addr),i = .int .i64 k ∧ k ≤ L ∧ St w6 wr [Ent.box (w3.heap.size) #[.slice (some ⟨b1,o1,none⟩) L y1,.slice q k t] 25,Ent.row 4 1 (.slice q k t) k (boolCells ((x.ends.take k).map (fun z => !z)))]) (fun i _ => L - (intOf i).toNat)
  case atStart => exact ⟨0,0,none,rfl,Nat.zero_le _,HU.out⟩
  case round =>
   obtain ⟨k,t,q,rfl,hk',hS⟩:=hrel
   have e9:=(bcell hS.bel w1.heap.size 1 hA6).trans A1.out
   by_cases hlt:k < L
   ·have hlt2:(k:Int) < L:=by omega
    have hkn:k < x.ends.length:=by have:=Hhxe.out;omega
    obtain ⟨p0,hp⟩:∃ p,p = enD x k:=⟨_,rfl⟩
    have m0:=HC.out.en k (by have:=HhL.out;omega)
    rw [← hp] at m0
    have hsn:boolCells ((x.ends.take (k+1)).map (fun z => !z)) = boolCells ((x.ends.take k).map (fun z => !z)) ++ [.bool (!p0)]:=by
     rw [List.take_succ_eq_append_getElem hkn,List.map_append,hp,List.map_singleton,boolCells_snoc]
     unfold enD
     rw [getD_at hkn]
    have M0:=qh m0
    have HSq:=qh hS
    have Hhp:=qh hp;clear hp
    have Hhsn:=qh hsn;clear hsn
    clear hS m0
    go_wp2
    refine wp_region_any (by kernel_rfl) ?_
    refine wpAny_invA (fun A listed a w' => ∃ (l0 l1 l2 l3 l4 l5 l6 l7 l8 l9 l10 l11:Bool) (g7:Nat) (c7:Nat) (bn:Nat),listed = #[l0,l1,l2,l3,l4,l5,l6,l7,l8,l9,l10,l11] ∧ (l9 = true → l1 = true ∧ l8 = true) ∧ (l11 = true → l9 = true ∧ l1 = true) ∧
      a = ⟨(((((((((((A.tmps.setIfInBounds 114 (if l0 = true then .pointer (some ⟨w3.heap.size,1,none⟩) else A.tmps.getD 114 undef)).setIfInBounds 115 (if l1 = true then .slice q k t else A.tmps.getD 115 undef)).setIfInBounds 116 (if l2 = true then .pointer (some ⟨w1.heap.size,1,none⟩) else A.tmps.getD 116 undef)).setIfInBounds 117 (if l3 = true then .slice (some ⟨b2,o2,none⟩) L y2 else A.tmps.getD 117 undef)).setIfInBounds 118 (if l4 = true then .int .i64 (k:Int) else A.tmps.getD 118 undef)).setIfInBounds 119 (if l5 = true then .pointer (some ⟨b2,o2+k,none⟩) else A.tmps.getD 119 undef)).setIfInBounds 120 (if l6 = true then .bool p0 else A.tmps.getD 120 undef)).setIfInBounds 121 (if l7 = true then .bool (!p0) else A.tmps.getD 121 undef)).setIfInBounds 122 (if l8 = true then .slice (some ⟨bn,0,none⟩) 1 1 else A.tmps.getD 122 undef)).setIfInBounds 123 (if l9 = true then .slice (some ⟨g7,0,none⟩) (k+1) c7 else A.tmps.getD 123 undef)).setIfInBounds 124 (if l10 = true then .pointer (some ⟨w3.heap.size,1,none⟩) else A.tmps.getD 124 undef)),A.defers⟩ ∧
      St w6 w' [Ent.box (w3.heap.size) #[.slice (some ⟨b1,o1,none⟩) L y1,(if l11 = true then .slice (some ⟨g7,0,none⟩) (k+1) c7 else .slice q k t)] 25,(if l9 = true then Ent.row 4 1 (.slice (some ⟨g7,0,none⟩) (k+1) c7) (k+1) ((boolCells ((x.ends.take k).map (fun z => !z))) ++ [.bool (!p0)]) else Ent.row 4 1 (.slice q k t) k (boolCells ((x.ends.take k).map (fun z => !z)))),(if l8 = true then Ent.box bn #[.bool (!p0)] 4 else Ent.nil)]) ?_ ?_ ?_
    ·rintro listed a w' ⟨l0,l1,l2,l3,l4,l5,l6,l7,l8,l9,l10,l11,g7,c7,bn,rfl,hd9,hd11,rfl,hS⟩ i hi
     obtain ⟨hun,o,ho,hall⟩:=mem_ready.1 hi
     have hlt:=(Array.getElem?_eq_some_iff.1 ho).1
     refine wpOp_step ho (fun K hK => ?_)
     clear hi
     have HS:=qh hS
     clear hS
     simp only [List.setIfInBounds_toArray,List.set_cons_zero,List.set_cons_succ,Array.getD_eq_getD_getElem?,List.getElem?_toArray,List.getElem?_cons_zero,List.getElem?_cons_succ,Option.getD_some]
     obtain h | h | h | h | h | h | h | h | h | h | h | h:i = 0 ∨ i = 1 ∨ i = 2 ∨ i = 3 ∨ i = 4 ∨ i = 5 ∨ i = 6 ∨ i = 7 ∨ i = 8 ∨ i = 9 ∨ i = 10 ∨ i = 11:=by simp at hlt;omega
     all_goals subst h
     all_goals simp only [List.getElem?_toArray,List.getElem?_cons_zero,List.getElem?_cons_succ,Option.some.injEq] at ho
     all_goals subst ho
     all_goals simp [Region.binds] at hun hall
     ·subst hun
      go_simp
      exact hK _ _ ⟨true,l1,l2,l3,l4,l5,l6,l7,l8,l9,l10,l11,g7,c7,bn,rfl,hd9,hd11,(by simp),HS.out⟩
     ·obtain rfl:=hall
      subst hun
      obtain rfl:l9 = false:=offL hd9 rfl
      obtain rfl:l11 = false:=offL hd11 rfl
      have e0:=HS.out.cell (v:=.slice q k t) 0 1 rfl rfl
      go_simp
      exact hK _ _ ⟨true,true,l2,l3,l4,l5,l6,l7,l8,false,l10,false,g7,c7,bn,rfl,by simp,by simp,(by simp),HS.out⟩
     ·subst hun
      go_simp
      exact hK _ _ ⟨l0,l1,true,l3,l4,l5,l6,l7,l8,l9,l10,l11,g7,c7,bn,rfl,hd9,hd11,(by simp),HS.out⟩
     ·obtain rfl:=hall
      subst hun
      have e0:=(bcell HS.out.bel w1.heap.size 1 hA6).trans A1.out
      go_simp
      exact hK _ _ ⟨l0,l1,true,true,l4,l5,l6,l7,l8,l9,l10,l11,g7,c7,bn,rfl,hd9,hd11,(by simp),HS.out⟩
     ·subst hun
      go_simp
      exact hK _ _ ⟨l0,l1,l2,l3,true,l5,l6,l7,l8,l9,l10,l11,g7,c7,bn,rfl,hd9,hd11,(by simp),HS.out⟩
     ·obtain ⟨rfl,rfl⟩:=hall
      subst hun
      go_simp
      exact hK _ _ ⟨l0,l1,l2,true,true,true,l6,l7,l8,l9,l10,l11,g7,c7,bn,rfl,hd9,hd11,(by simp),HS.out⟩
     ·obtain rfl:=hall
      subst hun
      have e0:=(bcell HS.out.bel b2 _ hb2).trans M0.out
      go_simp
      exact hK _ _ ⟨l0,l1,l2,l3,l4,true,true,l7,l8,l9,l10,l11,g7,c7,bn,rfl,hd9,hd11,(by simp),HS.out⟩
     ·obtain rfl:=hall
      subst hun
      go_simp
      exact hK _ _ ⟨l0,l1,l2,l3,l4,l5,true,true,l8,l9,l10,l11,g7,c7,bn,rfl,hd9,hd11,(by simp),HS.out⟩
     ·obtain rfl:=hall
      subst hun
      obtain rfl:l9 = false:=offR hd9 rfl
      obtain rfl:l11 = false:=offL hd11 rfl
      have hS2:=(HS.out.alloc _ rfl #[.bool (!p0)] 4).pick [0,1,3] (by decide)
      have HhS2:=qh hS2;clear hS2
      go_simp
      exact hK _ _ ⟨l0,l1,l2,l3,l4,l5,l6,true,true,false,l10,false,g7,c7,_,rfl,by simp,by simp,(by simp),HhS2.out⟩
     ·obtain ⟨rfl,rfl⟩:=hall
      subst hun
      obtain rfl:l11 = false:=offL hd11 rfl
      refine step_append_lies (a:=⟨_,_⟩) _ (by rfl) _ _ _ (by rfl) w6.heap.size 4 k0 (.bool false) 1 1 Tryz.underlying23 Hhk.out Hhx0.out Hhx1.out Hhx2.out (by rfl) (by omega) (.slice q k t) k (boolCells ((x.ends.take k).map (fun z => !z))) (by rfl) (HS.out.row 1 rfl) ⟨bn,0,none⟩ 1 1 [.bool (!p0)] (by rfl) (by rfl) (World.news_of_block (HS.out.box 2 rfl)) one_bool (by omega) (by unfold maxLen;omega) (by omega) HS.out.size _ rfl ?_
      intro g8 c8 w8 hown8 hgrow8 hat8 hlt8
      have HS8:=qh (HS.out.app 1 rfl hown8 hgrow8 hat8)
      clear hown8 hgrow8 hat8
      go_simp
      exact hK _ _ ⟨l0,true,l2,l3,l4,l5,l6,l7,true,true,l10,false,g8,c8,bn,rfl,by simp,by simp,(by simp),HS8.out⟩
     ·obtain ⟨rfl,rfl,rfl,rfl,rfl,rfl,rfl,rfl,rfl,rfl⟩:=hall
      subst hun
      go_simp
      exact hK _ _ ⟨true,true,true,true,true,true,true,true,true,true,true,l11,g7,c7,bn,rfl,by simp,hd11,(by simp only [↓reduceIte,List.setIfInBounds_toArray,List.set_cons_zero,List.set_cons_succ]),HS.out⟩
     ·obtain ⟨rfl,rfl,rfl,rfl,rfl,rfl,rfl,rfl,rfl,rfl,rfl,-⟩:=hall
      subst hun
      have f0:=HS.out.fr 0 1 rfl
      have k0:=HS.out.cell (v:=.slice q k t) 0 1 rfl rfl
      go_simp
      exact hK _ _ ⟨true,true,true,true,true,true,true,true,true,true,true,true,g7,c7,bn,rfl,by simp,by simp,(by simp only [↓reduceIte,List.setIfInBounds_toArray,List.set_cons_zero,List.set_cons_succ]),(HS.out.set 0 rfl 1 (.slice (some ⟨g7,0,none⟩) (k+1) c7))⟩
    ·rintro listed a w' ⟨l0,l1,l2,l3,l4,l5,l6,l7,l8,l9,l10,l11,g7,c7,bn,rfl,hd9,hd11,rfl,hS⟩ hr
     have hall:=ready_nil (by kernel_rfl) rfl hr
     obtain rfl:l0 = true:=by simpa using hall 0 (by simp)
     obtain rfl:l1 = true:=by simpa using hall 1 (by simp)
     obtain rfl:l2 = true:=by simpa using hall 2 (by simp)
     obtain rfl:l3 = true:=by simpa using hall 3 (by simp)
     obtain rfl:l4 = true:=by simpa using hall 4 (by simp)
     obtain rfl:l5 = true:=by simpa using hall 5 (by simp)
     obtain rfl:l6 = true:=by simpa using hall 6 (by simp)
     obtain rfl:l7 = true:=by simpa using hall 7 (by simp)
     obtain rfl:l8 = true:=by simpa using hall 8 (by simp)
     obtain rfl:l9 = true:=by simpa using hall 9 (by simp)
     obtain rfl:l10 = true:=by simpa using hall 10 (by simp)
     obtain rfl:l11 = true:=by simpa using hall 11 (by simp)
     clear hall hr hd9 hd11
     simp only [↓reduceIte] at hS ⊢
     simp only [List.setIfInBounds_toArray,List.set_cons_zero,List.set_cons_succ]
     have hS9:=hS.pick [0,1] (by decide)
     have HhS9:=qh hS9;clear hS9
     clear hS
     go_wp2
     go_roundw
     case rel =>
      refine ⟨k+1,c7,some ⟨g7,0,none⟩,by go_num,by omega,?_⟩
      rw [Hhsn.out]
      exact HhS9.out
     case measure => simp [intOf];omega
    ·refine ⟨false,false,false,false,false,false,false,false,false,false,false,false,0,0,0,rfl,by simp,by simp,(by simp),?_⟩
     exact HSq.out.drew.pick [0,1,2] (by decide)
   ·obtain rfl:L = k:=by omega
    rw [show (x.ends.take L) = x.ends from List.take_of_length_le (by have:=Hhxe.out;omega)] at hS
    have HS8:=qh (HS6.out.cat hS)
    have d0:=hS.cell (v:=.slice (some ⟨b1,o1,none⟩) L y1) 0 0 rfl rfl
    have d1:=hS.cell (v:=.slice q L t) 0 1 rfl rfl
    obtain ⟨z,hz⟩:∃ z,z = negD x:=⟨_,rfl⟩
    have hzo:dfaOk z.next z.ends = true:=by rw [hz];exact negD_ok hxo
    have hcz:compE K (.neg a) = some (smallD z):=by rw [hz];simp only [compE,hoa,Option.map_some]
    have HZ:DfaR 0 wr (.agg #[.slice (some ⟨b1,o1,none⟩) L y1,.slice q L t]) z:=by
     obtain ⟨v1,v2,hv,hI,-⟩:=(HX6.out.below hS.bel).mono (Nat.zero_le _)
     simp only [Value.agg.injEq,Array.mk.injEq,List.cons.injEq,and_true] at hv
     obtain ⟨rfl,rfl⟩:=hv
     rw [hz]
     exact ⟨_,_,rfl,hI,Sl.mono (boolsB_of_row (hS.row 1 rfl)) (Nat.zero_le _)⟩
    have Hhz:=qh hz;clear hz
    have Hhzo:=qh hzo;clear hzo
    have Hhcz:=qh hcz;clear hcz
    have HZ:=qh HZ
    clear hS
    go_wp2_with fail
    refine (l10Small_any z _ _ Hhzo.out HZ.out).mono ?_
    rintro e w9 ⟨s1,t1,s2,t2,rfl,hdr9,hb9⟩
    have HS9:=qh (HS8.out.call hb9)
    have HDr9:=qh hdr9
    have hB0:=(HS8.out.boxlt 0 rfl).2
    have hsz:=HS8.out.size
    have f0:=HS9.out.fr 0 0 rfl
    have f1:=HS9.out.fr 0 1 rfl
    have k0:=HS9.out.cell (v:=.slice none 0 0) 0 0 rfl rfl
    have k1:=HS9.out.cell (v:=.slice none 0 0) 0 1 rfl rfl
    clear hb9 hdr9
    go_wp2
    have hq:=(HS9.out.set 0 rfl 0 (.slice s1 (smallD (z)).next.length t1)).set 0 rfl 1 (.slice s2 (smallD (z)).ends.length t2)
    have q0:=hq.cell (v:=.slice s1 (smallD (z)).next.length t1) 0 0 rfl rfl
    have q1:=hq.cell (v:=.slice s2 (smallD (z)).ends.length t2) 0 1 rfl rfl
    refine bodyPost_ret (v:=.tuple #[.agg #[.slice s1 (smallD (z)).next.length t1,.slice s2 (smallD (z)).ends.length t2],.bool true]) (by simp [results,Tryz.results58,go_sem,q0,q1]) rfl ?_
    rw [show compE K (.neg a) = some (smallD (z)) from Hhcz.out]
    exact ⟨s1,t1,s2,t2,rfl,((HDr9.out.far hB0 0 _).far hB0 1 _).mono hsz,hq.bel⟩
end Go.Proofs.YtfgpkadhegdffaaGreat
