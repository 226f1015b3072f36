/-
  The walk over the reference's l11Dfa: what compiling an expression gives; and over CompileExpr.
  Conditions: the expression's parts read as such.
-/
import Derived.Test.YtfgpkadhegdffaaGreatPk22Su
import Derived.Test.YtfgpkadhegdffaaGreatPk27Jx
set_option maxHeartbeats 16000000
set_option maxRecDepth 100000
namespace Go.Proofs.YtfgpkadhegdffaaGreat
open Go.RowKit
theorem RO.no {w:World} {e:Ending} {w':World} (h:RO none w e w'):∃ x1 y1 x2 y2,e = .returned (.tuple #[.agg #[.slice x1 0 y1,.slice x2 0 y2],.bool false]) ∧ Below w.heap.size w w':=by
 obtain ⟨x1,y1,x2,y2,h1,-,h2⟩:=h
 exact ⟨x1,y1,x2,y2,h1,h2⟩
theorem RO.yes {D:DfaD} {w:World} {e:Ending} {w':World} (h:RO (some D) w e w'):∃ x1 y1 x2 y2,e = .returned (.tuple #[.agg #[.slice x1 D.next.length y1,.slice x2 D.ends.length y2],.bool true]) ∧ DfaR w.heap.size w' (.agg #[.slice x1 D.next.length y1,.slice x2 D.ends.length y2]) D ∧ Below w.heap.size w w':=h
def CallD (K:Nat) (t:Ex):Prop:=∀ (v:Value) (w:World),Pairs 0 w v t.post → Calls Tryz.prog 58 #[v] w fun e w' => RO (compE K t) w e w'
theorem St.dfaR {w0 w:World} {L:List Ent} (h:St w0 w L) (i j:Nat) {es e e' n c1 c2:Nat} {a1 a2:Option Addr} {vs:List Value} {D:DfaD} (hi:L[i]? = some (Ent.rows es e (.slice a1 n c1) vs (D.next.map intCells))) (hj:L[j]? = some (Ent.row e' 1 (.slice a2 n c2) n (boolCells D.ends))):DfaR 0 w (.agg #[.slice a1 n c1,.slice a2 n c2]) D :=
 ⟨_,_,rfl,(h.intSS i hi).intSS.mono (Nat.zero_le _),Sl.mono (boolsB_of_row (h.row j hj)) (Nat.zero_le _)⟩
theorem St.intSSv {w0 w:World} {L:List Ent} (h:St w0 w L) (i:Nat) {es n c:Nat} {a:Option Addr} {vs:List Value} {xss:List (List Int)} (hx:L[i]? = some (Ent.row es 1 (.slice a n c) n vs)) (hn:n = xss.length) (hr:∀ j,j < xss.length → Ints 0 w (vs.getD j undef) (xss.getD j [])):IntSS 0 w (.slice a n c) xss:=by
 subst hn
 exact ⟨vs,Sl.mono ((own_of_row (h.row i hx)).sl (by omega)) (Nat.zero_le _),hr⟩
theorem l11D_zero (K:Nat):CallD K .zero:=by
 have hl:(Ex.post (.zero)).length ≤ 60:=by decide
 intro v w h
 obtain ⟨es,hes⟩:∃ es,es = Ex.post (.zero):=⟨_,rfl⟩
 rw [← hes] at h
 have hok:exOk es = true:=by rw [hes];exact post_exOk _ hl
 have Hp:=qh h
 obtain ⟨av,cv,rfl,hc1,hc2,hrd⟩:=h.form
 obtain ⟨m,hm⟩:∃ m,es.length = m+1:=⟨es.length - 1,by have:=post_pos (.zero);rw [← hes] at this;omega⟩
 obtain ⟨bv,ov,rfl,-,hbl,hcs⟩:=hrd (by omega)
 obtain ⟨g1,g2⟩:=hcs m (by omega)
 have hlast:es.getD m (0,0) = (1,0):=by
  have:=last_snoc [] (1,0)
  rw [show [] ++ [(1,0)] = es from hes.symm,hm] at this
  exact this
 rw [hlast] at g1 g2
 simp only at g1 g2
 have hspl:∀ xs ys,splits es xs ys → xs = [] ∧ ys = []:=fun xs ys h => split_leaf (p:=(1,0)) (by decide) (by rw [hes] at h;exact h)
 have hml:(m:Int) < es.length:=by omega
 have hlen:(es.length:Int) - 1 = (m:Int):=by omega
 have hS0:=((((((((((St.start w).alloc _ rfl #[.slice none 0 0,.slice none 0 0] 25).alloc (w.heap.size+1) (by simp) #[.int .i64 0,.int .i64 0,.int .i64 0] 3).boxrow 1 3 1 [.int .i64 0,.int .i64 0,.int .i64 0] rfl rfl (by unfold maxLen;omega)).alloc (w.heap.size+1+1) (by simp) #[.slice (some ⟨w.heap.size+1,0,none⟩) 3 3] 67).boxrow 2 1 1 [.slice (some ⟨w.heap.size+1,0,none⟩) 3 3] rfl rfl (by unfold maxLen;omega)).onerow 2 1 (by decide) rfl rfl).alloc (w.heap.size+1+1+1) (by simp) #[.bool false] 4).boxrow 3 1 1 [.bool false] rfl rfl (by unfold maxLen;omega)).alloc (w.heap.size+1+1+1+1) (by simp) #[.slice (some ⟨w.heap.size+1+1,0,none⟩) 1 1,.slice (some ⟨w.heap.size+1+1+1,0,none⟩) 1 1] 25)
 have q1:=(bcell hS0.bel bv _ hbl).trans g1
 have q2:=(bcell hS0.bel bv _ hbl).trans g2
 have HS0:=qh ((hS0.alloc (w.heap.size+1+1+1+1+1) (by simp) #[.int .i64 1,.int .i64 0] 59).pick [0,2,3,4,5] (by decide))
 have Hspl:=qh hspl
 have Hhes:=qh hes;clear hes
 have Hhm:=qh hm;clear hm
 have Hhok:=qh hok;clear hok
 have Hhlast:=qh hlast;clear hlast
 clear h hcs hrd hS0 hspl
 go_enter Tryz.func58, Tryz.ntmps58
 go_wp2_with fail
 refine (l2Split_any es _ _ Hhok.out (Hp.out.below HS0.out.bel)).mono ?_
 rintro e w1 ⟨vx,vy,xs,ys,hsp,rfl,hx,hy,hb1⟩
 obtain ⟨rfl,rfl⟩:=Hspl.out _ _ hsp
 obtain ⟨ax,cx,rfl,-,-,-⟩:=hx.form
 obtain ⟨ay,cy,rfl,-,-,-⟩:=hy.form
 have hS1:=HS0.out.call hb1
 have e0:=hS1.cell (v:=.slice (some ⟨w.heap.size+1+1,0,none⟩) 1 1) 3 0 rfl rfl
 have e1:=hS1.cell (v:=.slice (some ⟨w.heap.size+1+1+1,0,none⟩) 1 1) 3 1 rfl rfl
 have hS2:=hS1.alloc _ rfl #[.slice (some ⟨w.heap.size+1+1,0,none⟩) 1 1,.slice (some ⟨w.heap.size+1+1+1,0,none⟩) 1 1] 25
 have e2:=hS2.cell (v:=.slice (some ⟨w.heap.size+1+1,0,none⟩) 1 1) 3 0 rfl rfl
 have e3:=hS2.cell (v:=.slice (some ⟨w.heap.size+1+1+1,0,none⟩) 1 1) 3 1 rfl rfl
 have hS2b:St w _ [Ent.box w.heap.size #[.slice none 0 0,.slice none 0 0] 25,Ent.rows 67 3 (.slice (some ⟨w.heap.size+1+1,0,none⟩) 1 1) [.slice (some ⟨w.heap.size+1,0,none⟩) 3 3] [[.int .i64 0,.int .i64 0,.int .i64 0]],Ent.row 4 1 (.slice (some ⟨w.heap.size+1+1+1,0,none⟩) 1 1) 1 [.bool false],Ent.box (w.heap.size+1+1+1+1) #[.slice (some ⟨w.heap.size+1+1,0,none⟩) 1 1,.slice (some ⟨w.heap.size+1+1+1,0,none⟩) 1 1] 25,Ent.box (w.heap.size+1+1+1+1+1) #[.int .i64 1,.int .i64 0] 59,Ent.box (w1.heap.size) #[.slice (some ⟨w.heap.size+1+1,0,none⟩) 1 1,.slice (some ⟨w.heap.size+1+1+1,0,none⟩) 1 1] 25,Ent.box (w1.heap.size+1) #[.slice (some ⟨w.heap.size+1+1,0,none⟩) 1 1,.slice (some ⟨w.heap.size+1+1+1,0,none⟩) 1 1] 25]:=hS2.alloc (w1.heap.size+1) (by simp) #[.slice (some ⟨w.heap.size+1+1,0,none⟩) 1 1,.slice (some ⟨w.heap.size+1+1+1,0,none⟩) 1 1] 25
 have HS2:=qh hS2b
 have HT2:=qh (((St.start w1).alloc _ rfl #[.slice (some ⟨w.heap.size+1+1,0,none⟩) 1 1,.slice (some ⟨w.heap.size+1+1+1,0,none⟩) 1 1] 25).alloc (w1.heap.size+1) (by simp) #[.slice (some ⟨w.heap.size+1+1,0,none⟩) 1 1,.slice (some ⟨w.heap.size+1+1+1,0,none⟩) 1 1] 25)
 clear hb1 hsp q1 q2 g1 g2 hS1 hS2 hS2b hml hlen
 have e4:=HS2.out.cell (v:=.slice (some ⟨w.heap.size+1+1,0,none⟩) 1 1) 3 0 rfl rfl
 have e5:=HS2.out.cell (v:=.slice (some ⟨w.heap.size+1+1+1,0,none⟩) 1 1) 3 1 rfl rfl
 have hS3:=HS2.out.alloc (w1.heap.size+1+1) (by simp) #[.slice (some ⟨w.heap.size+1+1,0,none⟩) 1 1,.slice (some ⟨w.heap.size+1+1+1,0,none⟩) 1 1] 25
 have p0:=hS3.cell (v:=.int .i64 1) 4 0 rfl rfl
 have HS3:=qh hS3
 have d0:=HS3.out.cell (v:=.slice (some ⟨w.heap.size+1+1,0,none⟩) 1 1) 7 0 rfl rfl
 have d1:=HS3.out.cell (v:=.slice (some ⟨w.heap.size+1+1+1,0,none⟩) 1 1) 7 1 rfl rfl
 clear hS3
 have HZ:=qh (HS3.out.dfaR (D:=noneD) 1 2 rfl rfl)
 obtain ⟨z,hz⟩:∃ z,z = noneD:=⟨_,rfl⟩
 have hzo:dfaOk z.next z.ends = true:=by rw [hz];exact noneD_ok
 have hcz:compE K .zero = some (smallD z):=by rw [hz];simp only [compE]
 rw [show noneD = z from hz.symm] at HZ
 have Hhz:=qh hz;clear hz
 have Hhzo:=qh hzo;clear hzo
 have Hhcz:=qh hcz;clear hcz
 go_wp2_with fail
 refine (l10Small_any z _ _ Hhzo.out HZ.out).mono ?_
 rintro e w9 ⟨s1,t1,s2,t2,rfl,hdr9,hb9⟩
 have HS9:=qh (HS3.out.call hb9)
 have HDr9:=qh hdr9
 have hB0:=(HS3.out.boxlt 0 rfl).2
 have hsz:=HS3.out.size
 have f0:=HS9.out.fr 0 0 rfl
 have f1:=HS9.out.fr 0 1 rfl
 have k0:=HS9.out.cell (v:=.slice none 0 0) 0 0 rfl rfl
 have k1:=HS9.out.cell (v:=.slice none 0 0) 0 1 rfl rfl
 clear hb9 hdr9
 go_wp2
 have hq:=(HS9.out.set 0 rfl 0 (.slice s1 (smallD (z)).next.length t1)).set 0 rfl 1 (.slice s2 (smallD (z)).ends.length t2)
 have q0:=hq.cell (v:=.slice s1 (smallD (z)).next.length t1) 0 0 rfl rfl
 have q1:=hq.cell (v:=.slice s2 (smallD (z)).ends.length t2) 0 1 rfl rfl
 refine bodyPost_ret (v:=.tuple #[.agg #[.slice s1 (smallD (z)).next.length t1,.slice s2 (smallD (z)).ends.length t2],.bool true]) (by simp [results,Tryz.results58,go_sem,q0,q1]) rfl ?_
 rw [show compE K .zero = some (smallD (z)) from Hhcz.out]
 exact ⟨s1,t1,s2,t2,rfl,((HDr9.out.far hB0 0 _).far hB0 1 _).mono hsz,hq.bel⟩
theorem l11D_one (K:Nat):CallD K .one:=by
 have hl:(Ex.post (.one)).length ≤ 60:=by decide
 intro v w h
 obtain ⟨es,hes⟩:∃ es,es = Ex.post (.one):=⟨_,rfl⟩
 rw [← hes] at h
 have hok:exOk es = true:=by rw [hes];exact post_exOk _ hl
 have Hp:=qh h
 obtain ⟨av,cv,rfl,hc1,hc2,hrd⟩:=h.form
 obtain ⟨m,hm⟩:∃ m,es.length = m+1:=⟨es.length - 1,by have:=post_pos (.one);rw [← hes] at this;omega⟩
 obtain ⟨bv,ov,rfl,-,hbl,hcs⟩:=hrd (by omega)
 obtain ⟨g1,g2⟩:=hcs m (by omega)
 have hlast:es.getD m (0,0) = (2,0):=by
  have:=last_snoc [] (2,0)
  rw [show [] ++ [(2,0)] = es from hes.symm,hm] at this
  exact this
 rw [hlast] at g1 g2
 simp only at g1 g2
 have hspl:∀ xs ys,splits es xs ys → xs = [] ∧ ys = []:=fun xs ys h => split_leaf (p:=(2,0)) (by decide) (by rw [hes] at h;exact h)
 have hml:(m:Int) < es.length:=by omega
 have hlen:(es.length:Int) - 1 = (m:Int):=by omega
 have hS0:=((((((((((St.start w).alloc _ rfl #[.slice none 0 0,.slice none 0 0] 25).alloc (w.heap.size+1) (by simp) #[.int .i64 0,.int .i64 0,.int .i64 0] 3).boxrow 1 3 1 [.int .i64 0,.int .i64 0,.int .i64 0] rfl rfl (by unfold maxLen;omega)).alloc (w.heap.size+1+1) (by simp) #[.slice (some ⟨w.heap.size+1,0,none⟩) 3 3] 67).boxrow 2 1 1 [.slice (some ⟨w.heap.size+1,0,none⟩) 3 3] rfl rfl (by unfold maxLen;omega)).onerow 2 1 (by decide) rfl rfl).alloc (w.heap.size+1+1+1) (by simp) #[.bool false] 4).boxrow 3 1 1 [.bool false] rfl rfl (by unfold maxLen;omega)).alloc (w.heap.size+1+1+1+1) (by simp) #[.slice (some ⟨w.heap.size+1+1,0,none⟩) 1 1,.slice (some ⟨w.heap.size+1+1+1,0,none⟩) 1 1] 25)
 have q1:=(bcell hS0.bel bv _ hbl).trans g1
 have q2:=(bcell hS0.bel bv _ hbl).trans g2
 have HS0:=qh ((hS0.alloc (w.heap.size+1+1+1+1+1) (by simp) #[.int .i64 2,.int .i64 0] 59).pick [0,2,3,4,5] (by decide))
 have Hspl:=qh hspl
 have Hhes:=qh hes;clear hes
 have Hhm:=qh hm;clear hm
 have Hhok:=qh hok;clear hok
 have Hhlast:=qh hlast;clear hlast
 clear h hcs hrd hS0 hspl
 go_enter Tryz.func58, Tryz.ntmps58
 go_wp2_with fail
 refine (l2Split_any es _ _ Hhok.out (Hp.out.below HS0.out.bel)).mono ?_
 rintro e w1 ⟨vx,vy,xs,ys,hsp,rfl,hx,hy,hb1⟩
 obtain ⟨rfl,rfl⟩:=Hspl.out _ _ hsp
 obtain ⟨ax,cx,rfl,-,-,-⟩:=hx.form
 obtain ⟨ay,cy,rfl,-,-,-⟩:=hy.form
 have hS1:=HS0.out.call hb1
 have e0:=hS1.cell (v:=.slice (some ⟨w.heap.size+1+1,0,none⟩) 1 1) 3 0 rfl rfl
 have e1:=hS1.cell (v:=.slice (some ⟨w.heap.size+1+1+1,0,none⟩) 1 1) 3 1 rfl rfl
 have hS2:=hS1.alloc _ rfl #[.slice (some ⟨w.heap.size+1+1,0,none⟩) 1 1,.slice (some ⟨w.heap.size+1+1+1,0,none⟩) 1 1] 25
 have e2:=hS2.cell (v:=.slice (some ⟨w.heap.size+1+1,0,none⟩) 1 1) 3 0 rfl rfl
 have e3:=hS2.cell (v:=.slice (some ⟨w.heap.size+1+1+1,0,none⟩) 1 1) 3 1 rfl rfl
 have hS2b:St w _ [Ent.box w.heap.size #[.slice none 0 0,.slice none 0 0] 25,Ent.rows 67 3 (.slice (some ⟨w.heap.size+1+1,0,none⟩) 1 1) [.slice (some ⟨w.heap.size+1,0,none⟩) 3 3] [[.int .i64 0,.int .i64 0,.int .i64 0]],Ent.row 4 1 (.slice (some ⟨w.heap.size+1+1+1,0,none⟩) 1 1) 1 [.bool false],Ent.box (w.heap.size+1+1+1+1) #[.slice (some ⟨w.heap.size+1+1,0,none⟩) 1 1,.slice (some ⟨w.heap.size+1+1+1,0,none⟩) 1 1] 25,Ent.box (w.heap.size+1+1+1+1+1) #[.int .i64 2,.int .i64 0] 59,Ent.box (w1.heap.size) #[.slice (some ⟨w.heap.size+1+1,0,none⟩) 1 1,.slice (some ⟨w.heap.size+1+1+1,0,none⟩) 1 1] 25,Ent.box (w1.heap.size+1) #[.slice (some ⟨w.heap.size+1+1,0,none⟩) 1 1,.slice (some ⟨w.heap.size+1+1+1,0,none⟩) 1 1] 25]:=hS2.alloc (w1.heap.size+1) (by simp) #[.slice (some ⟨w.heap.size+1+1,0,none⟩) 1 1,.slice (some ⟨w.heap.size+1+1+1,0,none⟩) 1 1] 25
 have HS2:=qh hS2b
 have HT2:=qh (((St.start w1).alloc _ rfl #[.slice (some ⟨w.heap.size+1+1,0,none⟩) 1 1,.slice (some ⟨w.heap.size+1+1+1,0,none⟩) 1 1] 25).alloc (w1.heap.size+1) (by simp) #[.slice (some ⟨w.heap.size+1+1,0,none⟩) 1 1,.slice (some ⟨w.heap.size+1+1+1,0,none⟩) 1 1] 25)
 clear hb1 hsp q1 q2 g1 g2 hS1 hS2 hS2b hml hlen
 have e4:=HS2.out.cell (v:=.slice (some ⟨w.heap.size+1+1,0,none⟩) 1 1) 3 0 rfl rfl
 have e5:=HS2.out.cell (v:=.slice (some ⟨w.heap.size+1+1+1,0,none⟩) 1 1) 3 1 rfl rfl
 have hS3:=HS2.out.alloc (w1.heap.size+1+1) (by simp) #[.slice (some ⟨w.heap.size+1+1,0,none⟩) 1 1,.slice (some ⟨w.heap.size+1+1+1,0,none⟩) 1 1] 25
 have p0:=hS3.cell (v:=.int .i64 2) 4 0 rfl rfl
 have hS3f:=HS2.out.alloc (w1.heap.size+1+1) (by simp) #[.slice (some ⟨w1.heap.size+1+1+1+1+1,0,none⟩) 2 2,.slice (some ⟨w1.heap.size+1+1+1+1+1+1,0,none⟩) 2 2] 25
 have hS4:St w _ [Ent.box w.heap.size #[.slice none 0 0,.slice none 0 0] 25,Ent.rows 67 3 (.slice (some ⟨w.heap.size+1+1,0,none⟩) 1 1) [.slice (some ⟨w.heap.size+1,0,none⟩) 3 3] [[.int .i64 0,.int .i64 0,.int .i64 0]],Ent.row 4 1 (.slice (some ⟨w.heap.size+1+1+1,0,none⟩) 1 1) 1 [.bool false],Ent.box (w.heap.size+1+1+1+1) #[.slice (some ⟨w.heap.size+1+1,0,none⟩) 1 1,.slice (some ⟨w.heap.size+1+1+1,0,none⟩) 1 1] 25,Ent.box (w.heap.size+1+1+1+1+1) #[.int .i64 2,.int .i64 0] 59,Ent.box (w1.heap.size) #[.slice (some ⟨w.heap.size+1+1,0,none⟩) 1 1,.slice (some ⟨w.heap.size+1+1+1,0,none⟩) 1 1] 25,Ent.box (w1.heap.size+1) #[.slice (some ⟨w.heap.size+1+1,0,none⟩) 1 1,.slice (some ⟨w.heap.size+1+1+1,0,none⟩) 1 1] 25,Ent.box (w1.heap.size+1+1) #[.slice (some ⟨w1.heap.size+1+1+1+1+1,0,none⟩) 2 2,.slice (some ⟨w1.heap.size+1+1+1+1+1+1,0,none⟩) 2 2] 25,Ent.row 3 1 (.slice (some ⟨w1.heap.size+1+1+1,0,none⟩) 3 3) 3 [.int .i64 1,.int .i64 1,.int .i64 1],Ent.row 3 1 (.slice (some ⟨w1.heap.size+1+1+1+1,0,none⟩) 3 3) 3 [.int .i64 1,.int .i64 1,.int .i64 1],Ent.row 67 1 (.slice (some ⟨w1.heap.size+1+1+1+1+1,0,none⟩) 2 2) 2 [.slice (some ⟨w1.heap.size+1+1+1,0,none⟩) 3 3,.slice (some ⟨w1.heap.size+1+1+1+1,0,none⟩) 3 3],Ent.row 4 1 (.slice (some ⟨w1.heap.size+1+1+1+1+1+1,0,none⟩) 2 2) 2 [.bool true,.bool false]]:=((((((((hS3f.alloc (w1.heap.size+1+1+1) (by simp) #[.int .i64 1,.int .i64 1,.int .i64 1] 3).boxrow 8 3 1 [.int .i64 1,.int .i64 1,.int .i64 1] rfl rfl (by unfold maxLen;omega)).alloc (w1.heap.size+1+1+1+1) (by simp) #[.int .i64 1,.int .i64 1,.int .i64 1] 3).boxrow 9 3 1 [.int .i64 1,.int .i64 1,.int .i64 1] rfl rfl (by unfold maxLen;omega)).alloc (w1.heap.size+1+1+1+1+1) (by simp) #[.slice (some ⟨w1.heap.size+1+1+1,0,none⟩) 3 3,.slice (some ⟨w1.heap.size+1+1+1+1,0,none⟩) 3 3] 67).boxrow 10 2 1 [.slice (some ⟨w1.heap.size+1+1+1,0,none⟩) 3 3,.slice (some ⟨w1.heap.size+1+1+1+1,0,none⟩) 3 3] rfl rfl (by unfold maxLen;omega)).alloc (w1.heap.size+1+1+1+1+1+1) (by simp) #[.bool true,.bool false] 4).boxrow 11 2 1 [.bool true,.bool false] rfl rfl (by unfold maxLen;omega))
 have HS5:=qh hS4
 clear hS4
 have d0:=HS5.out.cell (v:=.slice (some ⟨w1.heap.size+1+1+1+1+1,0,none⟩) 2 2) 7 0 rfl rfl
 have d1:=HS5.out.cell (v:=.slice (some ⟨w1.heap.size+1+1+1+1+1+1,0,none⟩) 2 2) 7 1 rfl rfl
 have hI:=HS5.out.intSSv (xss:=oneD.next) 10 rfl rfl (fun j hj => by
  have hj:j < 2:=hj
  have:j = 0 ∨ j = 1:=by omega
  rcases this with rfl | rfl
  ·exact HS5.out.intsR (xs:=[1,1,1]) 8 rfl
  ·exact HS5.out.intsR (xs:=[1,1,1]) 9 rfl)
 have HZ:=qh (show DfaR 0 _ (.agg #[.slice (some ⟨w1.heap.size+1+1+1+1+1,0,none⟩) 2 2,.slice (some ⟨w1.heap.size+1+1+1+1+1+1,0,none⟩) 2 2]) oneD from ⟨_,_,rfl,hI,Sl.mono (boolsB_of_row (xs:=[true,false]) (HS5.out.row 11 rfl)) (Nat.zero_le _)⟩)
 obtain ⟨z,hz⟩:∃ z,z = oneD:=⟨_,rfl⟩
 have hzo:dfaOk z.next z.ends = true:=by rw [hz];exact oneD_ok
 have hcz:compE K .one = some (smallD z):=by rw [hz];simp only [compE]
 rw [show oneD = z from hz.symm] at HZ
 have Hhz:=qh hz;clear hz
 have Hhzo:=qh hzo;clear hzo
 have Hhcz:=qh hcz;clear hcz
 clear hS3 hS3f hI
 go_wp2_with fail
 refine (l10Small_any z _ _ Hhzo.out HZ.out).mono ?_
 rintro e w9 ⟨s1,t1,s2,t2,rfl,hdr9,hb9⟩
 have HS9:=qh (HS5.out.call hb9)
 have HDr9:=qh hdr9
 have hB0:=(HS5.out.boxlt 0 rfl).2
 have hsz:=HS5.out.size
 have f0:=HS9.out.fr 0 0 rfl
 have f1:=HS9.out.fr 0 1 rfl
 have k0:=HS9.out.cell (v:=.slice none 0 0) 0 0 rfl rfl
 have k1:=HS9.out.cell (v:=.slice none 0 0) 0 1 rfl rfl
 clear hb9 hdr9
 go_wp2
 have hq:=(HS9.out.set 0 rfl 0 (.slice s1 (smallD (z)).next.length t1)).set 0 rfl 1 (.slice s2 (smallD (z)).ends.length t2)
 have q0:=hq.cell (v:=.slice s1 (smallD (z)).next.length t1) 0 0 rfl rfl
 have q1:=hq.cell (v:=.slice s2 (smallD (z)).ends.length t2) 0 1 rfl rfl
 refine bodyPost_ret (v:=.tuple #[.agg #[.slice s1 (smallD (z)).next.length t1,.slice s2 (smallD (z)).ends.length t2],.bool true]) (by simp [results,Tryz.results58,go_sem,q0,q1]) rfl ?_
 rw [show compE K .one = some (smallD (z)) from Hhcz.out]
 exact ⟨s1,t1,s2,t2,rfl,((HDr9.out.far hB0 0 _).far hB0 1 _).mono hsz,hq.bel⟩
theorem l11D_ltr0 (K:Nat):CallD K (.ltr 0):=by
 have hl:(Ex.post (.ltr 0)).length ≤ 60:=by decide
 intro v w h
 obtain ⟨es,hes⟩:∃ es,es = Ex.post (.ltr 0):=⟨_,rfl⟩
 rw [← hes] at h
 have hok:exOk es = true:=by rw [hes];exact post_exOk _ hl
 have Hp:=qh h
 obtain ⟨av,cv,rfl,hc1,hc2,hrd⟩:=h.form
 obtain ⟨m,hm⟩:∃ m,es.length = m+1:=⟨es.length - 1,by have:=post_pos (.ltr 0);rw [← hes] at this;omega⟩
 obtain ⟨bv,ov,rfl,-,hbl,hcs⟩:=hrd (by omega)
 obtain ⟨g1,g2⟩:=hcs m (by omega)
 have hlast:es.getD m (0,0) = (3,0):=by
  have:=last_snoc [] (3,0)
  rw [show [] ++ [(3,0)] = es from hes.symm,hm] at this
  exact this
 rw [hlast] at g1 g2
 simp only at g1 g2
 have hspl:∀ xs ys,splits es xs ys → xs = [] ∧ ys = []:=fun xs ys h => split_leaf (p:=(3,0)) (by decide) (by rw [hes] at h;exact h)
 have hml:(m:Int) < es.length:=by omega
 have hlen:(es.length:Int) - 1 = (m:Int):=by omega
 have hS0:=((((((((((St.start w).alloc _ rfl #[.slice none 0 0,.slice none 0 0] 25).alloc (w.heap.size+1) (by simp) #[.int .i64 0,.int .i64 0,.int .i64 0] 3).boxrow 1 3 1 [.int .i64 0,.int .i64 0,.int .i64 0] rfl rfl (by unfold maxLen;omega)).alloc (w.heap.size+1+1) (by simp) #[.slice (some ⟨w.heap.size+1,0,none⟩) 3 3] 67).boxrow 2 1 1 [.slice (some ⟨w.heap.size+1,0,none⟩) 3 3] rfl rfl (by unfold maxLen;omega)).onerow 2 1 (by decide) rfl rfl).alloc (w.heap.size+1+1+1) (by simp) #[.bool false] 4).boxrow 3 1 1 [.bool false] rfl rfl (by unfold maxLen;omega)).alloc (w.heap.size+1+1+1+1) (by simp) #[.slice (some ⟨w.heap.size+1+1,0,none⟩) 1 1,.slice (some ⟨w.heap.size+1+1+1,0,none⟩) 1 1] 25)
 have q1:=(bcell hS0.bel bv _ hbl).trans g1
 have q2:=(bcell hS0.bel bv _ hbl).trans g2
 have HS0:=qh ((hS0.alloc (w.heap.size+1+1+1+1+1) (by simp) #[.int .i64 3,.int .i64 0] 59).pick [0,2,3,4,5] (by decide))
 have Hspl:=qh hspl
 have Hhes:=qh hes;clear hes
 have Hhm:=qh hm;clear hm
 have Hhok:=qh hok;clear hok
 have Hhlast:=qh hlast;clear hlast
 clear h hcs hrd hS0 hspl
 go_enter Tryz.func58, Tryz.ntmps58
 go_wp2_with fail
 refine (l2Split_any es _ _ Hhok.out (Hp.out.below HS0.out.bel)).mono ?_
 rintro e w1 ⟨vx,vy,xs,ys,hsp,rfl,hx,hy,hb1⟩
 obtain ⟨rfl,rfl⟩:=Hspl.out _ _ hsp
 obtain ⟨ax,cx,rfl,-,-,-⟩:=hx.form
 obtain ⟨ay,cy,rfl,-,-,-⟩:=hy.form
 have hS1:=HS0.out.call hb1
 have e0:=hS1.cell (v:=.slice (some ⟨w.heap.size+1+1,0,none⟩) 1 1) 3 0 rfl rfl
 have e1:=hS1.cell (v:=.slice (some ⟨w.heap.size+1+1+1,0,none⟩) 1 1) 3 1 rfl rfl
 have hS2:=hS1.alloc _ rfl #[.slice (some ⟨w.heap.size+1+1,0,none⟩) 1 1,.slice (some ⟨w.heap.size+1+1+1,0,none⟩) 1 1] 25
 have e2:=hS2.cell (v:=.slice (some ⟨w.heap.size+1+1,0,none⟩) 1 1) 3 0 rfl rfl
 have e3:=hS2.cell (v:=.slice (some ⟨w.heap.size+1+1+1,0,none⟩) 1 1) 3 1 rfl rfl
 have hS2b:St w _ [Ent.box w.heap.size #[.slice none 0 0,.slice none 0 0] 25,Ent.rows 67 3 (.slice (some ⟨w.heap.size+1+1,0,none⟩) 1 1) [.slice (some ⟨w.heap.size+1,0,none⟩) 3 3] [[.int .i64 0,.int .i64 0,.int .i64 0]],Ent.row 4 1 (.slice (some ⟨w.heap.size+1+1+1,0,none⟩) 1 1) 1 [.bool false],Ent.box (w.heap.size+1+1+1+1) #[.slice (some ⟨w.heap.size+1+1,0,none⟩) 1 1,.slice (some ⟨w.heap.size+1+1+1,0,none⟩) 1 1] 25,Ent.box (w.heap.size+1+1+1+1+1) #[.int .i64 3,.int .i64 0] 59,Ent.box (w1.heap.size) #[.slice (some ⟨w.heap.size+1+1,0,none⟩) 1 1,.slice (some ⟨w.heap.size+1+1+1,0,none⟩) 1 1] 25,Ent.box (w1.heap.size+1) #[.slice (some ⟨w.heap.size+1+1,0,none⟩) 1 1,.slice (some ⟨w.heap.size+1+1+1,0,none⟩) 1 1] 25]:=hS2.alloc (w1.heap.size+1) (by simp) #[.slice (some ⟨w.heap.size+1+1,0,none⟩) 1 1,.slice (some ⟨w.heap.size+1+1+1,0,none⟩) 1 1] 25
 have HS2:=qh hS2b
 have HT2:=qh (((St.start w1).alloc _ rfl #[.slice (some ⟨w.heap.size+1+1,0,none⟩) 1 1,.slice (some ⟨w.heap.size+1+1+1,0,none⟩) 1 1] 25).alloc (w1.heap.size+1) (by simp) #[.slice (some ⟨w.heap.size+1+1,0,none⟩) 1 1,.slice (some ⟨w.heap.size+1+1+1,0,none⟩) 1 1] 25)
 clear hb1 hsp q1 q2 g1 g2 hS1 hS2 hS2b hml hlen
 have e4:=HS2.out.cell (v:=.slice (some ⟨w.heap.size+1+1,0,none⟩) 1 1) 3 0 rfl rfl
 have e5:=HS2.out.cell (v:=.slice (some ⟨w.heap.size+1+1+1,0,none⟩) 1 1) 3 1 rfl rfl
 have hS3:=HS2.out.alloc (w1.heap.size+1+1) (by simp) #[.slice (some ⟨w.heap.size+1+1,0,none⟩) 1 1,.slice (some ⟨w.heap.size+1+1+1,0,none⟩) 1 1] 25
 have p0:=hS3.cell (v:=.int .i64 3) 4 0 rfl rfl
 have hS3b:=((hS3.alloc (w1.heap.size+1+1+1) (by simp) #[.int .i64 2,.int .i64 2,.int .i64 2] 3).boxrow 8 3 1 [.int .i64 2,.int .i64 2,.int .i64 2] rfl rfl (by unfold maxLen;omega))
 have p1:=hS3b.cell (v:=.int .i64 0) 4 1 rfl rfl
 have hS3f:=HS2.out.alloc (w1.heap.size+1+1) (by simp) #[.slice (some ⟨w1.heap.size+1+1+1+1+1+1,0,none⟩) 3 3,.slice (some ⟨w1.heap.size+1+1+1+1+1+1+1,0,none⟩) 3 3] 25
 have hS4:St w _ [Ent.box w.heap.size #[.slice none 0 0,.slice none 0 0] 25,Ent.rows 67 3 (.slice (some ⟨w.heap.size+1+1,0,none⟩) 1 1) [.slice (some ⟨w.heap.size+1,0,none⟩) 3 3] [[.int .i64 0,.int .i64 0,.int .i64 0]],Ent.row 4 1 (.slice (some ⟨w.heap.size+1+1+1,0,none⟩) 1 1) 1 [.bool false],Ent.box (w.heap.size+1+1+1+1) #[.slice (some ⟨w.heap.size+1+1,0,none⟩) 1 1,.slice (some ⟨w.heap.size+1+1+1,0,none⟩) 1 1] 25,Ent.box (w.heap.size+1+1+1+1+1) #[.int .i64 3,.int .i64 0] 59,Ent.box (w1.heap.size) #[.slice (some ⟨w.heap.size+1+1,0,none⟩) 1 1,.slice (some ⟨w.heap.size+1+1+1,0,none⟩) 1 1] 25,Ent.box (w1.heap.size+1) #[.slice (some ⟨w.heap.size+1+1,0,none⟩) 1 1,.slice (some ⟨w.heap.size+1+1+1,0,none⟩) 1 1] 25,Ent.box (w1.heap.size+1+1) #[.slice (some ⟨w1.heap.size+1+1+1+1+1+1,0,none⟩) 3 3,.slice (some ⟨w1.heap.size+1+1+1+1+1+1+1,0,none⟩) 3 3] 25,Ent.row 3 1 (.slice (some ⟨w1.heap.size+1+1+1,0,none⟩) 3 3) 3 [.int .i64 1,.int .i64 2,.int .i64 2],Ent.row 3 1 (.slice (some ⟨w1.heap.size+1+1+1+1,0,none⟩) 3 3) 3 [.int .i64 2,.int .i64 2,.int .i64 2],Ent.row 3 1 (.slice (some ⟨w1.heap.size+1+1+1+1+1,0,none⟩) 3 3) 3 [.int .i64 2,.int .i64 2,.int .i64 2],Ent.row 67 1 (.slice (some ⟨w1.heap.size+1+1+1+1+1+1,0,none⟩) 3 3) 3 [.slice (some ⟨w1.heap.size+1+1+1,0,none⟩) 3 3,.slice (some ⟨w1.heap.size+1+1+1+1,0,none⟩) 3 3,.slice (some ⟨w1.heap.size+1+1+1+1+1,0,none⟩) 3 3],Ent.row 4 1 (.slice (some ⟨w1.heap.size+1+1+1+1+1+1+1,0,none⟩) 3 3) 3 [.bool false,.bool true,.bool false]]:=((((((((((hS3f.alloc (w1.heap.size+1+1+1) (by simp) #[.int .i64 1,.int .i64 2,.int .i64 2] 3).boxrow 8 3 1 [.int .i64 1,.int .i64 2,.int .i64 2] rfl rfl (by unfold maxLen;omega)).alloc (w1.heap.size+1+1+1+1) (by simp) #[.int .i64 2,.int .i64 2,.int .i64 2] 3).boxrow 9 3 1 [.int .i64 2,.int .i64 2,.int .i64 2] rfl rfl (by unfold maxLen;omega)).alloc (w1.heap.size+1+1+1+1+1) (by simp) #[.int .i64 2,.int .i64 2,.int .i64 2] 3).boxrow 10 3 1 [.int .i64 2,.int .i64 2,.int .i64 2] rfl rfl (by unfold maxLen;omega)).alloc (w1.heap.size+1+1+1+1+1+1) (by simp) #[.slice (some ⟨w1.heap.size+1+1+1,0,none⟩) 3 3,.slice (some ⟨w1.heap.size+1+1+1+1,0,none⟩) 3 3,.slice (some ⟨w1.heap.size+1+1+1+1+1,0,none⟩) 3 3] 67).boxrow 11 3 1 [.slice (some ⟨w1.heap.size+1+1+1,0,none⟩) 3 3,.slice (some ⟨w1.heap.size+1+1+1+1,0,none⟩) 3 3,.slice (some ⟨w1.heap.size+1+1+1+1+1,0,none⟩) 3 3] rfl rfl (by unfold maxLen;omega)).alloc (w1.heap.size+1+1+1+1+1+1+1) (by simp) #[.bool false,.bool true,.bool false] 4).boxrow 12 3 1 [.bool false,.bool true,.bool false] rfl rfl (by unfold maxLen;omega))
 have HS5:=qh hS4
 clear hS4
 have d0:=HS5.out.cell (v:=.slice (some ⟨w1.heap.size+1+1+1+1+1+1,0,none⟩) 3 3) 7 0 rfl rfl
 have d1:=HS5.out.cell (v:=.slice (some ⟨w1.heap.size+1+1+1+1+1+1+1,0,none⟩) 3 3) 7 1 rfl rfl
 have hI:=HS5.out.intSSv (xss:=(ltrD 0).next) 11 rfl rfl (fun j hj => by
  have hj:j < 3:=hj
  have:j = 0 ∨ j = 1 ∨ j = 2:=by omega
  rcases this with rfl | rfl | rfl
  ·exact HS5.out.intsR (xs:=[1,2,2]) 8 rfl
  ·exact HS5.out.intsR (xs:=[2,2,2]) 9 rfl
  ·exact HS5.out.intsR (xs:=[2,2,2]) 10 rfl)
 have HZ:=qh (show DfaR 0 _ (.agg #[.slice (some ⟨w1.heap.size+1+1+1+1+1+1,0,none⟩) 3 3,.slice (some ⟨w1.heap.size+1+1+1+1+1+1+1,0,none⟩) 3 3]) (ltrD 0) from ⟨_,_,rfl,hI,Sl.mono (boolsB_of_row (xs:=[false,true,false]) (HS5.out.row 12 rfl)) (Nat.zero_le _)⟩)
 obtain ⟨z,hz⟩:∃ z,z = ltrD 0:=⟨_,rfl⟩
 have hzo:dfaOk z.next z.ends = true:=by rw [hz];exact ltrD_ok 0
 have hcz:compE K (.ltr 0) = some (smallD z):=by rw [hz];simp only [compE]
 rw [show ltrD 0 = z from hz.symm] at HZ
 have Hhz:=qh hz;clear hz
 have Hhzo:=qh hzo;clear hzo
 have Hhcz:=qh hcz;clear hcz
 clear hS3 hS3b hS3f hI
 go_wp2_with fail
 refine (l10Small_any z _ _ Hhzo.out HZ.out).mono ?_
 rintro e w9 ⟨s1,t1,s2,t2,rfl,hdr9,hb9⟩
 have HS9:=qh (HS5.out.call hb9)
 have HDr9:=qh hdr9
 have hB0:=(HS5.out.boxlt 0 rfl).2
 have hsz:=HS5.out.size
 have f0:=HS9.out.fr 0 0 rfl
 have f1:=HS9.out.fr 0 1 rfl
 have k0:=HS9.out.cell (v:=.slice none 0 0) 0 0 rfl rfl
 have k1:=HS9.out.cell (v:=.slice none 0 0) 0 1 rfl rfl
 clear hb9 hdr9
 go_wp2
 have hq:=(HS9.out.set 0 rfl 0 (.slice s1 (smallD (z)).next.length t1)).set 0 rfl 1 (.slice s2 (smallD (z)).ends.length t2)
 have q0:=hq.cell (v:=.slice s1 (smallD (z)).next.length t1) 0 0 rfl rfl
 have q1:=hq.cell (v:=.slice s2 (smallD (z)).ends.length t2) 0 1 rfl rfl
 refine bodyPost_ret (v:=.tuple #[.agg #[.slice s1 (smallD (z)).next.length t1,.slice s2 (smallD (z)).ends.length t2],.bool true]) (by simp [results,Tryz.results58,go_sem,q0,q1]) rfl ?_
 rw [show compE K (.ltr 0) = some (smallD (z)) from Hhcz.out]
 exact ⟨s1,t1,s2,t2,rfl,((HDr9.out.far hB0 0 _).far hB0 1 _).mono hsz,hq.bel⟩
theorem l11D_ltr1 (K:Nat):CallD K (.ltr 1):=by
 have hl:(Ex.post (.ltr 1)).length ≤ 60:=by decide
 intro v w h
 obtain ⟨es,hes⟩:∃ es,es = Ex.post (.ltr 1):=⟨_,rfl⟩
 rw [← hes] at h
 have hok:exOk es = true:=by rw [hes];exact post_exOk _ hl
 have Hp:=qh h
 obtain ⟨av,cv,rfl,hc1,hc2,hrd⟩:=h.form
 obtain ⟨m,hm⟩:∃ m,es.length = m+1:=⟨es.length - 1,by have:=post_pos (.ltr 1);rw [← hes] at this;omega⟩
 obtain ⟨bv,ov,rfl,-,hbl,hcs⟩:=hrd (by omega)
 obtain ⟨g1,g2⟩:=hcs m (by omega)
 have hlast:es.getD m (0,0) = (3,1):=by
  have:=last_snoc [] (3,1)
  rw [show [] ++ [(3,1)] = es from hes.symm,hm] at this
  exact this
 rw [hlast] at g1 g2
 simp only at g1 g2
 have hspl:∀ xs ys,splits es xs ys → xs = [] ∧ ys = []:=fun xs ys h => split_leaf (p:=(3,1)) (by decide) (by rw [hes] at h;exact h)
 have hml:(m:Int) < es.length:=by omega
 have hlen:(es.length:Int) - 1 = (m:Int):=by omega
 have hS0:=((((((((((St.start w).alloc _ rfl #[.slice none 0 0,.slice none 0 0] 25).alloc (w.heap.size+1) (by simp) #[.int .i64 0,.int .i64 0,.int .i64 0] 3).boxrow 1 3 1 [.int .i64 0,.int .i64 0,.int .i64 0] rfl rfl (by unfold maxLen;omega)).alloc (w.heap.size+1+1) (by simp) #[.slice (some ⟨w.heap.size+1,0,none⟩) 3 3] 67).boxrow 2 1 1 [.slice (some ⟨w.heap.size+1,0,none⟩) 3 3] rfl rfl (by unfold maxLen;omega)).onerow 2 1 (by decide) rfl rfl).alloc (w.heap.size+1+1+1) (by simp) #[.bool false] 4).boxrow 3 1 1 [.bool false] rfl rfl (by unfold maxLen;omega)).alloc (w.heap.size+1+1+1+1) (by simp) #[.slice (some ⟨w.heap.size+1+1,0,none⟩) 1 1,.slice (some ⟨w.heap.size+1+1+1,0,none⟩) 1 1] 25)
 have q1:=(bcell hS0.bel bv _ hbl).trans g1
 have q2:=(bcell hS0.bel bv _ hbl).trans g2
 have HS0:=qh ((hS0.alloc (w.heap.size+1+1+1+1+1) (by simp) #[.int .i64 3,.int .i64 1] 59).pick [0,2,3,4,5] (by decide))
 have Hspl:=qh hspl
 have Hhes:=qh hes;clear hes
 have Hhm:=qh hm;clear hm
 have Hhok:=qh hok;clear hok
 have Hhlast:=qh hlast;clear hlast
 clear h hcs hrd hS0 hspl
 go_enter Tryz.func58, Tryz.ntmps58
 go_wp2_with fail
 refine (l2Split_any es _ _ Hhok.out (Hp.out.below HS0.out.bel)).mono ?_
 rintro e w1 ⟨vx,vy,xs,ys,hsp,rfl,hx,hy,hb1⟩
 obtain ⟨rfl,rfl⟩:=Hspl.out _ _ hsp
 obtain ⟨ax,cx,rfl,-,-,-⟩:=hx.form
 obtain ⟨ay,cy,rfl,-,-,-⟩:=hy.form
 have hS1:=HS0.out.call hb1
 have e0:=hS1.cell (v:=.slice (some ⟨w.heap.size+1+1,0,none⟩) 1 1) 3 0 rfl rfl
 have e1:=hS1.cell (v:=.slice (some ⟨w.heap.size+1+1+1,0,none⟩) 1 1) 3 1 rfl rfl
 have hS2:=hS1.alloc _ rfl #[.slice (some ⟨w.heap.size+1+1,0,none⟩) 1 1,.slice (some ⟨w.heap.size+1+1+1,0,none⟩) 1 1] 25
 have e2:=hS2.cell (v:=.slice (some ⟨w.heap.size+1+1,0,none⟩) 1 1) 3 0 rfl rfl
 have e3:=hS2.cell (v:=.slice (some ⟨w.heap.size+1+1+1,0,none⟩) 1 1) 3 1 rfl rfl
 have hS2b:St w _ [Ent.box w.heap.size #[.slice none 0 0,.slice none 0 0] 25,Ent.rows 67 3 (.slice (some ⟨w.heap.size+1+1,0,none⟩) 1 1) [.slice (some ⟨w.heap.size+1,0,none⟩) 3 3] [[.int .i64 0,.int .i64 0,.int .i64 0]],Ent.row 4 1 (.slice (some ⟨w.heap.size+1+1+1,0,none⟩) 1 1) 1 [.bool false],Ent.box (w.heap.size+1+1+1+1) #[.slice (some ⟨w.heap.size+1+1,0,none⟩) 1 1,.slice (some ⟨w.heap.size+1+1+1,0,none⟩) 1 1] 25,Ent.box (w.heap.size+1+1+1+1+1) #[.int .i64 3,.int .i64 1] 59,Ent.box (w1.heap.size) #[.slice (some ⟨w.heap.size+1+1,0,none⟩) 1 1,.slice (some ⟨w.heap.size+1+1+1,0,none⟩) 1 1] 25,Ent.box (w1.heap.size+1) #[.slice (some ⟨w.heap.size+1+1,0,none⟩) 1 1,.slice (some ⟨w.heap.size+1+1+1,0,none⟩) 1 1] 25]:=hS2.alloc (w1.heap.size+1) (by simp) #[.slice (some ⟨w.heap.size+1+1,0,none⟩) 1 1,.slice (some ⟨w.heap.size+1+1+1,0,none⟩) 1 1] 25
 have HS2:=qh hS2b
 have HT2:=qh (((St.start w1).alloc _ rfl #[.slice (some ⟨w.heap.size+1+1,0,none⟩) 1 1,.slice (some ⟨w.heap.size+1+1+1,0,none⟩) 1 1] 25).alloc (w1.heap.size+1) (by simp) #[.slice (some ⟨w.heap.size+1+1,0,none⟩) 1 1,.slice (some ⟨w.heap.size+1+1+1,0,none⟩) 1 1] 25)
 clear hb1 hsp q1 q2 g1 g2 hS1 hS2 hS2b hml hlen
 have e4:=HS2.out.cell (v:=.slice (some ⟨w.heap.size+1+1,0,none⟩) 1 1) 3 0 rfl rfl
 have e5:=HS2.out.cell (v:=.slice (some ⟨w.heap.size+1+1+1,0,none⟩) 1 1) 3 1 rfl rfl
 have hS3:=HS2.out.alloc (w1.heap.size+1+1) (by simp) #[.slice (some ⟨w.heap.size+1+1,0,none⟩) 1 1,.slice (some ⟨w.heap.size+1+1+1,0,none⟩) 1 1] 25
 have p0:=hS3.cell (v:=.int .i64 3) 4 0 rfl rfl
 have hS3b:=((hS3.alloc (w1.heap.size+1+1+1) (by simp) #[.int .i64 2,.int .i64 2,.int .i64 2] 3).boxrow 8 3 1 [.int .i64 2,.int .i64 2,.int .i64 2] rfl rfl (by unfold maxLen;omega))
 have p1:=hS3b.cell (v:=.int .i64 1) 4 1 rfl rfl
 have hS3f:=HS2.out.alloc (w1.heap.size+1+1) (by simp) #[.slice (some ⟨w1.heap.size+1+1+1+1+1+1,0,none⟩) 3 3,.slice (some ⟨w1.heap.size+1+1+1+1+1+1+1,0,none⟩) 3 3] 25
 have hS4:St w _ [Ent.box w.heap.size #[.slice none 0 0,.slice none 0 0] 25,Ent.rows 67 3 (.slice (some ⟨w.heap.size+1+1,0,none⟩) 1 1) [.slice (some ⟨w.heap.size+1,0,none⟩) 3 3] [[.int .i64 0,.int .i64 0,.int .i64 0]],Ent.row 4 1 (.slice (some ⟨w.heap.size+1+1+1,0,none⟩) 1 1) 1 [.bool false],Ent.box (w.heap.size+1+1+1+1) #[.slice (some ⟨w.heap.size+1+1,0,none⟩) 1 1,.slice (some ⟨w.heap.size+1+1+1,0,none⟩) 1 1] 25,Ent.box (w.heap.size+1+1+1+1+1) #[.int .i64 3,.int .i64 1] 59,Ent.box (w1.heap.size) #[.slice (some ⟨w.heap.size+1+1,0,none⟩) 1 1,.slice (some ⟨w.heap.size+1+1+1,0,none⟩) 1 1] 25,Ent.box (w1.heap.size+1) #[.slice (some ⟨w.heap.size+1+1,0,none⟩) 1 1,.slice (some ⟨w.heap.size+1+1+1,0,none⟩) 1 1] 25,Ent.box (w1.heap.size+1+1) #[.slice (some ⟨w1.heap.size+1+1+1+1+1+1,0,none⟩) 3 3,.slice (some ⟨w1.heap.size+1+1+1+1+1+1+1,0,none⟩) 3 3] 25,Ent.row 3 1 (.slice (some ⟨w1.heap.size+1+1+1,0,none⟩) 3 3) 3 [.int .i64 2,.int .i64 1,.int .i64 2],Ent.row 3 1 (.slice (some ⟨w1.heap.size+1+1+1+1,0,none⟩) 3 3) 3 [.int .i64 2,.int .i64 2,.int .i64 2],Ent.row 3 1 (.slice (some ⟨w1.heap.size+1+1+1+1+1,0,none⟩) 3 3) 3 [.int .i64 2,.int .i64 2,.int .i64 2],Ent.row 67 1 (.slice (some ⟨w1.heap.size+1+1+1+1+1+1,0,none⟩) 3 3) 3 [.slice (some ⟨w1.heap.size+1+1+1,0,none⟩) 3 3,.slice (some ⟨w1.heap.size+1+1+1+1,0,none⟩) 3 3,.slice (some ⟨w1.heap.size+1+1+1+1+1,0,none⟩) 3 3],Ent.row 4 1 (.slice (some ⟨w1.heap.size+1+1+1+1+1+1+1,0,none⟩) 3 3) 3 [.bool false,.bool true,.bool false]]:=((((((((((hS3f.alloc (w1.heap.size+1+1+1) (by simp) #[.int .i64 2,.int .i64 1,.int .i64 2] 3).boxrow 8 3 1 [.int .i64 2,.int .i64 1,.int .i64 2] rfl rfl (by unfold maxLen;omega)).alloc (w1.heap.size+1+1+1+1) (by simp) #[.int .i64 2,.int .i64 2,.int .i64 2] 3).boxrow 9 3 1 [.int .i64 2,.int .i64 2,.int .i64 2] rfl rfl (by unfold maxLen;omega)).alloc (w1.heap.size+1+1+1+1+1) (by simp) #[.int .i64 2,.int .i64 2,.int .i64 2] 3).boxrow 10 3 1 [.int .i64 2,.int .i64 2,.int .i64 2] rfl rfl (by unfold maxLen;omega)).alloc (w1.heap.size+1+1+1+1+1+1) (by simp) #[.slice (some ⟨w1.heap.size+1+1+1,0,none⟩) 3 3,.slice (some ⟨w1.heap.size+1+1+1+1,0,none⟩) 3 3,.slice (some ⟨w1.heap.size+1+1+1+1+1,0,none⟩) 3 3] 67).boxrow 11 3 1 [.slice (some ⟨w1.heap.size+1+1+1,0,none⟩) 3 3,.slice (some ⟨w1.heap.size+1+1+1+1,0,none⟩) 3 3,.slice (some ⟨w1.heap.size+1+1+1+1+1,0,none⟩) 3 3] rfl rfl (by unfold maxLen;omega)).alloc (w1.heap.size+1+1+1+1+1+1+1) (by simp) #[.bool false,.bool true,.bool false] 4).boxrow 12 3 1 [.bool false,.bool true,.bool false] rfl rfl (by unfold maxLen;omega))
 have HS5:=qh hS4
 clear hS4
 have d0:=HS5.out.cell (v:=.slice (some ⟨w1.heap.size+1+1+1+1+1+1,0,none⟩) 3 3) 7 0 rfl rfl
 have d1:=HS5.out.cell (v:=.slice (some ⟨w1.heap.size+1+1+1+1+1+1+1,0,none⟩) 3 3) 7 1 rfl rfl
 have hI:=HS5.out.intSSv (xss:=(ltrD 1).next) 11 rfl rfl (fun j hj => by
  have hj:j < 3:=hj
  have:j = 0 ∨ j = 1 ∨ j = 2:=by omega
  rcases this with rfl | rfl | rfl
  ·exact HS5.out.intsR (xs:=[2,1,2]) 8 rfl
  ·exact HS5.out.intsR (xs:=[2,2,2]) 9 rfl
  ·exact HS5.out.intsR (xs:=[2,2,2]) 10 rfl)
 have HZ:=qh (show DfaR 0 _ (.agg #[.slice (some ⟨w1.heap.size+1+1+1+1+1+1,0,none⟩) 3 3,.slice (some ⟨w1.heap.size+1+1+1+1+1+1+1,0,none⟩) 3 3]) (ltrD 1) from ⟨_,_,rfl,hI,Sl.mono (boolsB_of_row (xs:=[false,true,false]) (HS5.out.row 12 rfl)) (Nat.zero_le _)⟩)
 obtain ⟨z,hz⟩:∃ z,z = ltrD 1:=⟨_,rfl⟩
 have hzo:dfaOk z.next z.ends = true:=by rw [hz];exact ltrD_ok 1
 have hcz:compE K (.ltr 1) = some (smallD z):=by rw [hz];simp only [compE]
 rw [show ltrD 1 = z from hz.symm] at HZ
 have Hhz:=qh hz;clear hz
 have Hhzo:=qh hzo;clear hzo
 have Hhcz:=qh hcz;clear hcz
 clear hS3 hS3b hS3f hI
 go_wp2_with fail
 refine (l10Small_any z _ _ Hhzo.out HZ.out).mono ?_
 rintro e w9 ⟨s1,t1,s2,t2,rfl,hdr9,hb9⟩
 have HS9:=qh (HS5.out.call hb9)
 have HDr9:=qh hdr9
 have hB0:=(HS5.out.boxlt 0 rfl).2
 have hsz:=HS5.out.size
 have f0:=HS9.out.fr 0 0 rfl
 have f1:=HS9.out.fr 0 1 rfl
 have k0:=HS9.out.cell (v:=.slice none 0 0) 0 0 rfl rfl
 have k1:=HS9.out.cell (v:=.slice none 0 0) 0 1 rfl rfl
 clear hb9 hdr9
 go_wp2
 have hq:=(HS9.out.set 0 rfl 0 (.slice s1 (smallD (z)).next.length t1)).set 0 rfl 1 (.slice s2 (smallD (z)).ends.length t2)
 have q0:=hq.cell (v:=.slice s1 (smallD (z)).next.length t1) 0 0 rfl rfl
 have q1:=hq.cell (v:=.slice s2 (smallD (z)).ends.length t2) 0 1 rfl rfl
 refine bodyPost_ret (v:=.tuple #[.agg #[.slice s1 (smallD (z)).next.length t1,.slice s2 (smallD (z)).ends.length t2],.bool true]) (by simp [results,Tryz.results58,go_sem,q0,q1]) rfl ?_
 rw [show compE K (.ltr 1) = some (smallD (z)) from Hhcz.out]
 exact ⟨s1,t1,s2,t2,rfl,((HDr9.out.far hB0 0 _).far hB0 1 _).mono hsz,hq.bel⟩
theorem l11D_ltr2 (K:Nat):CallD K (.ltr 2):=by
 have hl:(Ex.post (.ltr 2)).length ≤ 60:=by decide
 intro v w h
 obtain ⟨es,hes⟩:∃ es,es = Ex.post (.ltr 2):=⟨_,rfl⟩
 rw [← hes] at h
 have hok:exOk es = true:=by rw [hes];exact post_exOk _ hl
 have Hp:=qh h
 obtain ⟨av,cv,rfl,hc1,hc2,hrd⟩:=h.form
 obtain ⟨m,hm⟩:∃ m,es.length = m+1:=⟨es.length - 1,by have:=post_pos (.ltr 2);rw [← hes] at this;omega⟩
 obtain ⟨bv,ov,rfl,-,hbl,hcs⟩:=hrd (by omega)
 obtain ⟨g1,g2⟩:=hcs m (by omega)
 have hlast:es.getD m (0,0) = (3,2):=by
  have:=last_snoc [] (3,2)
  rw [show [] ++ [(3,2)] = es from hes.symm,hm] at this
  exact this
 rw [hlast] at g1 g2
 simp only at g1 g2
 have hspl:∀ xs ys,splits es xs ys → xs = [] ∧ ys = []:=fun xs ys h => split_leaf (p:=(3,2)) (by decide) (by rw [hes] at h;exact h)
 have hml:(m:Int) < es.length:=by omega
 have hlen:(es.length:Int) - 1 = (m:Int):=by omega
 have hS0:=((((((((((St.start w).alloc _ rfl #[.slice none 0 0,.slice none 0 0] 25).alloc (w.heap.size+1) (by simp) #[.int .i64 0,.int .i64 0,.int .i64 0] 3).boxrow 1 3 1 [.int .i64 0,.int .i64 0,.int .i64 0] rfl rfl (by unfold maxLen;omega)).alloc (w.heap.size+1+1) (by simp) #[.slice (some ⟨w.heap.size+1,0,none⟩) 3 3] 67).boxrow 2 1 1 [.slice (some ⟨w.heap.size+1,0,none⟩) 3 3] rfl rfl (by unfold maxLen;omega)).onerow 2 1 (by decide) rfl rfl).alloc (w.heap.size+1+1+1) (by simp) #[.bool false] 4).boxrow 3 1 1 [.bool false] rfl rfl (by unfold maxLen;omega)).alloc (w.heap.size+1+1+1+1) (by simp) #[.slice (some ⟨w.heap.size+1+1,0,none⟩) 1 1,.slice (some ⟨w.heap.size+1+1+1,0,none⟩) 1 1] 25)
 have q1:=(bcell hS0.bel bv _ hbl).trans g1
 have q2:=(bcell hS0.bel bv _ hbl).trans g2
 have HS0:=qh ((hS0.alloc (w.heap.size+1+1+1+1+1) (by simp) #[.int .i64 3,.int .i64 2] 59).pick [0,2,3,4,5] (by decide))
 have Hspl:=qh hspl
 have Hhes:=qh hes;clear hes
 have Hhm:=qh hm;clear hm
 have Hhok:=qh hok;clear hok
 have Hhlast:=qh hlast;clear hlast
 clear h hcs hrd hS0 hspl
 go_enter Tryz.func58, Tryz.ntmps58
 go_wp2_with fail
 refine (l2Split_any es _ _ Hhok.out (Hp.out.below HS0.out.bel)).mono ?_
 rintro e w1 ⟨vx,vy,xs,ys,hsp,rfl,hx,hy,hb1⟩
 obtain ⟨rfl,rfl⟩:=Hspl.out _ _ hsp
 obtain ⟨ax,cx,rfl,-,-,-⟩:=hx.form
 obtain ⟨ay,cy,rfl,-,-,-⟩:=hy.form
 have hS1:=HS0.out.call hb1
 have e0:=hS1.cell (v:=.slice (some ⟨w.heap.size+1+1,0,none⟩) 1 1) 3 0 rfl rfl
 have e1:=hS1.cell (v:=.slice (some ⟨w.heap.size+1+1+1,0,none⟩) 1 1) 3 1 rfl rfl
 have hS2:=hS1.alloc _ rfl #[.slice (some ⟨w.heap.size+1+1,0,none⟩) 1 1,.slice (some ⟨w.heap.size+1+1+1,0,none⟩) 1 1] 25
 have e2:=hS2.cell (v:=.slice (some ⟨w.heap.size+1+1,0,none⟩) 1 1) 3 0 rfl rfl
 have e3:=hS2.cell (v:=.slice (some ⟨w.heap.size+1+1+1,0,none⟩) 1 1) 3 1 rfl rfl
 have hS2b:St w _ [Ent.box w.heap.size #[.slice none 0 0,.slice none 0 0] 25,Ent.rows 67 3 (.slice (some ⟨w.heap.size+1+1,0,none⟩) 1 1) [.slice (some ⟨w.heap.size+1,0,none⟩) 3 3] [[.int .i64 0,.int .i64 0,.int .i64 0]],Ent.row 4 1 (.slice (some ⟨w.heap.size+1+1+1,0,none⟩) 1 1) 1 [.bool false],Ent.box (w.heap.size+1+1+1+1) #[.slice (some ⟨w.heap.size+1+1,0,none⟩) 1 1,.slice (some ⟨w.heap.size+1+1+1,0,none⟩) 1 1] 25,Ent.box (w.heap.size+1+1+1+1+1) #[.int .i64 3,.int .i64 2] 59,Ent.box (w1.heap.size) #[.slice (some ⟨w.heap.size+1+1,0,none⟩) 1 1,.slice (some ⟨w.heap.size+1+1+1,0,none⟩) 1 1] 25,Ent.box (w1.heap.size+1) #[.slice (some ⟨w.heap.size+1+1,0,none⟩) 1 1,.slice (some ⟨w.heap.size+1+1+1,0,none⟩) 1 1] 25]:=hS2.alloc (w1.heap.size+1) (by simp) #[.slice (some ⟨w.heap.size+1+1,0,none⟩) 1 1,.slice (some ⟨w.heap.size+1+1+1,0,none⟩) 1 1] 25
 have HS2:=qh hS2b
 have HT2:=qh (((St.start w1).alloc _ rfl #[.slice (some ⟨w.heap.size+1+1,0,none⟩) 1 1,.slice (some ⟨w.heap.size+1+1+1,0,none⟩) 1 1] 25).alloc (w1.heap.size+1) (by simp) #[.slice (some ⟨w.heap.size+1+1,0,none⟩) 1 1,.slice (some ⟨w.heap.size+1+1+1,0,none⟩) 1 1] 25)
 clear hb1 hsp q1 q2 g1 g2 hS1 hS2 hS2b hml hlen
 have e4:=HS2.out.cell (v:=.slice (some ⟨w.heap.size+1+1,0,none⟩) 1 1) 3 0 rfl rfl
 have e5:=HS2.out.cell (v:=.slice (some ⟨w.heap.size+1+1+1,0,none⟩) 1 1) 3 1 rfl rfl
 have hS3:=HS2.out.alloc (w1.heap.size+1+1) (by simp) #[.slice (some ⟨w.heap.size+1+1,0,none⟩) 1 1,.slice (some ⟨w.heap.size+1+1+1,0,none⟩) 1 1] 25
 have p0:=hS3.cell (v:=.int .i64 3) 4 0 rfl rfl
 have hS3b:=((hS3.alloc (w1.heap.size+1+1+1) (by simp) #[.int .i64 2,.int .i64 2,.int .i64 2] 3).boxrow 8 3 1 [.int .i64 2,.int .i64 2,.int .i64 2] rfl rfl (by unfold maxLen;omega))
 have p1:=hS3b.cell (v:=.int .i64 2) 4 1 rfl rfl
 have hS3f:=HS2.out.alloc (w1.heap.size+1+1) (by simp) #[.slice (some ⟨w1.heap.size+1+1+1+1+1+1,0,none⟩) 3 3,.slice (some ⟨w1.heap.size+1+1+1+1+1+1+1,0,none⟩) 3 3] 25
 have hS4:St w _ [Ent.box w.heap.size #[.slice none 0 0,.slice none 0 0] 25,Ent.rows 67 3 (.slice (some ⟨w.heap.size+1+1,0,none⟩) 1 1) [.slice (some ⟨w.heap.size+1,0,none⟩) 3 3] [[.int .i64 0,.int .i64 0,.int .i64 0]],Ent.row 4 1 (.slice (some ⟨w.heap.size+1+1+1,0,none⟩) 1 1) 1 [.bool false],Ent.box (w.heap.size+1+1+1+1) #[.slice (some ⟨w.heap.size+1+1,0,none⟩) 1 1,.slice (some ⟨w.heap.size+1+1+1,0,none⟩) 1 1] 25,Ent.box (w.heap.size+1+1+1+1+1) #[.int .i64 3,.int .i64 2] 59,Ent.box (w1.heap.size) #[.slice (some ⟨w.heap.size+1+1,0,none⟩) 1 1,.slice (some ⟨w.heap.size+1+1+1,0,none⟩) 1 1] 25,Ent.box (w1.heap.size+1) #[.slice (some ⟨w.heap.size+1+1,0,none⟩) 1 1,.slice (some ⟨w.heap.size+1+1+1,0,none⟩) 1 1] 25,Ent.box (w1.heap.size+1+1) #[.slice (some ⟨w1.heap.size+1+1+1+1+1+1,0,none⟩) 3 3,.slice (some ⟨w1.heap.size+1+1+1+1+1+1+1,0,none⟩) 3 3] 25,Ent.row 3 1 (.slice (some ⟨w1.heap.size+1+1+1,0,none⟩) 3 3) 3 [.int .i64 2,.int .i64 2,.int .i64 1],Ent.row 3 1 (.slice (some ⟨w1.heap.size+1+1+1+1,0,none⟩) 3 3) 3 [.int .i64 2,.int .i64 2,.int .i64 2],Ent.row 3 1 (.slice (some ⟨w1.heap.size+1+1+1+1+1,0,none⟩) 3 3) 3 [.int .i64 2,.int .i64 2,.int .i64 2],Ent.row 67 1 (.slice (some ⟨w1.heap.size+1+1+1+1+1+1,0,none⟩) 3 3) 3 [.slice (some ⟨w1.heap.size+1+1+1,0,none⟩) 3 3,.slice (some ⟨w1.heap.size+1+1+1+1,0,none⟩) 3 3,.slice (some ⟨w1.heap.size+1+1+1+1+1,0,none⟩) 3 3],Ent.row 4 1 (.slice (some ⟨w1.heap.size+1+1+1+1+1+1+1,0,none⟩) 3 3) 3 [.bool false,.bool true,.bool false]]:=((((((((((hS3f.alloc (w1.heap.size+1+1+1) (by simp) #[.int .i64 2,.int .i64 2,.int .i64 1] 3).boxrow 8 3 1 [.int .i64 2,.int .i64 2,.int .i64 1] rfl rfl (by unfold maxLen;omega)).alloc (w1.heap.size+1+1+1+1) (by simp) #[.int .i64 2,.int .i64 2,.int .i64 2] 3).boxrow 9 3 1 [.int .i64 2,.int .i64 2,.int .i64 2] rfl rfl (by unfold maxLen;omega)).alloc (w1.heap.size+1+1+1+1+1) (by simp) #[.int .i64 2,.int .i64 2,.int .i64 2] 3).boxrow 10 3 1 [.int .i64 2,.int .i64 2,.int .i64 2] rfl rfl (by unfold maxLen;omega)).alloc (w1.heap.size+1+1+1+1+1+1) (by simp) #[.slice (some ⟨w1.heap.size+1+1+1,0,none⟩) 3 3,.slice (some ⟨w1.heap.size+1+1+1+1,0,none⟩) 3 3,.slice (some ⟨w1.heap.size+1+1+1+1+1,0,none⟩) 3 3] 67).boxrow 11 3 1 [.slice (some ⟨w1.heap.size+1+1+1,0,none⟩) 3 3,.slice (some ⟨w1.heap.size+1+1+1+1,0,none⟩) 3 3,.slice (some ⟨w1.heap.size+1+1+1+1+1,0,none⟩) 3 3] rfl rfl (by unfold maxLen;omega)).alloc (w1.heap.size+1+1+1+1+1+1+1) (by simp) #[.bool false,.bool true,.bool false] 4).boxrow 12 3 1 [.bool false,.bool true,.bool false] rfl rfl (by unfold maxLen;omega))
 have HS5:=qh hS4
 clear hS4
 have d0:=HS5.out.cell (v:=.slice (some ⟨w1.heap.size+1+1+1+1+1+1,0,none⟩) 3 3) 7 0 rfl rfl
 have d1:=HS5.out.cell (v:=.slice (some ⟨w1.heap.size+1+1+1+1+1+1+1,0,none⟩) 3 3) 7 1 rfl rfl
 have hI:=HS5.out.intSSv (xss:=(ltrD 2).next) 11 rfl rfl (fun j hj => by
  have hj:j < 3:=hj
  have:j = 0 ∨ j = 1 ∨ j = 2:=by omega
  rcases this with rfl | rfl | rfl
  ·exact HS5.out.intsR (xs:=[2,2,1]) 8 rfl
  ·exact HS5.out.intsR (xs:=[2,2,2]) 9 rfl
  ·exact HS5.out.intsR (xs:=[2,2,2]) 10 rfl)
 have HZ:=qh (show DfaR 0 _ (.agg #[.slice (some ⟨w1.heap.size+1+1+1+1+1+1,0,none⟩) 3 3,.slice (some ⟨w1.heap.size+1+1+1+1+1+1+1,0,none⟩) 3 3]) (ltrD 2) from ⟨_,_,rfl,hI,Sl.mono (boolsB_of_row (xs:=[false,true,false]) (HS5.out.row 12 rfl)) (Nat.zero_le _)⟩)
 obtain ⟨z,hz⟩:∃ z,z = ltrD 2:=⟨_,rfl⟩
 have hzo:dfaOk z.next z.ends = true:=by rw [hz];exact ltrD_ok 2
 have hcz:compE K (.ltr 2) = some (smallD z):=by rw [hz];simp only [compE]
 rw [show ltrD 2 = z from hz.symm] at HZ
 have Hhz:=qh hz;clear hz
 have Hhzo:=qh hzo;clear hzo
 have Hhcz:=qh hcz;clear hcz
 clear hS3 hS3b hS3f hI
 go_wp2_with fail
 refine (l10Small_any z _ _ Hhzo.out HZ.out).mono ?_
 rintro e w9 ⟨s1,t1,s2,t2,rfl,hdr9,hb9⟩
 have HS9:=qh (HS5.out.call hb9)
 have HDr9:=qh hdr9
 have hB0:=(HS5.out.boxlt 0 rfl).2
 have hsz:=HS5.out.size
 have f0:=HS9.out.fr 0 0 rfl
 have f1:=HS9.out.fr 0 1 rfl
 have k0:=HS9.out.cell (v:=.slice none 0 0) 0 0 rfl rfl
 have k1:=HS9.out.cell (v:=.slice none 0 0) 0 1 rfl rfl
 clear hb9 hdr9
 go_wp2
 have hq:=(HS9.out.set 0 rfl 0 (.slice s1 (smallD (z)).next.length t1)).set 0 rfl 1 (.slice s2 (smallD (z)).ends.length t2)
 have q0:=hq.cell (v:=.slice s1 (smallD (z)).next.length t1) 0 0 rfl rfl
 have q1:=hq.cell (v:=.slice s2 (smallD (z)).ends.length t2) 0 1 rfl rfl
 refine bodyPost_ret (v:=.tuple #[.agg #[.slice s1 (smallD (z)).next.length t1,.slice s2 (smallD (z)).ends.length t2],.bool true]) (by simp [results,Tryz.results58,go_sem,q0,q1]) rfl ?_
 rw [show compE K (.ltr 2) = some (smallD (z)) from Hhcz.out]
 exact ⟨s1,t1,s2,t2,rfl,((HDr9.out.far hB0 0 _).far hB0 1 _).mono hsz,hq.bel⟩
end Go.Proofs.YtfgpkadhegdffaaGreat
