/-
  The walks over the program's CompileExpr and StateCount, and over the reference's StateCount.
  Condition: the list of parts reads as such.
-/
import Derived.Test.YtfikabecgaappaaPx26Ivs
import Derived.Test.YtfikabecgaappaaPx30Cmp
set_option maxHeartbeats 4000000
set_option maxRecDepth 100000
namespace Go.Proofs.Ytfikabecgaappaa
open Go.RowKit
theorem Zc6 (K:Nat) (hK:K=40) (es:List (Int × Int)) (o:Option DfaD) (ho:Zno K es o) (v:Value) (w:World) (h:Pairs 0 w v es) :
  Calls Try.prog 9 #[v] w fun e w'=>RTt (o.getD zeD) o.isSome w.heap.size e w'∧Below w.heap.size w w':=by
 have H:=qh h;have HS0:=qh ((St.start w).alloc _ rfl #[.slice none 0 0,.slice none 0 0] 30);clear h;rcases ho with⟨hok,t,ht,rfl⟩|⟨hok,rfl⟩
 ·have hrun:runC K es []=(Zar K t).map fun d=>[d]:=by rw[← ht];exact Zjp hK t
  have hmin:∀ d,Zar K t=some d→minD d=d:=fun d h=>Zi9 hK t h
  obtain⟨o,ho⟩:=eJ (Zar K t);rw[ho] at hrun hmin;rw[ho];have Hc:=qh (show ∀ u:World,Below w.heap.size w u→Calls Try.prog 25 #[v] u fun e w'=>RTt (o.getD zeD) o.isSome u.heap.size e w'∧Below u.heap.size u w' from fun u hb=>Zeg K hK es o hrun hmin v u hok (H.out.below hb));obtain⟨D,hD⟩:=eJ (o.getD zeD);obtain⟨fb,hfb⟩:=eJ (o.isSome);rw[hD,hfb] at Hc;rw[hD,hfb];replace hok:=qh hok;clear hrun hmin ho ht hD hfb
  go_enter Try.func9, Try.ntmps9
  go_wp2_with fail;refine(ZaD es v _ (H.out.below HS0.out.bel) _ hok.out).mono ?_;rintro e w1 ⟨rfl,hb1⟩;have HS1:=qh (HS0.out.call hb1);clear hb1;go_wp2_with fail;refine(Hc.out _ HS1.out.bel).mono ?_;rintro e w2 ⟨⟨a1,c1,a2,c2,rfl,hown⟩,hb2⟩;have hS5:=HS1.out.call hb2;have f0:=hS5.fr 0 0 rfl;have f1:=hS5.fr 0 1 rfl;have k0:=hS5.cell (v:=.slice none 0 0) 0 0 rfl rfl;have k1:=hS5.cell (v:=.slice none 0 0) 0 1 rfl rfl;have hDM:=DMem.of hown HS1.out.size;have hb0:=hS5.box 0 rfl;have HS5:=qh hS5;have HDM:=qh hDM;replace hb0:=qh hb0;clear hS5 hown hb2 hDM;go_wp2;have hq:=(HS5.out.set 0 rfl 0 (.slice a1 D.next.length c1)).set 0 rfl 1 (.slice a2 D.ends.length c2);have q0:=hq.cell (v:=.slice a1 D.next.length c1) 0 0 rfl rfl;have q1:=hq.cell (v:=.slice a2 D.ends.length c2) 0 1 rfl rfl;have hm:=(HDM.out.set hb0.out 0 (.slice a1 D.next.length c1)).set (hb0.out.set 0 _) 1 (.slice a2 D.ends.length c2);refine bodyPost_ret (v:=.tuple #[.agg #[.slice a1 D.next.length c1,.slice a2 D.ends.length c2],.bool fb]) (by simp[results,Try.results9,go_sem,q0,q1]) rfl ⟨?_,hq.bel⟩;exact⟨a1,c1,a2,c2,rfl,_,_,rfl,hm.1,hm.2⟩
 replace hok:=qh hok
 go_enter Try.func9, Try.ntmps9
 go_wp2_with fail;refine(ZaD es v _ (H.out.below HS0.out.bel) _ hok.out).mono ?_;rintro e w1 ⟨rfl,hb1⟩;have HS5:=qh (HS0.out.call hb1);clear hb1;have f0:=HS5.out.fr 0 0 rfl;have f1:=HS5.out.fr 0 1 rfl;have k0:=HS5.out.cell (v:=.slice none 0 0) 0 0 rfl rfl;have k1:=HS5.out.cell (v:=.slice none 0 0) 0 1 rfl rfl;go_wp2;have hq:=(HS5.out.set 0 rfl 0 (.slice none 0 0)).set 0 rfl 1 (.slice none 0 0);have q0:=hq.cell (v:=.slice none 0 0) 0 0 rfl rfl;have q1:=hq.cell (v:=.slice none 0 0) 0 1 rfl rfl;refine bodyPost_ret (v:=.tuple #[.agg #[.slice none 0 0,.slice none 0 0],.bool false]) (by simp[results,Try.results9,go_sem,q0,q1]) rfl ⟨?_,hq.bel⟩;exact⟨none,0,none,0,rfl,Zf2 _ _ _ _ _⟩
end Go.Proofs.Ytfikabecgaappaa
