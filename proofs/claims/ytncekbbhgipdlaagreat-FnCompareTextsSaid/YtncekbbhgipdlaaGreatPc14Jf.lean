/-
  The walks over the reference's l11Dfa and CompileExpr.
  Conditions: the expression's parts read as such.
-/
import Derived.Test.YtncekbbhgipdlaaGreatPc13Je
set_option maxHeartbeats 4000000
set_option maxRecDepth 100000
namespace Go.Proofs.YtncekbbhgipdlaaGreat
open Go.RowKit
theorem Zm7 (K:Nat) (B:K=40):∀ t:Ex,t.post.length≤60→Zdz K t:=by
 intro t
 induction t with
 | zero=>exact fun _=>ZoP K
 | one=>exact fun _=>ZqQ K
 | ltr c=>exact fun _=>ZqS K c
 | join a b ha hb =>
  intro hl;have h:a.post.length+b.post.length+1≤60:=by simp[Ex.post] at hl;omega
  exact ZoR K B a b hl (ha (by omega)) (hb (by omega))
 | alt a b ha hb =>
  intro hl;have h:a.post.length+b.post.length+1≤60:=by simp[Ex.post] at hl;omega
  exact ZqT K B a b hl (ha (by omega)) (hb (by omega))
 | both a b ha hb =>
  intro hl;have h:a.post.length+b.post.length+1≤60:=by simp[Ex.post] at hl;omega
  exact ZoS K B a b hl (ha (by omega)) (hb (by omega))
 | neg a ha =>
  intro hl;have h:a.post.length+1≤60:=by simp[Ex.post] at hl;omega
  exact ZqR K B a hl (ha (by omega))
 | star a ha =>
  intro hl;have h:a.post.length+1≤60:=by simp[Ex.post] at hl;omega
  exact ZoQ K B a hl (ha (by omega))
def ZlP (K:Nat) (es:List (Int × Int)) (o:Option DfaD):Prop:=(exOk es=true∧∃ t:Ex,t.post=es∧Zat K t=o)∨(exOk es=false∧o=none)
theorem Zrd (K:Nat) (es:List (Int × Int)):∃ o,ZlP K es o:=by
 cases h:exOk es with
 | true =>obtain⟨t,ht⟩:=parse h;exact⟨Zat K t,.inl ⟨h,t,ht,rfl⟩⟩
 | false=>exact⟨none,.inr ⟨h,rfl⟩⟩
theorem Zrc {K:Nat} (B:K=40) {es:List (Int × Int)} {d:DfaD} (h:ZlP K es (some d)):Zac d.next d.ends=true:=by
 rcases h with⟨-,t,-,h⟩|⟨-,h⟩
 ·exact ZbS B t h
 cases h
theorem Zg2 (K:Nat) (T:K=40) (es:List (Int × Int)) (o:Option DfaD) (G:ZlP K es o) (v:Value) (w:World) (hlen:es.length≤2000000) (h:Pairs 0 w v es) :
  Calls Tryz.prog 20 #[v] w fun e w'=>RO o w e w':=by
 have H:=qh h;have I:=(St.start w).alloc _ rfl #[.slice none 0 0,.slice none 0 0] 44;have D:=qh I;clear h I;rcases G with⟨hok,t,ht,rfl⟩|⟨hok,rfl⟩
 ·have hl:t.post.length≤60:=by rw[ht];exact(Zbh hok).2.2.2
  have R:=qh (Zm7 K T t hl);have E:=qh hok;have S:=qh ht;clear hok ht hl
  go_enter Tryz.func20, Tryz.ntmps20
  go_wp2_with fail;refine(ZbE es _ _ hlen (H.o.below D.o.bel) _ E.o).mono ?_;rintro e w1 ⟨rfl,hb1⟩;have B:=qh (D.o.call hb1);clear hb1;go_wp2_with fail;refine(R.o _ _ (by rw[S.o];exact H.o.below B.o.bel)).mono ?_;rintro e w2 ⟨x1,y1,x2,y2,rfl,F,hb2⟩;obtain⟨o,G⟩:=eJ (Zat K t);rw[G] at F;rw[G];have C:=qh (B.o.call hb2);have M:=qh F;have J:=(B.o.boxlt 0 rfl).2;have N:=B.o.size;have U:=C.o.fr 0 0 rfl;have f1:=C.o.fr 0 1 rfl;have P:=C.o.cell (v:=.slice none 0 0) 0 0 rfl rfl;have Q:=C.o.cell (v:=.slice none 0 0) 0 1 rfl rfl;clear F hb2;go_wp2;have hq:=(C.o.set 0 rfl 0 (.slice x1 (o.getD Za2).next.length y1)).set 0 rfl 1 (.slice x2 (o.getD Za2).ends.length y2);have L:=hq.cell (v:=.slice x1 (o.getD Za2).next.length y1) 0 0 rfl rfl;have O:=hq.cell (v:=.slice x2 (o.getD Za2).ends.length y2) 0 1 rfl rfl;refine bodyPost_ret (v:=.tuple #[.agg #[.slice x1 (o.getD Za2).next.length y1,.slice x2 (o.getD Za2).ends.length y2],.bool o.isSome]) (by simp[results,Tryz.results20,go_sem,L,O]) rfl ?_;rw[G];exact⟨_,_,_,_,rfl,((M.o.far J 0 _).far J 1 _).mono N,hq.bel⟩
 have E:=qh hok;clear hok
 go_enter Tryz.func20, Tryz.ntmps20
 go_wp2_with fail;refine(ZbE es _ _ hlen (H.o.below D.o.bel) _ E.o).mono ?_;rintro e w1 ⟨rfl,hb1⟩;have B:=qh (D.o.call hb1);clear hb1;have U:=B.o.fr 0 0 rfl;have f1:=B.o.fr 0 1 rfl;have P:=B.o.cell (v:=.slice none 0 0) 0 0 rfl rfl;have Q:=B.o.cell (v:=.slice none 0 0) 0 1 rfl rfl;go_wp2;have hq:=(B.o.set 0 rfl 0 (.slice none 0 0)).set 0 rfl 1 (.slice none 0 0);have L:=hq.cell (v:=.slice none 0 0) 0 0 rfl rfl;have O:=hq.cell (v:=.slice none 0 0) 0 1 rfl rfl;refine bodyPost_ret (v:=.tuple #[.agg #[.slice none 0 0,.slice none 0 0],.bool false]) (by simp[results,Tryz.results20,go_sem,L,O]) rfl ?_;exact⟨none,0,none,0,rfl,Zdb _ _,hq.bel⟩
end Go.Proofs.YtncekbbhgipdlaaGreat
