/-
  The walks over the reference's l11Dfa and CompileExpr.
  Conditions: the expression's parts read as such.
-/
import Derived.Test.YtfanhfcamblghaaPv14Je
set_option maxHeartbeats 4000000
set_option maxRecDepth 100000
namespace Go.Proofs.Ytfanhfcamblghaa
open Go.RowKit
theorem Zio (K:Nat) (hK:K=40):∀ t:Ex,t.post.length≤60→Zb5 K t:=by
 intro t
 induction t with
 | zero=>exact fun _=>Zjf K
 | one=>exact fun _=>Zkh K
 | ltr c=>exact fun _=>Zkj K c
 | join a b ha hb =>
  intro hl;have h:a.post.length+b.post.length+1≤60:=by simp[Ex.post] at hl;omega
  exact Zjh K hK a b hl (ha (by omega)) (hb (by omega))
 | alt a b ha hb =>
  intro hl;have h:a.post.length+b.post.length+1≤60:=by simp[Ex.post] at hl;omega
  exact Zkk K hK a b hl (ha (by omega)) (hb (by omega))
 | both a b ha hb =>
  intro hl;have h:a.post.length+b.post.length+1≤60:=by simp[Ex.post] at hl;omega
  exact Zji K hK a b hl (ha (by omega)) (hb (by omega))
 | neg a ha =>
  intro hl;have h:a.post.length+1≤60:=by simp[Ex.post] at hl;omega
  exact Zki K hK a hl (ha (by omega))
 | star a ha =>
  intro hl;have h:a.post.length+1≤60:=by simp[Ex.post] at hl;omega
  exact Zjg K hK a hl (ha (by omega))
def Zlm (K:Nat) (es:List (Int × Int)) (o:Option DfaD):Prop:=(exOk es=true∧∃ t:Ex,t.post=es∧Zav K t=o)∨(exOk es=false∧o=none)
theorem Zky (K:Nat) (es:List (Int × Int)):∃ o,Zlm K es o:=by
 cases h:exOk es with
 | true =>obtain⟨t,ht⟩:=parse h;exact⟨Zav K t,.inl ⟨h,t,ht,rfl⟩⟩
 | false=>exact⟨none,.inr ⟨h,rfl⟩⟩
theorem Zkx {K:Nat} (hK:K=40) {es:List (Int × Int)} {d:DfaD} (h:Zlm K es (some d)):Zaf d.next d.ends=true:=by
 rcases h with⟨-,t,-,h⟩|⟨-,h⟩
 ·exact ZcI hK t h
 cases h
theorem ZdZ (K:Nat) (hK:K=40) (es:List (Int × Int)) (o:Option DfaD) (ho:Zlm K es o) (v:Value) (w:World) (hlen:es.length≤2000000) (h:Pairs 0 w v es) :
  Calls Try.prog 114 #[v] w fun e w'=>RO o w e w':=by
 have H:=qh h;have hS0:=(St.start w).alloc _ rfl #[.slice none 0 0,.slice none 0 0] 45;have HS0:=qh hS0;clear h hS0;rcases ho with⟨hok,t,ht,rfl⟩|⟨hok,rfl⟩
 ·have hl:t.post.length≤60:=by rw[ht];exact(ZcH hok).2.2.2
  have Hd:=qh (Zio K hK t hl);have Hok:=qh hok;have Ht:=qh ht;clear hok ht hl
  go_enter Try.func114, Try.ntmps114
  go_wp2_with fail;refine(Zda es _ _ hlen (H.out.below HS0.out.bel) _ Hok.out).mono ?_;rintro e w1 ⟨rfl,hb1⟩;have HS1:=qh (HS0.out.call hb1);clear hb1;go_wp2_with fail;refine(Hd.out _ _ (by rw[Ht.out];exact H.out.below HS1.out.bel)).mono ?_;rintro e w2 ⟨x1,y1,x2,y2,rfl,hdr,hb2⟩;obtain⟨o,ho⟩:=eJ (Zav K t);rw[ho] at hdr;rw[ho];have HS2:=qh (HS1.out.call hb2);have HDr:=qh hdr;have hB0:=(HS1.out.boxlt 0 rfl).2;have hsz:=HS1.out.size;have f0:=HS2.out.fr 0 0 rfl;have f1:=HS2.out.fr 0 1 rfl;have k0:=HS2.out.cell (v:=.slice none 0 0) 0 0 rfl rfl;have k1:=HS2.out.cell (v:=.slice none 0 0) 0 1 rfl rfl;clear hdr hb2;go_wp2;have hq:=(HS2.out.set 0 rfl 0 (.slice x1 (o.getD ZaX).next.length y1)).set 0 rfl 1 (.slice x2 (o.getD ZaX).ends.length y2);have q0:=hq.cell (v:=.slice x1 (o.getD ZaX).next.length y1) 0 0 rfl rfl;have q1:=hq.cell (v:=.slice x2 (o.getD ZaX).ends.length y2) 0 1 rfl rfl;refine bodyPost_ret (v:=.tuple #[.agg #[.slice x1 (o.getD ZaX).next.length y1,.slice x2 (o.getD ZaX).ends.length y2],.bool o.isSome]) (by simp[results,Try.results114,go_sem,q0,q1]) rfl ?_;rw[ho];exact⟨_,_,_,_,rfl,((HDr.out.far hB0 0 _).far hB0 1 _).mono hsz,hq.bel⟩
 have Hok:=qh hok;clear hok
 go_enter Try.func114, Try.ntmps114
 go_wp2_with fail;refine(Zda es _ _ hlen (H.out.below HS0.out.bel) _ Hok.out).mono ?_;rintro e w1 ⟨rfl,hb1⟩;have HS1:=qh (HS0.out.call hb1);clear hb1;have f0:=HS1.out.fr 0 0 rfl;have f1:=HS1.out.fr 0 1 rfl;have k0:=HS1.out.cell (v:=.slice none 0 0) 0 0 rfl rfl;have k1:=HS1.out.cell (v:=.slice none 0 0) 0 1 rfl rfl;go_wp2;have hq:=(HS1.out.set 0 rfl 0 (.slice none 0 0)).set 0 rfl 1 (.slice none 0 0);have q0:=hq.cell (v:=.slice none 0 0) 0 0 rfl rfl;have q1:=hq.cell (v:=.slice none 0 0) 0 1 rfl rfl;refine bodyPost_ret (v:=.tuple #[.agg #[.slice none 0 0,.slice none 0 0],.bool false]) (by simp[results,Try.results114,go_sem,q0,q1]) rfl ?_;exact⟨none,0,none,0,rfl,Za3 _ _,hq.bel⟩
end Go.Proofs.Ytfanhfcamblghaa
