/-
  A drawn automaton as one thing in memory: what reads as it, whatever its parts lie in.
  No condition.
-/
import Derived.Test.YtfanhfcamblghaaPq03Mk
namespace Go.Proofs.Ytfanhfcamblghaa
open Go.RowKit
structure DfaH (E:Ent) (v1 v2:Value) (vs:List Value) (D:DfaD):Prop where
 rd:∀ w,E.holds w→(∀ k,E.foot k→k<w.heap.size)→Sl 0 w v1 D.next.length 1 vs∧(∀ i,i<D.next.length→Ints 0 w (vs.getD i undef) (D.next.getD i []))∧Bools 0 w v2 D.ends
theorem DfaH.at {w0 w:World} {L:List Ent} {E:Ent} {v1 v2:Value} {vs:List Value} {D:DfaD} (h:DfaH E v1 v2 vs D) (hS:St w0 w L) (i:Nat) (hx:L[i]? = some E):Sl 0 w v1 D.next.length 1 vs∧(∀ i,i<D.next.length→Ints 0 w (vs.getD i undef) (D.next.getD i []))∧Bools 0 w v2 D.ends :=
 h.rd w (hS.has i _ hx).1 fun k hk=>((hS.has i _ hx).2 k hk).2
theorem DfaH.r {w0 w:World} {L:List Ent} {E:Ent} {v1 v2:Value} {vs:List Value} {D:DfaD} (h:DfaH E v1 v2 vs D) (hS:St w0 w L) (i:Nat) (hx:L[i]? = some E):DfaR 0 w (.agg #[v1,v2]) D:=by obtain⟨h1,h2,h3⟩:=h.at hS i hx;exact⟨v1,v2,rfl,⟨vs,h1,h2⟩,h3⟩
theorem DfaH.one {E:Ent} {v1 v2:Value} {vs:List Value} {D:DfaD} (h:DfaH E v1 v2 vs D) {es e m:Nat} {v rv:Value} {row:List Int} (hm:m=row.length):DfaH (Ent.all [E,Ent.row es 1 v 1 [rv],Ent.row e 1 rv m (intCells row)]) v v2 [rv] ⟨[row],D.ends⟩:=by
 subst hm;refine⟨fun w h1 h2 => ?_⟩;have g1:E.holds w:=h1 _ (by simp);have g2:(Ent.row es 1 v 1 [rv]).holds w:=h1 _ (by simp);have g3:(Ent.row e 1 rv row.length (intCells row)).holds w:=h1 _ (by simp);obtain⟨-,-,p3⟩:=h.rd w g1 fun k hk=>h2 k ⟨E,by simp,hk⟩
 refine⟨Sl.mono ((Zae g2).sl (by omega)) (Nat.zero_le _),fun i hi => ?_,p3⟩;have hi:i<1:=hi;obtain rfl:i=0:=by omega
 exact Sl.mono ((Zae g3).sl (by omega)) (Nat.zero_le _)
end Go.Proofs.Ytfanhfcamblghaa
