/-
  The walk over the reference's ReadExpr: it answers readL.
  Condition: the text is one of bytes.
-/
import Derived.Test.YtfgpkadhegdffaaGreatPk41Rdt
set_option maxHeartbeats 8000000
set_option maxRecDepth 100000
namespace Go.Proofs.YtfgpkadhegdffaaGreat
open Go.RowKit
def RReS (s:List Nat) (w:World) (e:Ending) (w':World):Prop:=(readL s = none ∧ ∃ a c,e = .returned (.tuple #[.slice a 0 c,.bool false]) ∧ St w w' [Ent.row 59 2 (.slice a 0 c) 0 []]) ∨
 (∃ es a c,readL s = some es ∧ e = .returned (.tuple #[.slice a es.length c,.bool true]) ∧ St w w' [Ent.row 59 2 (.slice a es.length c) es.length (es.flatMap pairCells)])
theorem specReadExpr_any (s:List Nat) (w:World) (ht:isT s):Calls Tryz.prog 35 #[.string (txB s)] w fun e w' => RReS s w e w':=by
 have hs:=txB_size s
 by_cases hl:120 < s.length
 ·have hl2:(120:Int) < s.length:=by omega
  have hno:=readL_long hl
  have HN:=qh (newNil (St.start w))
  have Hhno:=qh hno;clear hno
  go_enter Tryz.func35, Tryz.ntmps35
  go_wp2
  refine bodyPost_ret (v:=.tuple #[.slice (some ⟨w.heap.size,0,none⟩) 0 0,.bool false]) (by simp [results,Tryz.results35,go_sem]) rfl ?_
  exact .inl ⟨Hhno.out,_,_,rfl,HN.out⟩
 have hl2:(s.length:Int) ≤ 120:=by omega
 have hr:=readL_by jS_all (Nat.le_refl (fuP 1 s)) (show s.length ≤ 120 by omega)
 have hL:=readS_all (fuP 1 s) 1 s 0 w (by omega) (by omega) (by rw [List.drop_zero];exact Nat.le_refl _) (by omega) ht (by omega)
 rw [List.drop_zero] at hL
 have hm:=rd_le jS (fuP 1 s) 1 s
 have hne:s = [] → (rdP jS (fuP 1 s) 1 s).2.2 = true:=fun h => by
  subst h
  exact rd_nil jS _ 1 (by omega) (by omega)
 obtain ⟨x,hx⟩:∃ x,rdP jS (fuP 1 s) 1 s = x:=⟨_,rfl⟩
 rw [hx] at hL hr hm hne
 obtain ⟨es,q,fl⟩:=x
 have HL:=qh (show Calls Tryz.prog 71 #[.string (txB s),.int .i64 0,.int .i64 0] w fun e w' => RRs s (es,q,fl) w e w' from hL)
 have hel:es.length ≤ 1000:=by have:=hm.2.1;simp only at this;omega
 have hql:q.length ≤ s.length:=hm.1
 have Hht:=qh ht
 have Hr:=qh hr
 have Hhx:=qh hx;clear hx
 clear hL hr hm hl
 cases fl with
 | true =>
  have hno:readL s = none:=by
   rw [Hr.out]
   exact if_neg (fun h => by cases h.1)
  have he:endI s (es,q,true) = -1:=rfl
  have Hhno:=qh hno;clear hno
  clear hne
  go_enter Tryz.func35, Tryz.ntmps35
  go_wp2_with (go_at_call 71;refine (HL.out).mono ?_;rintro e w1 ⟨a1,c1,rfl,hS1⟩;have HN1:=qh ((newNil hS1).pick [1] (by decide));simp only [he];clear hS1)
  refine bodyPost_ret (v:=.tuple #[.slice (some ⟨w1.heap.size,0,none⟩) 0 0,.bool false]) (by simp [results,Tryz.results35,go_sem]) rfl ?_
  exact .inl ⟨Hhno.out,_,_,rfl,HN1.out⟩
 | false =>
  have hse:s ≠ []:=fun h => by cases hne h
  cases q with
  | cons d q =>
   have hno:readL s = none:=by
    rw [Hr.out]
    exact if_neg (fun h => by cases h.2.1)
   obtain ⟨j,hj⟩:∃ j,s.length - (d :: q).length = j:=⟨_,rfl⟩
   have he:endI s (es,d :: q,false) = (j:Int):=by unfold endI;simp only [Bool.false_eq_true,if_false,hj]
   have hjn:((j:Int) != (s.length:Int)) = true:=by
    simp at hql hj ⊢
    omega
   have Hhno:=qh hno;clear hno
   have Hhj:=qh hj;clear hj
   clear hne hse hql
   go_enter Tryz.func35, Tryz.ntmps35
   go_wp2_with (go_at_call 71;refine (HL.out).mono ?_;rintro e w1 ⟨a1,c1,rfl,hS1⟩;have HN1:=qh ((newNil hS1).pick [1] (by decide));simp only [he];clear hS1)
   refine bodyPost_ret (v:=.tuple #[.slice (some ⟨w1.heap.size,0,none⟩) 0 0,.bool false]) (by simp [results,Tryz.results35,go_sem]) rfl ?_
   exact .inl ⟨Hhno.out,_,_,rfl,HN1.out⟩
  | nil =>
   have he:endI s (es,[],false) = (s.length:Int):=rfl
   have hem:=txB_emptyR s
   rw [show s.isEmpty = false by cases s with | nil => exact absurd rfl hse | cons => rfl] at hem
   by_cases hq:textL es = s
   ·have hyes:readL s = some es:=by
     rw [Hr.out]
     exact if_pos ⟨rfl,rfl,hq⟩
    have HX:=qh (fun (v:Value) (u:World) (hv:Pairs 0 u v es) => by have:=specExprText_any es v u hel hv;rw [hq] at this;exact this)
    have Hhyes:=qh hyes;clear hyes
    clear hq hne hse
    go_enter Tryz.func35, Tryz.ntmps35
    go_wp2_with (first
     | (go_at_call 71;refine (HL.out).mono ?_;rintro e w1 ⟨a1,c1,rfl,hS1⟩;have HS1:=qh hS1;simp only [he];clear hS1)
     | (go_at_call 72;refine (HX.out _ _ (pairs_of_row (HS1.out.row 0 rfl))).mono ?_;rintro e w2 ⟨rfl,hb2⟩;have HS2:=qh (HS1.out.call hb2);clear hb2))
    refine bodyPost_ret (v:=.tuple #[.slice a1 es.length c1,.bool true]) (by simp [results,Tryz.results35,go_sem]) rfl ?_
    exact .inr ⟨es,a1,c1,Hhyes.out,rfl,HS2.out⟩
   ·have hno:readL s = none:=by
     rw [Hr.out]
     exact if_neg (fun h => hq h.2.2)
    have hne2:=txB_beq (textL_isT es) Hht.out hq
    have HX:=qh (fun (v:Value) (u:World) (hv:Pairs 0 u v es) => specExprText_any es v u hel hv)
    have Hhno:=qh hno;clear hno
    clear hq hne hse
    go_enter Tryz.func35, Tryz.ntmps35
    go_wp2_with (first
     | (go_at_call 71;refine (HL.out).mono ?_;rintro e w1 ⟨a1,c1,rfl,hS1⟩;have HS1:=qh hS1;simp only [he];clear hS1)
     | (go_at_call 72;refine (HX.out _ _ (pairs_of_row (HS1.out.row 0 rfl))).mono ?_;rintro e w2 ⟨rfl,hb2⟩;have HS2:=qh (HS1.out.call hb2);have HN2:=qh ((newNil HS2.out).pick [1] (by decide));clear hb2))
    refine bodyPost_ret (v:=.tuple #[.slice (some ⟨w2.heap.size,0,none⟩) 0 0,.bool false]) (by simp [results,Tryz.results35,go_sem]) rfl ?_
    exact .inl ⟨Hhno.out,_,_,rfl,HN2.out⟩
end Go.Proofs.YtfgpkadhegdffaaGreat
