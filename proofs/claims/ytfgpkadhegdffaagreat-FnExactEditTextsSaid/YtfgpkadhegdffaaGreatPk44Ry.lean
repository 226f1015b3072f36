/-
  The walks over the functions that hold two automata against each other.
  Conditions: both arguments read as automata.
-/
import Derived.Test.YtfgpkadhegdffaaGreatRows
import Derived.Test.YtfgpkadhegdffaaGreatPk33Prs
set_option maxHeartbeats 1600000
namespace Go.Proofs.YtfgpkadhegdffaaGreat
open Go.RowKit
theorem dfa_eq {d1 d2:DfaD}:d1 = d2 ↔ d1.next = d2.next ∧ d1.ends = d2.ends:=by
 obtain ⟨a,b⟩:=d1;obtain ⟨c,d⟩:=d2;simp
theorem eqDfa_any (d1 d2:DfaD) (v1 v2:Value) (w:World) (h1:DfaR 0 w v1 d1) (h2:DfaR 0 w v2 d2) (r:Bool) (hr:decide (d1 = d2) = r) :
  Calls Tryz.prog 12 #[v1,v2] w fun e w' => e = .returned (.bool r) ∧ Below w.heap.size w w':=by
 obtain ⟨u1,u2,rfl,g1,g2⟩:=h1
 obtain ⟨u3,u4,rfl,g3,g4⟩:=h2
 have H1:=qh g1
 have H2:=qh g2
 have H3:=qh g3
 have H4:=qh g4
 obtain ⟨a1,c1,rfl,-⟩:=g1.form
 obtain ⟨a2,c2,rfl,-⟩:=g2.form
 obtain ⟨a3,c3,rfl,-⟩:=g3.form
 obtain ⟨a4,c4,rfl,-⟩:=g4.form
 clear g1 g2 g3 g4
 have Hhr:=qh hr;clear hr
 cases hn:decide (d1.next = d2.next)
 ·have Hhn:=qh hn;clear hn
  go_enter Tryz.func12, Tryz.ntmps12
  go_wp2_with fail
  refine (eqIntSS_any d1.next d2.next _ _ _ (H1.out.below (((Below.refl _ _).alloc (Nat.le_refl _) _).alloc (by simp) _)) (H3.out.below (((Below.refl _ _).alloc (Nat.le_refl _) _).alloc (by simp) _)) _ Hhn.out).mono ?_
  rintro e w2 ⟨rfl,hb2⟩
  have Hhb2:=qh hb2;clear hb2
  go_wp2
  go_ret
  exact ⟨by rw [← Hhr.out,decide_eq_false (fun h => of_decide_eq_false Hhn.out (dfa_eq.1 h).1)];rfl,(((Below.refl _ _).alloc (Nat.le_refl _) _).alloc (by simp) _).trans (Hhb2.out.mono (by simp;omega))⟩
 ·have Hhn:=qh hn;clear hn
  cases he:decide (d1.ends = d2.ends)
  all_goals
   have Hhe:=qh he;clear he
   go_enter Tryz.func12, Tryz.ntmps12
   go_wp2_with fail
   refine (eqIntSS_any d1.next d2.next _ _ _ (H1.out.below (((Below.refl _ _).alloc (Nat.le_refl _) _).alloc (by simp) _)) (H3.out.below (((Below.refl _ _).alloc (Nat.le_refl _) _).alloc (by simp) _)) _ Hhn.out).mono ?_
   rintro e w2 ⟨rfl,hb2⟩
   have hbw:Below w.heap.size w w2:=(((Below.refl _ _).alloc (Nat.le_refl _) _).alloc (by simp) _).trans (hb2.mono (by simp;omega))
   have x0:=(((Bx.new w _ _).alloc _).below hb2 (by simp;omega)).cell 1
   have x1:=((Bx.new (w.alloc _) _ _).below hb2 (by simp)).cell 1
   simp only [List.getElem?_toArray,List.getElem?_cons_zero,List.getElem?_cons_succ,World.size_alloc] at x0 x1
   have Hhb2:=qh hb2;clear hb2
   have Hhbw:=qh hbw;clear hbw
   go_wp2_with fail
   refine (eqBoolS_any d1.ends d2.ends _ _ _ (H2.out.below Hhbw.out) (H4.out.below Hhbw.out) _ Hhe.out).mono ?_
   rintro e w3 ⟨rfl,hb3⟩
   have Hhb3:=qh hb3;clear hb3
   go_wp2
   go_ret
  ·exact ⟨by rw [← Hhr.out,decide_eq_false (fun h => of_decide_eq_false Hhe.out (dfa_eq.1 h).2)];rfl,Hhbw.out.trans (Hhb3.out.mono Hhbw.out.size)⟩
  ·exact ⟨by rw [← Hhr.out,decide_eq_true (dfa_eq.2 ⟨of_decide_eq_true Hhn.out,of_decide_eq_true Hhe.out⟩)];rfl,Hhbw.out.trans (Hhb3.out.mono Hhbw.out.size)⟩
theorem Bx.only {lo hi b:Nat} {w w':World} {cs:Array Value} {T:TypeId} (h:Bx w b cs T) (ho:Only lo hi w w') (hd:b < lo ∨ hi ≤ b):Bx w' b cs T:=(ho.block b h.lt hd).trans h
theorem DfaO.only {tS tI tB lo hi lo' hi':Nat} {w w':World} {v:Value} {d:DfaD} (h:DfaO tS tI tB lo hi w v d) (ho:Only lo' hi' w w') (hd:hi ≤ lo' ∨ hi' ≤ lo):DfaO tS tI tB lo hi w' v d:=by
 obtain ⟨v1,v2,hv,h1,h2⟩:=h
 exact ⟨v1,v2,hv,h1.only ho hd,h2.only ho hd⟩
theorem DfaO.below {tS tI tB lo hi:Nat} {w w':World} {v:Value} {d:DfaD} (h:DfaO tS tI tB lo hi w v d) (hb:Below w.heap.size w w'):DfaO tS tI tB lo hi w' v d:=by
 obtain ⟨v1,v2,hv,h1,h2⟩:=h
 exact ⟨v1,v2,hv,h1.below hb,Own.below h2 hb⟩
end Go.Proofs.YtfgpkadhegdffaaGreat
namespace Go.Proofs.YtfgpkadhegdffaaGreat
open Go.ChangeShapes Go.WideShapes Go.ChangeAt Go.RowKit Go.Joins
theorem Tryz.own:ownKnob Tryz.prog.godebug = none:=by kernel_rfl
section
variable {H:Type} {enc:TypeId × Value → H} {W:World}
end
end Go.Proofs.YtfgpkadhegdffaaGreat
namespace Go.Proofs.YtfgpkadhegdffaaGreat
open Go.ChangeShapes Go.WideShapes Go.ChangeAt Go.RowKit Go.Joins
section
variable {H:Type} {enc:TypeId × Value → H} {W:World}
end
end Go.Proofs.YtfgpkadhegdffaaGreat
