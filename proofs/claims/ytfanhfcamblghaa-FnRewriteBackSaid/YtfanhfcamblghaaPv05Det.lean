/-
  The walk over the program's exploration of sets of states.
  Conditions: a bound on the number of sets; contracts for the two functions that are handed in.
  The walks over the program's determinizing.
  Conditions: the automaton reads as such; its moves, first and last states lie below 40.
-/
import Derived.Test.YtfanhfcamblghaaPv04S8
namespace Go.Proofs.Ytfanhfcamblghaa
open Go.RowKit Go.Maps
end Go.Proofs.Ytfanhfcamblghaa
namespace Go.Proofs.Ytfanhfcamblghaa
open Go.RowKit Go.Maps
def enS (n:NfaD) (x:Int × Int):Bool:=endV n x.1.toNat
def DMem (B:Nat) (w:World) (D:DfaD) (v1 v2:Value):Prop:=OIntSS 26 3 B w.heap.size w v1 D.next∧OBools 4 B w.heap.size w v2 D.ends
theorem DMem.of {B B':Nat} {w:World} {D:DfaD} {v1 v2:Value} (h:DfaO 26 3 4 B' w.heap.size w (.agg #[v1,v2]) D) (hB:B≤B'):DMem B w D v1 v2:=by obtain⟨q1,q2,hq,hd1,hd2⟩:=h;simp only[Value.agg.injEq] at hq;have e1:=congrArg (fun (l:Array Value)=>l[0]?) hq;have e2:=congrArg (fun (l:Array Value)=>l[1]?) hq;simp at e1 e2;subst e1;subst e2;exact⟨hd1.mono hB (Nat.le_refl _),Own.mono hd2 hB (Nat.le_refl _)⟩
theorem DMem.alloc {B:Nat} {w:World} {D:DfaD} {v1 v2:Value} (h:DMem B w D v1 v2) (o:Obj):DMem B (w.alloc o) D v1 v2:=by have hb:=(Below.refl w.heap.size w).alloc (Nat.le_refl _) o;exact⟨(h.1.below hb).mono (Nat.le_refl _) hb.size,Own.mono (Own.below h.2 hb) (Nat.le_refl _) hb.size⟩
theorem DMem.set {B:Nat} {w:World} {D:DfaD} {v1 v2:Value} (h:DMem B w D v1 v2) {b:Nat} {cs:Array Value} (x:Bx w b cs 45) (j:Nat) (v:Value):DMem B (w.setCell ⟨b,j,none⟩ v) D v1 v2:=by have g:=ZaS w b j v;exact⟨(h.1.grown g (x.apart (by decide)) (x.apart (by decide))).mono (Nat.le_refl _) (by simp[World.setCell]),Own.mono (Own.grown h.2 g (x.apart (by decide))) (Nat.le_refl _) (by simp[World.setCell])⟩
end Go.Proofs.Ytfanhfcamblghaa
