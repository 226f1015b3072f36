/-
  Plain: what the law of rewriting back asks; the reference's l7Run over texts.
  Condition: the bound of pairs is 40.
-/
import Derived.Test.YtfanhfcamblghaaPv21Drw
namespace Go.Proofs.Ytfanhfcamblghaa
open Go.RowKit
theorem Zj2 (d:DfaD) (q t:Nat) (l:List Nat) (v:Value) (w:World) (hd:Zaf d.next d.ends=true) (hq:q<d.next.length) (hl:txM 4 l=true) (ht:runD d (q:Int) (lets l)=(t:Int)) (h:DfaR 0 w v d) :
  Calls Try.prog 75 #[v,.int .i64 (q:Int),.string (txB l)] w fun e w'=>e = .returned (.int .i64 (t:Int))∧Below w.heap.size w w':=by
 have h1:=Zje d q (lets l) v w hd hq (ZfY hl) (by have:=(Zbs.1 hl).2;unfold lets;rw[List.length_map];omega) h;rw[ht,← ZfZ hl] at h1;exact h1
theorem ZjV {l:List Nat} (h:wdOk l=true):txM 30 l=true:=by unfold wdOk at h;unfold txM;simp only[Bool.and_eq_true,decide_eq_true_eq] at h ⊢;exact⟨h.1,by omega⟩
theorem Zlp {K:Nat} (hK:K=40) {r:RwD} {d x:DfaD} {s:List Nat} (hx:rwB K r d=some x) (hs:wdOk s=true) (h8:(rwT r s).length≤8):(wdOk s&&accD x (lets s))=(wdOk (rwT r s)&&accD d (lets (rwT r s))):=by
 have hok:rwOk r=true:=by
  unfold rwB at hx;by_cases h:rwOk r=true∧Zaf d.next d.ends=true∧(bat (stpW r d) (0,0) K).met.length≤K
  ·exact h.1
  rw[if_neg h] at hx;cases hx
 have hT:rwT r s=rall r (lets s):=by unfold rwT;rw[if_pos ⟨hok,ZjV hs⟩]
 have hw:=ZhC hs;rw[hT] at h8 ⊢;have hwd:wdOk (rall r (lets s))=true:=by have h1:txM 8 (rall r (lets s))=true:=Zbs.2 ⟨ZkL hok hw,h8⟩;exact h1
 rw[hs,hwd,Bool.true_and,Bool.true_and,ZkZ hK hx hw]
theorem ZiJ {K:Nat} (hK:K=40) {r:RwD} {d x:DfaD} (hx:rwB K r d=some x):Zaf d.next d.ends=true∧rwB K cpR d=some (minQ d):=by
 have hd:Zaf d.next d.ends=true:=by
  unfold rwB at hx;by_cases h:rwOk r=true∧Zaf d.next d.ends=true∧(bat (stpW r d) (0,0) K).met.length≤K
  ·exact h.2.1
  rw[if_neg h] at hx;cases hx
 refine⟨hd,?_⟩;rw[Zlj hK hd];unfold minQ;rw[if_pos hd]
end Go.Proofs.Ytfanhfcamblghaa
