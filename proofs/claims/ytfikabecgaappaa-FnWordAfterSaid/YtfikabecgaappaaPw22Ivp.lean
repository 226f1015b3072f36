/-
  The walks over the program's leading and DfaStarts; what they answer, plain.
  Condition: the automaton reads as such.
-/
import Derived.Test.YtfikabecgaappaaPw18Cwp
import Derived.Test.YtfikabecgaappaaPw21Cmb
namespace Go.Proofs.Ytfikabecgaappaa
open Go.RowKit
def Zl5 (d:DfaD) (s:Nat):Prop:=∃ w,isW w∧den d (runD d (s:Int) w)=true
structure LdI (d:DfaD) (F:List Bool) (r s0 c0:Nat):Prop where
 len:F.length=d.next.length
 sound:∀ s,s<d.next.length→F.getD s false=true→Zl5 d s
 old:∀ s w,s<d.next.length→isW w→w.length≤r→den d (runD d (s:Int) w)=true→F.getD s false=true
 done:∀ s w,s<s0→s<d.next.length→isW w→w.length≤r+1→den d (runD d (s:Int) w)=true→F.getD s false=true
 now:∀ c w,c<c0→c<3→isW w→w.length≤r→den d (runD d (s0:Int) (c::w))=true→F.getD s0 false=true
theorem LdI.start {d:DfaD} (hd:Zae d.next d.ends=true):LdI d d.ends 0 0 0:=by have hl:=Zac hd;refine⟨hl.2.2,fun s hs h=>⟨[],Zho,by rw[Zcw,ZaH];exact h⟩,fun s w hs hw hl h => ?_,fun s w hs=>absurd hs (by omega),fun c w hc=>absurd hc (by omega)⟩;have:w=[]:=List.length_eq_zero_iff.1 (by omega);subst this;rw[Zcw,ZaH] at h;exact h
def cwN (d:DfaD) (l s:Nat):Nat:=cntD d l (s:Int)
def CMem (d:DfaD) (X:Ent) (vs:List Value) (k:Nat):Prop:=vs.length=k∧∀ l,l<k→∃ b,vs.getD l undef = .slice (some ⟨b,0,none⟩) d.next.length d.next.length ∧
 X.inn (Ent.row 3 1 (.slice (some ⟨b,0,none⟩) d.next.length d.next.length) d.next.length (intCells (clsL d.next.length (cwN d l))))
theorem CMem.one {d:DfaD} {X:Ent} {vs:List Value} {k:Nat} (h:CMem d X vs k):∀ v∈vs,v.oneCell'=true:=fun v hv=>by
 obtain⟨i,hi,rfl⟩:=List.mem_iff_getElem.1 hv;obtain⟨b,e,-⟩:=h.2 i (by rw[← h.1];exact hi);have e2:vs.getD i undef=vs[i]:=by simp[hi]
 rw[← e2,e];rfl
theorem Ze1 {l:List Nat} (h:wdOk l=false):ZaS l=[]:=by unfold ZaS;rw[if_neg (by rw[h];decide)]
theorem Zii {l:List Nat} (h:wdOk l=true):1≤(ZaS l).length∧(ZaS l).length≤16:=by
 have h8:=(Zcu h).1;unfold ZaS;rw[if_pos h]
 split
 ·decide
 next h0 =>
 refine⟨?_,by have:=Zfr l l.length;omega⟩;obtain⟨k,hk⟩:∃ k,l.length=k+1:=⟨l.length-1,by omega⟩;rw[hk];unfold wxK;rw[List.length_append,List.length_append,List.length_singleton];omega
theorem ZcF (x:Int) (w:World) (r:Bool) (hr:inB x 0 2=r):Calls Try.prog 87 #[.int .i64 x] w fun e w'=>e = .returned (.bool r)∧w=w':=by
 have Hr:=qh hr;clear hr
 go_enter Try.func87, Try.ntmps87
 go_wp2_with fail;refine(Za2 _ _ _ _ _ Hr.out).mono ?_;rintro e w1 ⟨rfl,rfl⟩;go_wp2;go_ret;exact⟨rfl,rfl⟩
theorem ZbW (k l:Int) (w:World) (r:Bool) (hr:pOk (k,l)=r) :
  Calls Try.prog 65 #[.agg #[.int .i64 k,.int .i64 l]] w fun e w'=>e = .returned (.bool r)∧Below w.heap.size w w':=by
 unfold pOk at hr;simp only at hr;by_cases h3:k=3
 ·subst h3;have h1:inB 3 1 8=true:=by decide
  rw[h1,Bool.true_and] at hr;cases h2:inB l 0 2
  ·rw[h2] at hr;have hr:false=r:=hr;subst hr;have H2:=qh h2;clear h2 h1
   go_enter Try.func65, Try.ntmps65
   go_wp2_with fail;refine(ZcF _ _ _ H2.out).mono ?_;rintro e w1 ⟨rfl,rfl⟩;go_wp2;go_ret;exact⟨rfl,(Below.refl _ _).alloc (Nat.le_refl _) _⟩
  rw[h2] at hr;have hr:true=r:=hr;subst hr;have H2:=qh h2;clear h2 h1
  go_enter Try.func65, Try.ntmps65
  go_wp2_with fail;refine(ZcF _ _ _ H2.out).mono ?_;rintro e w1 ⟨rfl,rfl⟩;go_wp2;go_ret;exact⟨rfl,(Below.refl _ _).alloc (Nat.le_refl _) _⟩
 obtain⟨q1,q2,q3,q4⟩:=ZfK h3;rw[decide_eq_false h3] at hr;cases h1:inB k 1 8
 ·rw[h1,Bool.false_and] at hr;subst hr;have H1:=qh h1;clear h1
  go_enter Try.func65, Try.ntmps65
  go_wp2_with fail;refine(Za2 _ _ _ _ _ H1.out).mono ?_;rintro e w1 ⟨rfl,rfl⟩;go_wp2;go_ret;exact⟨rfl,(Below.refl _ _).alloc (Nat.le_refl _) _⟩
 rw[h1,Bool.true_and] at hr;have H1:=qh h1;clear h1;have hr:decide (l=0)=r:=hr;subst hr
 go_enter Try.func65, Try.ntmps65
 go_wp2_with fail;refine(Za2 _ _ _ _ _ H1.out).mono ?_;rintro e w1 ⟨rfl,rfl⟩;by_cases h0:l=0
 ·subst h0;go_wp2;go_ret;exact⟨rfl,(Below.refl _ _).alloc (Nat.le_refl _) _⟩
 obtain⟨p1,p2,p3,p4⟩:=ZfK h0;go_wp2;go_ret;exact⟨by rw[decide_eq_false h0];rfl,(Below.refl _ _).alloc (Nat.le_refl _) _⟩
theorem ZaR (k l:Int) (w:World) (r:Int) (hr:Zaj (k,l)=r) (h0:0≤r) :
  Calls Try.prog 46 #[.agg #[.int .i64 k,.int .i64 l]] w fun e w'=>e = .returned (.int .i64 r)∧Below w.heap.size w w':=by
 have hok:=Zej (p:=(k,l)) (by rw[hr];exact h0);have hk:(k=1∨k=2∨k=3∨k=4∨k=5∨k=6∨k=7∨k=8):=by simp only[pOk,inB,Bool.and_eq_true,Bool.or_eq_true,decide_eq_true_eq] at hok;omega
 unfold Zaj at hr;rw[if_pos hok] at hr;clear hok h0;rcases hk with rfl|rfl|rfl|rfl|rfl|rfl|rfl|rfl <;>
 ·simp at hr;subst hr
  go_enter Try.func46, Try.ntmps46
  go_wp2;go_ret;exact⟨rfl,(Below.refl _ _).alloc (Nat.le_refl _) _⟩
end Go.Proofs.Ytfikabecgaappaa
