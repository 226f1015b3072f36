/-
  The walks over the program's accepts and ExprAccepts.
  Conditions: the list of parts reads as such; the text is one of bytes.
-/
import Derived.Test.YtfikabecgaappaaPx26Ivs
import Derived.Test.YtfikabecgaappaaPx32Spo
set_option maxHeartbeats 4000000
set_option maxRecDepth 100000
namespace Go.Proofs.Ytfikabecgaappaa
open Go.RowKit
theorem Zfp {P:Program} (t e:TypeId) (n:Nat) (cs:Array Value) (i:Nat) (d:TypeDesc) (sz:Nat) (h:P.underlying t=some (.array n e)) (hi:i<n) (hu:P.underlying e=some d) (hd:d.isRow=true) (hs:(P.info? e).map (·.size)=some sz) (w:World) :
  (Instr.index t (.agg cs) (.int .i64 (i:Int))).run P w = .ok (.agg (cs.extract (i*sz) (i*sz+sz))) w:=by
 cases hq:P.info? e with
 | none=>simp[hq] at hs
 | some ie =>
  have hz:ie.size=sz:=by simpa [hq] using hs
  have hagg:(isAgg e).run P w = .ok true w:=by unfold isAgg;rw[Sem.run_bind,run_underlying hu w];cases d<;>simp_all
  have h0:(0:Int)≤(i:Int)∧(i:Int)<(n:Int):=by omega
  simp[Instr.index,run_underlying h,asIntOf,h0,go_sem,part,hagg,sizeOf,typeInfo,hq,hz];exact fun hle=>absurd hle (by omega)
theorem Zge {P:Program} (t e:TypeId) (n:Nat) (cs:Array Value) (i:Nat) (d:TypeDesc) (v:Value) (h:P.underlying t=some (.array n e)) (hi:i<n) (hu:P.underlying e=some d) (hd:d.isRow=false) (hs:(P.info? e).map (·.size)=some 1) (hv:cs[i]? = some v) (w:World) :
  (Instr.index t (.agg cs) (.int .i64 (i:Int))).run P w = .ok v w:=by
 cases hq:P.info? e with
 | none=>simp[hq] at hs
 | some ie =>
  have hz:ie.size=1:=by simpa [hq] using hs
  have hagg:(isAgg e).run P w = .ok false w:=by unfold isAgg;rw[Sem.run_bind,run_underlying hu w];cases d<;>simp_all
  have h0:(0:Int)≤(i:Int)∧(i:Int)<(n:Int):=by omega
  simp[Instr.index,run_underlying h,asIntOf,h0,go_sem,part,hagg,sizeOf,typeInfo,hq,hz,hv];exact fun hle=>absurd hle (by omega)
def accX (l:List Nat) (t:Ex):Bool:=tabE l.length (lsT l) t 0 l.length
def AccO (es:List (Int × Int)) (l:List Nat) (r:Bool):Prop:=(exOk es=true∧wdOk l=true∧∃ t:Ex,t.post=es∧accX l t=r)∨((exOk es=false∨wdOk l=false)∧r=false)
theorem Zfx (t:Ex) (es:List (Int × Int)) (l:List Nat) (v:Value) (w:World) (r:Bool) (hr:accX l t=r) (hes:t.post=es) (hok:exOk es=true) (h:Pairs 0 w v es) (ht:isT l) (hwd:wdOk l=true) :
  Calls Try.prog 38 #[v,.string (txB l)] w fun e w'=>e = .returned (.bool r)∧Below w.heap.size w w':=by
 obtain⟨n,hln⟩:=eJ (l.length);obtain⟨hn8,-⟩:=ZaP hwd;have hsz:=Zbw l;rw[hln] at hsz hn8;have hI:(Try.prog.info? 91).map (·.size)=some 9:=by kernel_rfl
 have hJ:(Try.prog.info? 4).map (·.size)=some 1:=by kernel_rfl
 have hx1:∀ (X:Array Value) (u:World),(Instr.index 93 (.agg X) (.int .i64 0)).run Try.prog u = .ok (.agg (X.extract (0*9) (0*9+9))) u:=fun X u=>Zfp _ 91 9 X 0 _ 9 (by kernel_rfl) (by omega) Try.underlying91 rfl hI u
 obtain⟨Y,hY⟩:=eI ((spC (Zak n (tabE n (lsT l) t))).extract (0*9) (0*9+9));have hY1:Y[n]? = some (.bool r):=by rw[hY,Array.getElem?_extract,if_pos (by rw[Zac];omega)];have:=Zka (Zak n (tabE n (lsT l) t)) (i:=0) (j:=n) (by omega) (by omega);rw[show 0*9+n=0*9+n from rfl] at this;rw[this,Za3 _ (Nat.zero_le _) (Nat.le_refl _),← hr,← hln];rfl
 have hx2:∀ u:World,(Instr.index 91 (.agg Y) (.int .i64 (n:Int))).run Try.prog u = .ok (.bool r) u:=fun u=>Zge _ 4 9 Y n _ (.bool r) (by kernel_rfl) (by omega) Try.underlying4 rfl hJ hY1 u
 have hx1':=fun u=>hx1 (spC (Zak n (tabE n (lsT l) t))) u
 rw[← hY] at hx1';have Hx1:=qh hx1';have Hx2:=qh hx2;have Hc:=qh (fun u (hp:Pairs 0 u v es)=>ZhV t es l n v u hes hok hp ht hwd hln);have Hh:=qh h;clear hx1 hx1' hx2 hY hY1 hI hJ hes hok h ht hwd hr
 go_enter Try.func38, Try.ntmps38
 go_wp2_with fail;refine(Hc.out _ Hh.out).mono ?_;rintro e w1 ⟨rfl,hb1⟩;have hrun1:=Hx1.out w1;have hrun2:=Hx2.out w1;go_wp2;go_ret;exact⟨rfl,hb1⟩
theorem Zc5 (es:List (Int × Int)) (l:List Nat) (v:Value) (w:World) (r:Bool) (hr:AccO es l r) (h:Pairs 0 w v es) (ht:isT l) (hlen:l.length≤2000000) :
  Calls Try.prog 17 #[v,.string (txB l)] w fun e w'=>e = .returned (.bool r)∧Below w.heap.size w w':=by
 obtain⟨x,hx⟩:=eJ (exOk es);obtain⟨y,hy⟩:=eJ (wdOk l);have Hc1:=qh (fun u (hp:Pairs 0 u v es)=>ZaD es v u hp x hx);have Hc2:=qh (fun u=>Zbj l u ht hlen y hy);have Hh:=qh h;have Ht:=qh ht;have Hr:=qh hr;replace hx:=qh hx;have Hhy:=qh hy;clear hy;clear h ht hr;cases x with
 | false =>
  have hrf:r=false:=by
   rcases Hr.out with⟨h1,-,-⟩|⟨-,h2⟩
   ·rw[hx.out] at h1;cases h1
   exact h2
  subst hrf
  go_enter Try.func17, Try.ntmps17
  go_wp2_with fail;refine(Hc1.out _ Hh.out).mono ?_;rintro e w1 ⟨rfl,hb1⟩;go_wp2;go_ret;exact⟨rfl,hb1⟩
 | true =>
  cases y with
  | false =>
   have hrf:r=false:=by
    rcases Hr.out with⟨-,h1,-⟩|⟨-,h2⟩
    ·rw[Hhy.out] at h1;cases h1
    exact h2
   subst hrf
   go_enter Try.func17, Try.ntmps17
   go_wp2_with fail;refine(Hc1.out _ Hh.out).mono ?_;rintro e w1 ⟨rfl,hb1⟩;go_wp2_with (go_at_call 22;refine(Hc2.out _).mono ?_;rintro e w' ⟨rfl,rfl⟩);go_ret;exact⟨rfl,hb1⟩
  | true =>
   obtain⟨t,ht1,ht2⟩:∃ t:Ex,t.post=es∧accX l t=r:=by
    rcases Hr.out with⟨-,-,h1⟩|⟨h1|h1,-⟩
    ·exact h1
    ·rw[hx.out] at h1;cases h1
    rw[Hhy.out] at h1;cases h1
   have Hc3:=qh (fun u (hp:Pairs 0 u v es)=>Zfx t es l v u r ht2 ht1 hx.out hp Ht.out Hhy.out);clear ht1 ht2
   go_enter Try.func17, Try.ntmps17
   go_wp2_with fail;refine(Hc1.out _ Hh.out).mono ?_;rintro e w1 ⟨rfl,hb1⟩;go_wp2_with (first|(go_at_call 22;refine(Hc2.out _).mono ?_;rintro e w' ⟨rfl,rfl⟩)|(go_at_call 38;refine(Hc3.out _ (Hh.out.below hb1)).mono ?_;rintro e w2 ⟨rfl,hb2⟩));go_ret;exact⟨rfl,hb1.trans (hb2.mono hb1.size)⟩
theorem Bx.only {lo hi b:Nat} {w w':World} {cs:Array Value} {T:TypeId} (h:Bx w b cs T) (ho:Only lo hi w w') (hd:b<lo∨hi≤b):Bx w' b cs T:=(ho.block b h.lt hd).trans h
theorem DfaO.only {tS tI tB lo hi lo' hi':Nat} {w w':World} {v:Value} {d:DfaD} (h:DfaO tS tI tB lo hi w v d) (ho:Only lo' hi' w w') (hd:hi≤lo'∨hi'≤lo):DfaO tS tI tB lo hi w' v d:=by obtain⟨v1,v2,hv,h1,h2⟩:=h;exact⟨v1,v2,hv,h1.only ho hd,h2.only ho hd⟩
theorem DfaO.below {tS tI tB lo hi:Nat} {w w':World} {v:Value} {d:DfaD} (h:DfaO tS tI tB lo hi w v d) (hb:Below w.heap.size w w'):DfaO tS tI tB lo hi w' v d:=by obtain⟨v1,v2,hv,h1,h2⟩:=h;exact⟨v1,v2,hv,h1.below hb,Own.below h2 hb⟩
end Go.Proofs.Ytfikabecgaappaa
