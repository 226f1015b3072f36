/-
  The walk over the reference's ReadExpr: it answers readL.
  Condition: the text is one of bytes.
-/
import Derived.Test.YtfgpkadhegdffaaRows
import Derived.Test.YtfgpkadhegdffaaPt06Tbs
import Derived.Test.YtfgpkadhegdffaaPt17Rdt
set_option maxHeartbeats 8000000
set_option maxRecDepth 100000
namespace Go.Proofs.Ytfgpkadhegdffaa
open Go.RowKit
def RReS (s:List Nat) (w:World) (e:Ending) (w':World):Prop:=(ZaZ s=none∧∃ a c,e = .returned (.tuple #[.slice a 0 c,.bool false])∧St w w' [Ent.row 39 2 (.slice a 0 c) 0 []]) ∨
 (∃ es a c,ZaZ s=some es∧e = .returned (.tuple #[.slice a es.length c,.bool true])∧St w w' [Ent.row 39 2 (.slice a es.length c) es.length (es.flatMap Zaa)])
theorem Zch (s:List Nat) (w:World) (ht:isT s):Calls Try.prog 56 #[.string (txB s)] w fun e w'=>RReS s w e w':=by
 have hs:=Zah s;by_cases hl:120<s.length
 ·have hl2:(120:Int)<s.length:=by omega
  have hno:=ZcY hl;have HN:=qh (Zcd (St.start w));have Hhno:=qh hno;clear hno
  go_enter Try.func56, Try.ntmps56
  go_wp2;refine bodyPost_ret (v:=.tuple #[.slice (some ⟨w.heap.size,0,none⟩) 0 0,.bool false]) (by simp[results,Try.results56,go_sem]) rfl ?_;exact .inl ⟨Hhno.out,_,_,rfl,HN.out⟩
 have hl2:(s.length:Int)≤120:=by omega
 have hr:=Zer ZgX (Nat.le_refl (fuP 1 s)) (show s.length≤120 by omega);have hL:=Zdz (fuP 1 s) 1 s 0 w (by omega) (by omega) (by rw[List.drop_zero];exact Nat.le_refl _) (by omega) ht (by omega);rw[List.drop_zero] at hL;have hm:=Zbk jS (fuP 1 s) 1 s;have hne:s=[]→(rdP jS (fuP 1 s) 1 s).2.2=true:=fun h=>by subst h;exact Zfm jS _ 1 (by omega) (by omega)
 obtain⟨x,hx⟩:=eJ (rdP jS (fuP 1 s) 1 s);rw[hx] at hL hr hm hne;obtain⟨es,q,fl⟩:=x;have HL:=qh (show Calls Try.prog 90 #[.string (txB s),.int .i64 0,.int .i64 0] w fun e w'=>RRs s (es,q,fl) w e w' from hL);have hel:es.length≤1000:=by have:=hm.2.1;simp only at this;omega
 have hql:q.length≤s.length:=hm.1;have Hht:=qh ht;have Hr:=qh hr;replace hx:=qh hx;clear hL hr hm hl;cases fl with
 | true =>
  have hno:ZaZ s=none:=by rw[Hr.out];exact if_neg (fun h=>by cases h.1)
  have he:endI s (es,q,true) = -1:=rfl;have Hhno:=qh hno;clear hno;clear hne
  go_enter Try.func56, Try.ntmps56
  go_wp2_with (go_at_call 90;refine(HL.out).mono ?_;rintro e w1 ⟨a1,c1,rfl,hS1⟩;have HN1:=qh ((Zcd hS1).pick [1] (by decide));simp only[he];clear hS1);refine bodyPost_ret (v:=.tuple #[.slice (some ⟨w1.heap.size,0,none⟩) 0 0,.bool false]) (by simp[results,Try.results56,go_sem]) rfl ?_;exact .inl ⟨Hhno.out,_,_,rfl,HN1.out⟩
 | false =>
  have hse:s≠[]:=fun h=>by cases hne h
  cases q with
  | cons d q =>
   have hno:ZaZ s=none:=by rw[Hr.out];exact if_neg (fun h=>by cases h.2.1)
   obtain⟨j,hj⟩:=eJ (s.length-(d::q).length);have he:endI s (es,d::q,false)=(j:Int):=by unfold endI;simp only[Bool.false_eq_true,if_false,hj]
   have hjn:((j:Int) != (s.length:Int))=true:=by simp at hql hj ⊢;omega
   have Hhno:=qh hno;clear hno;replace hj:=qh hj;clear hne hse hql
   go_enter Try.func56, Try.ntmps56
   go_wp2_with (go_at_call 90;refine(HL.out).mono ?_;rintro e w1 ⟨a1,c1,rfl,hS1⟩;have HN1:=qh ((Zcd hS1).pick [1] (by decide));simp only[he];clear hS1);refine bodyPost_ret (v:=.tuple #[.slice (some ⟨w1.heap.size,0,none⟩) 0 0,.bool false]) (by simp[results,Try.results56,go_sem]) rfl ?_;exact .inl ⟨Hhno.out,_,_,rfl,HN1.out⟩
  | nil =>
   have he:endI s (es,[],false)=(s.length:Int):=rfl;have hem:=Zbw s;rw[show s.isEmpty=false by cases s with|nil=>exact absurd rfl hse|cons=>rfl] at hem;by_cases hq:ZbL es=s
   ·have hyes:ZaZ s=some es:=by rw[Hr.out];exact if_pos ⟨rfl,rfl,hq⟩
    have HX:=qh (fun (v:Value) (u:World) (hv:Pairs 0 u v es)=>by have:=ZaT es v u hel hv;rw[hq] at this;exact this);have Hhyes:=qh hyes;clear hyes;clear hq hne hse
    go_enter Try.func56, Try.ntmps56
    go_wp2_with (first
     | (go_at_call 90;refine(HL.out).mono ?_;rintro e w1 ⟨a1,c1,rfl,hS1⟩;have HS1:=qh hS1;simp only[he];clear hS1)
     | (go_at_call 91;refine(HX.out _ _ (Zag (HS1.out.row 0 rfl))).mono ?_;rintro e w2 ⟨rfl,hb2⟩;have HS2:=qh (HS1.out.call hb2);clear hb2))
    refine bodyPost_ret (v:=.tuple #[.slice a1 es.length c1,.bool true]) (by simp[results,Try.results56,go_sem]) rfl ?_;exact .inr ⟨es,a1,c1,Hhyes.out,rfl,HS2.out⟩
   have hno:ZaZ s=none:=by rw[Hr.out];exact if_neg (fun h=>hq h.2.2)
   have hne2:=Ze2 (Zco es) Hht.out hq;have HX:=qh (fun (v:Value) (u:World) (hv:Pairs 0 u v es)=>ZaT es v u hel hv);have Hhno:=qh hno;clear hno;clear hq hne hse
   go_enter Try.func56, Try.ntmps56
   go_wp2_with (first
    | (go_at_call 90;refine(HL.out).mono ?_;rintro e w1 ⟨a1,c1,rfl,hS1⟩;have HS1:=qh hS1;simp only[he];clear hS1)
    | (go_at_call 91;refine(HX.out _ _ (Zag (HS1.out.row 0 rfl))).mono ?_;rintro e w2 ⟨rfl,hb2⟩;have HS2:=qh (HS1.out.call hb2);have HN2:=qh ((Zcd HS2.out).pick [1] (by decide));clear hb2))
   refine bodyPost_ret (v:=.tuple #[.slice (some ⟨w2.heap.size,0,none⟩) 0 0,.bool false]) (by simp[results,Try.results56,go_sem]) rfl ?_;exact .inl ⟨Hhno.out,_,_,rfl,HN2.out⟩
theorem ZbD (es:List (Int × Int)) (l:List Nat) (v:Value) (w:World) (r:Bool) (hr:AccO es l r) (h:Pairs 0 w v es) (ht:isT l) (hlen:l.length≤2000000) (hel:es.length≤1000000) :
  Calls Try.prog 57 #[v,.string (txB l)] w fun e w'=>e = .returned (.bool r)∧Below w.heap.size w w':=by
 obtain⟨x,hx⟩:=eJ (exOk es);obtain⟨y,hy⟩:=eJ (wdOk l);have Hc1:=qh (fun u (hp:Pairs 0 u v es)=>Zbn es v u (by omega) hp x hx);have Hc2:=qh (fun u=>Zb5 l u ht hlen y hy);have Hh:=qh h;have Ht:=qh ht;have Hr:=qh hr;replace hx:=qh hx;have Hhy:=qh hy;clear hy;clear ht hr;cases x with
 | false =>
  have hrf:r=false:=by
   rcases Hr.out with⟨h1,-,-⟩|⟨-,h2⟩
   ·rw[hx.out] at h1;cases h1
   exact h2
  subst hrf;clear h
  go_enter Try.func57, Try.ntmps57
  go_wp2_with fail;refine(Hc1.out _ Hh.out).mono ?_;rintro e w1 ⟨rfl,hb1⟩;go_wp2;go_ret;exact⟨rfl,hb1⟩
 | true =>
  cases y with
  | false =>
   have hrf:r=false:=by
    rcases Hr.out with⟨-,h1,-⟩|⟨-,h2⟩
    ·rw[Hhy.out] at h1;cases h1
    exact h2
   subst hrf;clear h
   go_enter Try.func57, Try.ntmps57
   go_wp2_with fail;refine(Hc1.out _ Hh.out).mono ?_;rintro e w1 ⟨rfl,hb1⟩;go_wp2_with (go_at_call 43;refine(Hc2.out _).mono ?_;rintro e w' ⟨rfl,rfl⟩);go_ret;exact⟨rfl,hb1⟩
  | true =>
   obtain⟨t,ht1,ht2⟩:∃ t:Ex,t.post=es∧accX l t=r:=by
    rcases Hr.out with⟨-,-,h1⟩|⟨h1|h1,-⟩
    ·exact h1
    ·rw[hx.out] at h1;cases h1
    rw[Hhy.out] at h1;cases h1
   obtain⟨hall,hd1,hn1,hn60⟩:=ZaP hx.out;obtain⟨n,hln⟩:=eJ (l.length);obtain⟨M,hM⟩:=eJ (es.length);obtain⟨m,hm⟩:∃ m,M=m+1:=⟨M-1,by omega⟩;obtain⟨hn8,-⟩:=Zba Hhy.out;have hsz:=Zah l;rw[hln] at hsz hn8;have Hc3:=qh (fun u (hp:Pairs 0 u v es)=>Zed t es l n M v u ht1 hM hx.out hp Ht.out Hhy.out hln)
   have hlast:subT t n l m 0 n=r:=by
    have e1:m=t.post.length-1:=by rw[ht1,hM,hm];rfl
    rw[e1];unfold subT;rw[ZbN,Zbi (Nat.zero_le _) (Nat.le_refl _),← ht2,← hln];rfl
   obtain⟨av,cv,rfl,hc1,hc2,-⟩:=h.form;rw[hM] at hc1 Hc1 Hc3 Hh hn1 hn60;rw[hM];have hwm:IntKind.i64.wrap ((M:Int)-1)=(m:Int):=by rw[IntWalk.i64_in _ (by omega)];omega
   have hmM:(m:Int)<(M:Int):=by omega
   have hmM2:m<M:=by omega
   replace hlast:=qh hlast;have Hhm:=qh hm;clear hm;replace hM:=qh hM;have Hhln:=qh hln;clear hln;clear h ht1 ht2 hall hd1
   go_enter Try.func57, Try.ntmps57
   go_wp2_with fail;refine(Hc1.out _ Hh.out).mono ?_;rintro e w1 ⟨rfl,hb1⟩;have HB1:=qh hb1;go_wp2_with (first|(go_at_call 43;refine(Hc2.out _).mono ?_;rintro e w' ⟨rfl,rfl⟩)|fail);refine(Hc3.out _ (Hh.out.below HB1.out)).mono ?_;rintro e w2 ⟨a,c,vs,X,rfl,hvs,hTb,hS⟩;obtain⟨g,cap,hg⟩:=hS.rowform 0 rfl (by omega);simp only[Value.slice.injEq] at hg;obtain⟨rfl,-,rfl⟩:=hg;obtain⟨B,c',R,t1,t2,t3⟩:=hS.tab 0 1 (q:=m) rfl rfl hvs hmM2 (hTb m hmM2);have v2:=t2 0 (by omega);have v3:=t3 0 n (by omega) (by omega);rw[hlast.out] at v3;have HBS:=qh (hb1.trans (hS.bel.mono hb1.size));clear hS hTb t2 t3 hb1;go_wp2;go_ret;exact⟨rfl,HBS.out⟩
theorem ZaY (s l:List Nat) (w:World) (r:Bool) (hr:AccT s l r) (hs:isT s) (ht:isT l) (hlen:l.length≤2000000) :
  Calls Try.prog 26 #[.string (txB s),.string (txB l)] w fun e w'=>e = .returned (.bool r)∧Below w.heap.size w w':=by
 have HR:=qh (fun u=>Zch s u hs);have HA:=qh (fun es v u (hr:AccO es l r) (hp:Pairs 0 u v es) (he:es.length≤1000000)=>ZbD es l v u r hr hp ht hlen he);have Hr:=qh hr;clear hr hs ht
 go_enter Try.func26, Try.ntmps26
 go_wp2_with fail;refine(HR.out _).mono ?_;rintro e w1 (⟨hn,a,c,rfl,hS⟩|⟨es,a,c,hn,rfl,hS⟩)
 ·have hrf:r=false:=by
   rcases Hr.out with⟨-,h⟩|⟨es,h,-⟩
   ·exact h
   rw[hn] at h;cases h
  subst hrf;have HB:=qh hS.bel;clear hn hS;go_wp2;go_ret;exact⟨rfl,HB.out⟩
 have hro:AccO es l r∧es.length≤1000000:=by
  obtain⟨t,rfl,-,h60,-⟩:=ZcX hn;rcases Hr.out with⟨h,-⟩|⟨es',h,h2⟩
  ·rw[hn] at h;cases h
  rw[hn] at h;obtain rfl:=Option.some.inj h;exact⟨h2,by omega⟩
 have HP:=qh (Zag (hS.row 0 rfl));have HB:=qh hS.bel;have Hro:=qh hro;clear hn hS hro;go_wp2_with (go_at_call 57;refine(HA.out _ _ _ Hro.out.1 HP.out Hro.out.2).mono ?_;rintro e w2 ⟨rfl,hb2⟩);go_ret;exact⟨rfl,HB.out.trans (hb2.mono HB.out.size)⟩
end Go.Proofs.Ytfgpkadhegdffaa
namespace Go.Proofs.Ytfgpkadhegdffaa
open Go.ChangeShapes Go.WideShapes Go.ChangeAt Go.RowKit Go.Joins
theorem Try.own:ownKnob Try.prog.godebug=none:=by kernel_rfl
section
variable {H:Type} {enc:TypeId × Value→H} {W:World}
end
end Go.Proofs.Ytfgpkadhegdffaa
namespace Go.Proofs.Ytfgpkadhegdffaa
open Go.ChangeShapes Go.WideShapes Go.ChangeAt Go.RowKit Go.Joins
section
variable {H:Type} {enc:TypeId × Value→H} {W:World}
end
end Go.Proofs.Ytfgpkadhegdffaa
