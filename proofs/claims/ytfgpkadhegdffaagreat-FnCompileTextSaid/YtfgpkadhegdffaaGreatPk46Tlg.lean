/-
  The walk over the reference's ReadExpr: it answers readL.
  Condition: the text is one of bytes.
-/
import Derived.Test.YtfgpkadhegdffaaGreatPk45Rdt
set_option maxHeartbeats 8000000
set_option maxRecDepth 100000
namespace Go.Proofs.YtfgpkadhegdffaaGreat
open Go.RowKit
def RReS (s:List Nat) (w:World) (e:Ending) (w':World):Prop:=(Za5 s=none∧∃ a c,e = .returned (.tuple #[.slice a 0 c,.bool false])∧St w w' [Ent.row 59 2 (.slice a 0 c) 0 []]) ∨
 (∃ es a c,Za5 s=some es∧e = .returned (.tuple #[.slice a es.length c,.bool true])∧St w w' [Ent.row 59 2 (.slice a es.length c) es.length (es.flatMap Zaa)])
theorem Zgi (s:List Nat) (w:World) (ht:isT s):Calls Tryz.prog 35 #[.string (txB s)] w fun e w'=>RReS s w e w':=by
 have hs:=Zax s;by_cases hl:120<s.length
 ·have hl2:(120:Int)<s.length:=by omega
  have hno:=Zh4 hl;have HN:=qh (Zf3 (St.start w));have Hhno:=qh hno;clear hno
  go_enter Tryz.func35, Tryz.ntmps35
  go_wp2;refine bodyPost_ret (v:=.tuple #[.slice (some ⟨w.heap.size,0,none⟩) 0 0,.bool false]) (by simp[results,Tryz.results35,go_sem]) rfl ?_;exact .inl ⟨Hhno.out,_,_,rfl,HN.out⟩
 have hl2:(s.length:Int)≤120:=by omega
 have hr:=ZlN Zr4 (Nat.le_refl (fuP 1 s)) (show s.length≤120 by omega);have hL:=ZjN (fuP 1 s) 1 s 0 w (by omega) (by omega) (by rw[List.drop_zero];exact Nat.le_refl _) (by omega) ht (by omega);rw[List.drop_zero] at hL;have hm:=Zdt jS (fuP 1 s) 1 s;have hne:s=[]→(rdP jS (fuP 1 s) 1 s).2.2=true:=fun h=>by subst h;exact ZnP jS _ 1 (by omega) (by omega)
 obtain⟨x,hx⟩:=eJ (rdP jS (fuP 1 s) 1 s);rw[hx] at hL hr hm hne;obtain⟨es,q,fl⟩:=x;have HL:=qh (show Calls Tryz.prog 71 #[.string (txB s),.int .i64 0,.int .i64 0] w fun e w'=>RRs s (es,q,fl) w e w' from hL);have hel:es.length≤1000:=by have:=hm.2.1;simp only at this;omega
 have hql:q.length≤s.length:=hm.1;have Hht:=qh ht;have Hr:=qh hr;replace hx:=qh hx;clear hL hr hm hl;cases fl with
 | true =>
  have hno:Za5 s=none:=by rw[Hr.out];exact if_neg (fun h=>by cases h.1)
  have he:endI s (es,q,true) = -1:=rfl;have Hhno:=qh hno;clear hno;clear hne
  go_enter Tryz.func35, Tryz.ntmps35
  go_wp2_with (go_at_call 71;refine(HL.out).mono ?_;rintro e w1 ⟨a1,c1,rfl,hS1⟩;have HN1:=qh ((Zf3 hS1).pick [1] (by decide));simp only[he];clear hS1);refine bodyPost_ret (v:=.tuple #[.slice (some ⟨w1.heap.size,0,none⟩) 0 0,.bool false]) (by simp[results,Tryz.results35,go_sem]) rfl ?_;exact .inl ⟨Hhno.out,_,_,rfl,HN1.out⟩
 | false =>
  have hse:s≠[]:=fun h=>by cases hne h
  cases q with
  | cons d q =>
   have hno:Za5 s=none:=by rw[Hr.out];exact if_neg (fun h=>by cases h.2.1)
   obtain⟨j,hj⟩:=eJ (s.length-(d::q).length);have he:endI s (es,d::q,false)=(j:Int):=by unfold endI;simp only[Bool.false_eq_true,if_false,hj]
   have hjn:((j:Int) != (s.length:Int))=true:=by simp at hql hj ⊢;omega
   have Hhno:=qh hno;clear hno;replace hj:=qh hj;clear hne hse hql
   go_enter Tryz.func35, Tryz.ntmps35
   go_wp2_with (go_at_call 71;refine(HL.out).mono ?_;rintro e w1 ⟨a1,c1,rfl,hS1⟩;have HN1:=qh ((Zf3 hS1).pick [1] (by decide));simp only[he];clear hS1);refine bodyPost_ret (v:=.tuple #[.slice (some ⟨w1.heap.size,0,none⟩) 0 0,.bool false]) (by simp[results,Tryz.results35,go_sem]) rfl ?_;exact .inl ⟨Hhno.out,_,_,rfl,HN1.out⟩
  | nil =>
   have he:endI s (es,[],false)=(s.length:Int):=rfl;have hem:=Zee s;rw[show s.isEmpty=false by cases s with|nil=>exact absurd rfl hse|cons=>rfl] at hem;by_cases hq:ZeO es=s
   ·have hyes:Za5 s=some es:=by rw[Hr.out];exact if_pos ⟨rfl,rfl,hq⟩
    have HX:=qh (fun (v:Value) (u:World) (hv:Pairs 0 u v es)=>by have:=Zcn es v u hel hv;rw[hq] at this;exact this);have Hhyes:=qh hyes;clear hyes;clear hq hne hse
    go_enter Tryz.func35, Tryz.ntmps35
    go_wp2_with (first
     | (go_at_call 71;refine(HL.out).mono ?_;rintro e w1 ⟨a1,c1,rfl,hS1⟩;have HS1:=qh hS1;simp only[he];clear hS1)
     | (go_at_call 72;refine(HX.out _ _ (Zan (HS1.out.row 0 rfl))).mono ?_;rintro e w2 ⟨rfl,hb2⟩;have HS2:=qh (HS1.out.call hb2);clear hb2))
    refine bodyPost_ret (v:=.tuple #[.slice a1 es.length c1,.bool true]) (by simp[results,Tryz.results35,go_sem]) rfl ?_;exact .inr ⟨es,a1,c1,Hhyes.out,rfl,HS2.out⟩
   have hno:Za5 s=none:=by rw[Hr.out];exact if_neg (fun h=>hq h.2.2)
   have hne2:=Znh (ZgK es) Hht.out hq;have HX:=qh (fun (v:Value) (u:World) (hv:Pairs 0 u v es)=>Zcn es v u hel hv);have Hhno:=qh hno;clear hno;clear hq hne hse
   go_enter Tryz.func35, Tryz.ntmps35
   go_wp2_with (first
    | (go_at_call 71;refine(HL.out).mono ?_;rintro e w1 ⟨a1,c1,rfl,hS1⟩;have HS1:=qh hS1;simp only[he];clear hS1)
    | (go_at_call 72;refine(HX.out _ _ (Zan (HS1.out.row 0 rfl))).mono ?_;rintro e w2 ⟨rfl,hb2⟩;have HS2:=qh (HS1.out.call hb2);have HN2:=qh ((Zf3 HS2.out).pick [1] (by decide));clear hb2))
   refine bodyPost_ret (v:=.tuple #[.slice (some ⟨w2.heap.size,0,none⟩) 0 0,.bool false]) (by simp[results,Tryz.results35,go_sem]) rfl ?_;exact .inl ⟨Hhno.out,_,_,rfl,HN2.out⟩
def ZhB (K:Nat) (q:Option (List (Int × Int))) (o:Option DfaD):Prop:=(q=none∧o=none)∨∃ es,q=some es∧es.length≤2000000∧Zjx K es o
theorem ZlM {s:List Nat} {es:List (Int × Int)} (h:Za5 s=some es):exOk es=true:=by obtain⟨t,rfl,-,h60,-⟩:=ZfB h;exact ZaB t h60
theorem ZdT {s:List Nat} {es:List (Int × Int)} (h:Za5 s=some es):es.length≤60:=(Zby (ZlM h)).2.2.2
theorem Zme (K:Nat) (s:List Nat):∃ o,ZhB K (Za5 s) o:=by
 cases h:Za5 s with
 | none=>exact⟨none,.inl ⟨rfl,rfl⟩⟩
 | some es =>obtain⟨o,ho⟩:=Zjl K es;exact⟨o,.inr ⟨es,rfl,by have:=ZdT h;omega,ho⟩⟩
theorem ZcQ (K:Nat) (hK:K=40) (s:List Nat) (o:Option DfaD) (ho:ZhB K (Za5 s) o) (w:World) (ht:isT s) :
  Calls Tryz.prog 11 #[.string (txB s)] w fun e w'=>RTt (o.getD zeD) o.isSome w.heap.size e w'∧Below w.heap.size w w':=by
 have HS0:=qh ((St.start w).alloc _ rfl #[.slice none 0 0,.slice none 0 0] 25);have HR:=qh (fun u=>ZbI s u ht);obtain⟨q,hq⟩:=eJ (Za5 s);have HQ:=qh hq;have hok:=fun es h=>ZlM (s:=s) (es:=es) (hq.trans h)
 rw[hq] at ho;clear hq;rcases ho with⟨rfl,rfl⟩|⟨es,rfl,-,ho⟩
 ·clear hok
  go_enter Tryz.func11, Tryz.ntmps11
  go_wp2_with fail;refine(HR.out _).mono ?_;rintro e w1 (⟨-,rfl,hb1⟩|⟨es,a,c,hes,-,-⟩)
  ·have HS5:=qh (HS0.out.call hb1);clear hb1;have f0:=HS5.out.fr 0 0 rfl;have f1:=HS5.out.fr 0 1 rfl;have k0:=HS5.out.cell (v:=.slice none 0 0) 0 0 rfl rfl;have k1:=HS5.out.cell (v:=.slice none 0 0) 0 1 rfl rfl;go_wp2;have hq:=(HS5.out.set 0 rfl 0 (.slice none 0 0)).set 0 rfl 1 (.slice none 0 0);have q0:=hq.cell (v:=.slice none 0 0) 0 0 rfl rfl;have q1:=hq.cell (v:=.slice none 0 0) 0 1 rfl rfl;refine bodyPost_ret (v:=.tuple #[.agg #[.slice none 0 0,.slice none 0 0],.bool false]) (by simp[results,Tryz.results11,go_sem,q0,q1]) rfl ⟨?_,hq.bel⟩;exact⟨none,0,none,0,rfl,Zc2 _ _ _ _ _⟩
  exact absurd (HQ.out.symm.trans hes) (by simp)
 replace hok:=hok es rfl
 have hoc:∃ t:Ex,t.post=es∧Zal K t=o:=by
  rcases ho with⟨-,t,h1,h2⟩|⟨h1,-⟩
  ·exact⟨t,h1,h2⟩
  rw[hok] at h1;cases h1
 obtain⟨t,ht1,ht2⟩:=hoc;have hrun:runC K es []=o.map fun d=>[d]:=by rw[← ht1,← ht2];exact Zh2 hK t
 have hmin:∀ d,o=some d→minD d=d:=fun d h=>Zem hK t (ht2.trans h)
 have Hc:=qh (show ∀ (v:Value) (u:World),Pairs 0 u v es→Calls Tryz.prog 37 #[v] u fun e w'=>RTt (o.getD zeD) o.isSome u.heap.size e w'∧Below u.heap.size u w' from fun v u h=>ZdH K hK es o hrun hmin v u hok h);obtain⟨D,hD⟩:=eJ (o.getD zeD);obtain⟨fb,hfb⟩:=eJ (o.isSome);rw[hD,hfb] at Hc;rw[hD,hfb];clear hrun hmin ho ht1 ht2 hD hfb hok
 go_enter Tryz.func11, Tryz.ntmps11
 go_wp2_with fail;refine(HR.out _).mono ?_;rintro e w1 (⟨hno,-,-⟩|⟨es1,a,c,hes,rfl,hS⟩)
 ·exact absurd (HQ.out.symm.trans hno) (by simp)
 obtain rfl:es=es1:=by have:=HQ.out.symm.trans hes;simpa using this
 have HP:=qh (Zan (hS.row 0 rfl));have HS1:=qh (HS0.out.call hS.bel);clear hS hes;go_wp2_with fail;refine(Hc.out _ _ HP.out).mono ?_;rintro e w2 ⟨⟨a1,c1,a2,c2,rfl,hown⟩,hb2⟩;have hS5:=HS1.out.call hb2;have f0:=hS5.fr 0 0 rfl;have f1:=hS5.fr 0 1 rfl;have k0:=hS5.cell (v:=.slice none 0 0) 0 0 rfl rfl;have k1:=hS5.cell (v:=.slice none 0 0) 0 1 rfl rfl;have hDM:=DMem.of hown HS1.out.size;have hb0:=hS5.box 0 rfl;have HS5:=qh hS5;have HDM:=qh hDM;replace hb0:=qh hb0;clear hS5 hown hb2 hDM;go_wp2;have hq:=(HS5.out.set 0 rfl 0 (.slice a1 D.next.length c1)).set 0 rfl 1 (.slice a2 D.ends.length c2);have q0:=hq.cell (v:=.slice a1 D.next.length c1) 0 0 rfl rfl;have q1:=hq.cell (v:=.slice a2 D.ends.length c2) 0 1 rfl rfl;have hm:=(HDM.out.set hb0.out 0 (.slice a1 D.next.length c1)).set (hb0.out.set 0 _) 1 (.slice a2 D.ends.length c2);refine bodyPost_ret (v:=.tuple #[.agg #[.slice a1 D.next.length c1,.slice a2 D.ends.length c2],.bool fb]) (by simp[results,Tryz.results11,go_sem,q0,q1]) rfl ⟨?_,hq.bel⟩;exact⟨a1,c1,a2,c2,rfl,_,_,rfl,hm.1,hm.2⟩
theorem ZcF (K:Nat) (hK:K=40) (s:List Nat) (o:Option DfaD) (ho:ZhB K (Za5 s) o) (w:World) (ht:isT s) :
  Calls Tryz.prog 10 #[.string (txB s)] w fun e w'=>RO o w e w':=by
 have HS0:=qh ((St.start w).alloc _ rfl #[.slice none 0 0,.slice none 0 0] 25);have HR:=qh (fun u=>Zgi s u ht);obtain⟨q,hq⟩:=eJ (Za5 s);have HQ:=qh hq;rw[hq] at ho;clear hq;rcases ho with⟨rfl,rfl⟩|⟨es,rfl,hlen,ho⟩
 ·go_enter Tryz.func10, Tryz.ntmps10
  go_wp2_with fail;refine(HR.out _).mono ?_;rintro e w1 (⟨-,a,c,rfl,hS⟩|⟨es,a,c,hes,-,-⟩)
  ·have HS5:=qh (HS0.out.call hS.bel);clear hS;have f0:=HS5.out.fr 0 0 rfl;have f1:=HS5.out.fr 0 1 rfl;have k0:=HS5.out.cell (v:=.slice none 0 0) 0 0 rfl rfl;have k1:=HS5.out.cell (v:=.slice none 0 0) 0 1 rfl rfl;go_wp2;have hq:=(HS5.out.set 0 rfl 0 (.slice none 0 0)).set 0 rfl 1 (.slice none 0 0);have q0:=hq.cell (v:=.slice none 0 0) 0 0 rfl rfl;have q1:=hq.cell (v:=.slice none 0 0) 0 1 rfl rfl;refine bodyPost_ret (v:=.tuple #[.agg #[.slice none 0 0,.slice none 0 0],.bool false]) (by simp[results,Tryz.results10,go_sem,q0,q1]) rfl ?_;exact⟨none,0,none,0,rfl,Zc1 _ _,hq.bel⟩
  exact absurd (HQ.out.symm.trans hes) (by simp)
 have hc:=fun (v:Value) (u:World) (h:Pairs 0 u v es)=>ZdP K hK es o ho v u hlen h
 unfold RO at hc ⊢;obtain⟨D,hD⟩:=eJ (o.getD Zbj);obtain⟨fb,hfb⟩:=eJ (o.isSome);rw[hD,hfb] at hc ⊢;have Hc:=qh hc;clear ho hlen hc hD hfb
 go_enter Tryz.func10, Tryz.ntmps10
 go_wp2_with fail;refine(HR.out _).mono ?_;rintro e w1 (⟨hno,-⟩|⟨es1,a,c,hes,rfl,hS⟩)
 ·exact absurd (HQ.out.symm.trans hno) (by simp)
 obtain rfl:es=es1:=by have:=HQ.out.symm.trans hes;simpa using this
 have HP:=qh (Zan (hS.row 0 rfl));have HS1:=qh (HS0.out.call hS.bel);clear hS hes;go_wp2_with fail;refine(Hc.out _ _ HP.out).mono ?_;rintro e w2 ⟨a1,c1,a2,c2,rfl,hr,hb2⟩;have hS5:=HS1.out.call hb2;have f0:=hS5.fr 0 0 rfl;have f1:=hS5.fr 0 1 rfl;have k0:=hS5.cell (v:=.slice none 0 0) 0 0 rfl rfl;have k1:=hS5.cell (v:=.slice none 0 0) 0 1 rfl rfl;have hB0:=(HS1.out.boxlt 0 rfl).2;have hsz:=HS1.out.size;have HS5:=qh hS5;have HR5:=qh hr;clear hS5 hr hb2;go_wp2;have hq:=(HS5.out.set 0 rfl 0 (.slice a1 D.next.length c1)).set 0 rfl 1 (.slice a2 D.ends.length c2);have q0:=hq.cell (v:=.slice a1 D.next.length c1) 0 0 rfl rfl;have q1:=hq.cell (v:=.slice a2 D.ends.length c2) 0 1 rfl rfl;refine bodyPost_ret (v:=.tuple #[.agg #[.slice a1 D.next.length c1,.slice a2 D.ends.length c2],.bool fb]) (by simp[results,Tryz.results10,go_sem,q0,q1]) rfl ?_;exact⟨_,_,_,_,rfl,((HR5.out.far hB0 0 _).far hB0 1 _).mono hsz,hq.bel⟩
theorem Zkn {K:Nat} (hK:K=40) {q:Option (List (Int × Int))} {o:Option DfaD} (h:ZhB K q o) {D:DfaD} {fb:Bool} (hD:o.getD Zbj=D) (hfb:o.isSome=fb):(fb=false→D.next.length=0)∧(fb=true→o=some D∧Zag D.next D.ends=true∧minQ D=D):=by
 rcases h with⟨-,rfl⟩|⟨es,-,-,h⟩
 ·subst hD;exact⟨fun _=>rfl,fun e=>(by rw[e] at hfb;cases hfb)⟩
 exact Zkm hK h hD hfb
end Go.Proofs.YtfgpkadhegdffaaGreat
