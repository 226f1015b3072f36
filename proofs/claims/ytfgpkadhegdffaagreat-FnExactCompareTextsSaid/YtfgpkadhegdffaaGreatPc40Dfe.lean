/-
  The walk over the reference's ReadExpr: it answers readL.
  Condition: the text is one of bytes.
-/
import Derived.Test.YtfgpkadhegdffaaGreatPc32Jf
import Derived.Test.YtfgpkadhegdffaaGreatPc33Cmp
import Derived.Test.YtfgpkadhegdffaaGreatPc39Rdt
set_option maxHeartbeats 8000000
set_option maxRecDepth 100000
namespace Go.Proofs.YtfgpkadhegdffaaGreat
open Go.RowKit
def RReS (s:List Nat) (w:World) (e:Ending) (w':World):Prop:=(Zbu s=none∧∃ a c,e = .returned (.tuple #[.slice a 0 c,.bool false])∧St w w' [Ent.row 59 2 (.slice a 0 c) 0 []]) ∨
 (∃ es a c,Zbu s=some es∧e = .returned (.tuple #[.slice a es.length c,.bool true])∧St w w' [Ent.row 59 2 (.slice a es.length c) es.length (es.flatMap Zaa)])
theorem Zfc (s:List Nat) (w:World) (ht:isT s):Calls Tryz.prog 35 #[.string (txB s)] w fun e w'=>RReS s w e w':=by
 have hs:=ZaP s;by_cases hl:120<s.length
 ·have hl2:(120:Int)<s.length:=by omega
  have hno:=ZgY hl;have HN:=qh (ZeZ (St.start w));have Hhno:=qh hno;clear hno
  go_enter Tryz.func35, Tryz.ntmps35
  go_wp2;refine bodyPost_ret (v:=.tuple #[.slice (some ⟨w.heap.size,0,none⟩) 0 0,.bool false]) (by simp[results,Tryz.results35,go_sem]) rfl ?_;exact .inl ⟨Hhno.out,_,_,rfl,HN.out⟩
 have hl2:(s.length:Int)≤120:=by omega
 have hr:=Zj1 ZoA (Nat.le_refl (fuP 1 s)) (show s.length≤120 by omega);have hL:=Zit (fuP 1 s) 1 s 0 w (by omega) (by omega) (by rw[List.drop_zero];exact Nat.le_refl _) (by omega) ht (by omega);rw[List.drop_zero] at hL;have hm:=Zc0 jS (fuP 1 s) 1 s;have hne:s=[]→(rdP jS (fuP 1 s) 1 s).2.2=true:=fun h=>by subst h;exact ZlA jS _ 1 (by omega) (by omega)
 obtain⟨x,hx⟩:=eJ (rdP jS (fuP 1 s) 1 s);rw[hx] at hL hr hm hne;obtain⟨es,q,fl⟩:=x;have HL:=qh (show Calls Tryz.prog 71 #[.string (txB s),.int .i64 0,.int .i64 0] w fun e w'=>RRs s (es,q,fl) w e w' from hL);have hel:es.length≤1000:=by have:=hm.2.1;simp only at this;omega
 have hql:q.length≤s.length:=hm.1;have Hht:=qh ht;have Hr:=qh hr;replace hx:=qh hx;clear hL hr hm hl;cases fl with
 | true =>
  have hno:Zbu s=none:=by rw[Hr.out];exact if_neg (fun h=>by cases h.1)
  have he:endI s (es,q,true) = -1:=rfl;have Hhno:=qh hno;clear hno;clear hne
  go_enter Tryz.func35, Tryz.ntmps35
  go_wp2_with (go_at_call 71;refine(HL.out).mono ?_;rintro e w1 ⟨a1,c1,rfl,hS1⟩;have HN1:=qh ((ZeZ hS1).pick [1] (by decide));simp only[he];clear hS1);refine bodyPost_ret (v:=.tuple #[.slice (some ⟨w1.heap.size,0,none⟩) 0 0,.bool false]) (by simp[results,Tryz.results35,go_sem]) rfl ?_;exact .inl ⟨Hhno.out,_,_,rfl,HN1.out⟩
 | false =>
  have hse:s≠[]:=fun h=>by cases hne h
  cases q with
  | cons d q =>
   have hno:Zbu s=none:=by rw[Hr.out];exact if_neg (fun h=>by cases h.2.1)
   obtain⟨j,hj⟩:=eJ (s.length-(d::q).length);have he:endI s (es,d::q,false)=(j:Int):=by unfold endI;simp only[Bool.false_eq_true,if_false,hj]
   have hjn:((j:Int) != (s.length:Int))=true:=by simp at hql hj ⊢;omega
   have Hhno:=qh hno;clear hno;replace hj:=qh hj;clear hne hse hql
   go_enter Tryz.func35, Tryz.ntmps35
   go_wp2_with (go_at_call 71;refine(HL.out).mono ?_;rintro e w1 ⟨a1,c1,rfl,hS1⟩;have HN1:=qh ((ZeZ hS1).pick [1] (by decide));simp only[he];clear hS1);refine bodyPost_ret (v:=.tuple #[.slice (some ⟨w1.heap.size,0,none⟩) 0 0,.bool false]) (by simp[results,Tryz.results35,go_sem]) rfl ?_;exact .inl ⟨Hhno.out,_,_,rfl,HN1.out⟩
  | nil =>
   have he:endI s (es,[],false)=(s.length:Int):=rfl;have hem:=Zdx s;rw[show s.isEmpty=false by cases s with|nil=>exact absurd rfl hse|cons=>rfl] at hem;by_cases hq:Zev es=s
   ·have hyes:Zbu s=some es:=by rw[Hr.out];exact if_pos ⟨rfl,rfl,hq⟩
    have HX:=qh (fun (v:Value) (u:World) (hv:Pairs 0 u v es)=>by have:=Zc7 es v u hel hv;rw[hq] at this;exact this);have Hhyes:=qh hyes;clear hyes;clear hq hne hse
    go_enter Tryz.func35, Tryz.ntmps35
    go_wp2_with (first
     | (go_at_call 71;refine(HL.out).mono ?_;rintro e w1 ⟨a1,c1,rfl,hS1⟩;have HS1:=qh hS1;simp only[he];clear hS1)
     | (go_at_call 72;refine(HX.out _ _ (Zax (HS1.out.row 0 rfl))).mono ?_;rintro e w2 ⟨rfl,hb2⟩;have HS2:=qh (HS1.out.call hb2);clear hb2))
    refine bodyPost_ret (v:=.tuple #[.slice a1 es.length c1,.bool true]) (by simp[results,Tryz.results35,go_sem]) rfl ?_;exact .inr ⟨es,a1,c1,Hhyes.out,rfl,HS2.out⟩
   have hno:Zbu s=none:=by rw[Hr.out];exact if_neg (fun h=>hq h.2.2)
   have hne2:=Zld (Zig es) Hht.out hq;have HX:=qh (fun (v:Value) (u:World) (hv:Pairs 0 u v es)=>Zc7 es v u hel hv);have Hhno:=qh hno;clear hno;clear hq hne hse
   go_enter Tryz.func35, Tryz.ntmps35
   go_wp2_with (first
    | (go_at_call 71;refine(HL.out).mono ?_;rintro e w1 ⟨a1,c1,rfl,hS1⟩;have HS1:=qh hS1;simp only[he];clear hS1)
    | (go_at_call 72;refine(HX.out _ _ (Zax (HS1.out.row 0 rfl))).mono ?_;rintro e w2 ⟨rfl,hb2⟩;have HS2:=qh (HS1.out.call hb2);have HN2:=qh ((ZeZ HS2.out).pick [1] (by decide));clear hb2))
   refine bodyPost_ret (v:=.tuple #[.slice (some ⟨w2.heap.size,0,none⟩) 0 0,.bool false]) (by simp[results,Tryz.results35,go_sem]) rfl ?_;exact .inl ⟨Hhno.out,_,_,rfl,HN2.out⟩
def Zi8 (K:Nat) (q:Option (List (Int × Int))) (o:Option DfaD):Prop:=(q=none∧o=none)∨∃ es,q=some es∧es.length≤2000000∧Zk8 K es o
theorem Zj0 {s:List Nat} {es:List (Int × Int)} (h:Zbu s=some es):exOk es=true:=by obtain⟨t,rfl,-,h60,-⟩:=ZgX h;exact ZaF t h60
theorem Zly {s:List Nat} {es:List (Int × Int)} (h:Zbu s=some es):es.length≤60:=(ZbV (Zj0 h)).2.2.2
theorem Zkm (K:Nat) (s:List Nat):∃ o,Zi8 K (Zbu s) o:=by
 cases h:Zbu s with
 | none=>exact⟨none,.inl ⟨rfl,rfl⟩⟩
 | some es =>obtain⟨o,ho⟩:=ZnC K es;exact⟨o,.inr ⟨es,rfl,by have:=Zly h;omega,ho⟩⟩
theorem Zcr (K:Nat) (hK:K=40) (s:List Nat) (o:Option DfaD) (ho:Zi8 K (Zbu s) o) (w:World) (ht:isT s) :
  Calls Tryz.prog 11 #[.string (txB s)] w fun e w'=>RTt (o.getD zeD) o.isSome w.heap.size e w'∧Below w.heap.size w w':=by
 have HS0:=qh ((St.start w).alloc _ rfl #[.slice none 0 0,.slice none 0 0] 25);have HR:=qh (fun u=>Zfe s u ht);obtain⟨q,hq⟩:=eJ (Zbu s);have HQ:=qh hq;have hok:=fun es h=>Zj0 (s:=s) (es:=es) (hq.trans h)
 rw[hq] at ho;clear hq;rcases ho with⟨rfl,rfl⟩|⟨es,rfl,-,ho⟩
 ·clear hok
  go_enter Tryz.func11, Tryz.ntmps11
  go_wp2_with fail;refine(HR.out _).mono ?_;rintro e w1 (⟨-,rfl,hb1⟩|⟨es,a,c,hes,-,-⟩)
  ·have HS5:=qh (HS0.out.call hb1);clear hb1;have f0:=HS5.out.fr 0 0 rfl;have f1:=HS5.out.fr 0 1 rfl;have k0:=HS5.out.cell (v:=.slice none 0 0) 0 0 rfl rfl;have k1:=HS5.out.cell (v:=.slice none 0 0) 0 1 rfl rfl;go_wp2;have hq:=(HS5.out.set 0 rfl 0 (.slice none 0 0)).set 0 rfl 1 (.slice none 0 0);have q0:=hq.cell (v:=.slice none 0 0) 0 0 rfl rfl;have q1:=hq.cell (v:=.slice none 0 0) 0 1 rfl rfl;refine bodyPost_ret (v:=.tuple #[.agg #[.slice none 0 0,.slice none 0 0],.bool false]) (by simp[results,Tryz.results11,go_sem,q0,q1]) rfl ⟨?_,hq.bel⟩;exact⟨none,0,none,0,rfl,Zhj _ _ _ _ _⟩
  exact absurd (HQ.out.symm.trans hes) (by simp)
 replace hok:=hok es rfl
 have hoc:∃ t:Ex,t.post=es∧Zaq K t=o:=by
  rcases ho with⟨-,t,h1,h2⟩|⟨h1,-⟩
  ·exact⟨t,h1,h2⟩
  rw[hok] at h1;cases h1
 obtain⟨t,ht1,ht2⟩:=hoc;have hrun:runC K es []=o.map fun d=>[d]:=by rw[← ht1,← ht2];exact ZkA hK t
 have hmin:∀ d,o=some d→minD d=d:=fun d h=>Zh4 hK t (ht2.trans h)
 have Hc:=qh (show ∀ (v:Value) (u:World),Pairs 0 u v es→Calls Tryz.prog 37 #[v] u fun e w'=>RTt (o.getD zeD) o.isSome u.heap.size e w'∧Below u.heap.size u w' from fun v u h=>Zff K hK es o hrun hmin v u hok h);obtain⟨D,hD⟩:=eJ (o.getD zeD);obtain⟨fb,hfb⟩:=eJ (o.isSome);rw[hD,hfb] at Hc;rw[hD,hfb];clear hrun hmin ho ht1 ht2 hD hfb hok
 go_enter Tryz.func11, Tryz.ntmps11
 go_wp2_with fail;refine(HR.out _).mono ?_;rintro e w1 (⟨hno,-,-⟩|⟨es1,a,c,hes,rfl,hS⟩)
 ·exact absurd (HQ.out.symm.trans hno) (by simp)
 obtain rfl:es=es1:=by have:=HQ.out.symm.trans hes;simpa using this
 have HP:=qh (Zax (hS.row 0 rfl));have HS1:=qh (HS0.out.call hS.bel);clear hS hes;go_wp2_with fail;refine(Hc.out _ _ HP.out).mono ?_;rintro e w2 ⟨⟨a1,c1,a2,c2,rfl,hown⟩,hb2⟩;have hS5:=HS1.out.call hb2;have f0:=hS5.fr 0 0 rfl;have f1:=hS5.fr 0 1 rfl;have k0:=hS5.cell (v:=.slice none 0 0) 0 0 rfl rfl;have k1:=hS5.cell (v:=.slice none 0 0) 0 1 rfl rfl;have hDM:=DMem.of hown HS1.out.size;have hb0:=hS5.box 0 rfl;have HS5:=qh hS5;have HDM:=qh hDM;replace hb0:=qh hb0;clear hS5 hown hb2 hDM;go_wp2;have hq:=(HS5.out.set 0 rfl 0 (.slice a1 D.next.length c1)).set 0 rfl 1 (.slice a2 D.ends.length c2);have q0:=hq.cell (v:=.slice a1 D.next.length c1) 0 0 rfl rfl;have q1:=hq.cell (v:=.slice a2 D.ends.length c2) 0 1 rfl rfl;have hm:=(HDM.out.set hb0.out 0 (.slice a1 D.next.length c1)).set (hb0.out.set 0 _) 1 (.slice a2 D.ends.length c2);refine bodyPost_ret (v:=.tuple #[.agg #[.slice a1 D.next.length c1,.slice a2 D.ends.length c2],.bool fb]) (by simp[results,Tryz.results11,go_sem,q0,q1]) rfl ⟨?_,hq.bel⟩;exact⟨a1,c1,a2,c2,rfl,_,_,rfl,hm.1,hm.2⟩
theorem Zcl (K:Nat) (hK:K=40) (s:List Nat) (o:Option DfaD) (ho:Zi8 K (Zbu s) o) (w:World) (ht:isT s) :
  Calls Tryz.prog 10 #[.string (txB s)] w fun e w'=>RO o w e w':=by
 have HS0:=qh ((St.start w).alloc _ rfl #[.slice none 0 0,.slice none 0 0] 25);have HR:=qh (fun u=>Zfc s u ht);obtain⟨q,hq⟩:=eJ (Zbu s);have HQ:=qh hq;rw[hq] at ho;clear hq;rcases ho with⟨rfl,rfl⟩|⟨es,rfl,hlen,ho⟩
 ·go_enter Tryz.func10, Tryz.ntmps10
  go_wp2_with fail;refine(HR.out _).mono ?_;rintro e w1 (⟨-,a,c,rfl,hS⟩|⟨es,a,c,hes,-,-⟩)
  ·have HS5:=qh (HS0.out.call hS.bel);clear hS;have f0:=HS5.out.fr 0 0 rfl;have f1:=HS5.out.fr 0 1 rfl;have k0:=HS5.out.cell (v:=.slice none 0 0) 0 0 rfl rfl;have k1:=HS5.out.cell (v:=.slice none 0 0) 0 1 rfl rfl;go_wp2;have hq:=(HS5.out.set 0 rfl 0 (.slice none 0 0)).set 0 rfl 1 (.slice none 0 0);have q0:=hq.cell (v:=.slice none 0 0) 0 0 rfl rfl;have q1:=hq.cell (v:=.slice none 0 0) 0 1 rfl rfl;refine bodyPost_ret (v:=.tuple #[.agg #[.slice none 0 0,.slice none 0 0],.bool false]) (by simp[results,Tryz.results10,go_sem,q0,q1]) rfl ?_;exact⟨none,0,none,0,rfl,ZcF _ _,hq.bel⟩
  exact absurd (HQ.out.symm.trans hes) (by simp)
 have hc:=fun (v:Value) (u:World) (h:Pairs 0 u v es)=>ZfH K hK es o ho v u hlen h
 unfold RO at hc ⊢;obtain⟨D,hD⟩:=eJ (o.getD ZaT);obtain⟨fb,hfb⟩:=eJ (o.isSome);rw[hD,hfb] at hc ⊢;have Hc:=qh hc;clear ho hlen hc hD hfb
 go_enter Tryz.func10, Tryz.ntmps10
 go_wp2_with fail;refine(HR.out _).mono ?_;rintro e w1 (⟨hno,-⟩|⟨es1,a,c,hes,rfl,hS⟩)
 ·exact absurd (HQ.out.symm.trans hno) (by simp)
 obtain rfl:es=es1:=by have:=HQ.out.symm.trans hes;simpa using this
 have HP:=qh (Zax (hS.row 0 rfl));have HS1:=qh (HS0.out.call hS.bel);clear hS hes;go_wp2_with fail;refine(Hc.out _ _ HP.out).mono ?_;rintro e w2 ⟨a1,c1,a2,c2,rfl,hr,hb2⟩;have hS5:=HS1.out.call hb2;have f0:=hS5.fr 0 0 rfl;have f1:=hS5.fr 0 1 rfl;have k0:=hS5.cell (v:=.slice none 0 0) 0 0 rfl rfl;have k1:=hS5.cell (v:=.slice none 0 0) 0 1 rfl rfl;have hB0:=(HS1.out.boxlt 0 rfl).2;have hsz:=HS1.out.size;have HS5:=qh hS5;have HR5:=qh hr;clear hS5 hr hb2;go_wp2;have hq:=(HS5.out.set 0 rfl 0 (.slice a1 D.next.length c1)).set 0 rfl 1 (.slice a2 D.ends.length c2);have q0:=hq.cell (v:=.slice a1 D.next.length c1) 0 0 rfl rfl;have q1:=hq.cell (v:=.slice a2 D.ends.length c2) 0 1 rfl rfl;refine bodyPost_ret (v:=.tuple #[.agg #[.slice a1 D.next.length c1,.slice a2 D.ends.length c2],.bool fb]) (by simp[results,Tryz.results10,go_sem,q0,q1]) rfl ?_;exact⟨_,_,_,_,rfl,((HR5.out.far hB0 0 _).far hB0 1 _).mono hsz,hq.bel⟩
end Go.Proofs.YtfgpkadhegdffaaGreat
namespace Go.Proofs.YtfgpkadhegdffaaGreat
open Go.RowKit Go.Maps
def hitE (K:Nat) (a b:DfaD):Option (List Nat):=ZaJ (ZaS (fun x y=>x && !y) a b) (bat (Zal a b) (0,0) K)
def hitX (a b:DfaD):Option (List Nat):=hitE ZiE a b
def feO (a b:DfaD):Option (List Nat):=if (Zae a.next a.ends&&Zae b.next b.ends)=true then hitX a b else none
theorem ZkY (x y r:Bool) (hr:(x && !y)=r) (w:World):Calls Tryz.prog 90 #[.bool x,.bool y] w fun e w'=>e = .returned (.bool r)∧w=w':=by subst hr;cases x<;>cases y<;>(go_enter Tryz.func90, Tryz.ntmps90;go_wp2;go_ret;exact⟨rfl,rfl⟩)
theorem Zhw (a b:DfaD) (x:Int × Int) (bf ba bb:Nat) (w:World) (hda:Zae a.next a.ends=true) (hdb:Zae b.next b.ends=true) (hf:Bx w bf #[.func (.func 90) #[] #[]] 100) (h1:DfaAt w ba a) (h2:DfaAt w bb b) (hx:Zbp a b x=true) :
  Calls Tryz.prog 160 #[.agg #[.int .i64 x.1,.int .i64 x.2],.pointer (some ⟨bf,0,none⟩),.pointer (some ⟨ba,0,none⟩),.pointer (some ⟨bb,0,none⟩)] w fun e w'=>e = .returned (.bool (ZaS (fun x y=>x && !y) a b x))∧Below w.heap.size w w':=by
 obtain⟨i,j,rfl,hi,hj⟩:=Za2 hx;have hla:=Zah hda;have hlb:=Zah hdb;obtain⟨u1,u2,hB1,-,g1⟩:=h1;obtain⟨u3,u4,hB2,-,g2⟩:=h2;obtain⟨q1,o1,c1,rfl,hc1,hm1,e1,d1⟩:=Zb8 g1 (i:=i) (by omega);obtain⟨q2,o2,c2,rfl,hc2,hm2,e2,d2⟩:=Zb8 g2 (i:=j) (by omega);obtain⟨ta,hta⟩:=eI (a.ends.getD i false);obtain⟨tb,htb⟩:=eI (b.ends.getD j false);rw[← hta] at e1;rw[← htb] at e2;obtain⟨r,hr⟩:=eJ ((ta && !tb));have hres:ZaS (fun x y=>x && !y) a b ((i:Int),(j:Int))=r:=by rw[← hr,hta,htb];rfl
 rw[hres];have ca:=hB1.cell 1;have cb:=hB2.cell 1;have cf:=hf.cell 0;simp only[List.getElem?_toArray,List.getElem?_cons_zero,List.getElem?_cons_succ] at ca cb cf;have d5:=hB1.lt;have d6:=hB2.lt;have d7:=hf.lt;obtain⟨l1,l2,l3⟩:=hla;obtain⟨l4,l5,l6⟩:=hlb;have hii:(i:Int)<a.ends.length:=by omega
 have hjj:(j:Int)<b.ends.length:=by omega
 have Hr:=qh hr;clear g1 g2 hB1 hB2 hta htb hx hda hdb hf hres hr l3 l6
 go_enter Tryz.func160, Tryz.ntmps160
 go_wp2
 go_quiet ((go_at_call 90;with_reducible exact Zfr (ZkY _ _ _ Hr.out _)))
 go_wp2;go_ret;exact⟨rfl,below_drewN ((Below.refl _ _).alloc (Nat.le_refl _) _) _⟩
theorem ZgK (K:Nat) (hK:K=1600) (a b:DfaD) (v1 v2:Value) (w:World) (hda:Zae a.next a.ends=true) (hdb:Zae b.next b.ends=true) (h1:DfaR 0 w v1 a) (h2:DfaR 0 w v2 b) :
  Calls Tryz.prog 88 #[v1,v2,.func (.func 90) #[] #[]] w fun e w'=>e=ZaH (hitE K a b)∧Below w.heap.size w w':=by
 obtain⟨u1,u2,rfl,g1,g2⟩:=h1;obtain⟨u3,u4,rfl,g3,g4⟩:=h2;have hb2:Below w.heap.size w ((w.alloc (.cells #[u1,u2] 25)).alloc (.cells #[u3,u4] 25)):=((Below.refl _ _).alloc (Nat.le_refl _) _).alloc (by simp) _;have H1:Hid (DfaR 0 ((w.alloc (.cells #[u1,u2] 25)).alloc (.cells #[u3,u4] 25)) (.agg #[u1,u2]) a):=qh ⟨_,_,rfl,g1.below hb2,g2.below hb2⟩;have H2:Hid (DfaR 0 ((w.alloc (.cells #[u1,u2] 25)).alloc (.cells #[u3,u4] 25)) (.agg #[u3,u4]) b):=qh ⟨_,_,rfl,g3.below hb2,g4.below hb2⟩;have hm:=Zfx hda hdb K;have hpr:=fun w'=>ZeW _ (fun x y=>x && !y) a b K (.agg #[u1,u2]) (.agg #[u3,u4]) w' hda hdb (by omega) (by omega) (fun x bf ba bb w' hf g1 g2 hx=>Zhw a b x bf ba bb w' hda hdb hf g1 g2 hx)
 rw[show((K:Nat):Int)=1600 by omega] at hpr;have hm2:(metP a b K).length≤K:=by omega
 have hK2:K≤100000:=by omega
 replace hpr:=qh hpr;replace hK:=qh hK;have Hhda:=qh hda;clear hda;have Hhdb:=qh hdb;clear hdb;have Hhb2:=qh hb2;clear hb2;clear g1 g2 g3 g4
 go_enter Tryz.func88, Tryz.ntmps88
 go_wp2_with fail;refine(hpr.out _ H1.out H2.out).mono ?_;rintro e w2 ⟨hr,hbw⟩;unfold RExp at hr;rw[if_pos hm2] at hr;obtain⟨an,cn,ae,ce,am,cm,rfl,hd,-⟩:=hr;obtain⟨F,hF⟩:=eI ((bat (Zal a b) (0,0) K).met);unfold metP at hm hm2;rw[← hF] at hd hm hm2;rw[← hF];have hR:=qh (hd.r.mono (Nat.zero_le _));have hbb:=Hhb2.out.trans (hbw.mono (by simp;omega));replace hF:=qh hF;have Hhbb:=qh hbb;clear hbb;have Hhm2:=qh hm2;clear hm2;clear hd hbw hm;go_wp2_with fail;refine(Zef (Zan (Zal a b) (ZaS (fun x y=>x && !y) a b) F) _ _ (by rw[hF.out];exact ZdB (by rw[← hF.out];exact Hhm2.out) hK2) (hR.out.below ((Below.refl _ _).alloc (Nat.le_refl _) _))).mono ?_;rintro e w3 ⟨he,hb3⟩;have hw:ZaH (ZaJ (den (Zan (Zal a b) (ZaS (fun x y=>x && !y) a b) F)) (bat (dnx (Zan (Zal a b) (ZaS (fun x y=>x && !y) a b) F)) 0 (Zan (Zal a b) (ZaS (fun x y=>x && !y) a b) F).next.length))=ZaH (hitE K a b):=by unfold hitE;rw[hF.out,Ze6 (by rw[← hF.out];exact Hhm2.out)]
 rw[hw] at he;have hbe:=(Hhbb.out.alloc Hhbb.out.size _).trans (hb3.mono (by simp;have:=Hhbb.out.size;omega));have Hhw:=qh hw;clear hw;have Hhbe:=qh hbe;clear hbe;clear hb3;cases hh:hitE K a b with
 | none =>
  rw[hh] at he;unfold ZaH at he;simp only at he;subst he;have Hhh:=qh hh;clear hh;go_wp2
  go_ret2
  exact⟨by rw[Hhh.out];rfl,Hhbe.out⟩
 | some l =>
  rw[hh] at he;unfold ZaH at he;simp only at he;subst he;have Hhh:=qh hh;clear hh;go_wp2
  go_ret2
  exact⟨by rw[Hhh.out];rfl,Hhbe.out⟩
theorem ZgI (a b:DfaD) (v1 v2:Value) (w:World) (hda:Zae a.next a.ends=true) (hdb:Zae b.next b.ends=true) (h1:DfaR 0 w v1 a) (h2:DfaR 0 w v2 b) :
  Calls Tryz.prog 88 #[v1,v2,.func (.func 90) #[] #[]] w fun e w'=>e=ZaH (hitX a b)∧Below w.heap.size w w':=ZgK ZiE rfl a b v1 v2 w hda hdb h1 h2
theorem ZcA (a b:DfaD) (v1 v2:Value) (w:World) (h1:DfaR 0 w v1 a) (h2:DfaR 0 w v2 b) (o:Option (List Nat)) (ho:feO a b=o) :
  Calls Tryz.prog 49 #[v1,v2] w fun e w'=>e=ZaH o∧Below w.heap.size w w':=by
 obtain⟨u1,u2,rfl,g1,g2⟩:=h1;obtain⟨u3,u4,rfl,g3,g4⟩:=h2;have hb2:Below w.heap.size w ((w.alloc (.cells #[u1,u2] 25)).alloc (.cells #[u3,u4] 25)):=((Below.refl _ _).alloc (Nat.le_refl _) _).alloc (by simp) _;have H1:Hid (DfaR 0 ((w.alloc (.cells #[u1,u2] 25)).alloc (.cells #[u3,u4] 25)) (.agg #[u1,u2]) a):=qh ⟨_,_,rfl,g1.below hb2,g2.below hb2⟩;have H2:Hid (DfaR 0 ((w.alloc (.cells #[u1,u2] 25)).alloc (.cells #[u3,u4] 25)) (.agg #[u3,u4]) b):=qh ⟨_,_,rfl,g3.below hb2,g4.below hb2⟩;have x0:Bx ((w.alloc (.cells #[u1,u2] 25)).alloc (.cells #[u3,u4] 25)) w.heap.size #[u1,u2] 25:=(Bx.new w _ _).alloc _;have x1:Bx ((w.alloc (.cells #[u1,u2] 25)).alloc (.cells #[u3,u4] 25)) (w.heap.size+1) #[u3,u4] 25:=by simpa using Bx.new (w.alloc (.cells #[u1,u2] 25)) #[u3,u4] 25
 obtain⟨s,hs⟩:=ZaU (hitX a b);have Hhb2:=qh hb2;clear hb2;replace hs:=qh hs;replace ho:=qh ho;have Hx0:=qh x0;clear x0;have Hx1:=qh x1;clear x1;clear g1 g2 g3 g4;cases hda:Zae a.next a.ends
 all_goals
  replace hda:=qh hda
  go_enter Tryz.func49, Tryz.ntmps49
  go_wp2_with fail;refine(Zc9 a _ _ H1.out _ hda.out).mono ?_;rintro e w1 ⟨rfl,hb1⟩;have y0:=Hx0.out.below hb1 Hx0.out.lt;have y1:=Hx1.out.below hb1 Hx1.out.lt;have c0:=y1.cell 0;have c1:=y1.cell 1;simp only[List.getElem?_toArray,List.getElem?_cons_zero,List.getElem?_cons_succ] at c0 c1;have hbw:=Hhb2.out.trans (hb1.mono Hhb2.out.size);have R1:=qh (H1.out.below hb1);have R2:=qh (H2.out.below hb1);replace hb1:=qh hb1;have Hhbw:=qh hbw;clear hbw;have Hy0:=qh y0;clear y0;have Hy1:=qh y1;clear y1
 ·go_wp2
  go_ret2
  exact⟨by rw[← ho.out,feO,hda.out];rfl,Hhbw.out⟩
 cases hdb:Zae b.next b.ends
 all_goals
  have Hhdb:=qh hdb;clear hdb;go_wp2_with fail;refine(Zc9 b _ _ R2.out _ Hhdb.out).mono ?_;rintro e w2 ⟨rfl,hb2⟩;have z0:=Hy0.out.below hb2 Hy0.out.lt;have z1:=Hy1.out.below hb2 Hy1.out.lt;have hbv:=Hhbw.out.trans (hb2.mono Hhbw.out.size);have Q1:=qh (R1.out.below hb2);have Q2:=qh (R2.out.below hb2);have e0:=z0.cell 0;have e1:=z0.cell 1;have e2:=z1.cell 0;have e3:=z1.cell 1;simp only[List.getElem?_toArray,List.getElem?_cons_zero,List.getElem?_cons_succ] at e0 e1 e2 e3;have Hhb2:=qh hb2;clear hb2;have Hhbv:=qh hbv;clear hbv;have Hz0:=qh z0;clear z0;have Hz1:=qh z1;clear z1;clear c0 c1
 ·go_wp2
  go_ret2
  exact⟨by rw[← ho.out,feO,hda.out,Hhdb.out];rfl,Hhbv.out⟩
 go_wp2_with fail;refine(ZgI a b _ _ _ hda.out Hhdb.out Q1.out Q2.out).mono ?_;rintro e w3 ⟨he,hb3⟩;rw[hs.out] at he;subst he;have hbx:=Hhbv.out.trans (hb3.mono Hhbv.out.size);have Hhbx:=qh hbx;clear hbx;clear hb3;go_wp2
 go_ret2
 refine⟨?_,Hhbx.out⟩;rw[← ho.out,feO,hda.out,Hhdb.out,if_pos (by rfl),hs.out];rfl
end Go.Proofs.YtfgpkadhegdffaaGreat
