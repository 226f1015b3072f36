/-
  The walk over the reference's ReadExpr: it answers readL.
  Condition: the text is one of bytes.
-/
import Derived.Test.YtfgpkadhegdffaaGreatPe43Rdt
set_option maxHeartbeats 8000000
set_option maxRecDepth 100000
namespace Go.Proofs.YtfgpkadhegdffaaGreat
open Go.RowKit
def RReS (s:List Nat) (w:World) (e:Ending) (w':World):Prop:=(Zbk s=none∧∃ a c,e = .returned (.tuple #[.slice a 0 c,.bool false])∧St w w' [Ent.row 59 2 (.slice a 0 c) 0 []]) ∨
 (∃ es a c,Zbk s=some es∧e = .returned (.tuple #[.slice a es.length c,.bool true])∧St w w' [Ent.row 59 2 (.slice a es.length c) es.length (es.flatMap Zaa)])
theorem Zdx (s:List Nat) (w:World) (ht:isT s):Calls Tryz.prog 35 #[.string (txB s)] w fun e w'=>RReS s w e w':=by
 have hs:=Zaw s;by_cases hl:120<s.length
 ·have hl2:(120:Int)<s.length:=by omega
  have hno:=ZhW hl;have HN:=qh (ZeN (St.start w));have Hhno:=qh hno;clear hno
  go_enter Tryz.func35, Tryz.ntmps35
  go_wp2;refine bodyPost_ret (v:=.tuple #[.slice (some ⟨w.heap.size,0,none⟩) 0 0,.bool false]) (by simp[results,Tryz.results35,go_sem]) rfl ?_;exact .inl ⟨Hhno.out,_,_,rfl,HN.out⟩
 have hl2:(s.length:Int)≤120:=by omega
 have hr:=Zlq Zrp (Nat.le_refl (fuP 1 s)) (show s.length≤120 by omega);have hL:=Zjy (fuP 1 s) 1 s 0 w (by omega) (by omega) (by rw[List.drop_zero];exact Nat.le_refl _) (by omega) ht (by omega);rw[List.drop_zero] at hL;have hm:=Zdn jS (fuP 1 s) 1 s;have hne:s=[]→(rdP jS (fuP 1 s) 1 s).2.2=true:=fun h=>by subst h;exact Znq jS _ 1 (by omega) (by omega)
 obtain⟨x,hx⟩:=eJ (rdP jS (fuP 1 s) 1 s);rw[hx] at hL hr hm hne;obtain⟨es,q,fl⟩:=x;have HL:=qh (show Calls Tryz.prog 71 #[.string (txB s),.int .i64 0,.int .i64 0] w fun e w'=>RRs s (es,q,fl) w e w' from hL);have hel:es.length≤1000:=by have:=hm.2.1;simp only at this;omega
 have hql:q.length≤s.length:=hm.1;have Hht:=qh ht;have Hr:=qh hr;replace hx:=qh hx;clear hL hr hm hl;cases fl with
 | true =>
  have hno:Zbk s=none:=by rw[Hr.out];exact if_neg (fun h=>by cases h.1)
  have he:endI s (es,q,true) = -1:=rfl;have Hhno:=qh hno;clear hno;clear hne
  go_enter Tryz.func35, Tryz.ntmps35
  go_wp2_with (go_at_call 71;refine(HL.out).mono ?_;rintro e w1 ⟨a1,c1,rfl,hS1⟩;have HN1:=qh ((ZeN hS1).pick [1] (by decide));simp only[he];clear hS1);refine bodyPost_ret (v:=.tuple #[.slice (some ⟨w1.heap.size,0,none⟩) 0 0,.bool false]) (by simp[results,Tryz.results35,go_sem]) rfl ?_;exact .inl ⟨Hhno.out,_,_,rfl,HN1.out⟩
 | false =>
  have hse:s≠[]:=fun h=>by cases hne h
  cases q with
  | cons d q =>
   have hno:Zbk s=none:=by rw[Hr.out];exact if_neg (fun h=>by cases h.2.1)
   obtain⟨j,hj⟩:=eJ (s.length-(d::q).length);have he:endI s (es,d::q,false)=(j:Int):=by unfold endI;simp only[Bool.false_eq_true,if_false,hj]
   have hjn:((j:Int) != (s.length:Int))=true:=by simp at hql hj ⊢;omega
   have Hhno:=qh hno;clear hno;replace hj:=qh hj;clear hne hse hql
   go_enter Tryz.func35, Tryz.ntmps35
   go_wp2_with (go_at_call 71;refine(HL.out).mono ?_;rintro e w1 ⟨a1,c1,rfl,hS1⟩;have HN1:=qh ((ZeN hS1).pick [1] (by decide));simp only[he];clear hS1);refine bodyPost_ret (v:=.tuple #[.slice (some ⟨w1.heap.size,0,none⟩) 0 0,.bool false]) (by simp[results,Tryz.results35,go_sem]) rfl ?_;exact .inl ⟨Hhno.out,_,_,rfl,HN1.out⟩
  | nil =>
   have he:endI s (es,[],false)=(s.length:Int):=rfl;have hem:=Zd2 s;rw[show s.isEmpty=false by cases s with|nil=>exact absurd rfl hse|cons=>rfl] at hem;by_cases hq:Zev es=s
   ·have hyes:Zbk s=some es:=by rw[Hr.out];exact if_pos ⟨rfl,rfl,hq⟩
    have HX:=qh (fun (v:Value) (u:World) (hv:Pairs 0 u v es)=>by have:=Zcn es v u hel hv;rw[hq] at this;exact this);have Hhyes:=qh hyes;clear hyes;clear hq hne hse
    go_enter Tryz.func35, Tryz.ntmps35
    go_wp2_with (first
     | (go_at_call 71;refine(HL.out).mono ?_;rintro e w1 ⟨a1,c1,rfl,hS1⟩;have HS1:=qh hS1;simp only[he];clear hS1)
     | (go_at_call 72;refine(HX.out _ _ (Zam (HS1.out.row 0 rfl))).mono ?_;rintro e w2 ⟨rfl,hb2⟩;have HS2:=qh (HS1.out.call hb2);clear hb2))
    refine bodyPost_ret (v:=.tuple #[.slice a1 es.length c1,.bool true]) (by simp[results,Tryz.results35,go_sem]) rfl ?_;exact .inr ⟨es,a1,c1,Hhyes.out,rfl,HS2.out⟩
   have hno:Zbk s=none:=by rw[Hr.out];exact if_neg (fun h=>hq h.2.2)
   have hne2:=ZmS (Zgv es) Hht.out hq;have HX:=qh (fun (v:Value) (u:World) (hv:Pairs 0 u v es)=>Zcn es v u hel hv);have Hhno:=qh hno;clear hno;clear hq hne hse
   go_enter Tryz.func35, Tryz.ntmps35
   go_wp2_with (first
    | (go_at_call 71;refine(HL.out).mono ?_;rintro e w1 ⟨a1,c1,rfl,hS1⟩;have HS1:=qh hS1;simp only[he];clear hS1)
    | (go_at_call 72;refine(HX.out _ _ (Zam (HS1.out.row 0 rfl))).mono ?_;rintro e w2 ⟨rfl,hb2⟩;have HS2:=qh (HS1.out.call hb2);have HN2:=qh ((ZeN HS2.out).pick [1] (by decide));clear hb2))
   refine bodyPost_ret (v:=.tuple #[.slice (some ⟨w2.heap.size,0,none⟩) 0 0,.bool false]) (by simp[results,Tryz.results35,go_sem]) rfl ?_;exact .inl ⟨Hhno.out,_,_,rfl,HN2.out⟩
def Zo7 (K:Nat) (q:Option (List (Int × Int))) (o:Option DfaD):Prop:=(q=none∧o=none)∨∃ es,q=some es∧es.length≤2000000∧Zlb K es o
theorem Zlp {s:List Nat} {es:List (Int × Int)} (h:Zbk s=some es):exOk es=true:=by obtain⟨t,rfl,-,h60,-⟩:=Zd6 h;exact ZaH t h60
theorem Zc7 {s:List Nat} {es:List (Int × Int)} (h:Zbk s=some es):es.length≤60:=(ZbS (Zlp h)).2.2.2
-- ways through an automaton of any size
theorem ZoQ {N:Nat} {ms:List (Int × Int × Int)} (hm:mvIn N ms) {v t:Nat} (hv:v<2 ^ N):(clV N ms v).testBit t=true↔∃ s:Nat,s<N∧v.testBit s=true∧Pth ms s [] t:=by
 constructor
 ·intro h;obtain⟨u,hu⟩:=ZnL (fun t=>∃ s:Nat,s<N∧v.testBit s=true∧Pth ms s [] t) N
  have hc:Zb9 ms u:=by
   intro m hmm he hf;obtain⟨h1,s,hs,hvs,hp⟩:=(hu _).1 hf;have h2:=hm m hmm;refine(hu _).2 ⟨by omega,s,hs,hvs,?_⟩;have e1:((m.1.toNat:Nat):Int)=m.1:=by omega
   have e2:((m.2.2.toNat:Nat):Int)=m.2.2:=by omega
   rw[e1] at hp;rw[e2];refine hp.append (y:=[]) (.eps ?_ (.here _));rw[← he];exact hmm
  have hsub:subV v u:=by intro s hs;have:=ZgX hv hs;exact(hu s).2 ⟨this,s,this,hs,.here _⟩
  exact((hu t).1 (ZoO hc hsub t h)).2
 rintro⟨s,hs,hvs,hp⟩;have:=hp.closed (ZcG hm v) rfl (by rw[Int.toNat_natCast];exact Zhl N ms v s hvs)
 rwa [Int.toNat_natCast] at this
theorem Znc {N:Nat} {ms:List (Int × Int × Int)} (hm:mvIn N ms) {v t:Nat} (c:Nat):(stV N ms v (c:Int)).testBit t=true↔∃ x,x∈ms∧x.2.1=(c:Int)∧v.testBit x.1.toNat=true∧Pth ms x.2.2 [] t:=by
 have hlt:ms.foldl (ZaS v c) 0<2 ^ N:=Zb0 _ (fun u=>u<2 ^ N) (fun _ _ hx hu=>ZcH hm hx hu) (Nat.two_pow_pos N);unfold stV;rw[ZoQ hm hlt];constructor
 ·rintro⟨s,hs,hb,hp⟩;rw[Zb7] at hb;rcases hb with hb|⟨m,hmm,h1,h2,h3⟩
  ·simp at hb
  refine⟨m,hmm,h1,h2,?_⟩;have e:m.2.2=(s:Int):=by have:=(hm m hmm).2;omega
  rw[e];exact hp
 rintro⟨x,hx,h1,h2,hp⟩;have h4:=(hm x hx).2;refine⟨x.2.2.toNat,by omega,?_,?_⟩
 ·rw[Zb7];exact .inr ⟨x,hx,h1,h2,rfl⟩
 have e:((x.2.2.toNat:Nat):Int)=x.2.2:=by omega
 rw[e];exact hp
theorem ZjX {N:Nat} {ms:List (Int × Int × Int)} (hm:mvIn N ms):∀ (cs:List Nat) (V:Nat),V<2 ^ N→Zb9 ms V→∀ t,(cs.foldl (fun v (c:Nat)=>stV N ms v (c:Int)) V).testBit t=true↔∃ s:Nat,s<N∧V.testBit s=true∧Pth ms s cs t
 | [],V,hV,hc,t=>by
  rw[List.foldl_nil];constructor
  ·intro h;exact⟨t,ZgX hV h,h,.here _⟩
  rintro⟨s,hs,h1,h2⟩;have:=h2.closed hc rfl (by rwa [Int.toNat_natCast])
  rwa [Int.toNat_natCast] at this
 | c::cs,V,hV,hc,t=>by
  rw[List.foldl_cons,ZjX hm cs _ (Zna hm V c) (ZcG hm _)];constructor
  ·rintro⟨s,hs,h1,h2⟩;rw[Znc hm] at h1;obtain⟨x,hx,h3,h4,h5⟩:=h1;have h6:=(hm x hx).1;refine⟨x.1.toNat,by omega,h4,?_⟩;have e:((x.1.toNat:Nat):Int)=x.1:=by omega
   rw[e];refine .step (t:=x.2.2) ?_ (h5.append h2);rw[← h3];exact hx
  rintro⟨s,hs,h1,h2⟩;obtain⟨m,h3,h4,h5,h6⟩:=h2.split rfl;have h7:=(hm m h3).2;refine⟨m.2.2.toNat,by omega,?_,?_⟩
  ·rw[Znc hm];have:=h5.closed hc rfl (by rwa [Int.toNat_natCast]);refine⟨m,h3,h4,this,?_⟩;have e:((m.2.2.toNat:Nat):Int)=m.2.2:=by omega
   rw[e];exact .here _
  have e:((m.2.2.toNat:Nat):Int)=m.2.2:=by omega
  rw[e];exact h6
def accP (n:NfaD) (w:List Nat):Prop:=∃ f∈n.firsts,∃ e∈n.ends,Pth n.moves f w e
theorem ZjV {N:Nat} {n:NfaD}:∀ (w:List Nat) (v:Nat),w.foldl (nxSM N n) (((v:Nat):Int),0)=(((w.foldl (fun v (c:Nat)=>stV N n.moves v (c:Int)) v:Nat):Int),0)
 | [],_=>rfl
 | c::w,v=>by rw[List.foldl_cons,List.foldl_cons,← ZjV w];rfl
theorem ZlN {N K:Nat} {n:NfaD} {D:DfaD} (hm:mvIn N n.moves) (hf:inN N n.firsts) (he:inN N n.ends) (h:detM N K n=some D) {w:List Nat} (hw:isW w):accD D w=true↔accP n w:=by
 unfold detM at h
 split at h
 ·rename_i h2;simp only[Option.some.injEq] at h;subst h;unfold metSM at h2 ⊢;rw[Ze9 h2 hw,ZjV];show(n.ends.any fun s=>(w.foldl (fun v (c:Nat)=>stV N n.moves v (c:Int)) (clV N n.moves (setV n.firsts))).testBit s.toNat)=true↔_;have hlt:clV N n.moves (setV n.firsts)<2 ^ N:=Zdw hm (Zdk hf) N;have hrun:=ZjX hm w _ hlt (ZcG hm (setV n.firsts));rw[List.any_eq_true];constructor
  ·rintro⟨e,hee,hb⟩;obtain⟨s,hs,h1,h2⟩:=(hrun _).1 hb;rw[ZoQ hm (Zdk hf)] at h1;obtain⟨r,hr,h3,h4⟩:=h1;rw[Ziw,List.any_eq_true] at h3;obtain⟨f,hff,h5⟩:=h3;have h5:=of_decide_eq_true h5;have h6:=hf f hff;have h7:=he e hee;refine⟨f,hff,e,hee,?_⟩;have e1:(r:Int)=f:=by omega
   have e2:((e.toNat:Nat):Int)=e:=by omega
   rw[e1] at h4;rw[e2] at h2;exact h4.append h2
  rintro⟨f,hff,e,hee,hp⟩;have h6:=hf f hff;have h7:=he e hee;refine⟨e,hee,(hrun _).2 ⟨f.toNat,by omega,?_,?_⟩⟩
  ·exact Zhl N n.moves _ _ (Zli hff)
  have e1:((f.toNat:Nat):Int)=f:=by omega
  have e2:((e.toNat:Nat):Int)=e:=by omega
  rw[e1,e2];exact hp
 cases h
theorem Pth.starred {p:NfaD} {a:Nat} (ha:p.states=(a:Int)) (hpm:mvIn a p.moves) (hpf:inN a p.firsts) (hpe:inN a p.ends) {s t:Int} {x:List Nat} (h:Pth (ZcO p).moves s x t) (ht:t=p.states) :
  (s=p.states→StarL (accP p) x)∧(s<p.states→∃ u v,x=u++v∧(∃ e∈p.ends,Pth p.moves s u e)∧StarL (accP p) v):=by
 have hmem:∀ m∈(ZcO p).moves,m∈p.moves∨(∃ f∈p.firsts,m=(p.states,-1,f))∨∃ e∈p.ends,m=(e,-1,p.states):=fun m hm=>by
  simp only[ZcO,List.mem_append,List.mem_map] at hm;rcases hm with(hm|⟨f,hf,rfl⟩)|⟨e,he,rfl⟩
  ·exact .inl hm
  ·exact .inr (.inl ⟨f,hf,rfl⟩)
  exact .inr (.inr ⟨e,he,rfl⟩)
 induction h with
 | here s=>exact⟨fun _ => .nil,fun h=>by omega⟩
 | @eps s' t' u w hm _ ih =>
  obtain⟨i1,i2⟩:=ih ht;rcases hmem _ hm with hm|⟨f,hf,e⟩|⟨e,he,e'⟩
  ·have h1:=hpm _ hm;simp only at h1;refine⟨fun h=>by omega,fun _ => ?_⟩;obtain⟨x,y,rfl,⟨e,he,h2⟩,h3⟩:=i2 (by omega);exact⟨x,y,rfl,⟨e,he,.eps hm h2⟩,h3⟩
  ·simp only[Prod.mk.injEq] at e;obtain⟨rfl,-,rfl⟩:=e;have h1:=hpf _ hf;refine⟨fun _ => ?_,fun h=>by omega⟩;obtain⟨x,y,rfl,⟨e,he,h2⟩,h3⟩:=i2 (by omega);exact .cons ⟨_,hf,e,he,h2⟩ h3
  simp only[Prod.mk.injEq] at e';obtain⟨rfl,-,rfl⟩:=e';have h1:=hpe _ he;exact⟨fun h=>by omega,fun _=>⟨[],w,rfl,⟨_,he,.here _⟩,i1 rfl⟩⟩
 | @step s' t' u c w hm _ ih =>
  obtain⟨i1,i2⟩:=ih ht;rcases hmem _ hm with hm|⟨f,hf,e⟩|⟨e,he,e'⟩
  ·have h1:=hpm _ hm;simp only at h1;refine⟨fun h=>by omega,fun _ => ?_⟩;obtain⟨x,y,rfl,⟨e,he,h2⟩,h3⟩:=i2 (by omega);exact⟨c::x,y,rfl,⟨e,he,.step hm h2⟩,h3⟩
  ·simp only[Prod.mk.injEq] at e;omega
  simp only[Prod.mk.injEq] at e';omega
theorem Zm6 {p:NfaD} {a:Nat} (ha:p.states=(a:Int)) (hpm:mvIn a p.moves) (hpf:inN a p.firsts) (hpe:inN a p.ends) (x:List Nat):accP (ZcO p) x↔StarL (accP p) x:=by
 constructor
 ·rintro⟨f,hf,e,he,h⟩;simp only[ZcO,List.mem_singleton] at hf he;subst hf he;exact(h.starred ha hpm hpf hpe rfl).1 rfl
 rintro⟨ws,rfl,hw⟩;refine⟨p.states,by simp[ZcO],p.states,by simp[ZcO],?_⟩
 induction ws with
 | nil=>exact .here _
 | cons u ws ih =>
  rw[List.flatten_cons];refine Pth.append ?_ (ih fun x hx=>hw x (List.mem_cons_of_mem _ hx));obtain⟨f,hf,e,he,h⟩:=hw u (by simp);have h1:Pth (ZcO p).moves f u e:=h.mono fun m hm=>by simp[ZcO,hm]
  have h2:Pth (ZcO p).moves p.states [] f:=.eps (by simp[ZcO,hf]) (.here _);have h3:Pth (ZcO p).moves e [] p.states:=.eps (by simp only[ZcO,List.mem_append,List.mem_map];exact .inr ⟨e,he,rfl⟩) (.here _);have h4:=(h2.append h1).append h3
  rwa [List.nil_append,List.append_nil] at h4
theorem Zoa {p q:NfaD} {a b:Nat} (ha:p.states=(a:Int)) (hpm:mvIn a p.moves) (hqm:mvIn b q.moves) (hpf:inN a p.firsts) (hpe:inN a p.ends) (hqf:inN b q.firsts) (hqe:inN b q.ends) (x:List Nat):accP (ZdQ p q) x↔∃ u v,x=u++v∧accP p u∧accP q v:=by
 constructor
 ·rintro⟨f,hf,e,he,hw⟩;obtain⟨y,hy,rfl⟩:=List.mem_map.1 (show e∈q.ends.map (·+p.states) from he);have h1:=hpf f hf;have h2:=hqe y hy;obtain⟨k,hk,g,hg,z,hz,h3,h4⟩:=(hw.cross ha hpm hqm hpe hqf (by omega)).1 (by omega);rw[show y+p.states-p.states=y by omega] at h4;exact⟨x.take k,x.drop k,(List.take_append_drop k x).symm,⟨f,hf,g,hg,h3⟩,⟨z,hz,y,hy,h4⟩⟩
 rintro⟨u,v,rfl,⟨f,hf,e,he,h3⟩,⟨g,hg,d,hd,h4⟩⟩;refine⟨f,hf,d+p.states,List.mem_map.2 ⟨d,hd,rfl⟩,?_⟩;have h5:Pth (ZdQ p q).moves f u e:=h3.mono fun m hm=>by simp only[ZdQ,List.mem_append];exact .inl (.inl hm)
 have h6:Pth (ZdQ p q).moves (g+p.states) v (d+p.states):=(h4.up p.states).mono fun m hm=>by simp only[ZdQ,List.mem_append];exact .inl (.inr hm)
 have h7:Pth (ZdQ p q).moves e [] (g+p.states):=.eps (by simp only[ZdQ,List.mem_append,List.mem_flatMap,List.mem_map];exact .inr ⟨e,he,g+p.states,List.mem_map.2 ⟨g,hg,rfl⟩,rfl⟩) (.here _);have h8:=(h5.append h7).append h6
 rwa [List.append_nil] at h8
theorem Zc9 {d:DfaD} (hd:Zag d.next d.ends=true) {w:List Nat} (hw:isW w):accP (ZaE d) w↔accD d w=true:=by rw[← ZnJ hd hw,Zqh (ZeL hd)];rfl
theorem ZdN {d:DfaD} (hd:Zag d.next d.ends=true):inN d.next.length (ZaE d).firsts:=fun s hs=>by have hl:=Zaf hd;have hs:s∈[(0:Int)]:=hs;simp only[List.mem_singleton] at hs;omega
theorem Zfr (d:DfaD):inN d.next.length (ZaE d).ends:=fun s hs=>ZfQ d _ s hs
theorem Zgk {u v:List Nat} (h:isW (u++v)):isW u:=fun c hc=>h c (by simp[hc])
theorem ZeS {u v:List Nat} (h:isW (u++v)):isW v:=fun c hc=>h c (by simp[hc])
theorem ZlD {ws:List (List Nat)} (h:isW ws.flatten):∀ u∈ws,isW u:=fun u hu c hc=>h c (List.mem_flatten.2 ⟨u,hu,hc⟩)
theorem StarL.congr {L M:List Nat→Prop} (h:∀ u,isW u→(L u↔M u)) {w:List Nat} (hw:isW w):StarL L w↔StarL M w:=by
 constructor
 ·rintro⟨ws,rfl,hs⟩;exact⟨ws,rfl,fun u hu=>(h u (ZlD hw u hu)).1 (hs u hu)⟩
 rintro⟨ws,rfl,hs⟩;exact⟨ws,rfl,fun u hu=>(h u (ZlD hw u hu)).2 (hs u hu)⟩
theorem Zcd {d:DfaD} (hd:Zag d.next d.ends=true) {w:List Nat} (hw:isW w):accD (Zal d) w=accD d w:=by rw[ZcI (ZaL hd)];exact ZnS (ZaL hd) hw
theorem Zlt {K:Nat} {f:Bool→Bool→Bool} {a b d:DfaD} (h:ZbJ K f a b=some d) {w:List Nat} (hw:isW w):accD d w=f (accD a w) (accD b w):=by
 unfold ZbJ at h
 split at h
 ·rename_i h2;simp only[Option.some.injEq] at h;subst h;unfold metP at h2 ⊢;rw[Ze9 h2 hw]
  have key:∀ (w:List Nat) (p:Int × Int),w.foldl (Zaz a b) p=(runD a p.1 w,runD b p.2 w):=fun w=>by
   induction w with
   | nil=>intro p;rfl
   | cons c w ih =>intro p;rw[List.foldl_cons,ih];rfl
  rw[key];rfl
 cases h
theorem ZpB (w:List Nat) (hw:isW w):accD ZeJ w=false:=by
 have key:∀ w,isW w→runD ZeJ 0 w=0:=fun w=>by
  induction w with
  | nil=>intro _;rfl
  | cons c w ih =>
   intro h;obtain⟨h1,h2⟩:=Zcv h;rw[ZaX]
   have:dnx ZeJ 0 c=0:=by
    have:c=0∨c=1∨c=2:=by omega
    rcases this with rfl|rfl|rfl<;>rfl
   rw[this];exact ih h2
 unfold accD;rw[key w hw];rfl
theorem ZqF (w:List Nat) (hw:isW w):accD oneD w=true↔w=[]:=by
 have key:∀ w,isW w→runD oneD 1 w=1:=fun w=>by
  induction w with
  | nil=>intro _;rfl
  | cons c w ih =>
   intro h;obtain⟨h1,h2⟩:=Zcv h;rw[ZaX]
   have:dnx oneD 1 c=1:=by
    have:c=0∨c=1∨c=2:=by omega
    rcases this with rfl|rfl|rfl<;>rfl
   rw[this];exact ih h2
 cases w with
 | nil=>exact⟨fun _=>rfl,fun _=>rfl⟩
 | cons c w =>
  obtain⟨h1,h2⟩:=Zcv hw
  have e:dnx oneD 0 c=1:=by
   have:c=0∨c=1∨c=2:=by omega
   rcases this with rfl|rfl|rfl<;>rfl
  have:accD oneD (c::w)=false:=by unfold accD;rw[ZaX,e,key w h2];rfl
  rw[this];simp
theorem ZqM (a:Fin 3) (w:List Nat) (hw:isW w):accD (ltrD a) w=true↔w=[a.val]:=by
 have ha:a=0∨a=1∨a=2:=by omega
 have k2:∀ w,isW w→runD (ltrD a) 2 w=2:=fun w=>by
  induction w with
  | nil=>intro _;rfl
  | cons c w ih =>
   intro h;obtain⟨h1,h2⟩:=Zcv h;rw[ZaX]
   have:dnx (ltrD a) 2 c=2:=by
    have:c=0∨c=1∨c=2:=by omega
    rcases this with rfl|rfl|rfl<;>rcases ha with rfl|rfl|rfl<;>rfl
   rw[this];exact ih h2
 have e2:den (ltrD a) 2=false:=by rcases ha with rfl|rfl|rfl<;>rfl
 have e1:den (ltrD a) 1=true:=by rcases ha with rfl|rfl|rfl<;>rfl
 have e0:den (ltrD a) 0=false:=by rcases ha with rfl|rfl|rfl<;>rfl
 cases w with
 | nil =>have:accD (ltrD a) []=false:=e0;rw[this];simp
 | cons c w =>
  obtain⟨h1,h2⟩:=Zcv hw
  have e:dnx (ltrD a) 0 c=if c=a.val then 1 else 2:=by
   have:c=0∨c=1∨c=2:=by omega
   rcases this with rfl|rfl|rfl<;>rcases ha with rfl|rfl|rfl<;>rfl
  have hr:accD (ltrD a) (c::w)=den (ltrD a) (runD (ltrD a) (if c=a.val then 1 else 2) w):=by unfold accD;rw[ZaX,e]
  rw[hr];by_cases hc:c=a.val
  ·rw[if_pos hc];cases w with
   | nil =>rw[hc];exact⟨fun _=>rfl,fun _=>e1⟩
   | cons b w =>
    obtain⟨h3,h4⟩:=Zcv h2
    have e3:dnx (ltrD a) 1 b=2:=by
     have:b=0∨b=1∨b=2:=by omega
     rcases this with rfl|rfl|rfl<;>rcases ha with rfl|rfl|rfl<;>rfl
    rw[ZaX,e3,k2 w h4,e2];simp
  rw[if_neg hc,k2 w h2,e2];simp[hc]
theorem ZoF {K:Nat} (hK:K=40):∀ (t:Ex) {d:DfaD},Zap K t=some d→∀ w,isW w→(accD d w=true↔memE t w):=by
 intro t
 induction t with
 | zero =>intro d h w hw;simp only[Zap,Option.some.injEq] at h;rw[← h,Zcd ZeI hw,ZpB w hw];simp[memE]
 | one =>intro d h w hw;simp only[Zap,Option.some.injEq] at h;rw[← h,Zcd ZgR hw,ZqF w hw];rfl
 | ltr c =>intro d h w hw;simp only[Zap,Option.some.injEq] at h;rw[← h,Zcd (Zep c) hw,ZqM c w hw];rfl
 | join a b iha ihb =>
  intro d h w hw;simp only[Zap,Option.bind_eq_some_iff,Option.map_eq_some_iff] at h;obtain⟨x,hx,y,hy,z,hz,rfl⟩:=h;have hxo:=ZbF hK a hx;have hyo:=ZbF hK b hy;have hxl:=Zaf hxo;have hyl:=Zaf hyo;rw[Zcd (Zc3 hK hz) hw];have h1:mvIn 81 (Zdi x y).moves:=ZgV (Zim hxo hyo) (by omega);have h2:inN 81 (Zdi x y).firsts:=fun s hs=>by have:=ZdE (b:=y) hxo s hs;omega
  have h3:inN 81 (Zdi x y).ends:=fun s hs=>by have:=Zfa s hs;omega
  rw[ZlN h1 h2 h3 hz hw,← Zg6,
   Zoa (a:=x.next.length) (b:=y.next.length) rfl (ZfJ hxo _ (Nat.le_refl _)) (ZfJ hyo _ (Nat.le_refl _)) (ZdN hxo) (Zfr x) (ZdN hyo) (Zfr y)]
  constructor
  ·rintro⟨u,v,rfl,p,q⟩;exact⟨u,v,rfl,(iha hx u (Zgk hw)).1 ((Zc9 hxo (Zgk hw)).1 p),(ihb hy v (ZeS hw)).1 ((Zc9 hyo (ZeS hw)).1 q)⟩
  rintro⟨u,v,rfl,p,q⟩;exact⟨u,v,rfl,(Zc9 hxo (Zgk hw)).2 ((iha hx u (Zgk hw)).2 p),(Zc9 hyo (ZeS hw)).2 ((ihb hy v (ZeS hw)).2 q)⟩
 | alt a b iha ihb =>intro d h w hw;simp only[Zap,Option.bind_eq_some_iff,Option.map_eq_some_iff] at h;obtain⟨x,hx,y,hy,z,hz,rfl⟩:=h;rw[Zcd (ZbB hK hz) hw,Zlt hz hw,Bool.or_eq_true,iha hx w hw,ihb hy w hw];rfl
 | both a b iha ihb =>intro d h w hw;simp only[Zap,Option.bind_eq_some_iff,Option.map_eq_some_iff] at h;obtain⟨x,hx,y,hy,z,hz,rfl⟩:=h;rw[Zcd (ZbB hK hz) hw,Zlt hz hw,Bool.and_eq_true,iha hx w hw,ihb hy w hw];rfl
 | neg a iha =>intro d h w hw;simp only[Zap,Option.map_eq_some_iff] at h;obtain⟨x,hx,rfl⟩:=h;have hxo:=ZbF hK a hx;rw[Zcd (ZgU hxo) hw,ZnK,ZqV hxo hw];show _↔¬ memE a w;rw[← iha hx w hw];cases accD x w<;>simp[xb]
 | star a iha =>
  intro d h w hw;simp only[Zap,Option.bind_eq_some_iff,Option.map_eq_some_iff] at h;obtain⟨x,hx,z,hz,rfl⟩:=h;have hxo:=ZbF hK a hx;have hxl:=Zaf hxo;rw[Zcd (Zc3 hK hz) hw];have h1:mvIn 81 (ZdD x).moves:=ZgV (Zil hxo) (by omega);have h2:inN 81 (ZdD x).firsts:=fun s hs=>by have:=Zc4 (a:=x) s hs;omega
  have h3:inN 81 (ZdD x).ends:=fun s hs=>by have:=Zc4 (a:=x) s hs;omega
  rw[ZlN h1 h2 h3 hz hw,← Zgz,
   Zm6 (a:=x.next.length) rfl (ZfJ hxo _ (Nat.le_refl _)) (ZdN hxo) (Zfr x)]
  exact StarL.congr (fun u hu=>by rw[Zc9 hxo hu,iha hx u hu]) hw
theorem Zea {l:List Nat} (hw:wdOk l=true) (t:Ex):accX l t=true↔memE t (lets l):=by
 have h8:(lsT l).length≤8:=by rw[ZnZ];exact(Zd1 hw).1
 have:=Zpm h8 t;rw[ZnZ] at this;exact this
theorem ZoI {K:Nat} (hK:K=40) {es:List (Int × Int)} {D:DfaD} (h:Zlb K es (some D)):Zag D.next D.ends=true∧minQ D=D:=by
 have hok:=Zqc hK h;refine⟨hok,?_⟩;obtain⟨-,t,-,hc⟩|⟨-,h⟩:=h
 ·unfold minQ;rw[if_pos hok];exact Zi7 hK t hc
 cases h
theorem ZoG {K:Nat} (hK:K=40) {es:List (Int × Int)} {o:Option DfaD} (h:Zlb K es o) {D:DfaD} {fb:Bool} (hD:o.getD Zbj=D) (hfb:o.isSome=fb):(fb=false→D.next.length=0)∧(fb=true→o=some D∧Zag D.next D.ends=true∧minQ D=D):=by
 cases o with
 | none=>subst hD;exact⟨fun _=>rfl,fun e=>(by rw[e] at hfb;cases hfb)⟩
 | some d =>obtain rfl:d=D:=hD;exact⟨fun e=>(by rw[e] at hfb;cases hfb),fun _=>⟨rfl,ZoI hK h⟩⟩
theorem ZoH {K:Nat} (hK:K=40) {q:Option (List (Int × Int))} {o:Option DfaD} (h:Zo7 K q o) {D:DfaD} {fb:Bool} (hD:o.getD Zbj=D) (hfb:o.isSome=fb):(fb=false→D.next.length=0)∧(fb=true→o=some D∧Zag D.next D.ends=true∧minQ D=D):=by
 rcases h with⟨-,rfl⟩|⟨es,-,-,h⟩
 ·subst hD;exact⟨fun _=>rfl,fun e=>(by rw[e] at hfb;cases hfb)⟩
 exact ZoG hK h hD hfb
def Zet (s t:List Nat) (k:Int):Option (List (Int × Int)):=if inB k 4 6=true then(match Zbk s,Zbk t with|some x,some y=>some (x++y++[(k,0)])|_,_=>none) else none
theorem Zj3 {s t:List Nat} {k:Int} (h:Zbk s=none):Zet s t k=none:=by
 unfold Zet;rw[h]
 split<;>rfl
theorem Zj2 {s t:List Nat} {k:Int} (h:Zbk t=none):Zet s t k=none:=by
 unfold Zet;rw[h]
 split
 ·cases Zbk s<;>rfl
 rfl
theorem Zj1 {s t:List Nat} {k:Int} (h:inB k 4 6=false):Zet s t k=none:=by unfold Zet;rw[if_neg (by simp[h])]
theorem ZeZ {s t:List Nat} {k:Int} {x y:List (Int × Int)} (h1:Zbk s=some x) (h2:Zbk t=some y) (hk:4≤k∧k≤6):Zet s t k=some (x++y++[(k,0)]):=by unfold Zet;rw[if_pos (by unfold inB;simp;omega),h1,h2]
theorem Zp9 (K:Nat) (s t:List Nat) (k:Int):∃ o,Zo7 K (Zet s t k) o:=by
 cases h:Zet s t k with
 | none=>exact⟨none,.inl ⟨rfl,rfl⟩⟩
 | some es =>
  obtain⟨o,ho⟩:=Zqd K es;refine⟨o,.inr ⟨es,rfl,?_,ho⟩⟩;unfold Zet at h
  split at h
  ·split at h
   ·rename_i x y h1 h2;have e1:=Zc7 h1;have e2:=Zc7 h2;cases h;simp;omega
   cases h
  cases h
theorem Zfu (K:Nat) (hK:K=40) (s t:List Nat) (k:Int) (o:Option DfaD) (ho:Zo7 K (Zet s t k) o) (w:World) (hs:isT s) (ht:isT t) :
  Calls Tryz.prog 16 #[.string (txB s),.string (txB t),.int .i64 k] w fun e w'=>RTt (o.getD zeD) o.isSome w.heap.size e w'∧Below w.heap.size w w':=by
 have HS:Hid (St w _ [Ent.box w.heap.size #[.slice none 0 0,.slice none 0 0] 25]):=qh ((St.start w).alloc w.heap.size rfl #[.slice none 0 0,.slice none 0 0] 25);have HR:=qh (fun u=>Zcp s u hs);have HT:=qh (fun u=>Zcp t u ht);have HO:=qh ho;obtain⟨D,hD⟩:=eJ (o.getD zeD);obtain⟨fb,hfb⟩:=eJ (o.isSome);rw[hD,hfb];have HD:=qh hD;have HF:=qh hfb;clear ho hs ht hD hfb
 have hkd:k=4∨k=5∨k=6∨inB k 4 6=false:=by
  by_cases h:4≤k∧k≤6
  ·omega
  exact .inr (.inr (.inr (by unfold inB;simp;omega)))
 have HKD:=qh hkd;clear hkd
 go_enter Tryz.func16, Tryz.ntmps16
 go_wp2_with fail;refine(HR.out _).mono ?_;rintro e w1 (⟨hr1,rfl,hb⟩|⟨xs,a1,c1,hr1,rfl,hS⟩)
 ·have hno:o=none:=by
   have h:=HO.out;rw[Zj3 hr1] at h;rcases h with⟨-,h⟩|⟨es,h,-⟩
   ·exact h
   cases h
  subst hno;obtain rfl:=HD.out;obtain rfl:=HF.out;clear HD HF;replace HS:=qh (HS.out.call hb);clear hb;clear HO HKD hr1;go_wp2_with fail;refine(HT.out _).mono ?_;rintro e w2 (⟨hr2,rfl,hb⟩|⟨ys,a2,c2,hr2,rfl,hS⟩)
  ·replace HS:=qh (HS.out.call hb);clear hb;have f0:=HS.out.fr 0 0 rfl;have f1:=HS.out.fr 0 1 rfl;have k0:=HS.out.cell (v:=.slice none 0 0) 0 0 rfl rfl;have k1:=HS.out.cell (v:=.slice none 0 0) 0 1 rfl rfl;go_wp2;have hq:=(HS.out.set 0 rfl 0 (.slice none 0 0)).set 0 rfl 1 (.slice none 0 0);have q0:=hq.cell (v:=.slice none 0 0) 0 0 rfl rfl;have q1:=hq.cell (v:=.slice none 0 0) 0 1 rfl rfl;refine bodyPost_ret (v:=.tuple #[.agg #[.slice none 0 0,.slice none 0 0],.bool false]) (by simp[results,Tryz.results16,go_sem,q0,q1]) rfl ?_;exact⟨⟨none,0,none,0,rfl,ZdC _ _ _ _ _⟩,hq.bel⟩
  replace HS:=qh (HS.out.call hS.bel);clear hS;have f0:=HS.out.fr 0 0 rfl;have f1:=HS.out.fr 0 1 rfl;have k0:=HS.out.cell (v:=.slice none 0 0) 0 0 rfl rfl;have k1:=HS.out.cell (v:=.slice none 0 0) 0 1 rfl rfl;go_wp2;have hq:=(HS.out.set 0 rfl 0 (.slice none 0 0)).set 0 rfl 1 (.slice none 0 0);have q0:=hq.cell (v:=.slice none 0 0) 0 0 rfl rfl;have q1:=hq.cell (v:=.slice none 0 0) 0 1 rfl rfl;refine bodyPost_ret (v:=.tuple #[.agg #[.slice none 0 0,.slice none 0 0],.bool false]) (by simp[results,Tryz.results16,go_sem,q0,q1]) rfl ?_;exact⟨⟨none,0,none,0,rfl,ZdC _ _ _ _ _⟩,hq.bel⟩
 have HX:=qh (Zam (hS.row 0 rfl));have hlx:=Zc7 hr1;replace HS:=qh (HS.out.call hS.bel);clear hS;go_wp2_with fail;refine(HT.out _).mono ?_;rintro e w2 (⟨hr2,rfl,hb⟩|⟨ys,a2,c2,hr2,rfl,hS⟩)
 ·have hno:o=none:=by
   have h:=HO.out;rw[Zj2 hr2] at h;rcases h with⟨-,h⟩|⟨es,h,-⟩
   ·exact h
   cases h
  subst hno;obtain rfl:=HD.out;obtain rfl:=HF.out;clear HD HF;replace HS:=qh (HS.out.call hb);clear hb;clear HO HKD hr1 hr2;have f0:=HS.out.fr 0 0 rfl;have f1:=HS.out.fr 0 1 rfl;have k0:=HS.out.cell (v:=.slice none 0 0) 0 0 rfl rfl;have k1:=HS.out.cell (v:=.slice none 0 0) 0 1 rfl rfl;go_wp2;have hq:=(HS.out.set 0 rfl 0 (.slice none 0 0)).set 0 rfl 1 (.slice none 0 0);have q0:=hq.cell (v:=.slice none 0 0) 0 0 rfl rfl;have q1:=hq.cell (v:=.slice none 0 0) 0 1 rfl rfl;refine bodyPost_ret (v:=.tuple #[.agg #[.slice none 0 0,.slice none 0 0],.bool false]) (by simp[results,Tryz.results16,go_sem,q0,q1]) rfl ?_;exact⟨⟨none,0,none,0,rfl,ZdC _ _ _ _ _⟩,hq.bel⟩
 have HY:=qh (Zam (hS.row 0 rfl));have hly:=Zc7 hr2;replace HX:=qh (HX.out.below hS.bel);replace HS:=qh (HS.out.call hS.bel);clear hS;rcases HKD.out with rfl|rfl|rfl|hk
 ·have hq:=ZeZ hr1 hr2 (k:=4) (by omega);have hhd:=HO.out;rw[hq] at hhd;obtain⟨h,-⟩|⟨es,h,hl,ho⟩:=hhd
  ·cases h
  have hes:xs++ys++[(4,0)]=es:=by simpa using h
  have hc:=fun (v:Value) (u:World) (h:Pairs 0 u v es)=>ZbN K hK _ o ho v u h
  rw[HD.out,HF.out] at hc;have Hc:=qh hc;clear ho hc HD HF HO HKD hr1 hr2 hq hl h;have HS2:=qh (show St w _ [Ent.box w.heap.size #[.slice none 0 0,.slice none 0 0] 25,Ent.box w2.heap.size #[.slice a1 xs.length c1,.slice a2 ys.length c2] 40] from HS.out.alloc w2.heap.size rfl _ _);have HX2:=qh (HX.out.below ((Below.refl w2.heap.size w2).alloc (Nat.le_refl _) (.cells #[.slice a1 xs.length c1,.slice a2 ys.length c2] 40)));have HY2:=qh (HY.out.below ((Below.refl w2.heap.size w2).alloc (Nat.le_refl _) (.cells #[.slice a1 xs.length c1,.slice a2 ys.length c2] 40)));have hop:=Zfm 4 xs ys _ _ w2.heap.size 2 _ (by omega) (by omega) (HS2.out.boxlt 1 rfl).2 (HS2.out.cell (v:=.slice a1 xs.length c1) 1 0 rfl rfl) (HS2.out.cell (v:=.slice a2 ys.length c2) 1 1 rfl rfl) HX2.out HY2.out;rw[hes] at hop;have Hop:=qh hop;clear hop hes;go_wp2_with fail;refine Hop.out.mono ?_;rintro e w3 ⟨a3,c3,rfl,hS⟩;have HP:=qh (Zam (hS.row 0 rfl));replace HS:=qh ((HS2.out.call hS.bel).pick [0] (by decide));clear hS HS2 HX2 HY2 HX HY Hop;go_wp2_with fail;refine(Hc.out _ _ HP.out).mono ?_;rintro e w4 ⟨⟨d1,e1,d2,e2,rfl,hown⟩,hb2⟩;have hS5:=HS.out.call hb2;have f0:=hS5.fr 0 0 rfl;have f1:=hS5.fr 0 1 rfl;have k0:=hS5.cell (v:=.slice none 0 0) 0 0 rfl rfl;have k1:=hS5.cell (v:=.slice none 0 0) 0 1 rfl rfl;have hDM:=DMem.of hown HS.out.size;have hb0:=hS5.box 0 rfl;have HS5:=qh hS5;have HDM:=qh hDM;replace hb0:=qh hb0;clear hS5 hown hb2 hDM;go_wp2
  have hq:=(HS5.out.set 0 rfl 0 (.slice d1 D.next.length e1)).set 0 rfl 1 (.slice d2 D.ends.length e2);have q0:=hq.cell (v:=.slice d1 D.next.length e1) 0 0 rfl rfl;have q1:=hq.cell (v:=.slice d2 D.ends.length e2) 0 1 rfl rfl;have hm:=(HDM.out.set hb0.out 0 (.slice d1 D.next.length e1)).set (hb0.out.set 0 _) 1 (.slice d2 D.ends.length e2);refine bodyPost_ret (v:=.tuple #[.agg #[.slice d1 D.next.length e1,.slice d2 D.ends.length e2],.bool fb]) (by simp[results,Tryz.results16,go_sem,q0,q1]) rfl ?_;exact⟨⟨d1,e1,d2,e2,rfl,_,_,rfl,hm.1,hm.2⟩,hq.bel⟩
 ·have hq:=ZeZ hr1 hr2 (k:=5) (by omega);have hhd:=HO.out;rw[hq] at hhd;obtain⟨h,-⟩|⟨es,h,hl,ho⟩:=hhd
  ·cases h
  have hes:xs++ys++[(5,0)]=es:=by simpa using h
  have hc:=fun (v:Value) (u:World) (h:Pairs 0 u v es)=>ZbN K hK _ o ho v u h
  rw[HD.out,HF.out] at hc;have Hc:=qh hc;clear ho hc HD HF HO HKD hr1 hr2 hq hl h;have HS2:=qh (show St w _ [Ent.box w.heap.size #[.slice none 0 0,.slice none 0 0] 25,Ent.box w2.heap.size #[.slice a1 xs.length c1,.slice a2 ys.length c2] 40] from HS.out.alloc w2.heap.size rfl _ _);have HX2:=qh (HX.out.below ((Below.refl w2.heap.size w2).alloc (Nat.le_refl _) (.cells #[.slice a1 xs.length c1,.slice a2 ys.length c2] 40)));have HY2:=qh (HY.out.below ((Below.refl w2.heap.size w2).alloc (Nat.le_refl _) (.cells #[.slice a1 xs.length c1,.slice a2 ys.length c2] 40)));have hop:=Zfm 5 xs ys _ _ w2.heap.size 2 _ (by omega) (by omega) (HS2.out.boxlt 1 rfl).2 (HS2.out.cell (v:=.slice a1 xs.length c1) 1 0 rfl rfl) (HS2.out.cell (v:=.slice a2 ys.length c2) 1 1 rfl rfl) HX2.out HY2.out;rw[hes] at hop;have Hop:=qh hop;clear hop hes;go_wp2_with fail;refine Hop.out.mono ?_;rintro e w3 ⟨a3,c3,rfl,hS⟩;have HP:=qh (Zam (hS.row 0 rfl));replace HS:=qh ((HS2.out.call hS.bel).pick [0] (by decide));clear hS HS2 HX2 HY2 HX HY Hop;go_wp2_with fail;refine(Hc.out _ _ HP.out).mono ?_;rintro e w4 ⟨⟨d1,e1,d2,e2,rfl,hown⟩,hb2⟩;have hS5:=HS.out.call hb2;have f0:=hS5.fr 0 0 rfl;have f1:=hS5.fr 0 1 rfl;have k0:=hS5.cell (v:=.slice none 0 0) 0 0 rfl rfl;have k1:=hS5.cell (v:=.slice none 0 0) 0 1 rfl rfl;have hDM:=DMem.of hown HS.out.size;have hb0:=hS5.box 0 rfl;have HS5:=qh hS5;have HDM:=qh hDM;replace hb0:=qh hb0;clear hS5 hown hb2 hDM;go_wp2
  have hq:=(HS5.out.set 0 rfl 0 (.slice d1 D.next.length e1)).set 0 rfl 1 (.slice d2 D.ends.length e2);have q0:=hq.cell (v:=.slice d1 D.next.length e1) 0 0 rfl rfl;have q1:=hq.cell (v:=.slice d2 D.ends.length e2) 0 1 rfl rfl;have hm:=(HDM.out.set hb0.out 0 (.slice d1 D.next.length e1)).set (hb0.out.set 0 _) 1 (.slice d2 D.ends.length e2);refine bodyPost_ret (v:=.tuple #[.agg #[.slice d1 D.next.length e1,.slice d2 D.ends.length e2],.bool fb]) (by simp[results,Tryz.results16,go_sem,q0,q1]) rfl ?_;exact⟨⟨d1,e1,d2,e2,rfl,_,_,rfl,hm.1,hm.2⟩,hq.bel⟩
 ·have hq:=ZeZ hr1 hr2 (k:=6) (by omega);have hhd:=HO.out;rw[hq] at hhd;obtain⟨h,-⟩|⟨es,h,hl,ho⟩:=hhd
  ·cases h
  have hes:xs++ys++[(6,0)]=es:=by simpa using h
  have hc:=fun (v:Value) (u:World) (h:Pairs 0 u v es)=>ZbN K hK _ o ho v u h
  rw[HD.out,HF.out] at hc;have Hc:=qh hc;clear ho hc HD HF HO HKD hr1 hr2 hq hl h;have HS2:=qh (show St w _ [Ent.box w.heap.size #[.slice none 0 0,.slice none 0 0] 25,Ent.box w2.heap.size #[.slice a1 xs.length c1,.slice a2 ys.length c2] 40] from HS.out.alloc w2.heap.size rfl _ _);have HX2:=qh (HX.out.below ((Below.refl w2.heap.size w2).alloc (Nat.le_refl _) (.cells #[.slice a1 xs.length c1,.slice a2 ys.length c2] 40)));have HY2:=qh (HY.out.below ((Below.refl w2.heap.size w2).alloc (Nat.le_refl _) (.cells #[.slice a1 xs.length c1,.slice a2 ys.length c2] 40)));have hop:=Zfm 6 xs ys _ _ w2.heap.size 2 _ (by omega) (by omega) (HS2.out.boxlt 1 rfl).2 (HS2.out.cell (v:=.slice a1 xs.length c1) 1 0 rfl rfl) (HS2.out.cell (v:=.slice a2 ys.length c2) 1 1 rfl rfl) HX2.out HY2.out;rw[hes] at hop;have Hop:=qh hop;clear hop hes;go_wp2_with fail;refine Hop.out.mono ?_;rintro e w3 ⟨a3,c3,rfl,hS⟩;have HP:=qh (Zam (hS.row 0 rfl));replace HS:=qh ((HS2.out.call hS.bel).pick [0] (by decide));clear hS HS2 HX2 HY2 HX HY Hop;go_wp2_with fail;refine(Hc.out _ _ HP.out).mono ?_;rintro e w4 ⟨⟨d1,e1,d2,e2,rfl,hown⟩,hb2⟩;have hS5:=HS.out.call hb2;have f0:=hS5.fr 0 0 rfl;have f1:=hS5.fr 0 1 rfl;have k0:=hS5.cell (v:=.slice none 0 0) 0 0 rfl rfl;have k1:=hS5.cell (v:=.slice none 0 0) 0 1 rfl rfl;have hDM:=DMem.of hown HS.out.size;have hb0:=hS5.box 0 rfl;have HS5:=qh hS5;have HDM:=qh hDM;replace hb0:=qh hb0;clear hS5 hown hb2 hDM;go_wp2
  have hq:=(HS5.out.set 0 rfl 0 (.slice d1 D.next.length e1)).set 0 rfl 1 (.slice d2 D.ends.length e2);have q0:=hq.cell (v:=.slice d1 D.next.length e1) 0 0 rfl rfl;have q1:=hq.cell (v:=.slice d2 D.ends.length e2) 0 1 rfl rfl;have hm:=(HDM.out.set hb0.out 0 (.slice d1 D.next.length e1)).set (hb0.out.set 0 _) 1 (.slice d2 D.ends.length e2);refine bodyPost_ret (v:=.tuple #[.agg #[.slice d1 D.next.length e1,.slice d2 D.ends.length e2],.bool fb]) (by simp[results,Tryz.results16,go_sem,q0,q1]) rfl ?_;exact⟨⟨d1,e1,d2,e2,rfl,_,_,rfl,hm.1,hm.2⟩,hq.bel⟩
 have hno:o=none:=by
  have h:=HO.out;rw[Zj1 hk] at h;rcases h with⟨-,h⟩|⟨es,h,-⟩
  ·exact h
  cases h
 subst hno;obtain rfl:=HD.out;obtain rfl:=HF.out;clear HD HF;have k4:k≠4:=by rintro rfl;exact absurd hk (by decide)
 obtain⟨p4,q4,r4,s4⟩:=ZaI k4;clear k4;have k5:k≠5:=by rintro rfl;exact absurd hk (by decide)
 obtain⟨p5,q5,r5,s5⟩:=ZaI k5;clear k5;have k6:k≠6:=by rintro rfl;exact absurd hk (by decide)
 obtain⟨p6,q6,r6,s6⟩:=ZaI k6;clear k6;clear HO HKD hr1 hr2 HX HY hk;have f0:=HS.out.fr 0 0 rfl;have f1:=HS.out.fr 0 1 rfl;have k0:=HS.out.cell (v:=.slice none 0 0) 0 0 rfl rfl;have k1:=HS.out.cell (v:=.slice none 0 0) 0 1 rfl rfl;go_wp2_with fail;have hq:=(HS.out.set 0 rfl 0 (.slice none 0 0)).set 0 rfl 1 (.slice none 0 0);have q0:=hq.cell (v:=.slice none 0 0) 0 0 rfl rfl;have q1:=hq.cell (v:=.slice none 0 0) 0 1 rfl rfl;refine bodyPost_ret (v:=.tuple #[.agg #[.slice none 0 0,.slice none 0 0],.bool false]) (by simp[results,Tryz.results16,go_sem,q0,q1]) rfl ?_;exact⟨⟨none,0,none,0,rfl,ZdC _ _ _ _ _⟩,hq.bel⟩
theorem Zff (K:Nat) (hK:K=40) (s t:List Nat) (k:Int) (o:Option DfaD) (ho:Zo7 K (Zet s t k) o) (w:World) (hs:isT s) (ht:isT t) :
  Calls Tryz.prog 15 #[.string (txB s),.string (txB t),.int .i64 k] w fun e w'=>RO o w e w':=by
 have HS:Hid (St w _ [Ent.box w.heap.size #[.slice none 0 0,.slice none 0 0] 25]):=qh ((St.start w).alloc w.heap.size rfl #[.slice none 0 0,.slice none 0 0] 25);have HR:=qh (fun u=>Zdx s u hs);have HT:=qh (fun u=>Zdx t u ht);have HO:=qh ho;unfold RO;obtain⟨D,hD⟩:=eJ (o.getD Zbj);obtain⟨fb,hfb⟩:=eJ (o.isSome);rw[hD,hfb];have HD:=qh hD;have HF:=qh hfb;clear ho hs ht hD hfb;have hkd:inB k 4 6=true∨inB k 4 6=false:=by cases inB k 4 6<;>simp
 have HKD:=qh hkd;clear hkd
 go_enter Tryz.func15, Tryz.ntmps15
 go_wp2_with fail;refine(HR.out _).mono ?_;rintro e w1 (⟨hr1,a1,c1,rfl,hS⟩|⟨xs,a1,c1,hr1,rfl,hS⟩)
 ·have hno:o=none:=by
   have h:=HO.out;rw[Zj3 hr1] at h;rcases h with⟨-,h⟩|⟨es,h,-⟩
   ·exact h
   cases h
  subst hno;obtain rfl:=HD.out;obtain rfl:=HF.out;clear HD HF;replace HS:=qh (HS.out.call hS.bel);clear hS;clear HO HKD hr1;go_wp2_with fail;refine(HT.out _).mono ?_;rintro e w2 (⟨hr2,a2,c2,rfl,hS⟩|⟨ys,a2,c2,hr2,rfl,hS⟩)
  ·replace HS:=qh (HS.out.call hS.bel);clear hS;have f0:=HS.out.fr 0 0 rfl;have f1:=HS.out.fr 0 1 rfl;have k0:=HS.out.cell (v:=.slice none 0 0) 0 0 rfl rfl;have k1:=HS.out.cell (v:=.slice none 0 0) 0 1 rfl rfl;go_wp2;have hq:=(HS.out.set 0 rfl 0 (.slice none 0 0)).set 0 rfl 1 (.slice none 0 0);have q0:=hq.cell (v:=.slice none 0 0) 0 0 rfl rfl;have q1:=hq.cell (v:=.slice none 0 0) 0 1 rfl rfl;refine bodyPost_ret (v:=.tuple #[.agg #[.slice none 0 0,.slice none 0 0],.bool false]) (by simp[results,Tryz.results15,go_sem,q0,q1]) rfl ?_;exact⟨none,0,none,0,rfl,Zb5 _ _,hq.bel⟩
  replace HS:=qh (HS.out.call hS.bel);clear hS;have f0:=HS.out.fr 0 0 rfl;have f1:=HS.out.fr 0 1 rfl;have k0:=HS.out.cell (v:=.slice none 0 0) 0 0 rfl rfl;have k1:=HS.out.cell (v:=.slice none 0 0) 0 1 rfl rfl;go_wp2;have hq:=(HS.out.set 0 rfl 0 (.slice none 0 0)).set 0 rfl 1 (.slice none 0 0);have q0:=hq.cell (v:=.slice none 0 0) 0 0 rfl rfl;have q1:=hq.cell (v:=.slice none 0 0) 0 1 rfl rfl;refine bodyPost_ret (v:=.tuple #[.agg #[.slice none 0 0,.slice none 0 0],.bool false]) (by simp[results,Tryz.results15,go_sem,q0,q1]) rfl ?_;exact⟨none,0,none,0,rfl,Zb5 _ _,hq.bel⟩
 have HX:=qh (Zam (hS.row 0 rfl));have hlx:=Zc7 hr1;replace HS:=qh (HS.out.call hS.bel);clear hS;go_wp2_with fail;refine(HT.out _).mono ?_;rintro e w2 (⟨hr2,a2,c2,rfl,hS⟩|⟨ys,a2,c2,hr2,rfl,hS⟩)
 ·have hno:o=none:=by
   have h:=HO.out;rw[Zj2 hr2] at h;rcases h with⟨-,h⟩|⟨es,h,-⟩
   ·exact h
   cases h
  subst hno;obtain rfl:=HD.out;obtain rfl:=HF.out;clear HD HF;replace HS:=qh (HS.out.call hS.bel);clear hS;clear HO HKD hr1 hr2;have f0:=HS.out.fr 0 0 rfl;have f1:=HS.out.fr 0 1 rfl;have k0:=HS.out.cell (v:=.slice none 0 0) 0 0 rfl rfl;have k1:=HS.out.cell (v:=.slice none 0 0) 0 1 rfl rfl;go_wp2;have hq:=(HS.out.set 0 rfl 0 (.slice none 0 0)).set 0 rfl 1 (.slice none 0 0);have q0:=hq.cell (v:=.slice none 0 0) 0 0 rfl rfl;have q1:=hq.cell (v:=.slice none 0 0) 0 1 rfl rfl;refine bodyPost_ret (v:=.tuple #[.agg #[.slice none 0 0,.slice none 0 0],.bool false]) (by simp[results,Tryz.results15,go_sem,q0,q1]) rfl ?_;exact⟨none,0,none,0,rfl,Zb5 _ _,hq.bel⟩
 have HY:=qh (Zam (hS.row 0 rfl));have hly:=Zc7 hr2;replace HX:=qh (HX.out.below hS.bel);replace HS:=qh (HS.out.call hS.bel);clear hS;rcases HKD.out with hk|hk
 ·have hq:=ZeZ hr1 hr2 (k:=k) (by unfold inB at hk;simpa using hk);have hhd:=HO.out;rw[hq] at hhd;obtain⟨h,-⟩|⟨es,h,hl,ho⟩:=hhd
  ·cases h
  have hes:xs++ys++[(k,0)]=es:=by simpa using h
  replace hk:=qh hk;have hc:=fun (v:Value) (u:World) (h:Pairs 0 u v es)=>ZgB K hK _ o ho v u hl h
  unfold RO at hc;rw[HD.out,HF.out] at hc;have Hc:=qh hc;obtain⟨j0,hj,hy0,hy1,hy2⟩:=info_parts Tryz.infoPart;have hlen:es.length=xs.length+ys.length+1:=by rw[← hes];simp;omega
  have hcel:es.flatMap Zaa=xs.flatMap Zaa++ys.flatMap Zaa++[.int .i64 k,.int .i64 0]:=by rw[← hes];simp[Zaa]
  clear hes;have Hhlen:=qh hlen;clear hlen;replace hcel:=qh hcel;clear ho hc HD HF HO HKD hr1 hr2 hq hl h;have HSa:=qh (ZeN (St.start w2))
  go_wp2_with (first
   | (go_at_call 44;refine(Zbh _ _ _ _ true hk.out).mono ?_;rintro e w' ⟨rfl,rfl⟩)
   | (at_builtin;refine Zak _ rfl _ _ _ rfl _ 59 j0 PZ 2 16 Tryz.underlying40 hj hy0 hy1 hy2 rfl (by omega) _ (0) _ rfl (HSa.out.row 0 rfl) _ (xs.length) (xs.flatMap Zaa) rfl (HX.out.below HSa.out.bel) Zee (by unfold maxLen;omega) (by omega) HSa.out.size ?_;intro a5 c5 w5 hown hgrow hat;have hS:=(HSa.out.appS 0 rfl hown hgrow hat).pick [0] (by decide);simp only[Nat.zero_add,List.nil_append] at hS;(try simp only[Nat.zero_add]);have HS5:=qh hS;clear hown hgrow hat hS)
   | (at_builtin;refine Zak _ rfl _ _ _ rfl _ 59 j0 PZ 2 16 Tryz.underlying40 hj hy0 hy1 hy2 rfl (by omega) _ (xs.length) _ rfl (HS5.out.row 0 rfl) _ (ys.length) (ys.flatMap Zaa) rfl (HY.out.below HS5.out.bel) Zee (by unfold maxLen;omega) (by omega) HS5.out.size ?_;intro a6 c6 w6 hown hgrow hat;have hS:=(HS5.out.appS 0 rfl hown hgrow hat).pick [0] (by decide);have HS6:=qh hS;clear hown hgrow hat hS)
   | (at_builtin;have HS9:=qh ((HS6.out.alloc _ rfl #[.int .i64 k,.int .i64 0] 59).boxrow 1 1 2 [.int .i64 k,.int .i64 0] rfl rfl (by unfold maxLen;omega));refine Zak _ rfl _ _ _ rfl _ 59 j0 PZ 2 16 Tryz.underlying40 hj hy0 hy1 hy2 rfl (by omega) _ (xs.length+ys.length) _ rfl (HS9.out.row 0 rfl) _ (1) ([.int .i64 k,.int .i64 0]) rfl ((Zab (HS9.out.row 1 rfl)).sl (by omega) |>.mono (Nat.zero_le _)) (by intro u hu;simp at hu;rcases hu with rfl|rfl<;>rfl) (by unfold maxLen;omega) (by omega) HS9.out.size ?_;intro a7 c7 w7 hown hgrow hat;have hS:=(HS9.out.appS 0 rfl hown hgrow hat).pick [0] (by decide);have HS7:=qh hS;clear hown hgrow hat hS)
   | (go_at_call 24;have HP:=qh (Zam (show _ from by rw[Hhlen.out,hcel.out];exact HS7.out.row 0 rfl):Pairs 0 w7 _ es);refine(Hc.out _ _ HP.out).mono ?_;rintro e w8 ⟨d1,e1,d2,e2,rfl,hr,hb2⟩;replace HS:=qh (HS.out.call HS7.out.bel);clear HSa HS5 HS6 HS7 HS9;have hS5:=HS.out.call hb2;have f0:=hS5.fr 0 0 rfl;have f1:=hS5.fr 0 1 rfl;have k0:=hS5.cell (v:=.slice none 0 0) 0 0 rfl rfl;have k1:=hS5.cell (v:=.slice none 0 0) 0 1 rfl rfl;have hB0:=(HS.out.boxlt 0 rfl).2;have hsz:=HS.out.size;have HS5:=qh hS5;have HR5:=qh hr;clear hS5 hr hb2))
  have hq:=(HS5.out.set 0 rfl 0 (.slice d1 D.next.length e1)).set 0 rfl 1 (.slice d2 D.ends.length e2);have q0:=hq.cell (v:=.slice d1 D.next.length e1) 0 0 rfl rfl;have q1:=hq.cell (v:=.slice d2 D.ends.length e2) 0 1 rfl rfl;refine bodyPost_ret (v:=.tuple #[.agg #[.slice d1 D.next.length e1,.slice d2 D.ends.length e2],.bool fb]) (by simp[results,Tryz.results15,go_sem,q0,q1]) rfl ?_;exact⟨_,_,_,_,rfl,((HR5.out.far hB0 0 _).far hB0 1 _).mono hsz,hq.bel⟩
 have hno:o=none:=by
  have h:=HO.out;rw[Zj1 hk] at h;rcases h with⟨-,h⟩|⟨es,h,-⟩
  ·exact h
  cases h
 subst hno;obtain rfl:=HD.out;obtain rfl:=HF.out;clear HD HF;have hin:=qh (show inB k 4 6=false from hk);clear HO HKD hr1 hr2 HX HY hk;have f0:=HS.out.fr 0 0 rfl;have f1:=HS.out.fr 0 1 rfl;have k0:=HS.out.cell (v:=.slice none 0 0) 0 0 rfl rfl;have k1:=HS.out.cell (v:=.slice none 0 0) 0 1 rfl rfl;go_wp2_with (go_at_call 44;refine(Zbh _ _ _ _ _ hin.out).mono ?_;rintro e w' ⟨rfl,rfl⟩);have hq:=(HS.out.set 0 rfl 0 (.slice none 0 0)).set 0 rfl 1 (.slice none 0 0);have q0:=hq.cell (v:=.slice none 0 0) 0 0 rfl rfl;have q1:=hq.cell (v:=.slice none 0 0) 0 1 rfl rfl;refine bodyPost_ret (v:=.tuple #[.agg #[.slice none 0 0,.slice none 0 0],.bool false]) (by simp[results,Tryz.results15,go_sem,q0,q1]) rfl ?_;exact⟨none,0,none,0,rfl,Zb5 _ _,hq.bel⟩
def anyP (f:Nat→Bool):Nat→Bool
 | 0=>false
 | d+1=>anyP f d||f d
theorem Zl3 (f:Nat→Bool):∀ d,anyP f d=true↔∃ m,m<d∧f m=true
 | 0=>⟨fun h=>(by cases h),fun ⟨m,h1,_⟩=>(by omega)⟩
 | d+1=>by
  rw[anyP,Bool.or_eq_true,Zl3 f d];constructor
  ·rintro(⟨m,h1,h2⟩|h)
   ·exact⟨m,by omega,h2⟩
   exact⟨d,by omega,h⟩
  rintro⟨m,h1,h2⟩;by_cases e:m=d
  ·subst e;exact .inr h2
  exact .inl ⟨m,by omega,h2⟩
theorem Zdg {s l:List Nat} {a:Ex} {r:Bool} (hs:Zbk s=some a.post) (h:AccT s l r):r=(wdOk l&&accX l a):=by
 rcases h with⟨h,-⟩|⟨es,h,hr⟩
 ·rw[hs] at h;cases h
 have hok:=Zlp hs;rw[hs] at h;obtain rfl:=Option.some.inj h;rcases hr with⟨-,hwd,t,ht,hx⟩|⟨h1|h1,hf⟩
 ·rw[hwd,Bool.true_and,← hx,Zge ht]
 ·rw[hok] at h1;cases h1
 rw[h1,hf];rfl
theorem Zoy {K:Nat} (hK:K=40) {s t:List Nat} {κ:Int} {D:DfaD} (h:Zo7 K (Zet s t κ) (some D)):(κ=4∨κ=5∨κ=6) ∧
  (κ=5→∀ l r1 r2,AccT s l r1→AccT t l r2→(wdOk l&&accD D (lets l))=(r1||r2)) ∧
  (κ=6→∀ l r1 r2,AccT s l r1→AccT t l r2→(wdOk l&&accD D (lets l))=(r1&&r2)) ∧
  (κ=4→∀ (l:List Nat) (f g:Nat→Bool),(∀ k,AccT s (l.take k) (f k))→(∀ k,AccT t (l.drop k) (g k))→wdOk l=true→accD D (lets l)=anyP (fun k=>f k&&g k) (l.length+1)):=by
 rcases h with⟨-,h⟩|⟨es,hes,-,hc⟩
 ·cases h
 obtain⟨hok,T,hT,hcc⟩:exOk es=true∧∃ T:Ex,T.post=es∧Zap K T=some D:=by
  rcases hc with h|⟨-,h⟩
  ·exact h
  cases h
 unfold Zet at hes;by_cases hin:inB κ 4 6=true
 case neg=>rw[if_neg hin] at hes;cases hes
 rw[if_pos hin] at hes;cases hx:Zbk s with
 | none=>rw[hx] at hes;cases hes
 | some x =>
  cases hy:Zbk t with
  | none=>rw[hx,hy] at hes;cases hes
  | some y =>
   rw[hx,hy] at hes;have he:=(Option.some.inj hes).symm;obtain⟨a,rfl,-,-,-⟩:=Zd6 hx;obtain⟨b,rfl,-,-,-⟩:=Zd6 hy;have hκ:κ=4∨κ=5∨κ=6:=by unfold inB at hin;simp at hin;omega
   have hw:∀ l,wdOk l=true→(accD D (lets l)=true↔memE T (lets l)):=fun l hl=>ZoF hK T hcc _ (ZlA hl)
   refine⟨hκ,fun e l r1 r2 h1 h2 => ?_,fun e l r1 r2 h1 h2 => ?_,fun e l f g h1 h2 hl => ?_⟩
   ·subst e;obtain rfl:T = .alt a b:=Zge (hT.trans he);rw[Zdg hx h1,Zdg hy h2];cases hl:wdOk l with
    | false=>rfl
    | true =>rw[Bool.true_and,Bool.true_and,Bool.true_and,Bool.eq_iff_iff,hw l hl,Bool.or_eq_true,Zea hl,Zea hl];rfl
   ·subst e;obtain rfl:T = .both a b:=Zge (hT.trans he);rw[Zdg hx h1,Zdg hy h2];cases hl:wdOk l with
    | false=>rfl
    | true =>rw[Bool.true_and,Bool.true_and,Bool.true_and,Bool.eq_iff_iff,hw l hl,Bool.and_eq_true,Zea hl,Zea hl];rfl
   subst e;obtain rfl:T = .join a b:=Zge (hT.trans he);rw[Bool.eq_iff_iff,hw l hl,Zl3];have hf:∀ k,(f k=true↔memE a ((lets l).take k)):=fun k=>by rw[Zdg hx (h1 k),Zjl hl k,Bool.true_and,Zea (Zjl hl k)];unfold lets;rw[List.map_take]
   have hg:∀ k,(g k=true↔memE b ((lets l).drop k)):=fun k=>by rw[Zdg hy (h2 k),Zjm hl k,Bool.true_and,Zea (Zjm hl k)];unfold lets;rw[List.map_drop]
   constructor
   ·rintro⟨u,v,e,hu,hv⟩;have hlen:(lets l).length=l.length:=by simp[lets]
    refine⟨u.length,by rw[← hlen,e,List.length_append];omega,?_⟩;rw[Bool.and_eq_true,hf,hg,e];refine⟨?_,?_⟩
    ·rw[List.take_left];exact hu
    rw[List.drop_left];exact hv
   rintro⟨k,-,h⟩;rw[Bool.and_eq_true,hf,hg] at h;exact⟨_,_,(List.take_append_drop k _).symm,h.1,h.2⟩
def PtH (E:Ent) (v:Value) (es:List (Int × Int)):Prop:=∀ w,E.holds w→(∀ k,E.foot k→k<w.heap.size)→Pairs 0 w v es
theorem PtH.r {w0 w:World} {L:List Ent} {E:Ent} {v:Value} {es:List (Int × Int)} (h:PtH E v es) (hS:St w0 w L) (i:Nat) (hx:L[i]? = some E):Pairs 0 w v es :=
 h w (hS.has i _ hx).1 fun k hk=>((hS.has i _ hx).2 k hk).2
theorem ZqE (a:Option Addr) (c:Nat) (es:List (Int × Int)):PtH (Zcl a c es) (.slice a es.length c) es:=fun w h _=>((Zab h).sl (by omega)).mono (Nat.zero_le _)
end Go.Proofs.YtfgpkadhegdffaaGreat
