/-
  The walks over the program's CompileExpr and StateCount, and over the reference's StateCount.
  Condition: the list of parts reads as such.
-/
import Derived.Test.YtehmjmjedopkkaaGreatPo26Jf
import Derived.Test.YtehmjmjedopkkaaGreatPo27Cmp
set_option maxHeartbeats 16000000
set_option maxRecDepth 100000
namespace Go.Proofs.YtehmjmjedopkkaaGreat
open Go.RowKit
theorem Zea (K:Nat) (hK:K=40) (es:List (Int × Int)) (o:Option DfaD) (ho:ZkP K es o) (v:Value) (w:World) (h:Pairs 0 w v es) :
  Calls Tryz.prog 10 #[v] w fun e w'=>RTt (o.getD zeD) o.isSome w.heap.size e w'∧Below w.heap.size w w':=by
 have H:=qh h;have HS0:=qh ((St.start w).alloc _ rfl #[.slice none 0 0,.slice none 0 0] 32);clear h;rcases ho with⟨hok,t,ht,rfl⟩|⟨hok,rfl⟩
 ·have hrun:runC K es []=(Zaq K t).map fun d=>[d]:=by rw[← ht];exact ZlS hK t
  have hmin:∀ d,Zaq K t=some d→minD d=d:=fun d h=>ZfR hK t h
  obtain⟨o,ho⟩:=eJ (Zaq K t);rw[ho] at hrun hmin;rw[ho];have Hc:=qh (show ∀ u:World,Below w.heap.size w u→Calls Tryz.prog 34 #[v] u fun e w'=>RTt (o.getD zeD) o.isSome u.heap.size e w'∧Below u.heap.size u w' from fun u hb=>Zfx K hK es o hrun hmin v u hok (H.out.below hb));obtain⟨D,hD⟩:=eJ (o.getD zeD);obtain⟨fb,hfb⟩:=eJ (o.isSome);rw[hD,hfb] at Hc;rw[hD,hfb];replace hok:=qh hok;clear hrun hmin ho ht hD hfb
  go_enter Tryz.func10, Tryz.ntmps10
  go_wp2_with fail;refine(ZaZ es v _ (H.out.below HS0.out.bel) _ hok.out).mono ?_;rintro e w1 ⟨rfl,hb1⟩;have HS1:=qh (HS0.out.call hb1);clear hb1;go_wp2_with fail;refine(Hc.out _ HS1.out.bel).mono ?_;rintro e w2 ⟨⟨a1,c1,a2,c2,rfl,hown⟩,hb2⟩;have hS5:=HS1.out.call hb2;have f0:=hS5.fr 0 0 rfl;have f1:=hS5.fr 0 1 rfl;have k0:=hS5.cell (v:=.slice none 0 0) 0 0 rfl rfl;have k1:=hS5.cell (v:=.slice none 0 0) 0 1 rfl rfl;have hDM:=DMem.of hown HS1.out.size;have hb0:=hS5.box 0 rfl;have HS5:=qh hS5;have HDM:=qh hDM;replace hb0:=qh hb0;clear hS5 hown hb2 hDM;go_wp2;have hq:=(HS5.out.set 0 rfl 0 (.slice a1 D.next.length c1)).set 0 rfl 1 (.slice a2 D.ends.length c2);have q0:=hq.cell (v:=.slice a1 D.next.length c1) 0 0 rfl rfl;have q1:=hq.cell (v:=.slice a2 D.ends.length c2) 0 1 rfl rfl;have hm:=(HDM.out.set hb0.out 0 (.slice a1 D.next.length c1)).set (hb0.out.set 0 _) 1 (.slice a2 D.ends.length c2);refine bodyPost_ret (v:=.tuple #[.agg #[.slice a1 D.next.length c1,.slice a2 D.ends.length c2],.bool fb]) (by simp[results,Tryz.results10,go_sem,q0,q1]) rfl ⟨?_,hq.bel⟩;exact⟨a1,c1,a2,c2,rfl,_,_,rfl,hm.1,hm.2⟩
 replace hok:=qh hok
 go_enter Tryz.func10, Tryz.ntmps10
 go_wp2_with fail;refine(ZaZ es v _ (H.out.below HS0.out.bel) _ hok.out).mono ?_;rintro e w1 ⟨rfl,hb1⟩;have HS5:=qh (HS0.out.call hb1);clear hb1;have f0:=HS5.out.fr 0 0 rfl;have f1:=HS5.out.fr 0 1 rfl;have k0:=HS5.out.cell (v:=.slice none 0 0) 0 0 rfl rfl;have k1:=HS5.out.cell (v:=.slice none 0 0) 0 1 rfl rfl;go_wp2;have hq:=(HS5.out.set 0 rfl 0 (.slice none 0 0)).set 0 rfl 1 (.slice none 0 0);have q0:=hq.cell (v:=.slice none 0 0) 0 0 rfl rfl;have q1:=hq.cell (v:=.slice none 0 0) 0 1 rfl rfl;refine bodyPost_ret (v:=.tuple #[.agg #[.slice none 0 0,.slice none 0 0],.bool false]) (by simp[results,Tryz.results10,go_sem,q0,q1]) rfl ⟨?_,hq.bel⟩;exact⟨none,0,none,0,rfl,ZhN _ _ _ _ _⟩
def endI (S:List Nat) (x:PS):Int:=if x.2.2=true then -1 else((S.length-x.2.1.length:Nat):Int)
def RRs (S:List Nat) (x:PS) (w:World) (e:Ending) (w':World):Prop:=∃ a c,e = .returned (.tuple #[.slice a x.1.length c,.int .i64 (endI S x)])∧St w w' [Ent.row 55 2 (.slice a x.1.length c) x.1.length (x.1.flatMap Zab)]
theorem RRs.nil (S:List Nat) (q:List Nat) {w w':World} {a:Option Addr} {c:Nat} (hS:St w w' [Ent.row 55 2 (.slice a 0 c) 0 []]):RRs S ([],q,true) w (.returned (.tuple #[.slice a 0 c,.int .i64 (-1)])) w':=⟨a,c,rfl,hS⟩
-- ways through an automaton of any size
theorem Zow {N:Nat} {ms:List (Int × Int × Int)} (hm:mvIn N ms) {v t:Nat} (hv:v<2 ^ N):(clV N ms v).testBit t=true↔∃ s:Nat,s<N∧v.testBit s=true∧Pth ms s [] t:=by
 constructor
 ·intro h;obtain⟨u,hu⟩:=Znw (fun t=>∃ s:Nat,s<N∧v.testBit s=true∧Pth ms s [] t) N
  have hc:ZbY ms u:=by
   intro m hmm he hf;obtain⟨h1,s,hs,hvs,hp⟩:=(hu _).1 hf;have h2:=hm m hmm;refine(hu _).2 ⟨by omega,s,hs,hvs,?_⟩;have e1:((m.1.toNat:Nat):Int)=m.1:=by omega
   have e2:((m.2.2.toNat:Nat):Int)=m.2.2:=by omega
   rw[e1] at hp;rw[e2];refine hp.append (y:=[]) (.eps ?_ (.here _));rw[← he];exact hmm
  have hsub:subV v u:=by intro s hs;have:=Zgo hv hs;exact(hu s).2 ⟨this,s,this,hs,.here _⟩
  exact((hu t).1 (Zou hc hsub t h)).2
 rintro⟨s,hs,hvs,hp⟩;have:=hp.closed (Zcy hm v) rfl (by rw[Int.toNat_natCast];exact ZgQ N ms v s hvs)
 rwa [Int.toNat_natCast] at this
theorem Zm1 {N:Nat} {ms:List (Int × Int × Int)} (hm:mvIn N ms) {v t:Nat} (c:Nat):(stV N ms v (c:Int)).testBit t=true↔∃ x,x∈ms∧x.2.1=(c:Int)∧v.testBit x.1.toNat=true∧Pth ms x.2.2 [] t:=by
 have hlt:ms.foldl (ZaN v c) 0<2 ^ N:=ZbO _ (fun u=>u<2 ^ N) (fun _ _ hx hu=>Zcz hm hx hu) (Nat.two_pow_pos N);unfold stV;rw[Zow hm hlt];constructor
 ·rintro⟨s,hs,hb,hp⟩;rw[ZbV] at hb;rcases hb with hb|⟨m,hmm,h1,h2,h3⟩
  ·simp at hb
  refine⟨m,hmm,h1,h2,?_⟩;have e:m.2.2=(s:Int):=by have:=(hm m hmm).2;omega
  rw[e];exact hp
 rintro⟨x,hx,h1,h2,hp⟩;have h4:=(hm x hx).2;refine⟨x.2.2.toNat,by omega,?_,?_⟩
 ·rw[ZbV];exact .inr ⟨x,hx,h1,h2,rfl⟩
 have e:((x.2.2.toNat:Nat):Int)=x.2.2:=by omega
 rw[e];exact hp
theorem ZjA {N:Nat} {ms:List (Int × Int × Int)} (hm:mvIn N ms):∀ (cs:List Nat) (V:Nat),V<2 ^ N→ZbY ms V→∀ t,(cs.foldl (fun v (c:Nat)=>stV N ms v (c:Int)) V).testBit t=true↔∃ s:Nat,s<N∧V.testBit s=true∧Pth ms s cs t
 | [],V,hV,hc,t=>by
  rw[List.foldl_nil];constructor
  ·intro h;exact⟨t,Zgo hV h,h,.here _⟩
  rintro⟨s,hs,h1,h2⟩;have:=h2.closed hc rfl (by rwa [Int.toNat_natCast])
  rwa [Int.toNat_natCast] at this
 | c::cs,V,hV,hc,t=>by
  rw[List.foldl_cons,ZjA hm cs _ (ZmZ hm V c) (Zcy hm _)];constructor
  ·rintro⟨s,hs,h1,h2⟩;rw[Zm1 hm] at h1;obtain⟨x,hx,h3,h4,h5⟩:=h1;have h6:=(hm x hx).1;refine⟨x.1.toNat,by omega,h4,?_⟩;have e:((x.1.toNat:Nat):Int)=x.1:=by omega
   rw[e];refine .step (t:=x.2.2) ?_ (h5.append h2);rw[← h3];exact hx
  rintro⟨s,hs,h1,h2⟩;obtain⟨m,h3,h4,h5,h6⟩:=h2.split rfl;have h7:=(hm m h3).2;refine⟨m.2.2.toNat,by omega,?_,?_⟩
  ·rw[Zm1 hm];have:=h5.closed hc rfl (by rwa [Int.toNat_natCast]);refine⟨m,h3,h4,this,?_⟩;have e:((m.2.2.toNat:Nat):Int)=m.2.2:=by omega
   rw[e];exact .here _
  have e:((m.2.2.toNat:Nat):Int)=m.2.2:=by omega
  rw[e];exact h6
def accP (n:NfaD) (w:List Nat):Prop:=∃ f∈n.firsts,∃ e∈n.ends,Pth n.moves f w e
theorem Zjz {N:Nat} {n:NfaD}:∀ (w:List Nat) (v:Nat),w.foldl (nxSM N n) (((v:Nat):Int),0)=(((w.foldl (fun v (c:Nat)=>stV N n.moves v (c:Int)) v:Nat):Int),0)
 | [],_=>rfl
 | c::w,v=>by rw[List.foldl_cons,List.foldl_cons,← Zjz w];rfl
theorem Zlu {N K:Nat} {n:NfaD} {D:DfaD} (hm:mvIn N n.moves) (hf:inN N n.firsts) (he:inN N n.ends) (h:detM N K n=some D) {w:List Nat} (hw:isW w):accD D w=true↔accP n w:=by
 unfold detM at h
 split at h
 ·rename_i h2;simp only[w_9] at h;subst h;unfold metSM at h2 ⊢;rw[ZeO h2 hw,Zjz];show(n.ends.any fun s=>(w.foldl (fun v (c:Nat)=>stV N n.moves v (c:Int)) (clV N n.moves (setV n.firsts))).testBit s.toNat)=true↔_;have hlt:clV N n.moves (setV n.firsts)<2 ^ N:=Zdk hm (Zc8 hf) N;have hrun:=ZjA hm w _ hlt (Zcy hm (setV n.firsts));rw[List.any_eq_true];constructor
  ·rintro⟨e,hee,hb⟩;obtain⟨s,hs,h1,h2⟩:=(hrun _).1 hb;rw[Zow hm (Zc8 hf)] at h1;obtain⟨r,hr,h3,h4⟩:=h1;rw[ZhY,List.any_eq_true] at h3;obtain⟨f,hff,h5⟩:=h3;have h5:=of_decide_eq_true h5;have h6:=hf f hff;have h7:=he e hee;refine⟨f,hff,e,hee,?_⟩;have e1:(r:Int)=f:=by omega
   have e2:((e.toNat:Nat):Int)=e:=by omega
   rw[e1] at h4;rw[e2] at h2;exact h4.append h2
  rintro⟨f,hff,e,hee,hp⟩;have h6:=hf f hff;have h7:=he e hee;refine⟨e,hee,(hrun _).2 ⟨f.toNat,by omega,?_,?_⟩⟩
  ·exact ZgQ N n.moves _ _ (ZkX hff)
  have e1:((f.toNat:Nat):Int)=f:=by omega
  have e2:((e.toNat:Nat):Int)=e:=by omega
  rw[e1,e2];exact hp
 cases h
theorem Pth.starred {p:NfaD} {a:Nat} (ha:p.states=(a:Int)) (hpm:mvIn a p.moves) (hpf:inN a p.firsts) (hpe:inN a p.ends) {s t:Int} {x:List Nat} (h:Pth (ZcG p).moves s x t) (ht:t=p.states) :
  (s=p.states→StarL (accP p) x)∧(s<p.states→∃ u v,x=u++v∧(∃ e∈p.ends,Pth p.moves s u e)∧StarL (accP p) v):=by
 have hmem:∀ m∈(ZcG p).moves,m∈p.moves∨(∃ f∈p.firsts,m=(p.states,-1,f))∨∃ e∈p.ends,m=(e,-1,p.states):=fun m hm=>by
  simp only[ZcG,List.mem_append,List.mem_map] at hm;rcases hm with(hm|⟨f,hf,rfl⟩)|⟨e,he,rfl⟩
  ·exact .inl hm
  ·exact .inr (.inl ⟨f,hf,rfl⟩)
  exact .inr (.inr ⟨e,he,rfl⟩)
 induction h with
 | here s=>exact⟨fun _ => .nil,fun h=>by omega⟩
 | @eps s' t' u w hm _ ih =>
  obtain⟨i1,i2⟩:=ih ht;rcases hmem _ hm with hm|⟨f,hf,e⟩|⟨e,he,e'⟩
  ·have h1:=hpm _ hm;simp only at h1;refine⟨fun h=>by omega,fun _ => ?_⟩;obtain⟨x,y,rfl,⟨e,he,h2⟩,h3⟩:=i2 (by omega);exact⟨x,y,rfl,⟨e,he,.eps hm h2⟩,h3⟩
  ·simp only[Prod.mk.injEq] at e;obtain⟨rfl,-,rfl⟩:=e;have h1:=hpf _ hf;refine⟨fun _ => ?_,fun h=>by omega⟩;obtain⟨x,y,rfl,⟨e,he,h2⟩,h3⟩:=i2 (by omega);exact .cons ⟨_,hf,e,he,h2⟩ h3
  simp only[Prod.mk.injEq] at e';obtain⟨rfl,-,rfl⟩:=e';have h1:=hpe _ he;exact⟨fun h=>by omega,fun _=>⟨[],w,rfl,⟨_,he,.here _⟩,i1 rfl⟩⟩
 | @step s' t' u c w hm _ ih =>
  obtain⟨i1,i2⟩:=ih ht;rcases hmem _ hm with hm|⟨f,hf,e⟩|⟨e,he,e'⟩
  ·have h1:=hpm _ hm;simp only at h1;refine⟨fun h=>by omega,fun _ => ?_⟩;obtain⟨x,y,rfl,⟨e,he,h2⟩,h3⟩:=i2 (by omega);exact⟨c::x,y,rfl,⟨e,he,.step hm h2⟩,h3⟩
  ·simp only[Prod.mk.injEq] at e;omega
  simp only[Prod.mk.injEq] at e';omega
theorem ZmQ {p:NfaD} {a:Nat} (ha:p.states=(a:Int)) (hpm:mvIn a p.moves) (hpf:inN a p.firsts) (hpe:inN a p.ends) (x:List Nat):accP (ZcG p) x↔StarL (accP p) x:=by
 constructor
 ·rintro⟨f,hf,e,he,h⟩;simp only[ZcG,List.mem_singleton] at hf he;subst hf he;exact(h.starred ha hpm hpf hpe rfl).1 rfl
 rintro⟨ws,rfl,hw⟩;refine⟨p.states,by simp[ZcG],p.states,by simp[ZcG],?_⟩
 induction ws with
 | nil=>exact .here _
 | cons u ws ih =>
  rw[List.flatten_cons];refine Pth.append ?_ (ih fun x hx=>hw x (List.mem_cons_of_mem _ hx));obtain⟨f,hf,e,he,h⟩:=hw u (by simp);have h1:Pth (ZcG p).moves f u e:=h.mono fun m hm=>by simp[ZcG,hm]
  have h2:Pth (ZcG p).moves p.states [] f:=.eps (by simp[ZcG,hf]) (.here _);have h3:Pth (ZcG p).moves e [] p.states:=.eps (by simp only[ZcG,List.mem_append,List.mem_map];exact .inr ⟨e,he,rfl⟩) (.here _);have h4:=(h2.append h1).append h3
  rwa [List.nil_append,List.append_nil] at h4
theorem ZnR {p q:NfaD} {a b:Nat} (ha:p.states=(a:Int)) (hpm:mvIn a p.moves) (hqm:mvIn b q.moves) (hpf:inN a p.firsts) (hpe:inN a p.ends) (hqf:inN b q.firsts) (hqe:inN b q.ends) (x:List Nat):accP (Zdz p q) x↔∃ u v,x=u++v∧accP p u∧accP q v:=by
 constructor
 ·rintro⟨f,hf,e,he,hw⟩;obtain⟨y,hy,rfl⟩:=List.mem_map.1 (show e∈q.ends.map (·+p.states) from he);have h1:=hpf f hf;have h2:=hqe y hy;obtain⟨k,hk,g,hg,z,hz,h3,h4⟩:=(hw.cross ha hpm hqm hpe hqf (by omega)).1 (by omega);rw[show y+p.states-p.states=y by omega] at h4;exact⟨x.take k,x.drop k,(List.take_append_drop k x).symm,⟨f,hf,g,hg,h3⟩,⟨z,hz,y,hy,h4⟩⟩
 rintro⟨u,v,rfl,⟨f,hf,e,he,h3⟩,⟨g,hg,d,hd,h4⟩⟩;refine⟨f,hf,d+p.states,List.mem_map.2 ⟨d,hd,rfl⟩,?_⟩;have h5:Pth (Zdz p q).moves f u e:=h3.mono fun m hm=>by simp only[Zdz,List.mem_append];exact .inl (.inl hm)
 have h6:Pth (Zdz p q).moves (g+p.states) v (d+p.states):=(h4.up p.states).mono fun m hm=>by simp only[Zdz,List.mem_append];exact .inl (.inr hm)
 have h7:Pth (Zdz p q).moves e [] (g+p.states):=.eps (by simp only[Zdz,List.mem_append,List.mem_flatMap,List.mem_map];exact .inr ⟨e,he,g+p.states,List.mem_map.2 ⟨g,hg,rfl⟩,rfl⟩) (.here _);have h8:=(h5.append h7).append h6
 rwa [List.append_nil] at h8
theorem ZcX {d:DfaD} (hd:Zae d.next d.ends=true) {w:List Nat} (hw:isW w):accP (ZaF d) w↔accD d w=true:=by rw[← Znu hd hw,ZpQ (Zem hd)];rfl
theorem Zdw {d:DfaD} (hd:Zae d.next d.ends=true):inN d.next.length (ZaF d).firsts:=fun s hs=>by have hl:=Zad hd;have hs:s∈[(0:Int)]:=hs;simp only[List.mem_singleton] at hs;omega
theorem Ze3 (d:DfaD):inN d.next.length (ZaF d).ends:=fun s hs=>Zfo d _ s hs
theorem ZfN {u v:List Nat} (h:isW (u++v)):isW u:=fun c hc=>h c (by simp[hc])
theorem Zev {u v:List Nat} (h:isW (u++v)):isW v:=fun c hc=>h c (by simp[hc])
theorem Zlj {ws:List (List Nat)} (h:isW ws.flatten):∀ u∈ws,isW u:=fun u hu c hc=>h c (List.mem_flatten.2 ⟨u,hu,hc⟩)
theorem StarL.congr {L M:List Nat→Prop} (h:∀ u,isW u→(L u↔M u)) {w:List Nat} (hw:isW w):StarL L w↔StarL M w:=by
 constructor
 ·rintro⟨ws,rfl,hs⟩;exact⟨ws,rfl,fun u hu=>(h u (Zlj hw u hu)).1 (hs u hu)⟩
 rintro⟨ws,rfl,hs⟩;exact⟨ws,rfl,fun u hu=>(h u (Zlj hw u hu)).2 (hs u hu)⟩
theorem Zb5 {d:DfaD} (hd:Zae d.next d.ends=true) {w:List Nat} (hw:isW w):accD (Zak d) w=accD d w:=by rw[Zb4 (Zaz hd)];exact Zkq (Zaz hd) hw
theorem Zk6 {K:Nat} {f:Bool→Bool→Bool} {a b d:DfaD} (h:ZbA K f a b=some d) {w:List Nat} (hw:isW w):accD d w=f (accD a w) (accD b w):=by
 unfold ZbA at h
 split at h
 ·rename_i h2;simp only[w_9] at h;subst h;unfold metP at h2 ⊢;rw[ZeO h2 hw]
  have key:∀ (w:List Nat) (p:Int × Int),w.foldl (ZaA a b) p=(runD a p.1 w,runD b p.2 w):=fun w=>by
   induction w with
   | nil=>intro p;rfl
   | cons c w ih =>intro p;rw[List.foldl_cons,ih];rfl
  rw[key];rfl
 cases h
theorem Zo9 (w:List Nat) (hw:isW w):accD Zel w=false:=by
 have key:∀ w,isW w→runD Zel 0 w=0:=fun w=>by
  induction w with
  | nil=>intro _;rfl
  | cons c w ih =>
   intro h;obtain⟨h1,h2⟩:=Zb2 h;rw[ZaL]
   have:dnx Zel 0 c=0:=by
    have:c=0∨c=1∨c=2:=by omega
    rcases this with rfl|rfl|rfl<;>rfl
   rw[this];exact ih h2
 unfold accD;rw[key w hw];rfl
theorem Zql (w:List Nat) (hw:isW w):accD oneD w=true↔w=[]:=by
 have key:∀ w,isW w→runD oneD 1 w=1:=fun w=>by
  induction w with
  | nil=>intro _;rfl
  | cons c w ih =>
   intro h;obtain⟨h1,h2⟩:=Zb2 h;rw[ZaL]
   have:dnx oneD 1 c=1:=by
    have:c=0∨c=1∨c=2:=by omega
    rcases this with rfl|rfl|rfl<;>rfl
   rw[this];exact ih h2
 cases w with
 | nil=>exact⟨fun _=>rfl,fun _=>rfl⟩
 | cons c w =>
  obtain⟨h1,h2⟩:=Zb2 hw
  have e:dnx oneD 0 c=1:=by
   have:c=0∨c=1∨c=2:=by omega
   rcases this with rfl|rfl|rfl<;>rfl
  have:accD oneD (c::w)=false:=by unfold accD;rw[ZaL,e,key w h2];rfl
  rw[this];simp
theorem Zqt (a:Fin 3) (w:List Nat) (hw:isW w):accD (ltrD a) w=true↔w=[a.val]:=by
 have ha:a=0∨a=1∨a=2:=by omega
 have k2:∀ w,isW w→runD (ltrD a) 2 w=2:=fun w=>by
  induction w with
  | nil=>intro _;rfl
  | cons c w ih =>
   intro h;obtain⟨h1,h2⟩:=Zb2 h;rw[ZaL]
   have:dnx (ltrD a) 2 c=2:=by
    have:c=0∨c=1∨c=2:=by omega
    rcases this with rfl|rfl|rfl<;>rcases ha with rfl|rfl|rfl<;>rfl
   rw[this];exact ih h2
 have e2:den (ltrD a) 2=false:=by rcases ha with rfl|rfl|rfl<;>rfl
 have e1:den (ltrD a) 1=true:=by rcases ha with rfl|rfl|rfl<;>rfl
 have e0:den (ltrD a) 0=false:=by rcases ha with rfl|rfl|rfl<;>rfl
 cases w with
 | nil =>have:accD (ltrD a) []=false:=e0;rw[this];simp
 | cons c w =>
  obtain⟨h1,h2⟩:=Zb2 hw
  have e:dnx (ltrD a) 0 c=if c=a.val then 1 else 2:=by
   have:c=0∨c=1∨c=2:=by omega
   rcases this with rfl|rfl|rfl<;>rcases ha with rfl|rfl|rfl<;>rfl
  have hr:accD (ltrD a) (c::w)=den (ltrD a) (runD (ltrD a) (if c=a.val then 1 else 2) w):=by unfold accD;rw[ZaL,e]
  rw[hr];by_cases hc:c=a.val
  ·rw[if_pos hc];cases w with
   | nil =>rw[hc];exact⟨fun _=>rfl,fun _=>e1⟩
   | cons b w =>
    obtain⟨h3,h4⟩:=Zb2 h2
    have e3:dnx (ltrD a) 1 b=2:=by
     have:b=0∨b=1∨b=2:=by omega
     rcases this with rfl|rfl|rfl<;>rcases ha with rfl|rfl|rfl<;>rfl
    rw[ZaL,e3,k2 w h4,e2];simp
  rw[if_neg hc,k2 w h2,e2];simp[hc]
theorem Zon {K:Nat} (hK:K=40):∀ (t:Ex) {d:DfaD},Zaq K t=some d→∀ w,isW w→(accD d w=true↔memE t w):=by
 intro t
 induction t with
 | zero =>intro d h w hw;simp only[Zaq,w_9] at h;rw[← h,Zb5 Zek hw,Zo9 w hw];simp[memE]
 | one =>intro d h w hw;simp only[Zaq,w_9] at h;rw[← h,Zb5 Zgh hw,Zql w hw];rfl
 | ltr c =>intro d h w hw;simp only[Zaq,w_9] at h;rw[← h,Zb5 (Zd7 c) hw,Zqt c w hw];rfl
 | join a b iha ihb =>
  intro d h w hw;simp only[Zaq,Option.bind_eq_some_iff,Option.map_eq_some_iff] at h;obtain⟨x,hx,y,hy,z,hz,rfl⟩:=h;have hxo:=Zbk hK a hx;have hyo:=Zbk hK b hy;have hxl:=Zad hxo;have hyl:=Zad hyo;rw[Zb5 (ZcS hK hz) hw];have h1:mvIn 81 (Zc6 x y).moves:=Zgl (ZhP hxo hyo) (by omega);have h2:inN 81 (Zc6 x y).firsts:=fun s hs=>by have:=Zdo (b:=y) hxo s hs;omega
  have h3:inN 81 (Zc6 x y).ends:=fun s hs=>by have:=ZeP s hs;omega
  rw[Zlu h1 h2 h3 hz hw,← Zgy,
   ZnR (a:=x.next.length) (b:=y.next.length) rfl (Zfh hxo _ (Nat.le_refl _)) (Zfh hyo _ (Nat.le_refl _)) (Zdw hxo) (Ze3 x) (Zdw hyo) (Ze3 y)]
  constructor
  ·rintro⟨u,v,rfl,p,q⟩;exact⟨u,v,rfl,(iha hx u (ZfN hw)).1 ((ZcX hxo (ZfN hw)).1 p),(ihb hy v (Zev hw)).1 ((ZcX hyo (Zev hw)).1 q)⟩
  rintro⟨u,v,rfl,p,q⟩;exact⟨u,v,rfl,(ZcX hxo (ZfN hw)).2 ((iha hx u (ZfN hw)).2 p),(ZcX hyo (Zev hw)).2 ((ihb hy v (Zev hw)).2 q)⟩
 | alt a b iha ihb =>intro d h w hw;simp only[Zaq,Option.bind_eq_some_iff,Option.map_eq_some_iff] at h;obtain⟨x,hx,y,hy,z,hz,rfl⟩:=h;rw[Zb5 (Zbt hK hz) hw,Zk6 hz hw,Bool.or_eq_true,iha hx w hw,ihb hy w hw];rfl
 | both a b iha ihb =>intro d h w hw;simp only[Zaq,Option.bind_eq_some_iff,Option.map_eq_some_iff] at h;obtain⟨x,hx,y,hy,z,hz,rfl⟩:=h;rw[Zb5 (Zbt hK hz) hw,Zk6 hz hw,Bool.and_eq_true,iha hx w hw,ihb hy w hw];rfl
 | neg a iha =>intro d h w hw;simp only[Zaq,Option.map_eq_some_iff] at h;obtain⟨x,hx,rfl⟩:=h;have hxo:=Zbk hK a hx;rw[Zb5 (Zgk hxo) hw,Znv,ZqC hxo hw];show _↔¬ memE a w;rw[← iha hx w hw];cases accD x w<;>simp[xb]
 | star a iha =>
  intro d h w hw;simp only[Zaq,Option.bind_eq_some_iff,Option.map_eq_some_iff] at h;obtain⟨x,hx,z,hz,rfl⟩:=h;have hxo:=Zbk hK a hx;have hxl:=Zad hxo;rw[Zb5 (ZcS hK hz) hw];have h1:mvIn 81 (Zdn x).moves:=Zgl (ZhO hxo) (by omega);have h2:inN 81 (Zdn x).firsts:=fun s hs=>by have:=ZcT (a:=x) s hs;omega
  have h3:inN 81 (Zdn x).ends:=fun s hs=>by have:=ZcT (a:=x) s hs;omega
  rw[Zlu h1 h2 h3 hz hw,← Zf2,
   ZmQ (a:=x.next.length) rfl (Zfh hxo _ (Nat.le_refl _)) (Zdw hxo) (Ze3 x)]
  exact StarL.congr (fun u hu=>by rw[ZcX hxo hu,iha hx u hu]) hw
theorem ZpP {l:List Nat} (hw:wdOk l=true) (t:Ex):accX l t=true↔memE t (lets l):=by
 have h8:(lsT l).length≤8:=by rw[ZnH];exact(Zco hw).1
 have:=ZoW h8 t;rw[ZnH] at this;exact this
theorem Zoo {K:Nat} (hK:K=40) {es:List (Int × Int)} {D:DfaD} (h:ZkP K es (some D)):Zae D.next D.ends=true∧minQ D=D:=by
 have hok:=Zlx hK h;refine⟨hok,?_⟩;obtain⟨-,t,-,hc⟩|⟨-,h⟩:=h
 ·unfold minQ;rw[if_pos hok];exact ZfR hK t hc
 cases h
theorem ZjI {K:Nat} (hK:K=40) {es:List (Int × Int)} {o:Option DfaD} (h:ZkP K es o) {D:DfaD} {fb:Bool} (hD:o.getD Zbg=D) (hfb:o.isSome=fb):(fb=false→D.next.length=0)∧(fb=true→o=some D∧Zae D.next D.ends=true∧minQ D=D):=by
 cases o with
 | none=>subst hD;exact⟨fun _=>rfl,fun e=>(by rw[e] at hfb;cases hfb)⟩
 | some d =>obtain rfl:d=D:=hD;exact⟨fun e=>(by rw[e] at hfb;cases hfb),fun _=>⟨rfl,Zoo hK h⟩⟩
def wxK (l:List Nat):Nat→List (Int × Int)
 | 0=>[]
 | k+1=>wxK l k++[(3,((l.getD k 0-97:Nat):Int))]++(if k=0 then [] else [(4,0)])
def ZbS (l:List Nat):List (Int × Int):=if wdOk l=true then(if l.length=0 then [(2,0)] else wxK l l.length) else []
theorem ZjT (l:List Nat):∀ k,(wxK l k).length≤2*k
 | 0=>Nat.le_refl _
 | k+1=>by
  have:=ZjT l k;unfold wxK;rw[List.length_append,List.length_append,List.length_singleton]
  split<;>simp<;>omega
def Zp7 (d:DfaD) (s:Nat):Prop:=∃ w,isW w∧den d (runD d (s:Int) w)=true
theorem Zi7 {α:Type} [DecidableEq α]:∀ {l:List α},¬ l.Nodup→∃ (i j:Nat) (hj:j<l.length) (hi:i<j),l[i]'(Nat.lt_trans hi hj)=l[j]
 | [],h=>absurd List.nodup_nil h
 | x::l,h=>by
  rw[List.nodup_cons] at h;by_cases hx:x∈l
  ·obtain⟨j,hj,e⟩:=List.getElem_of_mem hx;exact⟨0,j+1,by simp only[List.length_cons];omega,by omega,by simpa using e.symm⟩
  obtain⟨i,j,hj,hi,e⟩:=Zi7 (l:=l) fun hn=>h ⟨hx,hn⟩
  exact⟨i+1,j+1,by simp only[List.length_cons];omega,by omega,by simpa using e⟩
theorem Zhq {d:DfaD} (hd:fine d) {s:Nat} (hs:s<d.next.length):∀ (n:Nat) (w:List Nat),w.length≤n→isW w→den d (runD d (s:Int) w)=true→∃ w',w'.length<d.next.length∧isW w'∧den d (runD d (s:Int) w')=true
 | n,w,hn,hw,he=>by
  by_cases hl:w.length<d.next.length
  ·exact⟨w,hl,hw,he⟩
  have key:∀ i,∃ t:Nat,t<d.next.length∧runD d (s:Int) (w.take i)=(t:Int):=fun i=>ZdO hd _ (Zin hw i) hs
  have hnd:¬ ((List.range (w.length+1)).map fun i=>runD d (s:Int) (w.take i)).Nodup:=fun h=>by
   have:=ZdQ (m:=(List.range d.next.length).map fun (i:Nat)=>(i:Int)) h fun x hx=>by obtain⟨i,-,rfl⟩:=List.mem_map.1 hx;obtain⟨t,ht,e⟩:=key i;rw[e];exact List.mem_map.2 ⟨t,List.mem_range.2 ht,rfl⟩
   simp only[List.length_map,List.length_range] at this;omega
  obtain⟨i,j,hj,hij,e⟩:=Zi7 hnd;simp only[List.length_map,List.length_range] at hj;simp only[List.getElem_map,List.getElem_range] at e;have hr:runD d (s:Int) (w.take i++w.drop j)=runD d (s:Int) w:=by rw[Zk2,e,← Zk2,List.take_append_drop]
  have hlen:(w.take i++w.drop j).length<w.length:=by rw[List.length_append,List.length_take,List.length_drop];omega
  cases n with
  | zero=>omega
  | succ n=>exact Zhq hd hs n (w.take i++w.drop j) (by omega) (ZdS (Zin hw i) (Zio hw j)) (by rw[hr];exact he)
structure LdI (d:DfaD) (F:List Bool) (r s0 c0:Nat):Prop where
 len:F.length=d.next.length
 sound:∀ s,s<d.next.length→F.getD s false=true→Zp7 d s
 old:∀ s w,s<d.next.length→isW w→w.length≤r→den d (runD d (s:Int) w)=true→F.getD s false=true
 done:∀ s w,s<s0→s<d.next.length→isW w→w.length≤r+1→den d (runD d (s:Int) w)=true→F.getD s false=true
 now:∀ c w,c<c0→c<3→isW w→w.length≤r→den d (runD d (s0:Int) (c::w))=true→F.getD s0 false=true
theorem LdI.start {d:DfaD} (hd:Zae d.next d.ends=true):LdI d d.ends 0 0 0:=by have hl:=Zad hd;refine⟨hl.2.2,fun s hs h=>⟨[],ZkB,by rw[ZdN,Za6];exact h⟩,fun s w hs hw hl h => ?_,fun s w hs=>absurd hs (by omega),fun c w hc=>absurd hc (by omega)⟩;have:w=[]:=List.length_eq_zero_iff.1 (by omega);subst this;rw[ZdN,Za6] at h;exact h
theorem LdI.round {d:DfaD} {F:List Bool} {r:Nat} (h:LdI d F r d.next.length 0):LdI d F (r+1) 0 0 :=
 ⟨h.len,h.sound,fun s w hs hw hl he=>h.done s w hs hs hw hl he,fun s w hs=>absurd hs (by omega),fun c w hc=>absurd hc (by omega)⟩
structure LdE (d:DfaD) (F:List Bool):Prop where
 len:F.length=d.next.length
 iff:∀ s,s<d.next.length→(F.getD s false=true↔Zp7 d s)
theorem LdI.all {d:DfaD} (hd:Zae d.next d.ends=true) {F:List Bool} (h:LdI d F d.next.length 0 0):LdE d F :=
 ⟨h.len,fun s hs=>⟨h.sound s hs,fun ⟨w,hw,he⟩=>by obtain⟨w',h1,h2,h3⟩:=Zhq (Zaz hd) hs w.length w (Nat.le_refl _) hw he;exact h.old s w' hs h2 (by omega) h3⟩⟩
def wsP (ls:List (List Nat)):Nat→List (Int × Int)
 | 0=>[(1,0)]
 | k+1=>if k=0 then ZbS (ls.getD k []) else wsP ls k++ZbS (ls.getD k [])++[(5,0)]
def wsOk (ls:List (List Nat)):Bool:=(List.range ls.length).all (fun k=>wdOk (ls.getD k [])&&decide ((wsP ls (k+1)).length≤60))
theorem ZmF {ls:List (List Nat)} (h:wsOk ls=true) {k:Nat} (hk:k<ls.length):wdOk (ls.getD k [])=true∧(wsP ls (k+1)).length≤60:=by
 have:=List.all_eq_true.1 h k (List.mem_range.2 hk)
 rwa [Bool.and_eq_true,decide_eq_true_eq] at this
theorem ZkQ {ls:List (List Nat)} {k:Nat} (hk:k<ls.length) (h:¬ (wdOk (ls.getD k [])=true∧(wsP ls (k+1)).length≤60)):wsOk ls=false:=by
 cases hb:wsOk ls with
 | false=>rfl
 | true=>exact absurd (ZmF hb hk) h
theorem ZlM {l:List Nat} (h:wdOk l=false):ZbS l=[]:=by unfold ZbS;rw[if_neg (by rw[h];decide)]
theorem ZlL {l:List Nat} (h:wdOk l=true):1≤(ZbS l).length∧(ZbS l).length≤16:=by
 have h8:=(Zco h).1;unfold ZbS;rw[if_pos h]
 split
 ·decide
 next h0 =>
 refine⟨?_,by have:=ZjT l l.length;omega⟩;obtain⟨k,hk⟩:∃ k,l.length=k+1:=⟨l.length-1,by omega⟩;rw[hk];unfold wxK;rw[List.length_append,List.length_append,List.length_singleton];omega
theorem Zqa (ls:List (List Nat)):wsP ls 1=ZbS (ls.getD 0 []):=by unfold wsP;rw[if_pos rfl]
theorem ZoO {ls:List (List Nat)} {k:Nat} (h:0<k):wsP ls (k+1)=wsP ls k++ZbS (ls.getD k [])++[(5,0)]:=by rw[wsP,if_neg (by omega)]
def TbH (X:Ent) (v:Value) (N:Nat) (T:Nat→Nat→Bool):Prop:=∃ (B c:Nat) (R:Nat→Nat),v = .slice (some ⟨B,0,none⟩) N c∧∀ u,X.holds u→(∀ i,i<N→u.cell? ⟨B,i,none⟩=some (.slice (some ⟨R i,0,none⟩) N N))∧∀ i j,i<N→j<N→u.cell? ⟨R i,j,none⟩=some (.bool (T i j))
theorem TbH.congr {X:Ent} {v:Value} {N:Nat} {T U:Nat→Nat→Bool} (h:TbH X v N T) (hc:∀ i j,i<N→j<N→T i j=U i j):TbH X v N U:=by obtain⟨B,c,R,hv,h1⟩:=h;exact⟨B,c,R,hv,fun u hu=>⟨(h1 u hu).1,fun i j hi hj=>by rw[(h1 u hu).2 i j hi hj,hc i j hi hj]⟩⟩
theorem St.newRow0 {w0 w:World} {L:List Ent} (h:St w0 w L) (T size:Nat):St w0 (w.alloc (.cells #[] T)) (L++[Ent.row T size (.slice (some ⟨w.heap.size,0,none⟩) 0 0) 0 []]):=by have h1:=(h.alloc w.heap.size rfl #[] T).boxrow (b:=w.heap.size) (T:=T) L.length 0 size [] (by simp) (by simp) (by unfold maxLen;omega);simpa using h1
theorem ZdP {x y:Int}:∀ u∈[Value.int .i64 x,Value.int .i64 y],u.oneCell'=true:=by intro u hu;simp at hu;rcases hu with rfl|rfl<;>rfl
theorem Tryz.infoPart2:(Tryz.prog.info? 55).map (fun i=>(i.zero,i.size,i.bytes))=some (some (.agg #[.int .i64 0,.int .i64 0]),2,16):=by kernel_rfl
theorem Zft (l:List Nat) (w:World) (ht:isT l) (hl:l.length≤2000000):Calls Tryz.prog 119 #[.string (txB l)] w fun e w'=>RPo (ZbS l) w e w':=by
 obtain⟨y,hy⟩:=eJ (wdOk l);have Hc:=qh (fun u=>ZeT l u ht hl y hy);obtain⟨i0,hi,hz0,hz1,hz2⟩:=info_parts Tryz.infoPart2;replace hi:=qh hi;have Hhz0:=qh hz0;clear hz0;have Hhz1:=qh hz1;clear hz1;have Hhz2:=qh hz2;clear hz2;have HS0:=qh ((St.start w).newRow0 55 2);cases y with
 | false =>
  have he:ZbS l=[]:=by unfold ZbS;rw[hy];rfl
  rw[he];clear hy ht hl
  go_enter Tryz.func119, Tryz.ntmps119
  go_wp2_with (go_at_call 32;refine(Hc.out _).mono ?_;rintro e w' ⟨rfl,rfl⟩);go_ret;exact⟨_,0,rfl,HS0.out⟩
 | true =>
  obtain⟨hn8,h97⟩:=Zco hy;have hes:ZbS l=if l.length=0 then [(2,0)] else wxK l l.length:=by unfold ZbS;rw[if_pos hy]
  obtain⟨Q,hQ⟩:=eJ (ZbS l);rw[hQ] at hes ⊢;obtain⟨n,hn⟩:=eJ (l.length);have hsz:=Zcj l;have hemp:=ZmI l;rw[hn] at hsz hn8 hes;have HQ:=qh hes;have Ht:=qh ht;have H97:=qh h97;have Hemp:=qh hemp;have Hhn:=qh hn;clear hn;clear hy ht hl hes h97 hemp hQ
  go_enter Tryz.func119, Tryz.ntmps119
  go_wp2_with (go_at_call 32;refine(Hc.out _).mono ?_;rintro e w' ⟨rfl,rfl⟩)
  go_loopw [3,4] (fun ev iv wr=>∃ (k c:Nat) (a:Option Addr),iv = .int .i64 (k:Int)∧ev = .slice a (wxK l k).length c∧k≤n∧St w wr [Ent.row 55 2 (.slice a (wxK l k).length c) (wxK l k).length ((wxK l k).flatMap Zab)]) (fun _ iv _=>n-(intOf iv).toNat)
  case atStart=>exact⟨0,0,_,rfl,rfl,Nat.zero_le _,HS0.out⟩
  case round =>
   obtain⟨k,c,a,rfl,rfl,hkn,hS⟩:=hrel;obtain⟨wq,hwq⟩:∃ wq:World,wq=wr:=⟨_,rfl⟩;subst hwq;have hwi:IntKind.i64.wrap ((k:Int)+1)=(k:Int)+1:=IntWalk.i64_in _ (by omega);have hlen:=ZjT l k;obtain⟨E,hE⟩:=eI (wxK l k);rw[← hE] at hS hlen ⊢;by_cases hlt:k<n
   ·have hlI:(k:Int)<(n:Int):=by omega
    have hil:k<l.length:=by rw[Hhn.out];exact hlt
    have hrun:=Zec hil Ht.out;obtain⟨h97a,h97b⟩:=H97.out k hil;obtain⟨ck,hck⟩:∃ ck:Nat,ck=l.getD k 0-97:=⟨_,rfl⟩;have hc2:((l.getD k 0:Nat):Int)=97+(ck:Int):=by omega
    rw[hc2] at hrun
    have hw8:IntKind.u8.wrap (97+(ck:Int)-97)=(ck:Int):=by
     have:97+(ck:Int)-97=(ck:Int):=by omega
     rw[this];exact IntWalk.u8_in _ (by omega)
    have hw9:IntKind.i64.wrap (ck:Int)=(ck:Int):=IntWalk.i64_in _ (by omega);have HSa:=qh (hS.alloc wq.heap.size rfl #[.int .i64 3,.int .i64 (ck:Int)] 55);have HR:=qh (HSa.out.row 0 rfl);have hst:wxK l (k+1)=E++[(3,(ck:Int))]++(if k=0 then [] else [(4,0)]):=by rw[wxK,← hE,← hck]
    have Hhst:=qh hst;clear hst;replace hck:=qh hck;replace hE:=qh hE;clear hS hc2 h97a h97b hil;by_cases hk0:k=0
    ·have hkI:¬ (k:Int)>0:=by omega
     have hkI2:(k:Int)≤0:=by omega
     have hst0:=Hhst.out;rw[if_pos hk0,List.append_nil] at hst0;have Hhst0:=qh hst0;clear hst0;have Hhk0:=qh hk0;clear hk0;go_wp2_with (at_builtin;refine wpList_append_lies _ rfl _ _ _ rfl _ 55 i0 (.agg #[.int .i64 0,.int .i64 0]) 2 16 Tryz.underlying23 hi.out Hhz0.out Hhz1.out Hhz2.out rfl (by omega) _ E.length _ rfl HR.out ⟨wq.heap.size,0,none⟩ 1 1 [.int .i64 3,.int .i64 (ck:Int)] rfl rfl (World.news_of_block (HSa.out.box 1 rfl)) ZdP (by omega) (by unfold maxLen;omega) (by omega) HSa.out.size _ rfl ?_;intro g7 c7 w7 hown hgrow hat hlt';have HS7:=qh ((HSa.out.app 0 rfl hown hgrow hat).pick [0] (by decide));clear hown hgrow hat hlt';have HSb:=qh (HS7.out.alloc w7.heap.size rfl #[.int .i64 4,.int .i64 0] 55);have HR2:=qh (HSb.out.row 0 rfl));go_roundw
     case rel =>refine⟨k+1,c7,some ⟨g7,0,none⟩,by go_num,by rw[Hhst0.out,List.length_append];rfl,by omega,?_⟩;rw[Hhst0.out,List.length_append,List.flatMap_append];exact HS7.out
     case measure=>simp[intOf]<;>omega
    have hkI:(k:Int)>0:=by omega
    have hkI2:0<(k:Int):=by omega
    have hst0:=Hhst.out;rw[if_neg hk0] at hst0;have Hhst0:=qh hst0;clear hst0;have Hhk0:=qh hk0;clear hk0;go_wp2_with (first|(at_builtin;refine wpList_append_lies _ rfl _ _ _ rfl _ 55 i0 (.agg #[.int .i64 0,.int .i64 0]) 2 16 Tryz.underlying23 hi.out Hhz0.out Hhz1.out Hhz2.out rfl (by omega) _ E.length _ rfl HR.out ⟨wq.heap.size,0,none⟩ 1 1 [.int .i64 3,.int .i64 (ck:Int)] rfl rfl (World.news_of_block (HSa.out.box 1 rfl)) ZdP (by omega) (by unfold maxLen;omega) (by omega) HSa.out.size _ rfl ?_;intro g7 c7 w7 hown hgrow hat hlt';have HS7:=qh ((HSa.out.app 0 rfl hown hgrow hat).pick [0] (by decide));clear hown hgrow hat hlt';have HSb:=qh (HS7.out.alloc w7.heap.size rfl #[.int .i64 4,.int .i64 0] 55);have HR2:=qh (HSb.out.row 0 rfl))|(at_builtin;refine wpList_append_lies _ rfl _ _ _ rfl _ 55 i0 (.agg #[.int .i64 0,.int .i64 0]) 2 16 Tryz.underlying23 hi.out Hhz0.out Hhz1.out Hhz2.out rfl (by omega) _ (E.length+1) _ rfl HR2.out ⟨w7.heap.size,0,none⟩ 1 1 [.int .i64 4,.int .i64 0] rfl rfl (World.news_of_block (HSb.out.box 1 rfl)) ZdP (by omega) (by unfold maxLen;omega) (by omega) HSb.out.size _ rfl ?_;intro g8 c8 w8 hown hgrow hat hlt';have HS8:=qh ((HSb.out.app 0 rfl hown hgrow hat).pick [0] (by decide));clear hown hgrow hat hlt'));go_roundw
    case rel =>refine⟨k+1,c8,some ⟨g8,0,none⟩,by go_num,by rw[Hhst0.out,List.length_append,List.length_append];rfl,by omega,?_⟩;rw[Hhst0.out,List.length_append,List.length_append,List.flatMap_append,List.flatMap_append];exact HS8.out
    case measure=>simp[intOf]<;>omega
   have hlI:¬ (k:Int)<(n:Int):=by omega
   have hkn2:k=n:=by omega
   have hEn:wxK l n=E:=by rw[hE,hkn2]
   by_cases h0:n=0
   ·have he:(txB l).toList.isEmpty=true:=by
     rw[Hemp.out];cases hll:l with
     | nil=>rfl
     | cons x xs=>have:=Hhn.out;rw[hll] at this;simp at this;omega
    have hE0:E=[]:=by rw[hE,hkn2,h0];rfl
    subst hE0;have HSa:=qh (hS.alloc wq.heap.size rfl #[.int .i64 2,.int .i64 0] 55);have HR:=qh (HSa.out.row 0 rfl);replace hE:=qh hE;have Hhkn2:=qh hkn2;clear hkn2;have HhEn:=qh hEn;clear hEn;replace h0:=qh h0;clear hS;go_wp2_with (at_builtin;refine wpList_append_lies _ rfl _ _ _ rfl _ 55 i0 (.agg #[.int .i64 0,.int .i64 0]) 2 16 Tryz.underlying23 hi.out Hhz0.out Hhz1.out Hhz2.out rfl (by omega) _ ([]:List (Int × Int)).length _ rfl HR.out ⟨wq.heap.size,0,none⟩ 1 1 [.int .i64 2,.int .i64 0] rfl rfl (World.news_of_block (HSa.out.box 1 rfl)) ZdP (by omega) (by unfold maxLen;omega) (by omega) HSa.out.size _ rfl ?_;intro g7 c7 w7 hown hgrow hat hlt';have HS7:=qh ((HSa.out.app 0 rfl hown hgrow hat).pick [0] (by decide));clear hown hgrow hat hlt');go_ret;have hq:=HQ.out;rw[if_pos h0.out] at hq;rw[hq];exact⟨some ⟨g7,0,none⟩,c7,rfl,HS7.out⟩
   have he:(txB l).toList.isEmpty=false:=by
    rw[Hemp.out];cases hll:l with
    | nil=>have:=Hhn.out;rw[hll] at this;exact absurd this.symm h0
    | cons x xs=>rfl
   have HS:=qh hS;replace hE:=qh hE;have Hhkn2:=qh hkn2;clear hkn2;have HhEn:=qh hEn;clear hEn;replace h0:=qh h0;clear hS;go_wp2;go_ret;have hq:=HQ.out;rw[if_neg h0.out,HhEn.out] at hq;rw[hq];exact⟨a,c,rfl,HS.out⟩
def strC (ls:List (List Nat)):List Value:=ls.map fun l => .string (txB l)
def Txts (w:World) (v:Value) (ls:List (List Nat)):Prop:=Sl 0 w v ls.length 1 (strC ls)
def okTs (ls:List (List Nat)):Prop:=ls.length≤10∧∀ l∈ls,isT l∧l.length≤10
theorem Txts.below {w w':World} {v:Value} {ls:List (List Nat)} (h:Txts w v ls) (he:Below w.heap.size w w'):Txts w' v ls:=Sl.below h he
theorem Txts.form {w:World} {v:Value} {ls:List (List Nat)} (h:Txts w v ls):∃ a cap,v = .slice a ls.length cap∧ls.length≤cap∧cap≤9223372036854775807 ∧
  (0<ls.length→∃ b off,a=some ⟨b,off,none⟩∧b<w.heap.size∧∀ j,j<ls.length→w.cell? ⟨b,off+j,none⟩=some (.string (txB (ls.getD j [])))):=by
 obtain⟨hl,a,cap,hv,h1,h2,h3⟩:=h;refine⟨a,cap,hv,h1,h2,fun hn => ?_⟩;obtain⟨b,off,ha,hb,hlt,hc⟩:=h3 hn;refine⟨b,off,ha,hlt,fun j hj => ?_⟩;rw[hc j (by omega)];simp[strC,hj]
theorem memT {ls:List (List Nat)} {k:Nat} (hk:k<ls.length):ls.getD k []∈ls:=by rw[List.getD_eq_getElem?_getD,List.getElem?_eq_getElem hk];exact List.getElem_mem _
def wsR (ls:List (List Nat)):List (Int × Int):=if wsOk ls=true then wsP ls ls.length else []
def RWs (ls:List (List Nat)) (w:World) (e:Ending) (w':World):Prop:=∃ a c,e = .returned (.tuple #[.slice a (wsR ls).length c,.bool (wsOk ls)])∧St w w' [Ent.row 55 2 (.slice a (wsR ls).length c) (wsR ls).length ((wsR ls).flatMap Zab)]
theorem ZpX {ls:List (List Nat)} (h:wsOk ls=false) {w w':World} {a:Option Addr} {c:Nat} (hS:St w w' [Ent.row 55 2 (.slice a 0 c) 0 []]):RWs ls w (.returned (.tuple #[.slice a 0 c,.bool false])) w':=by unfold RWs wsR;rw[h];exact⟨a,c,rfl,hS⟩
theorem Zqh {ls:List (List Nat)} (h:wsOk ls=true) {E:List (Int × Int)} (hE:E=wsP ls ls.length) {w w':World} {a:Option Addr} {c:Nat} (hS:St w w' [Ent.row 55 2 (.slice a E.length c) E.length (E.flatMap Zab)]):RWs ls w (.returned (.tuple #[.slice a E.length c,.bool true])) w':=by subst hE;unfold RWs wsR;rw[h];exact⟨a,c,rfl,hS⟩
theorem Zqb {ls:List (List Nat)} (h:∀ k,k<ls.length→wdOk (ls.getD k [])=true∧(wsP ls (k+1)).length≤60):wsOk ls=true:=by unfold wsOk;rw[List.all_eq_true];intro k hk;rw[Bool.and_eq_true,decide_eq_true_eq];exact h k (List.mem_range.1 hk)
theorem ZoQ {l:List Nat} (h:wdOk l=true):1≤(ZbS l).length∧(ZbS l).length≤16:=ZlL h
theorem ZeS (ls:List (List Nat)) (v:Value) (w:World) (hok:okTs ls) (h1:Txts w v ls) :
  Calls Tryz.prog 82 #[v] w fun e w'=>RWs ls w e w':=by
 obtain⟨a1,c1,rfl,hc1,hm1,hr1⟩:=h1.form;have hn10:=hok.1;obtain⟨i0,hi,hz0,hz1,hz2⟩:=info_parts Tryz.infoPart2;obtain⟨n,hn⟩:=eJ (ls.length);rw[hn] at hc1 hr1 hn10;rw[hn];have HS0:=qh (((St.start w).alloc w.heap.size rfl #[.int .i64 1,.int .i64 0] 55).boxrow 0 1 2 [.int .i64 1,.int .i64 0] rfl rfl (by unfold maxLen;omega));have Hr1:=qh hr1;replace hi:=qh hi;have Hhz0:=qh hz0;clear hz0;have Hhz1:=qh hz1;clear hz1;have Hhz2:=qh hz2;clear hz2;have Hhn:=qh hn;clear hn;have Hhok:=qh hok;clear hok;clear hr1 h1
 go_enter Tryz.func82, Tryz.ntmps82
 go_wp2_with fail
 go_loopw [4,5] (fun ev iv wr=>∃ (k c:Nat) (a:Option Addr) (E:List (Int × Int)),iv = .int .i64 (k:Int)∧ev = .slice a E.length c∧E=wsP ls k∧E.length≤60∧k≤n∧(∀ j,j<k→wdOk (ls.getD j [])=true∧(wsP ls (j+1)).length≤60)∧St w wr [Ent.row 55 2 (.slice a E.length c) E.length (E.flatMap Zab)]) (fun _ iv _=>n-(intOf iv).toNat)
 case atStart=>exact⟨0,1,_,[(1,0)],rfl,rfl,rfl,by decide,by omega,fun j hj=>by omega,HS0.out⟩
 case round =>
  obtain⟨k,c,a,E,rfl,rfl,hE,hEl,hk,hall,hS⟩:=hrel;have HS1:=qh hS;have Hall:=qh hall;clear hS hall HS0;by_cases hkn:k<n
  ·have hkI:(k:Int)<(n:Int):=by omega
   have hwk:IntKind.i64.wrap ((k:Int)+1)=(k:Int)+1:=IntWalk.i64_in _ (by omega);obtain⟨b1,o1,rfl,hbl1,hcs1⟩:=Hr1.out (by omega);have q0:=(bcell HS1.out.bel b1 _ hbl1).trans (hcs1 k hkn);have hxt:=Hhok.out.2 _ (memT (show k<ls.length by have:=Hhn.out;omega));obtain⟨lx,hlx⟩:=eI (ls.getD k []);rw[← hlx] at q0 hxt;have hx:=fun u=>Zft lx u hxt.1 (by omega)
   obtain⟨F,hF⟩:=eJ (ZbS lx);rw[hF] at hx;have Hx:=qh hx;replace hE:=qh hE;have HhF:=qh hF;clear hF;have Hhlx:=qh hlx;clear hlx;have Hhxt:=qh hxt;clear hxt;clear hx hcs1;cases hwx:wdOk lx with
   | false =>
    have hF0:=ZlM hwx;rw[HhF.out] at hF0;subst hF0;have hno:wsOk ls=false:=ZkQ (k:=k) (by have:=Hhn.out;omega) fun h=>by have:=h.1;rw[← Hhlx.out,hwx] at this;cases this
    have Hhwx:=qh hwx;clear hwx;have Hhno:=qh hno;clear hno
    as_aux_lemma =>
    go_wp2_with (go_at_call 119;refine(Hx.out _).mono ?_;rintro e w2 ⟨a2,c2,rfl,hSx⟩;have HS2:=qh (((HS1.out.cat hSx).pick [] (by decide)).newRow0 55 2);clear hSx)
    go_ret2
    exact ZpX Hhno.out HS2.out
   | true =>
    have hw1:=ZoQ hwx;rw[HhF.out] at hw1;have hF1:¬ (F.length:Int)=0:=by omega
    have hF16:F.length≤100:=by omega
    have hwx2:wdOk (ls.getD k [])=true:=by rw[← Hhlx.out];exact hwx
    have Hhwx:=qh hwx;clear hwx;have Hhwx2:=qh hwx2;clear hwx2;by_cases hk0:k=0
    ·subst hk0;rw[Nat.add_zero] at q0;have h1E:=Zqa ls;rw[← Hhlx.out,HhF.out] at h1E;replace h1E:=qh h1E;have hgI:¬ (60:Int)<(F.length:Int):=by omega
     as_aux_lemma =>
     go_wp2_with (go_at_call 119;refine(Hx.out _).mono ?_;rintro e w2 ⟨a2,c2,rfl,hSx⟩;have HS2:=qh ((HS1.out.cat hSx).pick [1] (by decide));clear hSx);go_roundw
     case rel=>exact⟨1,c2,a2,F,by go_num,rfl,h1E.out.symm,by omega,by omega,fun j hj=>by (obtain rfl:j=0:=by omega);exact⟨Hhwx2.out,by rw[h1E.out];omega⟩,HS2.out⟩
     case measure=>simp[intOf]<;>omega
    have hk0I:¬ (k:Int)=0:=by omega
    have hst:=ZoO (ls:=ls) (k:=k) (by omega);rw[← Hhlx.out,HhF.out,← hE.out] at hst;obtain⟨G,hG⟩:=eI (E++F++[(5,0)]);have hGl:(E.length+F.length+1)=G.length:=by rw[hG];simp;omega
    have hGc:E.flatMap Zab++F.flatMap Zab++[.int .i64 5,.int .i64 0]=G.flatMap Zab:=by rw[hG,List.flatMap_append,List.flatMap_append];rfl
    rw[← hG] at hst;have Hst:=qh hst;have HhGl:=qh hGl;clear hGl;have HhGc:=qh hGc;clear hGc;clear hG hst;have hap:=True.intro;by_cases hg:60<G.length
    ·have hgI:(60:Int)<(G.length:Int):=by omega
     have hno:wsOk ls=false:=ZkQ (k:=k) (by have:=Hhn.out;omega) fun h=>by have:=h.2;rw[Hst.out] at this;omega
     have Hhno:=qh hno;clear hno
     go_wp2_with (first
      | (go_at_call 119;refine(Hx.out _).mono ?_;rintro e w2 ⟨a2,c2,rfl,hSx⟩;have HS2:=qh (HS1.out.cat hSx);clear hSx)
      | (at_builtin;refine Zal _ rfl _ _ _ rfl _ 55 i0 (.agg #[.int .i64 0,.int .i64 0]) 2 16 Tryz.underlying23 hi.out Hhz0.out Hhz1.out Hhz2.out rfl (by omega) _ E.length _ rfl (HS2.out.row 0 rfl) _ F.length (F.flatMap Zab) rfl (Zar (HS2.out.row 1 rfl)) Zdu (by unfold maxLen;omega) (by omega) HS2.out.size ?_;intro a5 c5 w5 hown hgrow hat;have hS:=(HS2.out.appS 0 rfl hown hgrow hat).pick [0] (by decide);have HS5:=qh hS;clear hown hgrow hat hS)
      | (at_builtin;have HS9:=qh ((HS5.out.alloc _ rfl #[.int .i64 5,.int .i64 0] 55).boxrow 1 1 2 [.int .i64 5,.int .i64 0] rfl rfl (by unfold maxLen;omega));refine Zal _ rfl _ _ _ rfl _ 55 i0 (.agg #[.int .i64 0,.int .i64 0]) 2 16 Tryz.underlying23 hi.out Hhz0.out Hhz1.out Hhz2.out rfl (by omega) _ (E.length+F.length) _ rfl (HS9.out.row 0 rfl) _ 1 [.int .i64 5,.int .i64 0] rfl ((Zaa (HS9.out.row 1 rfl)).sl (by omega) |>.mono (Nat.zero_le _)) ZdP (by unfold maxLen;omega) (by omega) HS9.out.size ?_;intro a7 c7 w7 hown hgrow hat;have hS:=(HS9.out.appS 0 rfl hown hgrow hat).pick [0] (by decide);rw[HhGl.out] at hS ⊢;rw[HhGc.out] at hS;have HS7:=qh hS;clear hown hgrow hat hS;have HS8:=qh ((HS7.out.pick [] (by decide)).newRow0 55 2)))
     go_ret2
     exact ZpX Hhno.out HS8.out
    have hgI:¬ (60:Int)<(G.length:Int):=by omega
    go_wp2_with (first
     | (go_at_call 119;refine(Hx.out _).mono ?_;rintro e w2 ⟨a2,c2,rfl,hSx⟩;have HS2:=qh (HS1.out.cat hSx);clear hSx)
     | (at_builtin;refine Zal _ rfl _ _ _ rfl _ 55 i0 (.agg #[.int .i64 0,.int .i64 0]) 2 16 Tryz.underlying23 hi.out Hhz0.out Hhz1.out Hhz2.out rfl (by omega) _ E.length _ rfl (HS2.out.row 0 rfl) _ F.length (F.flatMap Zab) rfl (Zar (HS2.out.row 1 rfl)) Zdu (by unfold maxLen;omega) (by omega) HS2.out.size ?_;intro a5 c5 w5 hown hgrow hat;have hS:=(HS2.out.appS 0 rfl hown hgrow hat).pick [0] (by decide);have HS5:=qh hS;clear hown hgrow hat hS)
     | (at_builtin;have HS9:=qh ((HS5.out.alloc _ rfl #[.int .i64 5,.int .i64 0] 55).boxrow 1 1 2 [.int .i64 5,.int .i64 0] rfl rfl (by unfold maxLen;omega));refine Zal _ rfl _ _ _ rfl _ 55 i0 (.agg #[.int .i64 0,.int .i64 0]) 2 16 Tryz.underlying23 hi.out Hhz0.out Hhz1.out Hhz2.out rfl (by omega) _ (E.length+F.length) _ rfl (HS9.out.row 0 rfl) _ 1 [.int .i64 5,.int .i64 0] rfl ((Zaa (HS9.out.row 1 rfl)).sl (by omega) |>.mono (Nat.zero_le _)) ZdP (by unfold maxLen;omega) (by omega) HS9.out.size ?_;intro a7 c7 w7 hown hgrow hat;have hS:=(HS9.out.appS 0 rfl hown hgrow hat).pick [0] (by decide);rw[HhGl.out] at hS ⊢;rw[HhGc.out] at hS;have HS7:=qh hS;clear hown hgrow hat hS))
    go_roundw
    case rel =>
     refine⟨k+1,c7,a7,G,by go_num,rfl,Hst.out.symm,by omega,by omega,fun j hj => ?_,HS7.out⟩;by_cases hjk:j<k
     ·exact Hall.out j hjk
     obtain rfl:j=k:=by omega
     exact⟨Hhwx2.out,by rw[Hst.out];omega⟩
    case measure=>simp[intOf]<;>omega
  obtain rfl:k=n:=by omega
  have hkI:¬ (k:Int)<(k:Int):=by omega
  have hyes:wsOk ls=true:=Zqb fun j hj=>Hall.out j (by have:=Hhn.out;omega)
  have hEn:E=wsP ls ls.length:=by rw[hE,Hhn.out]
  have Hhyes:=qh hyes;clear hyes;have HhEn:=qh hEn;clear hEn;clear hE;go_wp2
  go_ret2
  exact Zqh Hhyes.out HhEn.out HS1.out
end Go.Proofs.YtehmjmjedopkkaaGreat
