/-
  Plain: the words of a compiled tree are those of the expression.
  Condition: the bound of states is 40.
-/
import Derived.Test.YtfikabecgaappaaPw14Nu
set_option maxHeartbeats 16000000
set_option maxRecDepth 100000
namespace Go.Proofs.Ytfikabecgaappaa
open Go.RowKit
-- ways through an automaton of any size
theorem Zj5 {N:Nat} {ms:List (Int × Int × Int)} (hm:mvIn N ms) {v t:Nat} (hv:v<2 ^ N):(clV N ms v).testBit t=true↔∃ s:Nat,s<N∧v.testBit s=true∧Pth ms s [] t:=by
 constructor
 ·intro h;obtain⟨u,hu⟩:=Zjs (fun t=>∃ s:Nat,s<N∧v.testBit s=true∧Pth ms s [] t) N
  have hc:Zbe ms u:=by
   intro m hmm he hf;obtain⟨h1,s,hs,hvs,hp⟩:=(hu _).1 hf;have h2:=hm m hmm;refine(hu _).2 ⟨by omega,s,hs,hvs,?_⟩;have e1:((m.1.toNat:Nat):Int)=m.1:=by omega
   have e2:((m.2.2.toNat:Nat):Int)=m.2.2:=by omega
   rw[e1] at hp;rw[e2];refine hp.append (y:=[]) (.eps ?_ (.here _));rw[← he];exact hmm
  have hsub:subV v u:=by intro s hs;have:=Zeq hv hs;exact(hu s).2 ⟨this,s,this,hs,.here _⟩
  exact((hu t).1 (Zj3 hc hsub t h)).2
 rintro⟨s,hs,hvs,hp⟩;have:=hp.closed (ZbA hm v) rfl (by rw[Int.toNat_natCast];exact ZeJ N ms v s hvs)
 rwa [Int.toNat_natCast] at this
theorem Zi3 {N:Nat} {ms:List (Int × Int × Int)} (hm:mvIn N ms) {v t:Nat} (c:Nat):(stV N ms v (c:Int)).testBit t=true↔∃ x,x∈ms∧x.2.1=(c:Int)∧v.testBit x.1.toNat=true∧Pth ms x.2.2 [] t:=by
 have hlt:ms.foldl (Za5 v c) 0<2 ^ N:=ZbF _ (fun u=>u<2 ^ N) (fun _ _ hx hu=>Zce hm hx hu) (Nat.two_pow_pos N);unfold stV;rw[Zj5 hm hlt];constructor
 ·rintro⟨s,hs,hb,hp⟩;rw[Zbb] at hb;rcases hb with hb|⟨m,hmm,h1,h2,h3⟩
  ·simp at hb
  refine⟨m,hmm,h1,h2,?_⟩;have e:m.2.2=(s:Int):=by have:=(hm m hmm).2;omega
  rw[e];exact hp
 rintro⟨x,hx,h1,h2,hp⟩;have h4:=(hm x hx).2;refine⟨x.2.2.toNat,by omega,?_,?_⟩
 ·rw[Zbb];exact .inr ⟨x,hx,h1,h2,rfl⟩
 have e:((x.2.2.toNat:Nat):Int)=x.2.2:=by omega
 rw[e];exact hp
theorem ZgL {N:Nat} {ms:List (Int × Int × Int)} (hm:mvIn N ms):∀ (cs:List Nat) (V:Nat),V<2 ^ N→Zbe ms V→∀ t,(cs.foldl (fun v (c:Nat)=>stV N ms v (c:Int)) V).testBit t=true↔∃ s:Nat,s<N∧V.testBit s=true∧Pth ms s cs t
 | [],V,hV,hc,t=>by
  rw[List.foldl_nil];constructor
  ·intro h;exact⟨t,Zeq hV h,h,.here _⟩
  rintro⟨s,hs,h1,h2⟩;have:=h2.closed hc rfl (by rwa [Int.toNat_natCast])
  rwa [Int.toNat_natCast] at this
 | c::cs,V,hV,hc,t=>by
  rw[List.foldl_cons,ZgL hm cs _ (Zi1 hm V c) (ZbA hm _)];constructor
  ·rintro⟨s,hs,h1,h2⟩;rw[Zi3 hm] at h1;obtain⟨x,hx,h3,h4,h5⟩:=h1;have h6:=(hm x hx).1;refine⟨x.1.toNat,by omega,h4,?_⟩;have e:((x.1.toNat:Nat):Int)=x.1:=by omega
   rw[e];refine .step (t:=x.2.2) ?_ (h5.append h2);rw[← h3];exact hx
  rintro⟨s,hs,h1,h2⟩;obtain⟨m,h3,h4,h5,h6⟩:=h2.split rfl;have h7:=(hm m h3).2;refine⟨m.2.2.toNat,by omega,?_,?_⟩
  ·rw[Zi3 hm];have:=h5.closed hc rfl (by rwa [Int.toNat_natCast]);refine⟨m,h3,h4,this,?_⟩;have e:((m.2.2.toNat:Nat):Int)=m.2.2:=by omega
   rw[e];exact .here _
  have e:((m.2.2.toNat:Nat):Int)=m.2.2:=by omega
  rw[e];exact h6
def accP (n:NfaD) (w:List Nat):Prop:=∃ f∈n.firsts,∃ e∈n.ends,Pth n.moves f w e
theorem ZgK {N:Nat} {n:NfaD}:∀ (w:List Nat) (v:Nat),w.foldl (nxSM N n) (((v:Nat):Int),0)=(((w.foldl (fun v (c:Nat)=>stV N n.moves v (c:Int)) v:Nat):Int),0)
 | [],_=>rfl
 | c::w,v=>by rw[List.foldl_cons,List.foldl_cons,← ZgK w];rfl
theorem Zh7 {N K:Nat} {n:NfaD} {D:DfaD} (hm:mvIn N n.moves) (hf:inN N n.firsts) (he:inN N n.ends) (h:detM N K n=some D) {w:List Nat} (hw:isW w):accD D w=true↔accP n w:=by
 unfold detM at h
 split at h
 ·rename_i h2;simp only[Option.some.injEq] at h;subst h;unfold metSM at h2 ⊢;rw[ZcC h2 hw,ZgK];show(n.ends.any fun s=>(w.foldl (fun v (c:Nat)=>stV N n.moves v (c:Int)) (clV N n.moves (setV n.firsts))).testBit s.toNat)=true↔_;have hlt:clV N n.moves (setV n.firsts)<2 ^ N:=Zdt hm (ZcJ hf) N;have hrun:=ZgL hm w _ hlt (ZbA hm (setV n.firsts));rw[List.any_eq_true];constructor
  ·rintro⟨e,hee,hb⟩;obtain⟨s,hs,h1,h2⟩:=(hrun _).1 hb;rw[Zj5 hm (ZcJ hf)] at h1;obtain⟨r,hr,h3,h4⟩:=h1;rw[Zfu,List.any_eq_true] at h3;obtain⟨f,hff,h5⟩:=h3;have h5:=of_decide_eq_true h5;have h6:=hf f hff;have h7:=he e hee;refine⟨f,hff,e,hee,?_⟩;have e1:(r:Int)=f:=by omega
   have e2:((e.toNat:Nat):Int)=e:=by omega
   rw[e1] at h4;rw[e2] at h2;exact h4.append h2
  rintro⟨f,hff,e,hee,hp⟩;have h6:=hf f hff;have h7:=he e hee;refine⟨e,hee,(hrun _).2 ⟨f.toNat,by omega,?_,?_⟩⟩
  ·exact ZeJ N n.moves _ _ (ZhK hff)
  have e1:((f.toNat:Nat):Int)=f:=by omega
  have e2:((e.toNat:Nat):Int)=e:=by omega
  rw[e1,e2];exact hp
 cases h
theorem Pth.starred {p:NfaD} {a:Nat} (ha:p.states=(a:Int)) (hpm:mvIn a p.moves) (hpf:inN a p.firsts) (hpe:inN a p.ends) {s t:Int} {x:List Nat} (h:Pth (ZbH p).moves s x t) (ht:t=p.states) :
  (s=p.states→StarL (accP p) x)∧(s<p.states→∃ u v,x=u++v∧(∃ e∈p.ends,Pth p.moves s u e)∧StarL (accP p) v):=by
 have hmem:∀ m∈(ZbH p).moves,m∈p.moves∨(∃ f∈p.firsts,m=(p.states,-1,f))∨∃ e∈p.ends,m=(e,-1,p.states):=fun m hm=>by
  simp only[ZbH,List.mem_append,List.mem_map] at hm;rcases hm with(hm|⟨f,hf,rfl⟩)|⟨e,he,rfl⟩
  ·exact .inl hm
  ·exact .inr (.inl ⟨f,hf,rfl⟩)
  exact .inr (.inr ⟨e,he,rfl⟩)
 induction h with
 | here s=>exact⟨fun _ => .nil,fun h=>by omega⟩
 | @eps s' t' u w hm _ ih =>
  obtain⟨i1,i2⟩:=ih ht;rcases hmem _ hm with hm|⟨f,hf,e⟩|⟨e,he,e'⟩
  ·have h1:=hpm _ hm;simp only at h1;refine⟨fun h=>by omega,fun _ => ?_⟩;obtain⟨x,y,rfl,⟨e,he,h2⟩,h3⟩:=i2 (by omega);exact⟨x,y,rfl,⟨e,he,.eps hm h2⟩,h3⟩
  ·simp only[Prod.mk.injEq] at e;obtain⟨rfl,-,rfl⟩:=e;have h1:=hpf _ hf;refine⟨fun _ => ?_,fun h=>by omega⟩;obtain⟨x,y,rfl,⟨e,he,h2⟩,h3⟩:=i2 (by omega);exact .cons ⟨_,hf,e,he,h2⟩ h3
  simp only[Prod.mk.injEq] at e';obtain⟨rfl,-,rfl⟩:=e';have h1:=hpe _ he;exact⟨fun h=>by omega,fun _=>⟨[],w,rfl,⟨_,he,.here _⟩,i1 rfl⟩⟩
 | @step s' t' u c w hm _ ih =>
  obtain⟨i1,i2⟩:=ih ht;rcases hmem _ hm with hm|⟨f,hf,e⟩|⟨e,he,e'⟩
  ·have h1:=hpm _ hm;simp only at h1;refine⟨fun h=>by omega,fun _ => ?_⟩;obtain⟨x,y,rfl,⟨e,he,h2⟩,h3⟩:=i2 (by omega);exact⟨c::x,y,rfl,⟨e,he,.step hm h2⟩,h3⟩
  ·simp only[Prod.mk.injEq] at e;omega
  simp only[Prod.mk.injEq] at e';omega
theorem ZiZ {p:NfaD} {a:Nat} (ha:p.states=(a:Int)) (hpm:mvIn a p.moves) (hpf:inN a p.firsts) (hpe:inN a p.ends) (x:List Nat):accP (ZbH p) x↔StarL (accP p) x:=by
 constructor
 ·rintro⟨f,hf,e,he,h⟩;simp only[ZbH,List.mem_singleton] at hf he;subst hf he;exact(h.starred ha hpm hpf hpe rfl).1 rfl
 rintro⟨ws,rfl,hw⟩;refine⟨p.states,by simp[ZbH],p.states,by simp[ZbH],?_⟩
 induction ws with
 | nil=>exact .here _
 | cons u ws ih =>
  rw[List.flatten_cons];refine Pth.append ?_ (ih fun x hx=>hw x (List.mem_cons_of_mem _ hx));obtain⟨f,hf,e,he,h⟩:=hw u (by simp);have h1:Pth (ZbH p).moves f u e:=h.mono fun m hm=>by simp[ZbH,hm]
  have h2:Pth (ZbH p).moves p.states [] f:=.eps (by simp[ZbH,hf]) (.here _);have h3:Pth (ZbH p).moves e [] p.states:=.eps (by simp only[ZbH,List.mem_append,List.mem_map];exact .inr ⟨e,he,rfl⟩) (.here _);have h4:=(h2.append h1).append h3
  rwa [List.nil_append,List.append_nil] at h4
theorem ZjE {p q:NfaD} {a b:Nat} (ha:p.states=(a:Int)) (hpm:mvIn a p.moves) (hqm:mvIn b q.moves) (hpf:inN a p.firsts) (hpe:inN a p.ends) (hqf:inN b q.firsts) (hqe:inN b q.ends) (x:List Nat):accP (Zcm p q) x↔∃ u v,x=u++v∧accP p u∧accP q v:=by
 constructor
 ·rintro⟨f,hf,e,he,hw⟩;obtain⟨y,hy,rfl⟩:=List.mem_map.1 (show e∈q.ends.map (·+p.states) from he);have h1:=hpf f hf;have h2:=hqe y hy;obtain⟨k,hk,g,hg,z,hz,h3,h4⟩:=(hw.cross ha hpm hqm hpe hqf (by omega)).1 (by omega);rw[show y+p.states-p.states=y by omega] at h4;exact⟨x.take k,x.drop k,(List.take_append_drop k x).symm,⟨f,hf,g,hg,h3⟩,⟨z,hz,y,hy,h4⟩⟩
 rintro⟨u,v,rfl,⟨f,hf,e,he,h3⟩,⟨g,hg,d,hd,h4⟩⟩;refine⟨f,hf,d+p.states,List.mem_map.2 ⟨d,hd,rfl⟩,?_⟩;have h5:Pth (Zcm p q).moves f u e:=h3.mono fun m hm=>by simp only[Zcm,List.mem_append];exact .inl (.inl hm)
 have h6:Pth (Zcm p q).moves (g+p.states) v (d+p.states):=(h4.up p.states).mono fun m hm=>by simp only[Zcm,List.mem_append];exact .inl (.inr hm)
 have h7:Pth (Zcm p q).moves e [] (g+p.states):=.eps (by simp only[Zcm,List.mem_append,List.mem_flatMap,List.mem_map];exact .inr ⟨e,he,g+p.states,List.mem_map.2 ⟨g,hg,rfl⟩,rfl⟩) (.here _);have h8:=(h5.append h7).append h6
 rwa [List.append_nil] at h8
theorem ZbT {d:DfaD} (hd:Zae d.next d.ends=true) {w:List Nat} (hw:isW w):accP (ZaJ d) w↔accD d w=true:=by rw[← Zjq hd hw,Zk6 (ZcW hd)];rfl
theorem Zcl {d:DfaD} (hd:Zae d.next d.ends=true):inN d.next.length (ZaJ d).firsts:=fun s hs=>by have hl:=Zac hd;have hs:s∈[(0:Int)]:=hs;simp only[List.mem_singleton] at hs;omega
theorem Zdl (d:DfaD):inN d.next.length (ZaJ d).ends:=fun s hs=>ZeF d _ s hs
theorem ZdZ {u v:List Nat} (h:isW (u++v)):isW u:=fun c hc=>h c (by simp[hc])
theorem Zc2 {u v:List Nat} (h:isW (u++v)):isW v:=fun c hc=>h c (by simp[hc])
theorem Zh1 {ws:List (List Nat)} (h:isW ws.flatten):∀ u∈ws,isW u:=fun u hu c hc=>h c (List.mem_flatten.2 ⟨u,hu,hc⟩)
theorem StarL.congr {L M:List Nat→Prop} (h:∀ u,isW u→(L u↔M u)) {w:List Nat} (hw:isW w):StarL L w↔StarL M w:=by
 constructor
 ·rintro⟨ws,rfl,hs⟩;exact⟨ws,rfl,fun u hu=>(h u (Zh1 hw u hu)).1 (hs u hu)⟩
 rintro⟨ws,rfl,hs⟩;exact⟨ws,rfl,fun u hu=>(h u (Zh1 hw u hu)).2 (hs u hu)⟩
theorem Zbl {d:DfaD} (hd:Zae d.next d.ends=true) {w:List Nat} (hw:isW w):accD (Zat d) w=accD d w:=by rw[ZbB (Zan hd)];exact Zjw (Zan hd) hw
theorem ZhT {K:Nat} {f:Bool→Bool→Bool} {a b d:DfaD} (h:Zbm K f a b=some d) {w:List Nat} (hw:isW w):accD d w=f (accD a w) (accD b w):=by
 unfold Zbm at h
 split at h
 ·rename_i h2;simp only[Option.some.injEq] at h;subst h;unfold metP at h2 ⊢;rw[ZcC h2 hw]
  have key:∀ (w:List Nat) (p:Int × Int),w.foldl (ZbQ a b) p=(runD a p.1 w,runD b p.2 w):=fun w=>by
   induction w with
   | nil=>intro p;rfl
   | cons c w ih =>intro p;rw[List.foldl_cons,ih];rfl
  rw[key];rfl
 cases h
theorem Zkx (w:List Nat) (hw:isW w):accD Zen w=false:=by
 have key:∀ w,isW w→runD Zen 0 w=0:=fun w=>by
  induction w with
  | nil=>intro _;rfl
  | cons c w ih =>
   intro h;obtain⟨h1,h2⟩:=Zbt h;rw[ZaB]
   have:dnx Zen 0 c=0:=by
    have:c=0∨c=1∨c=2:=by omega
    rcases this with rfl|rfl|rfl<;>rfl
   rw[this];exact ih h2
 unfold accD;rw[key w hw];rfl
theorem Zlp (w:List Nat) (hw:isW w):accD oneD w=true↔w=[]:=by
 have key:∀ w,isW w→runD oneD 1 w=1:=fun w=>by
  induction w with
  | nil=>intro _;rfl
  | cons c w ih =>
   intro h;obtain⟨h1,h2⟩:=Zbt h;rw[ZaB]
   have:dnx oneD 1 c=1:=by
    have:c=0∨c=1∨c=2:=by omega
    rcases this with rfl|rfl|rfl<;>rfl
   rw[this];exact ih h2
 cases w with
 | nil=>exact⟨fun _=>rfl,fun _=>rfl⟩
 | cons c w =>
  obtain⟨h1,h2⟩:=Zbt hw
  have e:dnx oneD 0 c=1:=by
   have:c=0∨c=1∨c=2:=by omega
   rcases this with rfl|rfl|rfl<;>rfl
  have:accD oneD (c::w)=false:=by unfold accD;rw[ZaB,e,key w h2];rfl
  rw[this];simp
theorem Zlx (a:Fin 3) (w:List Nat) (hw:isW w):accD (ltrD a) w=true↔w=[a.val]:=by
 have ha:a=0∨a=1∨a=2:=by omega
 have k2:∀ w,isW w→runD (ltrD a) 2 w=2:=fun w=>by
  induction w with
  | nil=>intro _;rfl
  | cons c w ih =>
   intro h;obtain⟨h1,h2⟩:=Zbt h;rw[ZaB]
   have:dnx (ltrD a) 2 c=2:=by
    have:c=0∨c=1∨c=2:=by omega
    rcases this with rfl|rfl|rfl<;>rcases ha with rfl|rfl|rfl<;>rfl
   rw[this];exact ih h2
 have e2:den (ltrD a) 2=false:=by rcases ha with rfl|rfl|rfl<;>rfl
 have e1:den (ltrD a) 1=true:=by rcases ha with rfl|rfl|rfl<;>rfl
 have e0:den (ltrD a) 0=false:=by rcases ha with rfl|rfl|rfl<;>rfl
 cases w with
 | nil =>have:accD (ltrD a) []=false:=e0;rw[this];simp
 | cons c w =>
  obtain⟨h1,h2⟩:=Zbt hw
  have e:dnx (ltrD a) 0 c=if c=a.val then 1 else 2:=by
   have:c=0∨c=1∨c=2:=by omega
   rcases this with rfl|rfl|rfl<;>rcases ha with rfl|rfl|rfl<;>rfl
  have hr:accD (ltrD a) (c::w)=den (ltrD a) (runD (ltrD a) (if c=a.val then 1 else 2) w):=by unfold accD;rw[ZaB,e]
  rw[hr];by_cases hc:c=a.val
  ·rw[if_pos hc];cases w with
   | nil =>rw[hc];exact⟨fun _=>rfl,fun _=>e1⟩
   | cons b w =>
    obtain⟨h3,h4⟩:=Zbt h2
    have e3:dnx (ltrD a) 1 b=2:=by
     have:b=0∨b=1∨b=2:=by omega
     rcases this with rfl|rfl|rfl<;>rcases ha with rfl|rfl|rfl<;>rfl
    rw[ZaB,e3,k2 w h4,e2];simp
  rw[if_neg hc,k2 w h2,e2];simp[hc]
theorem ZeG {K:Nat} (hK:K=40):∀ (t:Ex) {d:DfaD},Zal K t=some d→∀ w,isW w→(accD d w=true↔memE t w):=by
 intro t
 induction t with
 | zero =>intro d h w hw;simp only[Zal,Option.some.injEq] at h;rw[← h,Zbl ZdW hw,Zkx w hw];simp[memE]
 | one =>intro d h w hw;simp only[Zal,Option.some.injEq] at h;rw[← h,Zbl ZfI hw,Zlp w hw];rfl
 | ltr c =>intro d h w hw;simp only[Zal,Option.some.injEq] at h;rw[← h,Zbl (Zdm c) hw,Zlx c w hw];rfl
 | join a b iha ihb =>
  intro d h w hw;simp only[Zal,Option.bind_eq_some_iff,Option.map_eq_some_iff] at h;obtain⟨x,hx,y,hy,z,hz,rfl⟩:=h;have hxo:=Zbk hK a hx;have hyo:=Zbk hK b hy;have hxl:=Zac hxo;have hyl:=Zac hyo;rw[Zbl (Zcp hK hz) hw];have h1:mvIn 81 (ZcI x y).moves:=Zfc (ZhF hxo hyo) (by omega);have h2:inN 81 (ZcI x y).firsts:=fun s hs=>by have:=Zdx (b:=y) hxo s hs;omega
  have h3:inN 81 (ZcI x y).ends:=fun s hs=>by have:=Ze2 s hs;omega
  rw[Zh7 h1 h2 h3 hz hw,← Zew,
   ZjE (a:=x.next.length) (b:=y.next.length) rfl (Zeo hxo _ (Nat.le_refl _)) (Zeo hyo _ (Nat.le_refl _)) (Zcl hxo) (Zdl x) (Zcl hyo) (Zdl y)]
  constructor
  ·rintro⟨u,v,rfl,p,q⟩;exact⟨u,v,rfl,(iha hx u (ZdZ hw)).1 ((ZbT hxo (ZdZ hw)).1 p),(ihb hy v (Zc2 hw)).1 ((ZbT hyo (Zc2 hw)).1 q)⟩
  rintro⟨u,v,rfl,p,q⟩;exact⟨u,v,rfl,(ZbT hxo (ZdZ hw)).2 ((iha hx u (ZdZ hw)).2 p),(ZbT hyo (Zc2 hw)).2 ((ihb hy v (Zc2 hw)).2 q)⟩
 | alt a b iha ihb =>intro d h w hw;simp only[Zal,Option.bind_eq_some_iff,Option.map_eq_some_iff] at h;obtain⟨x,hx,y,hy,z,hz,rfl⟩:=h;rw[Zbl (Zbi hK hz) hw,ZhT hz hw,Bool.or_eq_true,iha hx w hw,ihb hy w hw];rfl
 | both a b iha ihb =>intro d h w hw;simp only[Zal,Option.bind_eq_some_iff,Option.map_eq_some_iff] at h;obtain⟨x,hx,y,hy,z,hz,rfl⟩:=h;rw[Zbl (Zbi hK hz) hw,ZhT hz hw,Bool.and_eq_true,iha hx w hw,ihb hy w hw];rfl
 | neg a iha =>intro d h w hw;simp only[Zal,Option.map_eq_some_iff] at h;obtain⟨x,hx,rfl⟩:=h;have hxo:=Zbk hK a hx;rw[Zbl (ZfM hxo) hw,Zjr,ZlD hxo hw];show _↔¬ memE a w;rw[← iha hx w hw];cases accD x w<;>simp[xb]
 | star a iha =>
  intro d h w hw;simp only[Zal,Option.bind_eq_some_iff,Option.map_eq_some_iff] at h;obtain⟨x,hx,z,hz,rfl⟩:=h;have hxo:=Zbk hK a hx;have hxl:=Zac hxo;rw[Zbl (Zcp hK hz) hw];have h1:mvIn 81 (Zde x).moves:=Zfc (ZhE hxo) (by omega);have h2:inN 81 (Zde x).firsts:=fun s hs=>by have:=Zcv (a:=x) s hs;omega
  have h3:inN 81 (Zde x).ends:=fun s hs=>by have:=Zcv (a:=x) s hs;omega
  rw[Zh7 h1 h2 h3 hz hw,← Zea,
   ZiZ (a:=x.next.length) rfl (Zeo hxo _ (Nat.le_refl _)) (Zcl hxo) (Zdl x)]
  exact StarL.congr (fun u hu=>by rw[ZbT hxo hu,iha hx u hu]) hw
theorem ZiN {K:Nat} (hK:K=40) {t:Ex} {D E:DfaD} (hc:Zal K t=some D) {ls:List Nat} (hls:isW ls) (hm:∀ w,memE t w↔w=ls) (hE:Zal K .one=some E) {q:Nat} (hq:runD D 0 ls=(q:Int)) (hqn:q<D.next.length):minD (ZbY D q)=E:=by
 have hok:=Zbk hK t hc;have hE2:=Zbk hK .one hE
 have e:minD (ZbY D q)=minD E:=Zgx (Zan (ZjQ hok hqn)) (Zan hE2) fun w hw=>by
  have hlw:isW (ls++w):=fun c hc=>by
   rcases List.mem_append.1 hc with h|h
   ·exact hls c h
   exact hw c h
  rw[Bool.eq_iff_iff,ZeG hK .one hE w hw,ZkU hok hqn hw,← hq,← ZeQ,ZeG hK t hc _ hlw,hm];show _↔w=[];constructor
  ·intro h;have:=congrArg List.length h;rw[List.length_append] at this;exact List.eq_nil_of_length_eq_zero (by omega)
  rintro rfl;rw[List.append_nil]
 rw[e,Zf7 hK .one hE]
def lev (d:DfaD):Nat→Nat→Bool
 | 0,s=>decide (s=0)
 | n+1,t=>(List.range d.next.length).any fun s=>lev d n s&&(List.range 3).any fun c=>nxD d s c==t
theorem ZfN {d:DfaD} (hd:Zae d.next d.ends=true):∀ (n s:Nat),s<d.next.length→(lev d n s=true↔∃ w,isW w∧w.length=n∧runD d 0 w=(s:Int))
 | 0,s,_=>by
  unfold lev;rw[decide_eq_true_eq];constructor
  ·rintro rfl;exact⟨[],fun c hc=>(by cases hc),rfl,rfl⟩
  rintro⟨w,-,hw,hr⟩;obtain rfl:=List.eq_nil_of_length_eq_zero hw;have:(0:Int)=(s:Int):=hr;omega
 | n+1,t,_=>by
  have hf:=Zan hd;unfold lev;rw[List.any_eq_true];constructor
  ·rintro⟨s,hs,h⟩;rw[Bool.and_eq_true,List.any_eq_true] at h;obtain⟨h1,c,hc,h2⟩:=h;obtain⟨w,hw,hl,hr⟩:=(ZfN hd n s (List.mem_range.1 hs)).1 h1;refine⟨w++[c],fun x hx => ?_,by rw[List.length_append,hl];rfl,?_⟩
   ·rcases List.mem_append.1 hx with h|h
    ·exact hw x h
    rw[List.mem_singleton.1 h];exact List.mem_range.1 hc
   rw[ZbD,hr];show dnx d (s:Int) c=_;rw[show dnx d (s:Int) c=((nxD d s c:Nat):Int) from(Za9 hf (List.mem_range.1 hs) (List.mem_range.1 hc)).2,beq_iff_eq.1 h2]
  rintro⟨w,hw,hl,hr⟩;have hwl:w≠[]:=fun h=>by rw[h] at hl;cases hl
  obtain⟨u,c,rfl⟩:∃ u c,w=u++[c]:=⟨w.dropLast,w.getLast hwl,(List.dropLast_concat_getLast hwl).symm⟩;have hu:isW u:=fun x hx=>hw x (by simp[hx])
  have hc:c<3:=hw c (by simp);obtain⟨s,hs,hrs⟩:=ZbK hf u (s:=0) hu hf.1;rw[ZbD] at hr;rw[show((0:Nat):Int)=0 from rfl] at hrs;rw[hrs] at hr;refine⟨s,List.mem_range.2 hs,?_⟩;rw[Bool.and_eq_true,List.any_eq_true];refine⟨(ZfN hd n s hs).2 ⟨u,hu,by rw[List.length_append] at hl;simpa using hl,hrs⟩,c,List.mem_range.2 hc,?_⟩;have h3:dnx d (s:Int) c=(t:Int):=hr;rw[show dnx d (s:Int) c=((nxD d s c:Nat):Int) from(Za9 hf hs hc).2] at h3;rw[beq_iff_eq];omega
def lon (d:DfaD):Nat→Int
 | 0 => -2
 | n+1=>if (List.range d.next.length).any (fun s=>lev d n s&&enD d s)=true then(n:Int) else lon d n
def Ziy (d:DfaD):Int:=if (d.next.length:Int)≤lon d (2*d.next.length+1) then -1 else lon d (2*d.next.length+1)
theorem ZhY {d:DfaD} (hd:Zae d.next d.ends=true) {ls:List Nat} (hls:isW ls) (hacc:∀ w,isW w→(accD d w=true↔w=ls)):∀ n,lon d n=if ls.length<n then(ls.length:Int) else -2
 | 0=>by rw[if_neg (by omega)];rfl
 | n+1=>by
  have hf:=Zan hd
  have he:(List.range d.next.length).any (fun s=>lev d n s&&enD d s)=true↔ls.length=n:=by
   rw[List.any_eq_true];constructor
   ·rintro⟨s,hs,h⟩;rw[Bool.and_eq_true] at h;obtain⟨w,hw,hl,hr⟩:=(ZfN hd n s (List.mem_range.1 hs)).1 h.1;have:accD d w=true:=by unfold accD;rw[hr,show den d (s:Int)=enD d s by simp[den,enD]];exact h.2
    rw[← (hacc w hw).1 this,hl]
   intro h;obtain⟨s,hs,hr⟩:=ZbK hf ls (s:=0) hls hf.1;have ha:=(hacc ls hls).2 rfl;unfold accD at ha;rw[show((0:Nat):Int)=0 from rfl] at hr;rw[hr,show den d (s:Int)=enD d s by simp[den,enD]] at ha;refine⟨s,List.mem_range.2 hs,?_⟩;rw[Bool.and_eq_true];exact⟨(ZfN hd n s hs).2 ⟨ls,hls,h,hr⟩,ha⟩
  unfold lon;by_cases h:ls.length=n
  ·rw[if_pos (he.2 h),if_pos (by omega),h]
  rw[if_neg (fun g=>h (he.1 g)),ZhY hd hls hacc n];by_cases g:ls.length<n
  ·rw[if_pos g,if_pos (by omega)]
  rw[if_neg g,if_neg (by omega)]
theorem Zfb {α:Type} [DecidableEq α]:∀ {l:List α},¬ l.Nodup→∃ (i j:Nat) (hj:j<l.length) (hi:i<j),l[i]'(Nat.lt_trans hi hj)=l[j]
 | [],h=>absurd List.nodup_nil h
 | x::l,h=>by
  rw[List.nodup_cons] at h;by_cases hx:x∈l
  ·obtain⟨j,hj,e⟩:=List.getElem_of_mem hx;exact⟨0,j+1,by simp only[List.length_cons];omega,by omega,by simpa using e.symm⟩
  obtain⟨i,j,hj,hi,e⟩:=Zfb (l:=l) fun hn=>h ⟨hx,hn⟩
  exact⟨i+1,j+1,by simp only[List.length_cons];omega,by omega,by simpa using e⟩
theorem Zec {d:DfaD} (hd:fine d) {s:Nat} (hs:s<d.next.length):∀ (n:Nat) (w:List Nat),w.length≤n→isW w→den d (runD d (s:Int) w)=true→∃ w',w'.length<d.next.length∧isW w'∧den d (runD d (s:Int) w')=true
 | n,w,hn,hw,he=>by
  by_cases hl:w.length<d.next.length
  ·exact⟨w,hl,hw,he⟩
  have key:∀ i,∃ t:Nat,t<d.next.length∧runD d (s:Int) (w.take i)=(t:Int):=fun i=>ZbK hd _ (ZfQ hw i) hs
  have hnd:¬ ((List.range (w.length+1)).map fun i=>runD d (s:Int) (w.take i)).Nodup:=fun h=>by
   have:=Zb7 (m:=(List.range d.next.length).map fun (i:Nat)=>(i:Int)) h fun x hx=>by obtain⟨i,-,rfl⟩:=List.mem_map.1 hx;obtain⟨t,ht,e⟩:=key i;rw[e];exact List.mem_map.2 ⟨t,List.mem_range.2 ht,rfl⟩
   simp only[List.length_map,List.length_range] at this;omega
  obtain⟨i,j,hj,hij,e⟩:=Zfb hnd;simp only[List.length_map,List.length_range] at hj;simp only[List.getElem_map,List.getElem_range] at e;have hr:runD d (s:Int) (w.take i++w.drop j)=runD d (s:Int) w:=by rw[ZhM,e,← ZhM,List.take_append_drop]
  have hlen:(w.take i++w.drop j).length<w.length:=by rw[List.length_append,List.length_take,List.length_drop];omega
  cases n with
  | zero=>omega
  | succ n=>exact Zec hd hs n (w.take i++w.drop j) (by omega) (Zcy (ZfQ hw i) (ZfR hw j)) (by rw[hr];exact he)
theorem Zjy {d:DfaD} (hd:Zae d.next d.ends=true) {ls:List Nat} (hls:isW ls) (hacc:∀ w,isW w→(accD d w=true↔w=ls)):Ziy d=(ls.length:Int):=by
 have hf:=Zan hd;have hlt:ls.length<d.next.length:=by obtain⟨w,hw,hl,ha⟩:=Zec hf (s:=0) hf.1 ls.length ls (Nat.le_refl _) hls ((hacc ls hls).2 rfl);rw[← (hacc w hl).1 ha];exact hw
 unfold Ziy;have e:=ZhY hd hls hacc (2*d.next.length+1);rw[if_pos (by omega)] at e;rw[e,if_neg (by omega)]
def rowA (N:Nat) (T:Nat→Nat→Bool) (i:Nat):Array Value:=((List.range N).map fun j=>Value.bool (T i j)).toArray
theorem Zhd {N:Nat} (T:Nat→Nat→Bool) {i j:Nat} (hj:j<N):(rowA N T i)[j]? = some (.bool (T i j)):=by unfold rowA;rw[List.getElem?_toArray,List.getElem?_map,List.getElem?_range hj];rfl
theorem ZhO {N:Nat} (T:Nat→Nat→Bool) {i j:Nat} (hj:j<N) (r:Bool):(rowA N T i).setIfInBounds j (.bool r)=rowA N (fun a b=>if a=i∧b=j then r else T a b) i:=by
 unfold rowA;rw[List.setIfInBounds_toArray];congr 1;apply List.ext_getElem?;intro k;rw[List.getElem?_set,List.getElem?_map,List.getElem?_map];by_cases hk:k<N
 ·rw[List.getElem?_range hk];by_cases he:j=k
  ·subst he;rw[if_pos rfl,if_pos (by simp;omega),Option.map_some];exact congrArg (fun x=>some (Value.bool x)) (if_pos ⟨rfl,rfl⟩).symm
  rw[if_neg he,Option.map_some,Option.map_some];exact congrArg (fun x=>some (Value.bool x)) (if_neg (fun h=>he h.2.symm)).symm
 rw[List.getElem?_eq_none (by simp;omega)];by_cases he:j=k
 ·omega
 rw[if_neg he];rfl
theorem Zbw {N:Nat} {T U:Nat→Nat→Bool} {i:Nat} (h:∀ j,j<N→T i j=U i j):rowA N T i=rowA N U i:=by unfold rowA;congr 1;apply List.map_congr_left;intro j hj;rw[h j (List.mem_range.1 hj)]
def TbH (X:Ent) (v:Value) (N:Nat) (T:Nat→Nat→Bool):Prop:=∃ (B c:Nat) (R:Nat→Nat),v = .slice (some ⟨B,0,none⟩) N c∧∀ u,X.holds u→(∀ i,i<N→u.cell? ⟨B,i,none⟩=some (.slice (some ⟨R i,0,none⟩) N N))∧∀ i j,i<N→j<N→u.cell? ⟨R i,j,none⟩=some (.bool (T i j))
theorem TbH.congr {X:Ent} {v:Value} {N:Nat} {T U:Nat→Nat→Bool} (h:TbH X v N T) (hc:∀ i j,i<N→j<N→T i j=U i j):TbH X v N U:=by obtain⟨B,c,R,hv,h1⟩:=h;exact⟨B,c,R,hv,fun u hu=>⟨(h1 u hu).1,fun i j hi hj=>by rw[(h1 u hu).2 i j hi hj,hc i j hi hj]⟩⟩
theorem Zix (k:Nat):madeCells #[.bool false] k=(List.replicate k (Value.bool false)).toArray:=by
 unfold madeCells;apply Array.ext_getElem?;intro i;by_cases h:i<k
 ·simp[h,Nat.mod_one]
 simp[h]
theorem Zio (N i:Nat):rowA N (fun _ _=>false) i=(List.replicate N (Value.bool false)).toArray:=by
 unfold rowA;congr 1;apply List.ext_getElem?;intro k;rw[List.getElem?_map,List.getElem?_replicate];by_cases h:k<N
 ·rw[List.getElem?_range h,if_pos h];rfl
 rw[List.getElem?_eq_none (by simp;omega),if_neg h];rfl
theorem St.newRow0 {w0 w:World} {L:List Ent} (h:St w0 w L) (T size:Nat):St w0 (w.alloc (.cells #[] T)) (L++[Ent.row T size (.slice (some ⟨w.heap.size,0,none⟩) 0 0) 0 []]):=by have h1:=(h.alloc w.heap.size rfl #[] T).boxrow (b:=w.heap.size) (T:=T) L.length 0 size [] (by simp) (by simp) (by unfold maxLen;omega);simpa using h1
theorem Try.infoBl:(Try.prog.info? 4).map (fun i=>(i.zero,i.size,i.bytes))=some (some (.bool false),1,1):=by kernel_rfl
theorem ZkY {w:World} {v1:Value} {d:DfaD} (h:IntSS 0 w v1 d.next) (hd:Zae d.next d.ends=true):∃ q o cap,v1 = .slice (some ⟨q,o,none⟩) d.next.length cap∧d.next.length≤cap∧cap≤9223372036854775807∧q<w.heap.size∧∀ i,i<d.next.length→∃ z t s,w.cell? ⟨q,o+i,none⟩=some (.slice (some ⟨z,t,none⟩) 3 s)∧3≤s∧s≤9223372036854775807∧z<w.heap.size∧∀ c,c<3→w.cell? ⟨z,t+c,none⟩=some (.int .i64 ((nxD d i c:Nat):Int)):=by have hf:=Zan hd;obtain⟨a,cap,rfl,h1,h2,h3⟩:=h.form;obtain⟨q,o,rfl,_,hq,hr⟩:=h3 hf.1;refine⟨q,o,cap,rfl,h1,h2,hq,fun i hi => ?_⟩;obtain⟨a',s,e1,e2,e3,e4⟩:=hr i hi;obtain⟨hl,hin⟩:=Zaw hd hi;rw[hl] at e1 e2 e4;obtain⟨z,t,rfl,_,hz,e5⟩:=e4 (by omega);refine⟨z,t,s,e1,e2,e3,hz,fun c hc => ?_⟩;rw[e5 c hc];have h0:=hin c hc;unfold nxD;rw[Int.toNat_of_nonneg h0.1]
theorem Zk3 {w:World} {v1:Value} {d:DfaD} (h:Bools 0 w v1 d.ends) (hd:Zae d.next d.ends=true):∃ q o cap,v1 = .slice (some ⟨q,o,none⟩) d.ends.length cap∧d.ends.length≤cap∧cap≤9223372036854775807∧q<w.heap.size∧∀ i,i<d.next.length→w.cell? ⟨q,o+i,none⟩=some (.bool (enD d i)):=by have hl:=Zac hd;obtain⟨a,cap,rfl,h1,h2,h3⟩:=h.form;obtain⟨q,o,rfl,_,hq,hr⟩:=h3 (by omega);exact⟨q,o,cap,rfl,h1,h2,hq,fun i hi=>hr i (by omega)⟩
def lonJ (d:DfaD) (k j:Nat):Int:=if (List.range j).any (fun s=>lev d k s&&enD d s)=true then(k:Int) else lon d k
def rchJ (d:DfaD) (k j t:Nat):Bool:=(List.range j).any fun s=>lev d k s&&(List.range 3).any fun c=>nxD d s c==t
theorem Zjz {d:DfaD} {k j:Nat} (h:lev d k j=false):lonJ d k (j+1)=lonJ d k j:=by unfold lonJ;rw[List.range_succ,List.any_append];simp[h]
theorem ZkG {d:DfaD} {k j:Nat} (h:lev d k j=true):lonJ d k (j+1)=if enD d j=true then(k:Int) else lonJ d k j:=by
 unfold lonJ;rw[List.range_succ,List.any_append];simp only[List.any_cons,List.any_nil,h,Bool.true_and,Bool.or_false];cases enD d j
 ·rw[Bool.or_false,if_neg (by decide:¬ false=true)]
 rw[Bool.or_true,if_pos rfl,if_pos rfl]
theorem Zjh {d:DfaD} {k j:Nat} (h:lev d k j=false) (t:Nat):rchJ d k (j+1) t=rchJ d k j t:=by unfold rchJ;rw[List.range_succ,List.any_append];simp[h]
theorem Zjg {d:DfaD} {k j:Nat} (h:lev d k j=true) (t:Nat):rchJ d k (j+1) t=(rchJ d k j t||(List.range 3).any fun c=>nxD d j c==t):=by unfold rchJ;rw[List.range_succ,List.any_append];simp only[List.any_cons,List.any_nil,h,Bool.true_and,Bool.or_false]
theorem Zlr (d:DfaD) (j c t:Nat):(List.range (c+1)).any (fun c=>nxD d j c==t)=((List.range c).any (fun c=>nxD d j c==t)||nxD d j c==t):=by rw[List.range_succ,List.any_append];simp
theorem Zhk (d:DfaD) (v:Value) (w:World) (hd:Zae d.next d.ends=true) (h:DfaR 0 w v d) :
  Calls Try.prog 12 #[v] w fun e w'=>e = .returned (.int .i64 (Ziy d))∧Below w.heap.size w w':=by
 obtain⟨v1,v2,rfl,g1,g2⟩:=h;have hr:DfaR 0 w (.agg #[v1,v2]) d:=⟨_,_,rfl,g1,g2⟩;have hlen:=Zac hd;have hf:=Zan hd;have hN0:0<d.next.length:=hf.1;obtain⟨b1,o1,c1,rfl,hc1,hc2,hb1,hrow⟩:=ZkY g1 hd;obtain⟨b2,o2,c2,rfl,hd1,hd2,hb2,hend⟩:=Zk3 g2 hd;obtain⟨N,hN⟩:=eI (d.next.length);obtain⟨M,hM⟩:=eI (d.ends.length);have hMN:M=N:=by omega
 have hlt3:∀ j c,j<N→c<3→nxD d j c<N:=fun j c hj hc=>by rw[hN];exact(Za9 hf (by omega) hc).1
 have hlev1:∀ k t,rchJ d k N t=lev d (k+1) t:=fun k t=>by rw[hN];rfl
 have hlon1:∀ k,lonJ d k N=lon d (k+1):=fun k=>by rw[hN];rfl
 have hV:Ziy d=if (N:Int)≤lon d (2*N+1) then -1 else lon d (2*N+1):=by rw[hN];rfl
 rw[← hN] at hrow hend hc1 hN0 hr;rw[← hM] at hd1 hr;rw[← hN,← hM];have hN40:N≤40:=by omega
 subst hMN;obtain⟨k0,hk,hx0,hx1,hx2⟩:=info_parts Try.infoBl;have hmk:∀ (i:Nat) (u:World),(Instr.makeSlice 28 (.int .i64 (M:Int)) (.int .i64 (M:Int))).run Try.prog u = .ok (.slice (some ⟨u.heap.size,0,none⟩) M M) (u.alloc (.cells (rowA M (fun _ _=>false) i) 4)):=fun i u=>by have:=run_makeSlice (P:=Try.prog) (w:=u) 28 4 k0 (.bool false) Try.underlying28 hk hx0 .i64 .i64 (M:Int) (M:Int) (by omega) (Int.le_refl _) (by rw[hx1,Int.toNat_natCast];omega) (by rw[hx2];omega) (by omega);rw[this,hx1,Int.toNat_natCast,Nat.mul_one,Zio,← Zix];rfl
 have HR:=qh hr;have Hd:=qh hd;have Hmk:=qh hmk;have Hrow:=qh hrow;have Hend:=qh hend;have Hlt3:=qh hlt3;have Hlev1:=qh hlev1;have Hlon1:=qh hlon1;have HS:=qh ((St.start w).alloc _ rfl #[.slice (some ⟨b1,o1,none⟩) M c1,.slice (some ⟨b2,o2,none⟩) M c2] 30);have e0:=HS.out.cell (v:=.slice (some ⟨b1,o1,none⟩) M c1) 0 0 rfl rfl;have e1:=HS.out.cell (v:=.slice (some ⟨b2,o2,none⟩) M c2) 0 1 rfl rfl;replace hN:=qh hN;replace hM:=qh hM;have HhV:=qh hV;clear hV;clear hr g1 g2 hd hmk hrow hend hlt3 hlev1 hlon1 hf hlen hx0 hx1 hx2 hk
 go_enter Try.func12, Try.ntmps12
 go_wp2_with fail;refine(Zcb d _ _ (HR.out.below HS.out.bel) true Hd.out).mono ?_;rintro e w1 ⟨rfl,hbw⟩;have HS2:Hid (St w w1 [Ent.box w.heap.size #[.slice (some ⟨b1,o1,none⟩) M c1,.slice (some ⟨b2,o2,none⟩) M c2] 30]):=qh (HS.out.call hbw);clear hbw e0 e1 HS;have e0:=HS2.out.cell (v:=.slice (some ⟨b1,o1,none⟩) M c1) 0 0 rfl rfl;have hm1:=Hmk.out 0 w1;have hne:(w.heap.size=w1.heap.size)=False:=by have:=(HS2.out.boxlt 0 rfl).2;rw[eq_iff_iff,iff_false];omega
 have hr0:(rowA M (fun _ _=>false) 0)[0]? = some (.bool false):=Zhd _ hN0
 go_upto_region 6 with fail
 clear hr0;have hS3:=HS2.out.alloc w1.heap.size rfl ((rowA M (fun _ _=>false) 0).setIfInBounds 0 (.bool true)) 4;have e0:=hS3.cell (v:=.slice (some ⟨b1,o1,none⟩) M c1) 0 0 rfl rfl
 have hz:(rowA M (fun _ _=>false) 0).setIfInBounds 0 (.bool true)=rowA M (fun _ s=>lev d 0 s) 0:=by
  rw[ZhO _ hN0];refine Zbw fun j _ => ?_
  unfold lev;by_cases hj:j=0
  ·rw[if_pos ⟨rfl,hj⟩,decide_eq_true hj]
  rw[if_neg (fun h=>hj h.2),decide_eq_false hj]
 rw[hz] at hS3 e0 ⊢;have HS3:=qh hS3;have hb1w:IntKind.i64.wrap (2*(M:Int))=2*(M:Int):=IntWalk.i64_in _ (by omega);have hb2w:IntKind.i64.wrap (2*(M:Int)+1)=2*(M:Int)+1:=IntWalk.i64_in _ (by omega);clear hS3 hm1 HS2 hz;go_wp2_with fail;clear e0
 go_loopw [3,4,25] (fun nv lv cv wr=>∃ (k bn:Nat),cv = .int .i64 (k:Int)∧lv = .int .i64 (lon d k)∧nv = .slice (some ⟨bn,0,none⟩) M M∧k≤2*M+1∧St w wr [Ent.box w.heap.size #[.slice (some ⟨b1,o1,none⟩) M c1,.slice (some ⟨b2,o2,none⟩) M c2] 30,Ent.box bn (rowA M (fun _ s=>lev d k s) 0) 4]) (fun _ _ cv _=>2*M+1-(intOf cv).toNat)
 case atStart=>exact⟨0,w1.heap.size,rfl,rfl,rfl,by omega,HS3.out⟩
 case round =>
  obtain⟨k,bn,rfl,rfl,rfl,hk,hS⟩:=hrel;have HS4:=qh hS;clear hS HS3;by_cases hlt:k<2*M+1
  ·have hltI:(k:Int)<2*(M:Int)+1:=by omega
   have hwk:IntKind.i64.wrap ((k:Int)+1)=(k:Int)+1:=IntWalk.i64_in _ (by omega);have hkI:(k:Int)<2*(M:Int)+1:=by omega
   obtain⟨wo,hwo⟩:∃ wo:World,wo=wr:=⟨_,rfl⟩;subst hwo;have e0:=HS4.out.cell (v:=.slice (some ⟨b1,o1,none⟩) M c1) 0 0 rfl rfl;have hm1:=Hmk.out 0 wo;have HS5:=qh (HS4.out.alloc wo.heap.size rfl (rowA M (fun _ _=>false) 0) 4);go_wp2_with fail;clear e0 hm1
   go_loopw [4,34] (fun lv jv wr=>∃ j:Nat,jv = .int .i64 (j:Int)∧j≤M∧lv = .int .i64 (lonJ d k j)∧St w wr [Ent.box w.heap.size #[.slice (some ⟨b1,o1,none⟩) M c1,.slice (some ⟨b2,o2,none⟩) M c2] 30,Ent.box bn (rowA M (fun _ s=>lev d k s) 0) 4,Ent.box wo.heap.size (rowA M (fun _ t=>rchJ d k j t) 0) 4]) (fun _ jv _=>M-(intOf jv).toNat)
   case atStart=>exact⟨0,rfl,Nat.zero_le _,rfl,HS5.out⟩
   case round =>
    obtain⟨j,rfl,hj,rfl,hS⟩:=hrel;have HS6:=qh hS;clear hS HS5;by_cases hjn:j<M
    ·have hjI:(j:Int)<(M:Int):=by omega
     have hwj:IntKind.i64.wrap ((j:Int)+1)=(j:Int)+1:=IntWalk.i64_in _ (by omega);obtain⟨z,hz⟩:=eJ (lev d k j);have r0:=HS6.out.cell (v:=.bool z) 1 j rfl (by rw[Zhd _ hjn,hz]);cases z with
     | false =>
      as_aux_lemma =>
      have Hhz:=qh hz;clear hz;go_wp2_with fail;go_roundw
      case rel =>
       refine⟨j+1,by go_num,by omega,by rw[Zjz Hhz.out],?_⟩;have e:rowA M (fun _ t=>rchJ d k (j+1) t) 0=rowA M (fun _ t=>rchJ d k j t) 0:=Zbw fun t _=>Zjh Hhz.out t
       rw[e];exact HS6.out
      case measure=>simp[intOf];omega
     | true =>
      as_aux_lemma =>
      have hle:=ZkG hz;have hrc:=Zjg hz;obtain⟨y,hy⟩:=eJ (enD d j);have e1:=HS6.out.cell (v:=.slice (some ⟨b2,o2,none⟩) M c2) 0 1 rfl rfl;have r1:=(bcell HS6.out.bel b2 _ hb2).trans (Hend.out j hjn);rw[hy] at r1 hle;have hnN:(j:Int)<(M:Int):=hjI;have Hhz:=qh hz;clear hz;have Hhle:=qh hle;clear hle;have Hhrc:=qh hrc;clear hrc;have Hhy:=qh hy;clear hy
      go_upto_if 45 with fail
      go_cut [4] from 46 to 60 (fun lv wc=>lv = .int .i64 (lonJ d k (j+1))∧St w wc [Ent.box w.heap.size #[.slice (some ⟨b1,o1,none⟩) M c1,.slice (some ⟨b2,o2,none⟩) M c2] 30,Ent.box bn (rowA M (fun _ s=>lev d k s) 0) 4,Ent.box wo.heap.size (rowA M (fun _ t=>rchJ d k j t) 0) 4])
      case first =>
       cases y with
       | false =>go_wp2_with fail;go_meet;exact⟨by rw[Hhle.out];rfl,HS6.out⟩
       | true =>go_wp2_with fail;go_meet;exact⟨by rw[Hhle.out];rfl,HS6.out⟩
      case rest =>
       obtain⟨rfl,hS⟩:=hcut;have HS7:=qh hS;clear hS HS6 r0 r1 e1;obtain⟨q,t0,s0,hq,hs1,hs2,hqb,hcs⟩:=Hrow.out j hjn;have e0:=HS7.out.cell (v:=.slice (some ⟨b1,o1,none⟩) M c1) 0 0 rfl rfl;have r0:=(bcell HS7.out.bel b1 _ hb1).trans hq;have Hcs:=qh hcs;clear hcs hq;go_wp2_with fail;clear e0 r0
       go_loopw [53] (fun cv wr=>∃ c:Nat,cv = .int .i64 (c:Int)∧c≤3∧St w wr [Ent.box w.heap.size #[.slice (some ⟨b1,o1,none⟩) M c1,.slice (some ⟨b2,o2,none⟩) M c2] 30,Ent.box bn (rowA M (fun _ s=>lev d k s) 0) 4,Ent.box wo.heap.size (rowA M (fun _ t=>rchJ d k j t||(List.range c).any fun c=>nxD d j c==t) 0) 4]) (fun cv _=>3-(intOf cv).toNat)
       case atStart =>
        refine⟨0,rfl,by omega,?_⟩;have e:rowA M (fun _ t=>rchJ d k j t||(List.range 0).any fun c=>nxD d j c==t) 0=rowA M (fun _ t=>rchJ d k j t) 0:=Zbw fun t _=>Bool.or_false _
        rw[e];exact HS7.out
       case round =>
        obtain⟨c,rfl,hc,hS⟩:=hrel;have HS8:=qh hS;clear hS HS7;by_cases hc3:c<3
        ·as_aux_lemma =>
         have hcI:(c:Int)<3:=by omega
         have hwc:IntKind.i64.wrap ((c:Int)+1)=(c:Int)+1:=IntWalk.i64_in _ (by omega);have hx:=Hlt3.out j c hjn hc3;have r0:=(bcell HS8.out.bel q _ hqb).trans (Hcs.out c hc3);have hsn:=Zlr d j c;obtain⟨x,hxx⟩:=eI (nxD d j c);rw[← hxx] at hx r0;rw[← hxx] at hsn;have hxI:(x:Int)<(M:Int):=by omega
         have f0:=HS8.out.fr 2 x rfl;have hS9:=HS8.out.set 2 rfl x (.bool true);have hrs:=ZhO (fun _ t=>rchJ d k j t||(List.range c).any fun c=>nxD d j c==t) (i:=0) hx true;have HS9:=qh hS9;have k2:=HS8.out.cell 2 x rfl (Zhd _ hx);have Hhsn:=qh hsn;clear hsn;have Hhxx:=qh hxx;clear hxx;have Hhrs:=qh hrs;clear hrs;clear hS9;go_wp2_with fail;go_roundw
         case rel =>
          refine⟨c+1,by go_num,by omega,?_⟩
          have e:rowA M (fun _ t=>rchJ d k j t||(List.range (c+1)).any fun c=>nxD d j c==t) 0=rowA M (fun a b=>if a=0∧b=x then true else(rchJ d k j b||(List.range c).any fun c=>nxD d j c==b)) 0:=Zbw fun t _=>by
           rw[Hhsn.out t];by_cases hxt:t=x
           ·rw[if_pos ⟨rfl,hxt⟩,hxt];simp
           rw[if_neg (fun h=>hxt h.2),(show(x==t)=false from by rw[beq_eq_false_iff_ne];omega),Bool.or_false]
          rw[e,← Hhrs.out];exact HS9.out
         case measure=>simp[intOf];omega
        as_aux_lemma =>
        obtain rfl:c=3:=by omega
        have hc3I:¬ (((3:Nat):Int))<3:=by decide
        go_wp2_with fail;go_roundw
        case rel =>
         refine⟨j+1,by go_num,by omega,rfl,?_⟩;have e:rowA M (fun _ t=>rchJ d k (j+1) t) 0=rowA M (fun _ t=>rchJ d k j t||(List.range 3).any fun c=>nxD d j c==t) 0:=Zbw fun t _=>Hhrc.out t
         rw[e];exact HS8.out
        case measure=>simp[intOf];omega
    as_aux_lemma =>
    obtain rfl:j=M:=by omega
    have hjI:¬ (j:Int)<(j:Int):=by omega
    have h1:=Hlon1.out k;have h2:=Hlev1.out k;replace h1:=qh h1;have Hh2:=qh h2;clear h2;go_wp2_with fail;go_roundw
    case rel =>
     refine⟨k+1,wo.heap.size,by go_num,by rw[h1.out],rfl,by omega,?_⟩;have e:rowA j (fun _ s=>lev d (k+1) s) 0=rowA j (fun _ t=>rchJ d k j t) 0:=Zbw fun t _=>(Hh2.out t).symm
     rw[e];exact HS6.out.pick [0,2] (by decide)
    case measure=>simp[intOf];omega
  as_aux_lemma =>
  obtain rfl:k=2*M+1:=by omega
  have hkI:¬ (((2*M+1:Nat):Int))<2*(M:Int)+1:=by omega
  have e0:=HS4.out.cell (v:=.slice (some ⟨b1,o1,none⟩) M c1) 0 0 rfl rfl;have hv:=HhV.out;obtain⟨y,hy⟩:=eI (lon d (2*M+1));rw[← hy] at hv ⊢;have Hhy:=qh hy;clear hy;by_cases hg:(M:Int)≤y
  ·rw[if_pos hg] at hv;have Hhv:=qh hv;clear hv;go_wp2_with fail;go_ret;exact⟨ZcK Hhv.out.symm,HS4.out.bel⟩
  rw[if_neg hg] at hv;have Hhv:=qh hv;clear hv;have hg2:¬ (M:Int)≤y:=hg;go_wp2_with fail;go_ret;exact⟨ZcK Hhv.out.symm,HS4.out.bel⟩
end Go.Proofs.Ytfikabecgaappaa
