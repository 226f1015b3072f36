/-
  Plain: the words of a compiled tree are those of the expression.
  Condition: the bound of states is 40.
-/
import Derived.Test.YtehmjmjedopkkaaGreatPd26Smo
import Derived.Test.YtehmjmjedopkkaaGreatPd28Smd
import Derived.Test.YtehmjmjedopkkaaGreatPd37Nu
set_option maxHeartbeats 16000000
set_option maxRecDepth 100000
namespace Go.Proofs.YtehmjmjedopkkaaGreat
open Go.RowKit
-- ways through an automaton of any size
theorem Zmv {N:Nat} {ms:List (Int × Int × Int)} (hm:mvIn N ms) {v t:Nat} (hv:v<2 ^ N):(clV N ms v).testBit t=true↔∃ s:Nat,s<N∧v.testBit s=true∧Pth ms s [] t:=by
 constructor
 ·intro h;obtain⟨u,hu⟩:=ZlM (fun t=>∃ s:Nat,s<N∧v.testBit s=true∧Pth ms s [] t) N
  have hc:ZbI ms u:=by
   intro m hmm he hf;obtain⟨h1,s,hs,hvs,hp⟩:=(hu _).1 hf;have h2:=hm m hmm;refine(hu _).2 ⟨by omega,s,hs,hvs,?_⟩;have e1:((m.1.toNat:Nat):Int)=m.1:=by omega
   have e2:((m.2.2.toNat:Nat):Int)=m.2.2:=by omega
   rw[e1] at hp;rw[e2];refine hp.append (y:=[]) (.eps ?_ (.here _));rw[← he];exact hmm
  have hsub:subV v u:=by intro s hs;have:=ZfV hv hs;exact(hu s).2 ⟨this,s,this,hs,.here _⟩
  exact((hu t).1 (Zmt hc hsub t h)).2
 rintro⟨s,hs,hvs,hp⟩;have:=hp.closed (Zcf hm v) rfl (by rw[Int.toNat_natCast];exact Zgj N ms v s hvs)
 rwa [Int.toNat_natCast] at this
theorem Zli {N:Nat} {ms:List (Int × Int × Int)} (hm:mvIn N ms) {v t:Nat} (c:Nat):(stV N ms v (c:Int)).testBit t=true↔∃ x,x∈ms∧x.2.1=(c:Int)∧v.testBit x.1.toNat=true∧Pth ms x.2.2 [] t:=by
 have hlt:ms.foldl (Zbx v c) 0<2 ^ N:=Zcq _ (fun u=>u<2 ^ N) (fun _ _ hx hu=>Zdb hm hx hu) (Nat.two_pow_pos N);unfold stV;rw[Zmv hm hlt];constructor
 ·rintro⟨s,hs,hb,hp⟩;rw[ZbD] at hb;rcases hb with hb|⟨m,hmm,h1,h2,h3⟩
  ·simp at hb
  refine⟨m,hmm,h1,h2,?_⟩;have e:m.2.2=(s:Int):=by have:=(hm m hmm).2;omega
  rw[e];exact hp
 rintro⟨x,hx,h1,h2,hp⟩;have h4:=(hm x hx).2;refine⟨x.2.2.toNat,by omega,?_,?_⟩
 ·rw[ZbD];exact .inr ⟨x,hx,h1,h2,rfl⟩
 have e:((x.2.2.toNat:Nat):Int)=x.2.2:=by omega
 rw[e];exact hp
theorem Ziz {N:Nat} {ms:List (Int × Int × Int)} (hm:mvIn N ms):∀ (cs:List Nat) (V:Nat),V<2 ^ N→ZbI ms V→∀ t,(cs.foldl (fun v (c:Nat)=>stV N ms v (c:Int)) V).testBit t=true↔∃ s:Nat,s<N∧V.testBit s=true∧Pth ms s cs t
 | [],V,hV,hc,t=>by
  rw[List.foldl_nil];constructor
  ·intro h;exact⟨t,ZfV hV h,h,.here _⟩
  rintro⟨s,hs,h1,h2⟩;have:=h2.closed hc rfl (by rwa [Int.toNat_natCast])
  rwa [Int.toNat_natCast] at this
 | c::cs,V,hV,hc,t=>by
  rw[List.foldl_cons,Ziz hm cs _ (Zlg hm V c) (Zcf hm _)];constructor
  ·rintro⟨s,hs,h1,h2⟩;rw[Zli hm] at h1;obtain⟨x,hx,h3,h4,h5⟩:=h1;have h6:=(hm x hx).1;refine⟨x.1.toNat,by omega,h4,?_⟩;have e:((x.1.toNat:Nat):Int)=x.1:=by omega
   rw[e];refine .step (t:=x.2.2) ?_ (h5.append h2);rw[← h3];exact hx
  rintro⟨s,hs,h1,h2⟩;obtain⟨m,h3,h4,h5,h6⟩:=h2.split rfl;have h7:=(hm m h3).2;refine⟨m.2.2.toNat,by omega,?_,?_⟩
  ·rw[Zli hm];have:=h5.closed hc rfl (by rwa [Int.toNat_natCast]);refine⟨m,h3,h4,this,?_⟩;have e:((m.2.2.toNat:Nat):Int)=m.2.2:=by omega
   rw[e];exact .here _
  have e:((m.2.2.toNat:Nat):Int)=m.2.2:=by omega
  rw[e];exact h6
def accP (n:NfaD) (w:List Nat):Prop:=∃ f∈n.firsts,∃ e∈n.ends,Pth n.moves f w e
theorem Ziy {N:Nat} {n:NfaD}:∀ (w:List Nat) (v:Nat),w.foldl (nxSM N n) (((v:Nat):Int),0)=(((w.foldl (fun v (c:Nat)=>stV N n.moves v (c:Int)) v:Nat):Int),0)
 | [],_=>rfl
 | c::w,v=>by rw[List.foldl_cons,List.foldl_cons,← Ziy w];rfl
theorem Zke {N K:Nat} {n:NfaD} {D:DfaD} (hm:mvIn N n.moves) (hf:inN N n.firsts) (he:inN N n.ends) (h:detM N K n=some D) {w:List Nat} (hw:isW w):accD D w=true↔accP n w:=by
 unfold detM at h
 split at h
 ·rename_i h2;simp only[Option.some.injEq] at h;subst h;unfold metSM at h2 ⊢;rw[ZdC h2 hw,Ziy];show(n.ends.any fun s=>(w.foldl (fun v (c:Nat)=>stV N n.moves v (c:Int)) (clV N n.moves (setV n.firsts))).testBit s.toNat)=true↔_;have hlt:clV N n.moves (setV n.firsts)<2 ^ N:=ZeM hm (ZdK hf) N;have hrun:=Ziz hm w _ hlt (Zcf hm (setV n.firsts));rw[List.any_eq_true];constructor
  ·rintro⟨e,hee,hb⟩;obtain⟨s,hs,h1,h2⟩:=(hrun _).1 hb;rw[Zmv hm (ZdK hf)] at h1;obtain⟨r,hr,h3,h4⟩:=h1;rw[Zhd,List.any_eq_true] at h3;obtain⟨f,hff,h5⟩:=h3;have h5:=of_decide_eq_true h5;have h6:=hf f hff;have h7:=he e hee;refine⟨f,hff,e,hee,?_⟩;have e1:(r:Int)=f:=by omega
   have e2:((e.toNat:Nat):Int)=e:=by omega
   rw[e1] at h4;rw[e2] at h2;exact h4.append h2
  rintro⟨f,hff,e,hee,hp⟩;have h6:=hf f hff;have h7:=he e hee;refine⟨e,hee,(hrun _).2 ⟨f.toNat,by omega,?_,?_⟩⟩
  ·exact Zgj N n.moves _ _ (ZjK hff)
  have e1:((f.toNat:Nat):Int)=f:=by omega
  have e2:((e.toNat:Nat):Int)=e:=by omega
  rw[e1,e2];exact hp
 cases h
theorem Pth.starred {p:NfaD} {a:Nat} (ha:p.states=(a:Int)) (hpm:mvIn a p.moves) (hpf:inN a p.firsts) (hpe:inN a p.ends) {s t:Int} {x:List Nat} (h:Pth (Zct p).moves s x t) (ht:t=p.states) :
  (s=p.states→StarL (accP p) x)∧(s<p.states→∃ u v,x=u++v∧(∃ e∈p.ends,Pth p.moves s u e)∧StarL (accP p) v):=by
 have hmem:∀ m∈(Zct p).moves,m∈p.moves∨(∃ f∈p.firsts,m=(p.states,-1,f))∨∃ e∈p.ends,m=(e,-1,p.states):=fun m hm=>by
  simp only[Zct,List.mem_append,List.mem_map] at hm;rcases hm with(hm|⟨f,hf,rfl⟩)|⟨e,he,rfl⟩
  ·exact .inl hm
  ·exact .inr (.inl ⟨f,hf,rfl⟩)
  exact .inr (.inr ⟨e,he,rfl⟩)
 induction h with
 | here s=>exact⟨fun _ => .nil,fun h=>by omega⟩
 | @eps s' t' u w hm _ ih =>
  obtain⟨i1,i2⟩:=ih ht;rcases hmem _ hm with hm|⟨f,hf,e⟩|⟨e,he,e'⟩
  ·have h1:=hpm _ hm;simp only at h1;refine⟨fun h=>by omega,fun _ => ?_⟩;obtain⟨x,y,rfl,⟨e,he,h2⟩,h3⟩:=i2 (by omega);exact⟨x,y,rfl,⟨e,he,.eps hm h2⟩,h3⟩
  ·simp only[Prod.mk.injEq] at e;obtain⟨rfl,-,rfl⟩:=e;have h1:=hpf _ hf;refine⟨fun _ => ?_,fun h=>by omega⟩;obtain⟨x,y,rfl,⟨e,he,h2⟩,h3⟩:=i2 (by omega);exact .cons ⟨_,hf,e,he,h2⟩ h3
  simp only[Prod.mk.injEq] at e';obtain⟨rfl,-,rfl⟩:=e';have h1:=hpe _ he;exact⟨fun h=>by omega,fun _=>⟨[],w,rfl,⟨_,he,.here _⟩,i1 rfl⟩⟩
 | @step s' t' u c w hm _ ih =>
  obtain⟨i1,i2⟩:=ih ht;rcases hmem _ hm with hm|⟨f,hf,e⟩|⟨e,he,e'⟩
  ·have h1:=hpm _ hm;simp only at h1;refine⟨fun h=>by omega,fun _ => ?_⟩;obtain⟨x,y,rfl,⟨e,he,h2⟩,h3⟩:=i2 (by omega);exact⟨c::x,y,rfl,⟨e,he,.step hm h2⟩,h3⟩
  ·simp only[Prod.mk.injEq] at e;omega
  simp only[Prod.mk.injEq] at e';omega
theorem Zk9 {p:NfaD} {a:Nat} (ha:p.states=(a:Int)) (hpm:mvIn a p.moves) (hpf:inN a p.firsts) (hpe:inN a p.ends) (x:List Nat):accP (Zct p) x↔StarL (accP p) x:=by
 constructor
 ·rintro⟨f,hf,e,he,h⟩;simp only[Zct,List.mem_singleton] at hf he;subst hf he;exact(h.starred ha hpm hpf hpe rfl).1 rfl
 rintro⟨ws,rfl,hw⟩;refine⟨p.states,by simp[Zct],p.states,by simp[Zct],?_⟩
 induction ws with
 | nil=>exact .here _
 | cons u ws ih =>
  rw[List.flatten_cons];refine Pth.append ?_ (ih fun x hx=>hw x (List.mem_cons_of_mem _ hx));obtain⟨f,hf,e,he,h⟩:=hw u (by simp);have h1:Pth (Zct p).moves f u e:=h.mono fun m hm=>by simp[Zct,hm]
  have h2:Pth (Zct p).moves p.states [] f:=.eps (by simp[Zct,hf]) (.here _);have h3:Pth (Zct p).moves e [] p.states:=.eps (by simp only[Zct,List.mem_append,List.mem_map];exact .inr ⟨e,he,rfl⟩) (.here _);have h4:=(h2.append h1).append h3
  rwa [List.nil_append,List.append_nil] at h4
theorem ZlY {p q:NfaD} {a b:Nat} (ha:p.states=(a:Int)) (hpm:mvIn a p.moves) (hqm:mvIn b q.moves) (hpf:inN a p.firsts) (hpe:inN a p.ends) (hqf:inN b q.firsts) (hqe:inN b q.ends) (x:List Nat):accP (Zdk p q) x↔∃ u v,x=u++v∧accP p u∧accP q v:=by
 constructor
 ·rintro⟨f,hf,e,he,hw⟩;obtain⟨y,hy,rfl⟩:=List.mem_map.1 (show e∈q.ends.map (·+p.states) from he);have h1:=hpf f hf;have h2:=hqe y hy;obtain⟨k,hk,g,hg,z,hz,h3,h4⟩:=(hw.cross ha hpm hqm hpe hqf (by omega)).1 (by omega);rw[show y+p.states-p.states=y by omega] at h4;exact⟨x.take k,x.drop k,(List.take_append_drop k x).symm,⟨f,hf,g,hg,h3⟩,⟨z,hz,y,hy,h4⟩⟩
 rintro⟨u,v,rfl,⟨f,hf,e,he,h3⟩,⟨g,hg,d,hd,h4⟩⟩;refine⟨f,hf,d+p.states,List.mem_map.2 ⟨d,hd,rfl⟩,?_⟩;have h5:Pth (Zdk p q).moves f u e:=h3.mono fun m hm=>by simp only[Zdk,List.mem_append];exact .inl (.inl hm)
 have h6:Pth (Zdk p q).moves (g+p.states) v (d+p.states):=(h4.up p.states).mono fun m hm=>by simp only[Zdk,List.mem_append];exact .inl (.inr hm)
 have h7:Pth (Zdk p q).moves e [] (g+p.states):=.eps (by simp only[Zdk,List.mem_append,List.mem_flatMap,List.mem_map];exact .inr ⟨e,he,g+p.states,List.mem_map.2 ⟨g,hg,rfl⟩,rfl⟩) (.here _);have h8:=(h5.append h7).append h6
 rwa [List.append_nil] at h8
theorem ZcJ {d:DfaD} (hd:Zai d.next d.ends=true) {w:List Nat} (hw:isW w):accP (ZaY d) w↔accD d w=true:=by rw[← ZlK hd hw,ZnW (Zd3 hd)];rfl
theorem Zdi {d:DfaD} (hd:Zai d.next d.ends=true):inN d.next.length (ZaY d).firsts:=fun s hs=>by have hl:=Zag hd;have hs:s∈[(0:Int)]:=hs;simp only[List.mem_singleton] at hs;omega
theorem ZeD (d:DfaD):inN d.next.length (ZaY d).ends:=fun s hs=>Zgg d _ s hs
theorem Zfk {u v:List Nat} (h:isW (u++v)):isW u:=fun c hc=>h c (by simp[hc])
theorem Zec {u v:List Nat} (h:isW (u++v)):isW v:=fun c hc=>h c (by simp[hc])
theorem Zj1 {ws:List (List Nat)} (h:isW ws.flatten):∀ u∈ws,isW u:=fun u hu c hc=>h c (List.mem_flatten.2 ⟨u,hu,hc⟩)
theorem StarL.congr {L M:List Nat→Prop} (h:∀ u,isW u→(L u↔M u)) {w:List Nat} (hw:isW w):StarL L w↔StarL M w:=by
 constructor
 ·rintro⟨ws,rfl,hs⟩;exact⟨ws,rfl,fun u hu=>(h u (Zj1 hw u hu)).1 (hs u hu)⟩
 rintro⟨ws,rfl,hs⟩;exact⟨ws,rfl,fun u hu=>(h u (Zj1 hw u hu)).2 (hs u hu)⟩
theorem ZbW {d:DfaD} (hd:Zai d.next d.ends=true) {w:List Nat} (hw:isW w):accD (ZaE d) w=accD d w:=by rw[Zch (ZaB hd)];exact ZlQ (ZaB hd) hw
theorem ZjR {K:Nat} {f:Bool→Bool→Bool} {a b d:DfaD} (h:ZbX K f a b=some d) {w:List Nat} (hw:isW w):accD d w=f (accD a w) (accD b w):=by
 unfold ZbX at h
 split at h
 ·rename_i h2;simp only[Option.some.injEq] at h;subst h;unfold metP at h2 ⊢;rw[ZdC h2 hw]
  have key:∀ (w:List Nat) (p:Int × Int),w.foldl (ZcB a b) p=(runD a p.1 w,runD b p.2 w):=fun w=>by
   induction w with
   | nil=>intro p;rfl
   | cons c w ih =>intro p;rw[List.foldl_cons,ih];rfl
  rw[key];rfl
 cases h
theorem Zm5 (w:List Nat) (hw:isW w):accD ZfS w=false:=by
 have key:∀ w,isW w→runD ZfS 0 w=0:=fun w=>by
  induction w with
  | nil=>intro _;rfl
  | cons c w ih =>
   intro h;obtain⟨h1,h2⟩:=Zb8 h;rw[ZaN]
   have:dnx ZfS 0 c=0:=by
    have:c=0∨c=1∨c=2:=by omega
    rcases this with rfl|rfl|rfl<;>rfl
   rw[this];exact ih h2
 unfold accD;rw[key w hw];rfl
theorem Zom (w:List Nat) (hw:isW w):accD oneD w=true↔w=[]:=by
 have key:∀ w,isW w→runD oneD 1 w=1:=fun w=>by
  induction w with
  | nil=>intro _;rfl
  | cons c w ih =>
   intro h;obtain⟨h1,h2⟩:=Zb8 h;rw[ZaN]
   have:dnx oneD 1 c=1:=by
    have:c=0∨c=1∨c=2:=by omega
    rcases this with rfl|rfl|rfl<;>rfl
   rw[this];exact ih h2
 cases w with
 | nil=>exact⟨fun _=>rfl,fun _=>rfl⟩
 | cons c w =>
  obtain⟨h1,h2⟩:=Zb8 hw
  have e:dnx oneD 0 c=1:=by
   have:c=0∨c=1∨c=2:=by omega
   rcases this with rfl|rfl|rfl<;>rfl
  have:accD oneD (c::w)=false:=by unfold accD;rw[ZaN,e,key w h2];rfl
  rw[this];simp
theorem Zov (a:Fin 3) (w:List Nat) (hw:isW w):accD (ltrD a) w=true↔w=[a.val]:=by
 have ha:a=0∨a=1∨a=2:=by omega
 have k2:∀ w,isW w→runD (ltrD a) 2 w=2:=fun w=>by
  induction w with
  | nil=>intro _;rfl
  | cons c w ih =>
   intro h;obtain⟨h1,h2⟩:=Zb8 h;rw[ZaN]
   have:dnx (ltrD a) 2 c=2:=by
    have:c=0∨c=1∨c=2:=by omega
    rcases this with rfl|rfl|rfl<;>rcases ha with rfl|rfl|rfl<;>rfl
   rw[this];exact ih h2
 have e2:den (ltrD a) 2=false:=by rcases ha with rfl|rfl|rfl<;>rfl
 have e1:den (ltrD a) 1=true:=by rcases ha with rfl|rfl|rfl<;>rfl
 have e0:den (ltrD a) 0=false:=by rcases ha with rfl|rfl|rfl<;>rfl
 cases w with
 | nil =>have:accD (ltrD a) []=false:=e0;rw[this];simp
 | cons c w =>
  obtain⟨h1,h2⟩:=Zb8 hw
  have e:dnx (ltrD a) 0 c=if c=a.val then 1 else 2:=by
   have:c=0∨c=1∨c=2:=by omega
   rcases this with rfl|rfl|rfl<;>rcases ha with rfl|rfl|rfl<;>rfl
  have hr:accD (ltrD a) (c::w)=den (ltrD a) (runD (ltrD a) (if c=a.val then 1 else 2) w):=by unfold accD;rw[ZaN,e]
  rw[hr];by_cases hc:c=a.val
  ·rw[if_pos hc];cases w with
   | nil =>rw[hc];exact⟨fun _=>rfl,fun _=>e1⟩
   | cons b w =>
    obtain⟨h3,h4⟩:=Zb8 h2
    have e3:dnx (ltrD a) 1 b=2:=by
     have:b=0∨b=1∨b=2:=by omega
     rcases this with rfl|rfl|rfl<;>rcases ha with rfl|rfl|rfl<;>rfl
    rw[ZaN,e3,k2 w h4,e2];simp
  rw[if_neg hc,k2 w h2,e2];simp[hc]
theorem ZiH {K:Nat} (hK:K=40):∀ (t:Ex) {d:DfaD},Zau K t=some d→∀ w,isW w→(accD d w=true↔memE t w):=by
 intro t
 induction t with
 | zero =>intro d h w hw;simp only[Zau,Option.some.injEq] at h;rw[← h,ZbW Zfh hw,Zm5 w hw];simp[memE]
 | one =>intro d h w hw;simp only[Zau,Option.some.injEq] at h;rw[← h,ZbW Zhu hw,Zom w hw];rfl
 | ltr c =>intro d h w hw;simp only[Zau,Option.some.injEq] at h;rw[← h,ZbW (ZeF c) hw,Zov c w hw];rfl
 | join a b iha ihb =>
  intro d h w hw;simp only[Zau,Option.bind_eq_some_iff,Option.map_eq_some_iff] at h;obtain⟨x,hx,y,hy,z,hz,rfl⟩:=h;have hxo:=ZbV hK a hx;have hyo:=ZbV hK b hy;have hxl:=Zag hxo;have hyl:=Zag hyo;rw[ZbW (Zdq hK hz) hw];have h1:mvIn 81 (ZdI x y).moves:=ZgM (ZjA hxo hyo) (by omega);have h2:inN 81 (ZdI x y).firsts:=fun s hs=>by have:=ZeT (b:=y) hxo s hs;omega
  have h3:inN 81 (ZdI x y).ends:=fun s hs=>by have:=ZgC s hs;omega
  rw[Zke h1 h2 h3 hz hw,← Zf4,
   ZlY (a:=x.next.length) (b:=y.next.length) rfl (ZfT hxo _ (Nat.le_refl _)) (ZfT hyo _ (Nat.le_refl _)) (Zdi hxo) (ZeD x) (Zdi hyo) (ZeD y)]
  constructor
  ·rintro⟨u,v,rfl,p,q⟩;exact⟨u,v,rfl,(iha hx u (Zfk hw)).1 ((ZcJ hxo (Zfk hw)).1 p),(ihb hy v (Zec hw)).1 ((ZcJ hyo (Zec hw)).1 q)⟩
  rintro⟨u,v,rfl,p,q⟩;exact⟨u,v,rfl,(ZcJ hxo (Zfk hw)).2 ((iha hx u (Zfk hw)).2 p),(ZcJ hyo (Zec hw)).2 ((ihb hy v (Zec hw)).2 q)⟩
 | alt a b iha ihb =>intro d h w hw;simp only[Zau,Option.bind_eq_some_iff,Option.map_eq_some_iff] at h;obtain⟨x,hx,y,hy,z,hz,rfl⟩:=h;rw[ZbW (ZbO hK hz) hw,ZjR hz hw,Bool.or_eq_true,iha hx w hw,ihb hy w hw];rfl
 | both a b iha ihb =>intro d h w hw;simp only[Zau,Option.bind_eq_some_iff,Option.map_eq_some_iff] at h;obtain⟨x,hx,y,hy,z,hz,rfl⟩:=h;rw[ZbW (ZbO hK hz) hw,ZjR hz hw,Bool.and_eq_true,iha hx w hw,ihb hy w hw];rfl
 | neg a iha =>intro d h w hw;simp only[Zau,Option.map_eq_some_iff] at h;obtain⟨x,hx,rfl⟩:=h;have hxo:=ZbV hK a hx;rw[ZbW (Zhy hxo) hw,ZlL,ZoE hxo hw];show _↔¬ memE a w;rw[← iha hx w hw];cases accD x w<;>simp[xb]
 | star a iha =>
  intro d h w hw;simp only[Zau,Option.bind_eq_some_iff,Option.map_eq_some_iff] at h;obtain⟨x,hx,z,hz,rfl⟩:=h;have hxo:=ZbV hK a hx;have hxl:=Zag hxo;rw[ZbW (Zdq hK hz) hw];have h1:mvIn 81 (Zet x).moves:=ZgM (Zjz hxo) (by omega);have h2:inN 81 (Zet x).firsts:=fun s hs=>by have:=Zdv (a:=x) s hs;omega
  have h3:inN 81 (Zet x).ends:=fun s hs=>by have:=Zdv (a:=x) s hs;omega
  rw[Zke h1 h2 h3 hz hw,← Zfx,
   Zk9 (a:=x.next.length) rfl (ZfT hxo _ (Nat.le_refl _)) (Zdi hxo) (ZeD x)]
  exact StarL.congr (fun u hu=>by rw[ZcJ hxo hu,iha hx u hu]) hw
theorem Zml {K:Nat} (hK:K=40) {t u:Ex} {D E:DfaD} (hc:Zau K t=some D) {ls:List Nat} (hls:isW ls) (hu:drvW ls t=some u) (hE:Zau K u=some E) {q:Nat} (hq:runD D 0 ls=(q:Int)) (hqn:q<D.next.length):minD (Zc7 D q)=E:=by
 have hok:=ZbV hK t hc;have hE2:=ZbV hK u hE
 have e:minD (Zc7 D q)=minD E:=Zii (ZaB (Zme hok hqn)) (ZaB hE2) fun w hw=>by
  have hlw:isW (ls++w):=fun c hc=>by
   rcases List.mem_append.1 hc with h|h
   ·exact hls c h
   exact hw c h
  rw[Bool.eq_iff_iff,ZiH hK u hE w hw,Znv hok hqn hw,← hq,← Zgr,ZiH hK t hc _ hlw,Zkb ls t u hu w]
 rw[e,ZhR hK u hE]
def DerO (es:List (Int × Int)) (l:List Nat) (o:Option (List (Int × Int))):Prop:=(exOk es=true∧wdOk l=true∧∃ t:Ex,t.post=es∧o=(drvW (lets l) t).map Ex.post)∨((exOk es=false∨wdOk l=false)∧o=none)
theorem ZoV (es:List (Int × Int)) (l:List Nat):∃ o,DerO es l o:=by
 cases h:exOk es with
 | true =>
  cases h2:wdOk l with
  | true =>obtain⟨t,ht⟩:=parse h;exact⟨_,.inl ⟨h,h2,t,ht,rfl⟩⟩
  | false=>exact⟨none,.inr ⟨.inr h2,rfl⟩⟩
 | false=>exact⟨none,.inr ⟨.inl h,rfl⟩⟩
theorem Zkc:∀ (w:List Nat) (t u:Ex),t.post.length≤60→drvW w t=some u→u.post.length≤60
 | [],t,u,h60,h=>by obtain rfl:=Option.some.inj h;exact h60
 | c::w,t,u,h60,h=>by
  unfold drvW at h
  split at h
  ·rename_i h1;exact Zkc w _ u h1 h
  cases h
theorem ZnQ {es:List (Int × Int)} {l:List Nat} {o:Option (List (Int × Int))} (h:DerO es l o):(o.getD []).length≤60:=by
 rcases h with⟨h1,-,t,rfl,rfl⟩|⟨-,rfl⟩
 ·cases hd:drvW (lets l) t with
  | none=>exact Nat.zero_le _
  | some u=>exact Zkc _ _ _ (ZaH h1).2.2.2 hd
 exact Nat.zero_le _
theorem Zmk {K:Nat} (hK:K=40) {es:List (Int × Int)} {l:List Nat} {o:Option (List (Int × Int))} {o1 o2:Option DfaD} (h:DerO es l o) (h1:ZnZ K es o1) (h2:ZnZ K (o.getD []) o2) {D E:DfaD} (hs:o.isSome=true) (q1:o1=some D) (q2:o2=some E):wdOk l=true∧Zai D.next D.ends=true∧∃ q:Nat,runD D 0 (lets l)=(q:Int)∧q<D.next.length∧minD (Zc7 D q)=E:=by
 subst q1 q2;rcases h with⟨-,hwd,t,rfl,rfl⟩|⟨-,rfl⟩
 ·cases hd:drvW (lets l) t with
  | none=>rw[hd] at hs;cases hs
  | some u =>
   rw[hd] at h2;rcases h1 with⟨-,t1,ht1,hc⟩|⟨-,h⟩
   ·obtain rfl:=Zhr ht1;rcases h2 with⟨-,u1,hu1,hcu⟩|⟨-,h⟩
    ·obtain rfl:u1=u:=Zhr hu1;have hok:=ZbV hK _ hc;obtain⟨q,hq1,hq2⟩:=ZdY (ZaB hok) (lets l) (ZhA hwd) (ZaB hok).1;exact⟨hwd,hok,q,hq2,hq1,Zml hK hc (ZhA hwd) hd hcu hq2 hq1⟩
    cases h
   cases h
 cases hs
theorem ZgX (xs:List (Int × Int)) (hp:1≤xs.length) (v:Value) (w:World) (hl:xs.length≤1000000) (h:Pairs 0 w v xs) :
  Calls Tryz.prog 28 #[v] w fun e w'=>RPo xs w e w':=by
 have hx:=h;obtain⟨a,cap,rfl,hc1,hc2,hr⟩:=h.form;obtain⟨b,off,rfl,-⟩:=hr (by omega);obtain⟨i0,hi,hz0,hz1,hz2⟩:=info_parts Tryz.infoPt;have HS0:=qh (((St.start w).alloc _ rfl #[] 55).boxrow 0 0 2 [] rfl rfl (Nat.zero_le _));have HX:=qh (hx.below HS0.out.bel);have qT:=fun (w':World)=>Lib.run_eql_slice_nil (P:=Tryz.prog) w' 23 55 (some ⟨b,off,none⟩) xs.length cap 0 0 Tryz.underlying23
 simp only[Option.isNone] at qT;replace hi:=qh hi;have Hhz0:=qh hz0;clear hz0;have Hhz1:=qh hz1;clear hz1;have Hhz2:=qh hz2;clear hz2;clear hr hx h
 go_enter Tryz.func28, Tryz.ntmps28
 go_wp2_with (at_builtin;refine Zal _ rfl _ _ _ rfl _ 55 i0 (.agg #[.int .i64 0,.int .i64 0]) 2 16 Tryz.underlying23 hi.out Hhz0.out Hhz1.out Hhz2.out rfl (by omega) _ 0 _ rfl (HS0.out.row 0 rfl) _ xs.length (xs.flatMap Zaa) rfl HX.out ZbB (by unfold maxLen;omega) (by omega) HS0.out.size ?_;intro a6 c6 w6 hown6 hgrow6 hat6;have hS6:=HS0.out.appS 0 rfl hown6 hgrow6 hat6;simp only[Nat.zero_add,List.nil_append] at hS6;(try simp only[Nat.zero_add]);have HS6:=qh hS6;clear hown6 hgrow6 hat6 hS6);go_ret;exact⟨a6,c6,rfl,HS6.out⟩
def dvL (c:Nat) (t:Ex):List (Int × Int):=if (drvE c t).post.length≤60 then(drvE c t).post else []
def RPb (M:List (Int × Int)) (g:Bool) (w:World) (e:Ending) (w':World):Prop:=∃ a c,e = .returned (.tuple #[.slice a M.length c,.bool g])∧St w w' [Ent.row 55 2 (.slice a M.length c) M.length (M.flatMap Zaa)]
theorem Zhk {w w':World} {L:List Ent} (hS:St w w' L):RPb [] false w (.returned (.tuple #[.slice none 0 0,.bool false])) w' :=
 ⟨none,0,rfl,((hS.pick [] (by decide)).nilRow 55 2)⟩
theorem Zgz (t:Ex) (h60:t.post.length≤60) (lt:Nat) (hc:lt<3) (v:Value) (w:World) (h:Pairs 0 w v t.post) :
  Calls Tryz.prog 29 #[v,.int .i64 (lt:Int)] w fun e w'=>RPb (dvL lt t) (decide ((drvE lt t).post.length≤60)) w e w':=by
 have hok:=Zaq t h60;have Hh:=qh h;have hlt:inB (lt:Int) 0 2=true:=by simp[inB];omega
 have HD:=qh (fun (u:World) (hp:Pairs 0 u v t.post)=>ZnK lt t h60 v u hp);have hlen:=Zaz lt h60;have hpos:=Zap (drvE lt t);have hdv:dvL lt t=if (drvE lt t).post.length≤60 then(drvE lt t).post else []:=rfl;obtain⟨M,hM⟩:∃ l,(drvE lt t).post=l:=⟨_,rfl⟩;obtain⟨Z,hZ⟩:∃ l,dvL lt t=l:=⟨_,rfl⟩;rw[hM] at HD hlen hdv hpos;rw[hM];rw[hZ] at hdv;rw[hZ];obtain⟨g,hg⟩:=eJ (decide (M.length≤60));rw[hg];replace hok:=qh hok;replace hM:=qh hM;have HhZ:=qh hZ;clear hZ;have Hhlt:=qh hlt;clear hlt;clear h
 go_enter Tryz.func29, Tryz.ntmps29
 go_wp2_with fail;refine(ZaG t.post _ _ Hh.out true hok.out).mono ?_;rintro e w1 ⟨rfl,hb1⟩;have HB1:=qh hb1;have HP:=qh (Hh.out.below hb1);clear hb1;go_wp2_with (go_at_call 60;refine(ZcC (lt:Int) _ true Hhlt.out).mono ?_;rintro e w' ⟨rfl,rfl⟩);refine(HD.out _ HP.out).mono ?_;rintro e w2 ⟨g2,c2,F2,rfl,hS2⟩;have HS:=qh (((St.start w).call HB1.out).cat hS2);have HPr:=qh (HS.out.mkQ 0 rfl (HP.out.below hS2.bel));clear hS2;cases g
 case true =>
  have h6:M.length≤60:=of_decide_eq_true hg;rw[if_pos h6] at hdv;subst hdv;clear hg;go_wp2_with fail;refine(ZgX Z (by omega) _ _ (by omega) HPr.out).mono ?_;rintro e w3 ⟨a3,c3,rfl,hS3⟩;have HS3:=qh ((HS.out.cat hS3).pick [1] (by decide));clear hS3;go_wp2
  go_ret2
  exact⟨a3,c3,rfl,HS3.out⟩
 case false =>
  have h6:¬ M.length≤60:=of_decide_eq_false hg;rw[if_neg h6] at hdv;subst hdv;clear hg;go_wp2
  go_ret2
  exact Zhk HS.out
theorem Zgt (t:Ex) (h60:t.post.length≤60) (lt:Nat) (hc:lt<3) (v:Value) (w:World) (h:Pairs 0 w v t.post) :
  Calls Tryz.prog 33 #[v,.int .i64 (lt:Int)] w fun e w'=>RPb (dvL lt t) (decide ((drvE lt t).post.length≤60)) w e w':=by
 have hok:=Zaq t h60;have Hh:=qh h;have hlt:inB (lt:Int) 0 2=true:=by simp[inB];omega
 have HD:=qh (fun (u:World) (hp:Pairs 0 u v t.post)=>ZnI lt t h60 v u hp);have hlen:=Zaz lt h60;have hpos:=Zap (drvE lt t);have hdv:dvL lt t=if (drvE lt t).post.length≤60 then(drvE lt t).post else []:=rfl;obtain⟨M,hM⟩:∃ l,(drvE lt t).post=l:=⟨_,rfl⟩;obtain⟨Z,hZ⟩:∃ l,dvL lt t=l:=⟨_,rfl⟩;rw[hM] at HD hlen hdv hpos;rw[hM];rw[hZ] at hdv;rw[hZ];obtain⟨g,hg⟩:=eJ (decide (M.length≤60));rw[hg];replace hok:=qh hok;replace hM:=qh hM;have HhZ:=qh hZ;clear hZ;have Hhlt:=qh hlt;clear hlt;clear h
 go_enter Tryz.func33, Tryz.ntmps33
 go_wp2_with fail;refine(Zbg t.post _ _ (by omega) Hh.out true hok.out).mono ?_;rintro e w1 ⟨rfl,hb1⟩;have HB1:=qh hb1;have HP:=qh (Hh.out.below hb1);clear hb1;go_wp2_with (go_at_call 63;refine(ZbS (lt:Int) 0 2 _ true Hhlt.out).mono ?_;rintro e w' ⟨rfl,rfl⟩);refine(HD.out _ HP.out).mono ?_;rintro e w2 ⟨g2,c2,rfl,hS2⟩;have HS:=qh (((St.start w).call HB1.out).cat hS2)

 clear hS2;cases g
 case true =>
  have h6:M.length≤60:=of_decide_eq_true hg;rw[if_pos h6] at hdv;subst hdv;clear hg;go_wp2
  go_ret2
  exact⟨g2,c2,rfl,HS.out⟩
 case false =>
  have h6:¬ M.length≤60:=of_decide_eq_false hg;rw[if_neg h6] at hdv;subst hdv;clear hg;have HSn:=qh ((HS.out.newRow0 55 2).pick [1] (by decide));go_wp2
  go_ret2
  exact⟨_,_,rfl,HSn.out⟩
theorem Zef (es:List (Int × Int)) (l:List Nat) (o:Option (List (Int × Int))) (ho:DerO es l o) (v:Value) (w:World) (hel:es.length≤100) (h:Pairs 0 w v es) (ht:isT l) (hl:l.length≤100) :
  Calls Tryz.prog 7 #[v,.string (txB l)] w fun e w'=>RPb (o.getD []) o.isSome w e w':=by
 have Hh:=qh h;have Ht:=qh ht;obtain⟨r1,hok⟩:∃ r,exOk es=r:=⟨_,rfl⟩;obtain⟨r2,hwd⟩:∃ r,wdOk l=r:=⟨_,rfl⟩;obtain⟨i0,hi,hz0,hz1,hz2⟩:=info_parts Tryz.infoPt
 have hnone:r1=false∨r2=false→o=none:=fun h1=>by
  rcases ho with⟨h2,h3,-⟩|⟨-,h2⟩
  ·rw[hok] at h2;rw[hwd] at h3;rcases h1 with rfl|rfl
   ·cases h2
   cases h3
  exact h2
 replace hi:=qh hi;have Hhz0:=qh hz0;clear hz0;have Hhz1:=qh hz1;clear hz1;have Hhz2:=qh hz2;clear hz2;cases r1 with
 | false =>
  obtain rfl:=hnone (.inl rfl);have Hhok:=qh hok;clear hok;have Hhwd:=qh hwd;clear hwd;clear ho h ht hnone
  go_enter Tryz.func7, Tryz.ntmps7
  go_wp2_with fail;refine(ZaG es _ _ Hh.out false Hhok.out).mono ?_;rintro e w1 ⟨rfl,hb1⟩;have HS:=qh ((St.start w).call hb1);clear hb1;go_wp2
  go_ret2
  exact Zhk HS.out
 | true =>
  cases r2 with
  | false =>
   obtain rfl:=hnone (.inr rfl);have Hhok:=qh hok;clear hok;have Hhwd:=qh hwd;clear hwd;clear ho h ht hnone
   go_enter Tryz.func7, Tryz.ntmps7
   go_wp2_with fail;refine(ZaG es _ _ Hh.out true Hhok.out).mono ?_;rintro e w1 ⟨rfl,hb1⟩;have HS:=qh ((St.start w).call hb1);clear hb1;go_wp2_with (go_at_call 27;refine(Zbf l _ Ht.out (by omega) false Hhwd.out).mono ?_;rintro e w' ⟨rfl,rfl⟩)
   go_ret2
   exact Zhk HS.out
  | true =>
   obtain⟨t0,ht0,ho⟩:∃ t:Ex,t.post=es∧o=(drvW (lets l) t).map Ex.post:=by
    rcases ho with⟨-,-,h⟩|⟨h|h,-⟩
    ·exact h
    ·rw[hok] at h;cases h
    rw[hwd] at h;cases h
   have hl60:=(ZaH hok).2.2.2;have hl1:=(ZaH hok).2.2.1;obtain⟨hwl,hwc⟩:=ZcF hwd;obtain⟨n,hn⟩:=eJ (l.length);have hsz:=ZbL l;rw[hn] at hwl hwc hsz;have Hwc:=qh hwc;have Ho:=qh ho;have Ht0:=qh ht0;have Hhn:=qh hn;clear hn;have Hhok:=qh hok;clear hok;have Hhwd:=qh hwd;clear hwd;clear ho h ht ht0 hwc hnone
   go_enter Tryz.func7, Tryz.ntmps7
   go_wp2_with fail;refine(ZaG es _ _ Hh.out true Hhok.out).mono ?_;rintro e w1 ⟨rfl,hb1⟩;have HP:=qh (Hh.out.below hb1);have HS:=qh ((St.start w).call hb1);clear hb1;go_wp2_with (go_at_call 27;refine(Zbf l _ Ht.out (by omega) true Hhwd.out).mono ?_;rintro e w' ⟨rfl,rfl⟩);refine(ZgX es (by omega) _ _ (by omega) HP.out).mono ?_;rintro e w2 ⟨a2,c2,rfl,hS2⟩;have HS2:=qh (HS.out.cat hS2);clear hS2;go_wp2
   go_loopw [6,22] (fun vo i wr=>∃ (k:Nat) (u:Ex) (a:Option Addr) (c:Nat),i = .int .i64 (k:Int)∧vo = .slice a u.post.length c∧k≤n∧u.post.length≤60∧o=(drvW ((lets l).drop k) u).map Ex.post∧St w wr [Ent.row 55 2 (.slice a u.post.length c) u.post.length (u.post.flatMap Zaa)])
    (fun _ i _=>n-(intOf i).toNat)
   case atStart=>exact⟨0,t0,a2,c2,rfl,by rw[Ht0.out],Nat.zero_le _,by rw[Ht0.out];exact hl60,Ho.out,by rw[Ht0.out];exact HS2.out⟩
   case round =>
    obtain⟨k,u,a,c,rfl,rfl,hk,hu,hou,hS⟩:=hrel;have HSu:=qh hS;by_cases hlt:k<n
    ·obtain⟨h97,h99⟩:=Hwc.out k hlt;obtain⟨d,hd⟩:∃ d,l.getD k 0=97+d:=⟨l.getD k 0-97,by omega⟩;have hd3:d<3:=by omega
     have hdr:(lets l).drop k=d::(lets l).drop (k+1):=by
      have hll:(lets l).length=n:=by rw[← Hhn.out];simp[lets]
      rw[List.drop_eq_getElem_cons (by omega)];congr 1;have e1:l[k]'(by rw[Hhn.out];exact hlt)=97+d:=by rw[← hd,List.getD_eq_getElem?_getD,List.getElem?_eq_getElem (by rw[Hhn.out];exact hlt)];rfl
      simp[lets,e1]
     rw[hdr] at hou;have hou2:o=(if (drvE d u).post.length≤60 then drvW ((lets l).drop (k+1)) (drvE d u) else none).map Ex.post:=hou;have HD:=qh (Zgz u hu d hd3 _ wr (Zad (hS.row 0 rfl)));have hdv:dvL d u=if (drvE d u).post.length≤60 then(drvE d u).post else []:=rfl;obtain⟨g,hg⟩:=eJ (decide ((drvE d u).post.length≤60));obtain⟨Z,hZ⟩:∃ z,dvL d u=z:=⟨_,rfl⟩;rw[hg,hZ] at HD;rw[hZ] at hdv;have hlt2:(k:Int)<(n:Int):=by omega
     replace hdr:=qh hdr;have Hhou2:=qh hou2;clear hou2;replace hZ:=qh hZ;clear hS hou;have HL:=qh (ZdP l k (by rw[Hhn.out];exact hlt) Ht.out h97 wr);rw[hd,show 97+d-97=d by omega] at HL;go_wp2_with (go_at_call 30;refine HL.out.mono ?_;rintro e w' ⟨rfl,rfl⟩);refine HD.out.mono ?_;rintro e w3 ⟨a3,c3,rfl,hS3⟩;have HS3:=qh ((HSu.out.cat hS3).pick [1] (by decide));clear hS3;cases g with
     | false =>
      have h6:¬ (drvE d u).post.length≤60:=of_decide_eq_false hg;have hon:o=none:=by rw[Hhou2.out,if_neg h6];rfl
      subst hon;have HS:=HS3;clear hg h6 hdv;go_wp2
      go_ret2
      exact Zhk HS.out
     | true =>
      have h6:(drvE d u).post.length≤60:=of_decide_eq_true hg;rw[if_pos h6] at hdv;have ho2:o=(drvW ((lets l).drop (k+1)) (drvE d u)).map Ex.post:=by rw[Hhou2.out,if_pos h6]
      have Hho2:=qh ho2;clear ho2;have Hhdv:=qh hdv;clear hdv;clear hg;go_wp2;go_roundw
      case rel=>exact⟨k+1,drvE d u,a3,c3,by go_num,by rw[← Hhdv.out],by omega,h6,Hho2.out,by rw[← Hhdv.out];exact HS3.out⟩
      case measure=>simp[intOf];omega
    obtain rfl:k=n:=by omega
    have hnil:(lets l).drop k=[]:=List.drop_eq_nil_of_le (by rw[← Hhn.out];simp[lets]);rw[hnil] at hou;have hos:o=some u.post:=hou;subst hos;clear hou hS hlt;go_wp2
    go_ret2
    exact⟨a,c,rfl,HSu.out⟩
theorem ZdW (es:List (Int × Int)) (l:List Nat) (o:Option (List (Int × Int))) (ho:DerO es l o) (v:Value) (w:World) (hel:es.length≤100) (h:Pairs 0 w v es) (ht:isT l) (hl:l.length≤100) :
  Calls Tryz.prog 8 #[v,.string (txB l)] w fun e w'=>RPb (o.getD []) o.isSome w e w':=by
 have Hh:=qh h;have Ht:=qh ht;obtain⟨r1,hok⟩:∃ r,exOk es=r:=⟨_,rfl⟩;obtain⟨r2,hwd⟩:∃ r,wdOk l=r:=⟨_,rfl⟩;obtain⟨i0,hi,hz0,hz1,hz2⟩:=info_parts Tryz.infoPt
 have hnone:r1=false∨r2=false→o=none:=fun h1=>by
  rcases ho with⟨h2,h3,-⟩|⟨-,h2⟩
  ·rw[hok] at h2;rw[hwd] at h3;rcases h1 with rfl|rfl
   ·cases h2
   cases h3
  exact h2
 replace hi:=qh hi;have Hhz0:=qh hz0;clear hz0;have Hhz1:=qh hz1;clear hz1;have Hhz2:=qh hz2;clear hz2;cases r1 with
 | false =>
  obtain rfl:=hnone (.inl rfl);have Hhok:=qh hok;clear hok;have Hhwd:=qh hwd;clear hwd;clear ho h ht hnone
  go_enter Tryz.func8, Tryz.ntmps8
  go_wp2_with fail;refine(Zbg es _ _ (by omega) Hh.out false Hhok.out).mono ?_;rintro e w1 ⟨rfl,hb1⟩;have HS:=qh ((St.start w).call hb1);clear hb1;go_wp2
  go_ret2
  exact⟨_,_,rfl,(HS.out.newRow0 55 2).pick [0] (by decide)⟩
 | true =>
  cases r2 with
  | false =>
   obtain rfl:=hnone (.inr rfl);have Hhok:=qh hok;clear hok;have Hhwd:=qh hwd;clear hwd;clear ho h ht hnone
   go_enter Tryz.func8, Tryz.ntmps8
   go_wp2_with fail;refine(Zbg es _ _ (by omega) Hh.out true Hhok.out).mono ?_;rintro e w1 ⟨rfl,hb1⟩;have HS:=qh ((St.start w).call hb1);clear hb1;go_wp2_with (go_at_call 32;refine(Zba l _ Ht.out (by omega) false Hhwd.out).mono ?_;rintro e w' ⟨rfl,rfl⟩)
   go_ret2
   exact⟨_,_,rfl,(HS.out.newRow0 55 2).pick [0] (by decide)⟩
  | true =>
   obtain⟨t0,ht0,ho⟩:∃ t:Ex,t.post=es∧o=(drvW (lets l) t).map Ex.post:=by
    rcases ho with⟨-,-,h⟩|⟨h|h,-⟩
    ·exact h
    ·rw[hok] at h;cases h
    rw[hwd] at h;cases h
   have hl60:=(ZaH hok).2.2.2;have hl1:=(ZaH hok).2.2.1;obtain⟨hwl,hwc⟩:=ZcF hwd;obtain⟨n,hn⟩:=eJ (l.length);have hsz:=ZbL l;rw[hn] at hwl hwc hsz;have Hwc:=qh hwc;have Ho:=qh ho;have Ht0:=qh ht0;have Hhn:=qh hn;clear hn;have Hhok:=qh hok;clear hok;have Hhwd:=qh hwd;clear hwd;clear ho h ht ht0 hwc hnone
   go_enter Tryz.func8, Tryz.ntmps8
   go_wp2_with fail;refine(Zbg es _ _ (by omega) Hh.out true Hhok.out).mono ?_;rintro e w1 ⟨rfl,hb1⟩;have HP:=qh (Hh.out.below hb1);have HS:=qh ((St.start w).call hb1);clear hb1;obtain⟨av,cv,rfl,-⟩:=Hh.out.form;have HS0:=qh ((HS.out.alloc w1.heap.size rfl #[] 55).boxrow 0 0 2 [] rfl rfl (Nat.zero_le _));have HX:=qh (HP.out.below ((Below.refl w1.heap.size w1).alloc (Nat.le_refl _) (.cells #[] 55)));go_wp2_with (first|(go_at_call 32;refine(Zba l _ Ht.out (by omega) true Hhwd.out).mono ?_;rintro e w' ⟨rfl,rfl⟩)|(at_builtin;refine Zal _ rfl _ _ _ rfl _ 55 i0 (.agg #[.int .i64 0,.int .i64 0]) 2 16 Tryz.underlying23 hi.out Hhz0.out Hhz1.out Hhz2.out rfl (by omega) _ 0 _ rfl (HS0.out.row 0 rfl) _ es.length (es.flatMap Zaa) rfl HX.out ZbB (by unfold maxLen;omega) (by omega) HS0.out.size ?_;intro a2 c2 w2 hown6 hgrow6 hat6;have hS6:=HS0.out.appS 0 rfl hown6 hgrow6 hat6;simp only[Nat.zero_add,List.nil_append] at hS6;(try simp only[Nat.zero_add]);have HS2:=qh hS6;clear hown6 hgrow6 hat6 hS6))
   go_loopw [6,7] (fun vo i wr=>∃ (k:Nat) (u:Ex) (a:Option Addr) (c:Nat),i = .int .i64 (k:Int)∧vo = .slice a u.post.length c∧k≤n∧u.post.length≤60∧o=(drvW ((lets l).drop k) u).map Ex.post∧St w wr [Ent.row 55 2 (.slice a u.post.length c) u.post.length (u.post.flatMap Zaa)])
    (fun _ i _=>n-(intOf i).toNat)
   case atStart=>exact⟨0,t0,a2,c2,rfl,by rw[Ht0.out],Nat.zero_le _,by rw[Ht0.out];exact hl60,Ho.out,by rw[Ht0.out];exact HS2.out⟩
   case round =>
    obtain⟨k,u,a,c,rfl,rfl,hk,hu,hou,hS⟩:=hrel;have HSu:=qh hS;by_cases hlt:k<n
    ·obtain⟨h97,h99⟩:=Hwc.out k hlt;obtain⟨d,hd⟩:∃ d,l.getD k 0=97+d:=⟨l.getD k 0-97,by omega⟩;have hd3:d<3:=by omega
     have hdr:(lets l).drop k=d::(lets l).drop (k+1):=by
      have hll:(lets l).length=n:=by rw[← Hhn.out];simp[lets]
      rw[List.drop_eq_getElem_cons (by omega)];congr 1;have e1:l[k]'(by rw[Hhn.out];exact hlt)=97+d:=by rw[← hd,List.getD_eq_getElem?_getD,List.getElem?_eq_getElem (by rw[Hhn.out];exact hlt)];rfl
      simp[lets,e1]
     rw[hdr] at hou;have hou2:o=(if (drvE d u).post.length≤60 then drvW ((lets l).drop (k+1)) (drvE d u) else none).map Ex.post:=hou;have HD:=qh (Zgt u hu d hd3 _ wr (Zad (hS.row 0 rfl)));have hdv:dvL d u=if (drvE d u).post.length≤60 then(drvE d u).post else []:=rfl;obtain⟨g,hg⟩:=eJ (decide ((drvE d u).post.length≤60));obtain⟨Z,hZ⟩:∃ z,dvL d u=z:=⟨_,rfl⟩;rw[hg,hZ] at HD;rw[hZ] at hdv;have hlt2:(k:Int)<(n:Int):=by omega
     replace hdr:=qh hdr;have Hhou2:=qh hou2;clear hou2;replace hZ:=qh hZ;clear hS hou;have htx:=Zc9 (l:=l) (i:=k) (by rw[Hhn.out];exact hlt) Ht.out;rw[hd,show((97+d:Nat):Int)=97+(d:Int) by omega] at htx
     have hw8:IntKind.u8.wrap (97+(d:Int)-97)=(d:Int):=by
      obtain rfl|rfl|rfl:d=0∨d=1∨d=2:=by omega
      all_goals rfl
     have hw7:IntKind.u8.wrap (d:Int)=(d:Int):=by
      obtain rfl|rfl|rfl:d=0∨d=1∨d=2:=by omega
      all_goals rfl
     have hw9:IntKind.i64.wrap (d:Int)=(d:Int):=IntWalk.i64_in _ (by omega);go_wp2_with fail;refine HD.out.mono ?_;rintro e w3 ⟨a3,c3,rfl,hS3⟩;have HS3:=qh ((HSu.out.cat hS3).pick [1] (by decide));clear hS3;cases g with
     | false =>
      have h6:¬ (drvE d u).post.length≤60:=of_decide_eq_false hg;have hon:o=none:=by rw[Hhou2.out,if_neg h6];rfl
      subst hon;have HS:=HS3;clear hg h6 hdv;go_wp2
      go_ret2
      exact⟨_,_,rfl,(HS.out.newRow0 55 2).pick [1] (by decide)⟩
     | true =>
      have h6:(drvE d u).post.length≤60:=of_decide_eq_true hg;rw[if_pos h6] at hdv;have ho2:o=(drvW ((lets l).drop (k+1)) (drvE d u)).map Ex.post:=by rw[Hhou2.out,if_pos h6]
      have Hho2:=qh ho2;clear ho2;have Hhdv:=qh hdv;clear hdv;clear hg;go_wp2;go_roundw
      case rel=>exact⟨k+1,drvE d u,a3,c3,by go_num,by rw[← Hhdv.out],by omega,h6,Hho2.out,by rw[← Hhdv.out];exact HS3.out⟩
      case measure=>simp[intOf];omega
    obtain rfl:k=n:=by omega
    have hnil:(lets l).drop k=[]:=List.drop_eq_nil_of_le (by rw[← Hhn.out];simp[lets]);rw[hnil] at hou;have hos:o=some u.post:=hou;subst hos;clear hou hS hlt;go_wp2
    go_ret2
    exact⟨a,c,rfl,HSu.out⟩
theorem Zhf (es:List (Int × Int)) (v1 v2:Value) (w:World) (hlen:es.length≤1000) (h1:Pairs 0 w v1 es) (h2:Pairs 0 w v2 es) :
  Calls Tryz.prog 9 #[v1,v2] w fun e w'=>e = .returned (.bool true)∧Below w.heap.size w w':=by
 obtain⟨a1,c1,rfl,hc1,hc2,hr1⟩:=h1.form;obtain⟨a2,c2,rfl,hd1,hd2,hr2⟩:=h2.form;obtain⟨n,hn⟩:=eI (es.length);have Hr1:=qh hr1;have Hr2:=qh hr2;clear h1 h2 hc1 hc2 hd1 hd2 hr1 hr2
 go_enter Tryz.func9, Tryz.ntmps9
 go_wp2
 go_loopw [5] (fun vi wr=>∃ i:Nat,vi = .int .i64 (i:Int)∧i≤es.length∧Below w.heap.size w wr) (fun vi _=>es.length-(intOf vi).toNat)
 case atStart=>exact⟨0,rfl,Nat.zero_le _,Below.refl _ _⟩
 case round =>
  obtain⟨i,rfl,hi,hb⟩:=hrel;have Hb:=qh hb;clear hb;by_cases hlt:i<es.length
  ·have hi1:(i:Int)<(es.length:Int):=by omega
   have hw1:IntKind.i64.wrap ((i:Int)+1)=(i:Int)+1:=IntWalk.i64_in _ (by omega);obtain⟨b1,o1,rfl,-,hl1,g1⟩:=Hr1.out (by omega);obtain⟨b2,o2,rfl,-,hl2,g2⟩:=Hr2.out (by omega);have k1:=(bcell Hb.out b1 _ hl1).trans (g1 i hlt).1;have k2:=(bcell Hb.out b1 _ hl1).trans (g1 i hlt).2;have k3:=(bcell Hb.out b2 _ hl2).trans (g2 i hlt).1;have k4:=(bcell Hb.out b2 _ hl2).trans (g2 i hlt).2;obtain⟨p,hp⟩:=eI (es.getD i (0,0));rw[← hp] at k1 k2 k3 k4;obtain⟨x,y⟩:=p;simp only at k1 k2 k3 k4;replace hp:=qh hp;clear g1 g2;go_wp2
   go_region
   go_wp2;go_roundw
   case rel=>exact⟨i+1,by simp,by omega,Hb.out.drew⟩
   case measure=>simp[intOf];omega
  have hi1:¬ (i:Int)<(es.length:Int):=by omega
  go_wp2;go_ret;exact⟨rfl,Hb.out⟩
end Go.Proofs.YtehmjmjedopkkaaGreat
